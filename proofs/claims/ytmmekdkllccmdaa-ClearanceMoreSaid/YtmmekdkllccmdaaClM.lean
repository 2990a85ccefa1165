import Derived.Test.YtmmekdkllccmdaaClH
import Derived.Test.YtmmekdkllccmdaaClK
/-
  Chapter 41: what ClearanceMore computes: one finding more.
-/
namespace Go.Proofs.Ytmmekdkllccmdaa
namespace Eng
namespace Clr
theorem sd_more (l : List Int) (m : Int) : ∃ xs ys, sd l = xs ++ ys ∧ sd (l ++ [m]) = xs ++ m :: ys := Go.Proofs.Ytmmekdkllccmdaa.Clr.dsc_more l m
theorem leftS_app (xs ys : List Int) (a : Int) : leftS (xs ++ ys) a = leftS ys (leftS xs a) := by
  unfold leftS
  rw [List.foldl_append]
theorem step_mono {a b m : Int} (ha : 0 ≤ a) (h : a ≤ b) (hm : 0 ≤ m) (hm2 : m ≤ 1000) : stepL a m ≤ stepL b m := by
  obtain ⟨x, rfl⟩ := Int.eq_ofNat_of_zero_le ha
  obtain ⟨y, rfl⟩ := Int.eq_ofNat_of_zero_le (a := b) (by omega)
  obtain ⟨k, rfl⟩ := Int.eq_ofNat_of_zero_le hm
  have h' : x ≤ y := by omega
  have hk : k ≤ 1000 := by omega
  unfold stepL partI
  simp only [Int.toNat_natCast]
  have h1 : y * k = x * k + (y - x) * k := by rw [← Nat.add_mul]; congr 1; omega
  have h2 : (y - x) * k ≤ (y - x) * 1000 := Nat.mul_le_mul_left _ hk
  omega
theorem left_mono : ∀ (ms : List Int) {a b : Int}, 0 ≤ a → a ≤ b → b ≤ 68719476736 → (∀ m ∈ ms, 0 ≤ m ∧ m ≤ 1000) → leftS ms a ≤ leftS ms b
  | [], _, _, _, h, _, _ => h
  | m :: r, a, b, h1, h2, h3, h => by
    have hm := h m (by simp)
    obtain ⟨_, q2, q3⟩ := step_bd h1 (by omega) hm.1 hm.2
    obtain ⟨_, q5, q6⟩ := step_bd (a := b) (by omega) h3 hm.1 hm.2
    exact left_mono r q2 (step_mono h1 h2 hm.1 hm.2) (by omega) (fun x hx => h x (by simp [hx]))
theorem left_more (xs ys : List Int) (m : Int) {a : Int} (ha : 0 ≤ a) (ha2 : a ≤ 68719476736) (h : ∀ x ∈ xs ++ m :: ys, 0 ≤ x ∧ x ≤ 1000) : leftS (xs ++ m :: ys) a ≤ leftS (xs ++ ys) a := by
  rw [leftS_app, leftS_app]
  have hm := h m (by simp)
  obtain ⟨b1, b2⟩ := left_bd xs ha ha2 (fun x hx => h x (by simp [hx]))
  obtain ⟨_, q2, q3⟩ := step_bd b1 (by omega) hm.1 hm.2
  exact left_mono ys q2 q3 (by omega) (fun x hx => h x (by simp [hx]))
theorem cor_more (l : List api_Finding) (f : api_Finding) (x : api_Spent) (hl : ∀ y ∈ l ++ [f], FdOK y) (hx : SpOK x) : corOf l x ≤ corOf (l ++ [f]) x ∧ (conB f x = false → corOf (l ++ [f]) x = corOf l x) := by
  unfold corOf
  rw [List.filter_append]
  by_cases hc : conB f x = true
  · have e : [f].filter (fun f => conB f x) = [f] := by simp [hc]
    rw [e, List.map_append]
    refine ⟨?_, fun h => by rw [h] at hc; cases hc⟩
    show _ ≤ x.Amount - leftS (sd ((l.filter (fun f => conB f x)).map (·.Mille) ++ [f.Mille])) x.Amount
    obtain ⟨xs, ys, h1, h2⟩ := sd_more ((l.filter (fun f => conB f x)).map (·.Mille)) f.Mille
    rw [h1, h2]
    unfold SpOK at hx
    have := left_more xs ys f.Mille (a := x.Amount) (by omega) (by omega) (fun z hz => by
      rw [← h2] at hz
      have hz := (sd_perm _).mem_iff.1 hz
      rw [List.mem_append, List.mem_singleton] at hz
      rcases hz with hz | hz
      · obtain ⟨y, hy, rfl⟩ := List.mem_map.1 hz
        have := hl y (by rw [List.mem_append]; exact .inl (List.mem_filter.1 hy).1)
        unfold FdOK at this
        omega
      · have := hl f (by simp)
        unfold FdOK at this
        omega)
    omega
  · have hc' : conB f x = false := by simpa using hc
    have e : [f].filter (fun f => conB f x) = [] := by simp [hc']
    rw [e, List.append_nil]
    exact ⟨Int.le_refl _, fun _ => rfl⟩
theorem more_loop (z1 : List api_Finding) (z2 : List api_Spent) (z3 z4 z5 z6 : Int) (hw : w64 (z3 + z5) = z3 + z5) (h0 : chkC z1 z2 = 0) (h1 : chkC (z1 ++ ([(⟨100, z4, z3, w64 (z3 + z5), z6⟩ : api_Finding)] : List api_Finding)) z2 = 0) : ∀ (q pre : List api_Spent), z2 = pre ++ q → forLI (more_l1b (fun r => r = true) z1 z2 z3 z4 z5 z6) (more_l1e (fun r => r = true)) pre.length q ()
  | [], _, _ => rfl
  | x :: q, pre, he => by
    have hx : x ∈ z2 := by rw [he]; simp
    obtain ⟨_, _, hf, hs⟩ := chkC_ok h1
    have hsp := badS_ok z2 none hs x hx
    have hfd := badF_ok _ none hf
    have ih := more_loop z1 z2 z3 z4 z5 z6 hw h0 h1 q (pre ++ [x]) (by rw [he]; simp)
    rw [List.length_append] at ih
    obtain ⟨R, hR⟩ : ∃ R, R = forLI (more_l1b (fun r => r = true) z1 z2 z3 z4 z5 z6) (more_l1e (fun r => r = true)) (pre.length + 1) q := ⟨_, rfl⟩
    show more_l1b (fun r => r = true) z1 z2 z3 z4 z5 z6 (forLI (more_l1b (fun r => r = true) z1 z2 z3 z4 z5 z6) (more_l1e (fun r => r = true)) (pre.length + 1) q) pre.length x ()
    have ih : R () := by rw [hR]; exact ih
    rw [← hR]
    obtain ⟨f, hfe⟩ : ∃ f : api_Finding, f = ⟨100, z4, z3, w64 (z3 + z5), z6⟩ := ⟨_, rfl⟩
    unfold more_l1b
    have hcon : ((decide (z3 ≤ x.Year) && decide (x.Year ≤ w64 (z3 + z5))) && decide ((andK .i64 (shrK .i64 z4 x.Scheme) 1) = 1)) = conB f x := by
      rw [hfe]
      rfl
    rw [hcon]
    rw [← hfe] at h1 hfd ⊢
    obtain ⟨hm1, hm2⟩ := cor_more z1 f x hfd hsp
    have e1 : ∀ l, ix (z2.map (corOf l)) (pre.length : Int) = corOf l x := fun l => by
      unfold ix
      have e2 : ((pre.length : Int)).toNat = pre.length := by omega
      rw [e2, he]
      simp
    have hi : ∀ l, inb (z2.map (corOf l)) (pre.length : Int) := fun l => by
      refine inb_nat ?_
      rw [List.length_map, he]; simp
    rw [cor_len _ _ h0, cor_len _ _ h1, e1, e1]
    unfold SpOK at hsp
    refine ⟨fun _ => by omega, hi _, hi _, ?_⟩
    rintro b2 rfl b3 rfl
    have hno : (decide (corOf (z1 ++ [f]) x < corOf z1 x) || ((!conB f x) && (!decide (corOf z1 x = corOf (z1 ++ [f]) x)))) = false := by
      have k1 : decide (corOf (z1 ++ [f]) x < corOf z1 x) = false := decide_eq_false (by omega)
      rw [k1]
      cases hb : conB f x with
      | true => rfl
      | false => simp [hm2 hb]
    rw [hno, if_neg (by simp)]
    exact ih
theorem more_s : more_W (fun r => r = true) := by
  unfold more_W
  intro z1 g1 z2 g2 z3 a1 a2 z4 b1 b2 z5 c1 c2 z6 d1 d2
  have h3 := g1.len
  have hw : w64 (z3 + z5) = z3 + z5 := w64_eq (by omega) (by omega)
  have h0 := good_zero g1 g2
  have hf : badF none (z1 ++ ([(⟨100, z4, z3, w64 (z3 + z5), z6⟩ : api_Finding)] : List api_Finding)) = false := by
    have hb := (badF_iff z1 none).1 g1.ok
    refine (badF_iff _ none).2 ⟨fun x hx => ?_, fun x _ y hy => (by cases hy), ?_⟩
    · rcases List.mem_append.1 hx with hx | hx
      · exact hb.1 x hx
      · simp only [List.mem_singleton] at hx
        subst hx
        rw [hw]
        unfold c_right_E
        simp
        omega
    · rw [List.pairwise_append]
      refine ⟨hb.2.2, by simp, fun x hx y hy => ?_⟩
      simp only [List.mem_singleton] at hy
      subst hy
      have := g1.num x hx
      show x.Number < 100
      omega
  have h1 : chkC (z1 ++ ([(⟨100, z4, z3, w64 (z3 + z5), z6⟩ : api_Finding)] : List api_Finding)) z2 = 0 := chkC_zero (by rw [List.length_append]; show z1.length + 1 ≤ 20; omega) (by have := g2.len; omega) hf g2.ok
  refine ⟨by show apOK 40 0 z1.length; unfold apOK; omega, by unfold apOK; omega, ?_⟩
  rintro b1 rfl
  rw [if_neg (by rw [h0, h1, cor_len _ _ h0, cor_len _ _ h1]; simp)]
  exact more_loop z1 z2 z3 z4 z5 z6 hw h0 h1 z2 [] rfl
end Clr
end Eng
end Go.Proofs.Ytmmekdkllccmdaa
