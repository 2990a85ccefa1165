/-
  Plain mathematics for the laws of chapter 26. No program in sight.
-/
import Derived.Test.YtmmekdkllccmdaaEstMath
namespace Go.Proofs.Ytmmekdkllccmdaa
namespace Est

/-- How many samples have an upper bound below k, a lower bound above k: of those with fewer than i errors. -/
def lowS (N m k a : Nat) : Nat → Nat
  | 0 => 0
  | i + 1 => lowS N m k a i + if up N m i a (N - m) < k then hyp k (N - k) m i else 0
def highS (N m k a : Nat) : Nat → Nat
  | 0 => 0
  | i + 1 => highS N m k a i + if k < lo N m i a (N - m) (N - m) then hyp k (N - k) m i else 0

theorem lowS_le (N m k a : Nat) : ∀ i, lowS N m k a i = 0 ∨ ∃ x, x < i ∧ hyp k (N - k) m x ≠ 0 ∧ up N m x a (N - m) < k ∧ lowS N m k a i ≤ cum k (N - k) m (x + 1)
  | 0 => .inl rfl
  | i + 1 => by
    have ih := lowS_le N m k a i
    rw [lowS]
    by_cases hu : up N m i a (N - m) < k
    · rw [if_pos hu]
      by_cases h0 : hyp k (N - k) m i = 0
      · rw [h0]
        rcases ih with ih | ⟨x, h1, h2, h3, h4⟩
        · exact .inl (by omega)
        · exact .inr ⟨x, by omega, h2, h3, by omega⟩
      · right
        refine ⟨i, by omega, h0, hu, ?_⟩
        rw [cum]
        rcases ih with ih | ⟨x, h1, h2, h3, h4⟩
        · omega
        · have := cum_le k (N - k) m (x + 1) i (by omega); omega
    · rw [if_neg hu]
      rcases ih with ih | ⟨x, h1, h2, h3, h4⟩
      · exact .inl (by omega)
      · exact .inr ⟨x, by omega, h2, h3, by omega⟩
theorem highS_le (N m k a : Nat) : ∀ i, highS N m k a i = 0 ∨ ∃ x, x < i ∧ hyp k (N - k) m x ≠ 0 ∧ k < lo N m x a (N - m) (N - m) ∧ highS N m k a i + cum k (N - k) m x ≤ cum k (N - k) m i
  | 0 => .inl rfl
  | i + 1 => by
    have ih := highS_le N m k a i
    rw [highS, cum]
    by_cases hu : k < lo N m i a (N - m) (N - m)
    · rw [if_pos hu]
      rcases ih with ih | ⟨x, h1, h2, h3, h4⟩
      · by_cases h0 : hyp k (N - k) m i = 0
        · exact .inl (by omega)
        · exact .inr ⟨i, by omega, h0, hu, by omega⟩
      · exact .inr ⟨x, by omega, h2, h3, by omega⟩
    · rw [if_neg hu]
      rcases ih with ih | ⟨x, h1, h2, h3, h4⟩
      · exact .inl (by omega)
      · exact .inr ⟨x, by omega, h2, h3, by omega⟩

theorem covers_low (N m k a : Nat) (hm : m ≤ N) (hk : k ≤ N) : 1000 * lowS N m k a (m + 1) ≤ a * bin N m := by
  rcases lowS_le N m k a (m + 1) with h | ⟨x, h1, h2, h3, h4⟩
  · rw [h]; omega
  · have hx : k ≤ x + (N - m) := by
      refine Nat.le_of_not_lt fun hlt => h2 ?_
      unfold hyp
      rw [bin_gt (N - k) (m - x) (by omega)]; simp
    have := up_not N m x a (N - m) k h3 hx
    unfold upOk at this
    have := of_decide_eq_false this
    omega
theorem covers_high (N m k a : Nat) (hm : m ≤ N) (hk : k ≤ N) : 1000 * highS N m k a (m + 1) ≤ a * bin N m := by
  rcases highS_le N m k a (m + 1) with h | ⟨x, h1, h2, h3, h4⟩
  · rw [h]; omega
  · have hx : x ≤ k := by
      refine Nat.le_of_not_lt fun hlt => h2 ?_
      unfold hyp
      rw [bin_gt k x hlt]; simp
    have := lo_not N m x a (N - m) (N - m) k (Nat.le_refl _) (by omega) h3
    unfold loOk at this
    have := of_decide_eq_false this
    have hv := cum_all k (N - k) m (m + 1) (Nat.le_refl _)
    rw [show k + (N - k) = N from by omega] at hv
    omega
theorem lowS_bd (N m k a i : Nat) (hk : k ≤ N) (h2 : N ≤ 50) (hi : i ≤ m + 1) : lowS N m k a i ≤ 1125899906842624 := by
  rcases lowS_le N m k a i with h | ⟨x, h1, _, h3, h4⟩
  · omega
  · have := cum_bd N k m (x + 1) hk h2; omega
theorem highS_bd (N m k a i : Nat) (hk : k ≤ N) (h2 : N ≤ 50) : highS N m k a i ≤ 1125899906842624 := by
  rcases highS_le N m k a i with h | ⟨x, h1, _, h3, h4⟩
  · omega
  · have := cum_bd N k m i hk h2; omega

/-! Both bounds rise with what was found. -/
theorem up_of_ok (N n x a D k : Nat) (h1 : x ≤ k) (h2 : k ≤ x + D) (h : upOk N n x a k = true) : k ≤ up N n x a D := by
  refine Nat.le_of_not_lt fun hlt => ?_
  rw [up_not N n x a D k hlt h2] at h; cases h
theorem lo_of_ok (N n x a D k : Nat) (h1 : x ≤ k) (h : loOk N n x a k = true) : lo N n x a D D ≤ k := by
  refine Nat.le_of_not_lt fun hlt => ?_
  rw [lo_not N n x a D D k (Nat.le_refl _) (by omega) hlt] at h; cases h

theorem up_rises (N n x a : Nat) (hx : x + 1 ≤ n) (hn : n ≤ N) (ha : a < 1000) : up N n x a (N - n) ≤ up N n (x + 1) a (N - n) := by
  have h1 := up_le N n x a (N - n)
  have h2 := up_le N n (x + 1) a (N - n)
  have h3 := up_ok N n x a (by omega) hn ha (N - n)
  by_cases hle : up N n x a (N - n) ≤ x
  · omega
  · refine up_of_ok N n (x + 1) a (N - n) _ (by omega) (by omega) ?_
    unfold upOk at h3 ⊢
    have h3 := of_decide_eq_true h3
    have := cum_le (up N n x a (N - n)) (N - up N n x a (N - n)) n (x + 1) (x + 1 + 1) (by omega)
    exact decide_eq_true (by omega)
theorem lo_rises (N n x a : Nat) (hx : x + 1 ≤ n) (hn : n ≤ N) (ha : a < 1000) : lo N n x a (N - n) (N - n) ≤ lo N n (x + 1) a (N - n) (N - n) := by
  have h1 := lo_le N n x a (N - n) (N - n) (Nat.le_refl _)
  have h2 := lo_le N n (x + 1) a (N - n) (N - n) (Nat.le_refl _)
  have h3 := lo_ok N n (x + 1) a hx hn ha (N - n)
  refine lo_of_ok N n x a (N - n) _ (by omega) ?_
  unfold loOk at h3 ⊢
  have h3 := of_decide_eq_true h3
  have := cum_le (lo N n (x + 1) a (N - n) (N - n)) (N - lo N n (x + 1) a (N - n) (N - n)) n x (x + 1) (by omega)
  exact decide_eq_true (by omega)
theorem up_closer (N n x a b : Nat) (hx : x ≤ n) (hn : n ≤ N) (hb : b < 1000) (hab : a ≤ b) : up N n x b (N - n) ≤ up N n x a (N - n) := by
  have h1 := up_le N n x b (N - n)
  have h3 := up_ok N n x b (by omega) hn hb (N - n)
  refine up_of_ok N n x a (N - n) _ (by omega) (by omega) ?_
  unfold upOk at h3 ⊢
  have h3 := of_decide_eq_true h3
  have := Nat.mul_le_mul_right (bin N n) hab
  exact decide_eq_true (by omega)
theorem lo_closer (N n x a b : Nat) (hx : x ≤ n) (hn : n ≤ N) (hb : b < 1000) (hab : a ≤ b) : lo N n x a (N - n) (N - n) ≤ lo N n x b (N - n) (N - n) := by
  have h1 := lo_le N n x b (N - n) (N - n) (Nat.le_refl _)
  have h3 := lo_ok N n x b hx hn hb (N - n)
  refine lo_of_ok N n x a (N - n) _ (by omega) ?_
  unfold loOk at h3 ⊢
  have h3 := of_decide_eq_true h3
  have := Nat.mul_le_mul_right (bin N n) hab
  exact decide_eq_true (by omega)
/-- Where alpha is at most half, the lower bound is at most the upper one. -/
theorem lo_le_up (N n x a : Nat) (hx : x ≤ n) (hn : n ≤ N) (ha : 2 * a < 1000) : lo N n x a (N - n) (N - n) ≤ up N n x a (N - n) := by
  have h1 := up_le N n x a (N - n)
  have h2 := lo_le N n x a (N - n) (N - n) (Nat.le_refl _)
  refine Nat.le_of_not_lt fun hlt => ?_
  have h3 := up_not N n x a (N - n) (up N n x a (N - n) + 1) (by omega) (by omega)
  have h4 := lo_not N n x a (N - n) (N - n) (up N n x a (N - n)) (Nat.le_refl _) (by omega) hlt
  unfold upOk at h3
  unfold loOk at h4
  have h3 := of_decide_eq_false h3
  have h4 := of_decide_eq_false h4
  generalize hu : up N n x a (N - n) = u at *
  have hc := cum_couple u (N - (u + 1)) n x
  rw [show N - (u + 1) + 1 = N - u from by omega] at hc
  have hb := bin_pos N n hn
  have hle := cum_bound u (N - u) n x
  rw [show u + (N - u) = N from by omega] at hle
  have h5 : 2 * (a * bin N n) = (2 * a) * bin N n := (Nat.mul_assoc _ _ _).symm
  have h6 : (2 * a) * bin N n < 1000 * bin N n := Nat.mul_lt_mul_of_pos_right ha hb
  omega

/-- Down from an edge: what is not beyond it. -/
theorem up_edge (N n x a : Nat) (hn : n ≤ N) (h : up N n x a (N - n) < x + (N - n)) : upOk N n x a (up N n x a (N - n) + 1) = false :=
  up_not N n x a (N - n) _ (by omega) (by omega)
theorem lo_edge (N n x a : Nat) (h : lo N n x a (N - n) (N - n) ≠ x) : loOk N n x a (lo N n x a (N - n) (N - n) - 1) = false := by
  have h2 := lo_le N n x a (N - n) (N - n) (Nat.le_refl _)
  exact lo_not N n x a (N - n) (N - n) _ (Nat.le_refl _) (by omega) (by omega)

/-! The values, for natural numbers. -/
theorem upV_nat (N n x a : Nat) (h1 : 1 ≤ N) (h2 : N ≤ 50) (h3 : 1 ≤ n) (h4 : n ≤ N) (hx : x ≤ n) (ha : 1 ≤ a) (ha2 : a < 1000) : upV N n x a = up N n x a (N - n) ∧ err N n x a = 0 := by
  have hr : rgt N n x a = true := (rgt_iff _ _ _ _).2 (by omega)
  unfold upV err
  rw [if_pos hr, if_pos hr]; simp
theorem loV_nat (N n x a : Nat) (h1 : 1 ≤ N) (h2 : N ≤ 50) (h3 : 1 ≤ n) (h4 : n ≤ N) (hx : x ≤ n) (ha : 1 ≤ a) (ha2 : a < 1000) : loV N n x a = lo N n x a (N - n) (N - n) := by
  have hr : rgt N n x a = true := (rgt_iff _ _ _ _).2 (by omega)
  unfold loV
  rw [if_pos hr]; simp
end Est
end Go.Proofs.Ytmmekdkllccmdaa
