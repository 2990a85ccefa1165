/-
  Plain mathematics for chapter 30: working days, and what is left of an amount. No program in sight.
-/
namespace Go.Proofs.Ytmmekdkllccmdaa
namespace Lat

def bef (d : Int) : Int := d / 7 * 5 + min (d % 7) 5
def isDay (n : Int) : Bool := decide (0 ≤ n) && decide (n ≤ 36864)
def wrk (n : Int) : Bool := isDay n && decide (n % 7 < 5)
def dys (a b : Int) : Int := if 0 ≤ a ∧ a ≤ 36864 ∧ 0 ≤ b ∧ b ≤ 36864 ∧ a < b then bef (b + 1) - bef (a + 1) else 0
def chk (due last mille : Int) : Int := if 0 ≤ due ∧ due ≤ last ∧ last ≤ 36864 ∧ 0 ≤ mille ∧ mille ≤ 1000 then 0 else 66
/-- What is left per thousand. -/
def left (due mille at_ : Int) : Int := max 0 (1000 - mille * dys due at_)
def payE (due last mille at_ amount : Int) : Int :=
  if chk due last mille = 0 then (if 0 ≤ at_ ∧ at_ ≤ 36864 then (if 0 ≤ amount ∧ amount ≤ 68719476736 then 0 else 67) else 9) else 66
def payV (due last mille at_ amount : Int) : Int :=
  if payE due last mille at_ amount = 0 then (if at_ ≤ due then amount else if last < at_ then 0 else amount * left due mille at_ / 1000) else 0

theorem isDay_iff (n : Int) : isDay n = true ↔ 0 ≤ n ∧ n ≤ 36864 := by simp [isDay]
theorem isDay_not (n : Int) : isDay n = false ↔ ¬ (0 ≤ n ∧ n ≤ 36864) := by rw [← isDay_iff]; simp
theorem chk_ok (due last mille : Int) : chk due last mille = 0 ↔ 0 ≤ due ∧ due ≤ last ∧ last ≤ 36864 ∧ 0 ≤ mille ∧ mille ≤ 1000 := by
  unfold chk; split
  · simp; assumption
  · simp; omega
theorem chk_no (due last mille : Int) (h : chk due last mille ≠ 0) : chk due last mille = 66 := by
  unfold chk at *; split
  · rename_i h'; rw [if_pos h'] at h; exact absurd rfl h
  · rfl
theorem bef_step (d : Int) (h : 0 ≤ d) : bef (d + 1) = bef d + if d % 7 < 5 then 1 else 0 := by
  unfold bef; split <;> omega
theorem bef_bd (d : Int) (h : 0 ≤ d) : 0 ≤ bef d ∧ bef d ≤ d := by unfold bef; omega
theorem bef_mono (a b : Int) (h : 0 ≤ a) (h2 : a ≤ b) : bef a ≤ bef b ∧ bef b - bef a ≤ b - a := by unfold bef; omega
theorem dys_bd (a b : Int) : 0 ≤ dys a b ∧ dys a b ≤ 36864 := by
  unfold dys; split
  · rename_i h
    have := bef_mono (a + 1) (b + 1) (by omega) (by omega)
    omega
  · omega
theorem left_bd (due mille at_ : Int) (h : 0 ≤ mille) : 0 ≤ left due mille at_ ∧ left due mille at_ ≤ 1000 := by
  have h1 := dys_bd due at_
  have : 0 ≤ mille * dys due at_ := Int.mul_nonneg h h1.1
  unfold left; omega
theorem mul_bd (due mille at_ : Int) (h : 0 ≤ mille) (h2 : mille ≤ 1000) : 0 ≤ mille * dys due at_ ∧ mille * dys due at_ ≤ 36864000 := by
  have h1 := dys_bd due at_
  refine ⟨Int.mul_nonneg h h1.1, ?_⟩
  have := Int.mul_le_mul h2 h1.2 h1.1 (by omega)
  omega
theorem payV_bd (due last mille at_ amount : Int) : payE due last mille at_ amount = 0 → 0 ≤ payV due last mille at_ amount ∧ payV due last mille at_ amount ≤ amount := by
  intro h0
  have hE := h0
  unfold payV
  rw [if_pos h0]
  unfold payE at h0
  split at h0
  · rename_i hc
    split at h0
    · split at h0
      · rename_i ha
        split
        · omega
        · split
          · omega
          · have hc := (chk_ok _ _ _).1 hc
            have hl := left_bd due mille at_ (by omega)
            have h1 : 0 ≤ amount * left due mille at_ := Int.mul_nonneg ha.1 hl.1
            have h2 : amount * left due mille at_ ≤ amount * 1000 := Int.mul_le_mul_of_nonneg_left hl.2 ha.1
            constructor
            · exact Int.ediv_nonneg h1 (by omega)
            · omega
      · omega
    · omega
  · omega
theorem payE_ok (due last mille at_ amount : Int) : payE due last mille at_ amount = 0 ↔ (0 ≤ due ∧ due ≤ last ∧ last ≤ 36864 ∧ 0 ≤ mille ∧ mille ≤ 1000) ∧ (0 ≤ at_ ∧ at_ ≤ 36864) ∧ 0 ≤ amount ∧ amount ≤ 68719476736 := by
  rw [← chk_ok]
  unfold payE
  split
  · split
    · split
      · simp [*]
      · simp [*]
    · simp [*]
  · simp [*]
theorem payV_err (due last mille at_ amount : Int) (h : payE due last mille at_ amount ≠ 0) : payV due last mille at_ amount = 0 := by
  unfold payV; rw [if_neg h]
theorem dys_mono (due a b : Int) (h : a ≤ b) (hb : b ≤ 36864) : dys due a ≤ dys due b := by
  unfold dys
  split
  · rename_i h1
    rw [if_pos (by omega)]
    have := bef_mono (a + 1) (b + 1) (by omega) (by omega)
    omega
  · split
    · rename_i h1 h2
      have := bef_mono (due + 1) (b + 1) (by omega) (by omega)
      omega
    · omega
theorem left_anti (due mille a b : Int) (hm : 0 ≤ mille) (h : a ≤ b) (hb : b ≤ 36864) : left due mille b ≤ left due mille a := by
  have := Int.mul_le_mul_of_nonneg_left (dys_mono due a b h hb) hm
  unfold left; omega
/-- What is paid does not grow. -/
theorem payV_anti (due last mille a b amount : Int) (ha : payE due last mille a amount = 0) (hb : payE due last mille b amount = 0) (h : a ≤ b) :
    payV due last mille b amount ≤ payV due last mille a amount := by
  have ka := (payE_ok _ _ _ _ _).1 ha
  have kb := (payE_ok _ _ _ _ _).1 hb
  have b1 := payV_bd _ _ _ _ _ ha
  have b2 := payV_bd _ _ _ _ _ hb
  by_cases h1 : a ≤ due
  · have : payV due last mille a amount = amount := by unfold payV; rw [if_pos ha, if_pos h1]
    omega
  · by_cases h2 : last < b
    · have : payV due last mille b amount = 0 := by unfold payV; rw [if_pos hb, if_neg (by omega), if_pos h2]
      omega
    · unfold payV
      rw [if_pos ha, if_pos hb, if_neg (by omega), if_neg (by omega), if_neg (by omega), if_neg (by omega)]
      have hl := left_anti due mille a b (by omega) h (by omega)
      have := Int.mul_le_mul_of_nonneg_left hl (show 0 ≤ amount by omega)
      omega
theorem payV_due (due last mille a amount : Int) (ha : payE due last mille a amount = 0) (h : a ≤ due) : payV due last mille a amount = amount := by
  unfold payV; rw [if_pos ha, if_pos h]
theorem payV_last (due last mille a amount : Int) (ha : payE due last mille a amount = 0) (h0 : due ≤ last) (h : last < a) : payV due last mille a amount = 0 := by
  unfold payV; rw [if_pos ha, if_neg (by omega), if_pos h]
theorem payV_mid (due last mille a amount : Int) (ha : payE due last mille a amount = 0) (h0 : due < a) (h : a ≤ last) : payV due last mille a amount = amount * left due mille a / 1000 := by
  unfold payV; rw [if_pos ha, if_neg (by omega), if_neg (by omega)]
/-- A weekend takes nothing more away than the Friday before. -/
theorem dys_weekend (due f j : Int) (hf : f % 7 = 4) (hf0 : 0 ≤ f) (hj : 1 ≤ j ∧ j ≤ 2) (hd : 0 ≤ due ∧ due < f + j) (hm : f + j ≤ 36864) : dys due (f + j) = dys due f := by
  unfold dys
  rw [if_pos (by omega)]
  split
  · unfold bef; omega
  · unfold bef; omega
theorem payV_weekend (due last mille f j amount : Int) (hf : f % 7 = 4) (hf0 : 0 ≤ f) (hj : 1 ≤ j ∧ j ≤ 2) (ha : payE due last mille f amount = 0) (hb : payE due last mille (f + j) amount = 0) (h : f + 2 ≤ last) :
    payV due last mille f amount = payV due last mille (f + j) amount := by
  have ka := (payE_ok _ _ _ _ _).1 ha
  by_cases h1 : f + j ≤ due
  · rw [payV_due _ _ _ _ _ ha (by omega), payV_due _ _ _ _ _ hb h1]
  · have hw := dys_weekend due f j hf hf0 hj (by omega) (by omega)
    rw [payV_mid _ _ _ _ _ hb (by omega) (by omega)]
    by_cases h2 : f ≤ due
    · rw [payV_due _ _ _ _ _ ha h2]
      have hz : dys due f = 0 := by unfold dys; rw [if_neg (by omega)]
      have hl : left due mille (f + j) = 1000 := by unfold left; rw [hw, hz, Int.mul_zero]; rfl
      rw [hl]; omega
    · rw [payV_mid _ _ _ _ _ ha (by omega) (by omega)]
      unfold left; rw [hw]
theorem dys_week (a k : Int) (h : 0 ≤ a) (h2 : a ≤ 1000) (hk : 1 ≤ k ∧ k ≤ 6) : 5 ≤ dys a (a + 7 * k) ∧ dys a (a + 7) = 5 ∧ dys a a = 0 := by
  refine ⟨?_, ?_, ?_⟩
  · unfold dys; rw [if_pos (by omega)]; unfold bef; omega
  · unfold dys; rw [if_pos (by omega)]; unfold bef; omega
  · unfold dys; rw [if_neg (by omega)]
theorem payV_soft (due last a amount : Int) (ha : payE due last 0 a amount = 0) : payV due last 0 a amount = if last < a then 0 else amount := by
  have ka := (payE_ok _ _ _ _ _).1 ha
  by_cases h1 : a ≤ due
  · rw [payV_due _ _ _ _ _ ha h1, if_neg (by omega)]
  · by_cases h2 : last < a
    · rw [payV_last _ _ _ _ _ ha (by omega) h2, if_pos h2]
    · rw [payV_mid _ _ _ _ _ ha (by omega) (by omega), if_neg h2]
      unfold left
      rw [Int.zero_mul, show max 0 (1000 - (0 : Int)) = 1000 from rfl]; omega
theorem payV_hard (due last a amount : Int) (ha : payE due last 1000 a amount = 0) : payV due last 1000 a amount = if last < a then 0 else if 0 < dys due a then 0 else amount := by
  have ka := (payE_ok _ _ _ _ _).1 ha
  by_cases h1 : a ≤ due
  · rw [payV_due _ _ _ _ _ ha h1, if_neg (by omega), if_neg (by unfold dys; rw [if_neg (by omega)]; omega)]
  · by_cases h2 : last < a
    · rw [payV_last _ _ _ _ _ ha (by omega) h2, if_pos h2]
    · rw [payV_mid _ _ _ _ _ ha (by omega) (by omega), if_neg h2]
      have hd := dys_bd due a
      unfold left
      split
      · rw [show max 0 (1000 - 1000 * dys due a) = 0 by omega]; simp
      · rw [show max 0 (1000 - 1000 * dys due a) = 1000 by omega]; omega
end Lat
end Go.Proofs.Ytmmekdkllccmdaa
