/-
  Plain mathematics for chapter 26: binomial numbers, Vandermonde's sum, the bounds. No program in sight.
-/
namespace Go.Proofs.Ytmmekdkllccmdaa
namespace Est

def bin : Nat → Nat → Nat
  | _, 0 => 1
  | 0, _ + 1 => 0
  | n + 1, k + 1 => bin n k + bin n (k + 1)

theorem bin_zero (n : Nat) : bin n 0 = 1 := by cases n <;> rfl
theorem bin_gt : ∀ n k, n < k → bin n k = 0
  | 0, k + 1, _ => rfl
  | n + 1, k + 1, h => by rw [bin, bin_gt n k (by omega), bin_gt n (k + 1) (by omega)]
theorem bin_self : ∀ n, bin n n = 1
  | 0 => rfl
  | n + 1 => by rw [bin, bin_self n, bin_gt n (n + 1) (by omega)]
theorem bin_pos : ∀ n k, k ≤ n → 1 ≤ bin n k
  | n, 0, _ => by rw [bin_zero]; omega
  | n + 1, k + 1, h => by rw [bin]; have := bin_pos n k (by omega); omega
theorem bin_step : ∀ n k, bin n (k + 1) * (k + 1) = bin n k * (n - k)
  | 0, 0 => rfl
  | 0, k + 1 => by simp [bin]
  | n + 1, 0 => by
    have h := bin_step n 0
    simp only [bin, bin_zero] at h ⊢
    omega
  | n + 1, k + 1 => by
    have h1 := bin_step n k
    have h2 := bin_step n (k + 1)
    rw [bin, bin]
    by_cases hk : k < n
    · have e1 : n + 1 - (k + 1) = (n - (k + 1)) + 1 := by omega
      have e2 : n - k = (n - (k + 1)) + 1 := by omega
      rw [e1]
      rw [e2] at h1
      generalize n - (k + 1) = d at *
      generalize bin n (k + 1) = x at *
      generalize bin n k = y at *
      generalize bin n (k + 1 + 1) = z at *
      have e3 : (x + z) * (k + 1 + 1) = x * (k + 1) + x + z * (k + 1 + 1) := by
        rw [Nat.add_mul, Nat.mul_succ]
      rw [e3, h1, h2, Nat.add_mul, Nat.mul_succ, Nat.mul_succ]
      omega
    · have e1 : n + 1 - (k + 1) = 0 := by omega
      rw [e1, bin_gt n (k + 1) (by omega), bin_gt n (k + 1 + 1) (by omega)]; simp
theorem bin_le : ∀ n k, bin n k ≤ 2 ^ n
  | 0, 0 => by simp [bin]
  | 0, k + 1 => by simp [bin]
  | n + 1, 0 => by rw [bin]; exact Nat.one_le_two_pow
  | n + 1, k + 1 => by
    rw [bin, Nat.pow_succ]
    have := bin_le n k
    have := bin_le n (k + 1)
    omega
theorem bin_le50 (n k : Nat) (h : n ≤ 50) : bin n k ≤ 1125899906842624 := by
  have h1 := bin_le n k
  have h2 : 2 ^ n ≤ 2 ^ 50 := Nat.pow_le_pow_right (by omega) h
  have h3 : (2 : Nat) ^ 50 = 1125899906842624 := by decide
  omega
theorem bin_symm : ∀ n k, k ≤ n → bin n k = bin n (n - k)
  | 0, 0, _ => rfl
  | n + 1, 0, _ => by rw [bin_zero, Nat.sub_zero, bin_self]
  | n + 1, k + 1, h => by
    by_cases hk : k = n
    · subst hk; rw [bin_self, Nat.sub_self, bin_zero]
    · have e : n + 1 - (k + 1) = (n - (k + 1)) + 1 := by omega
      rw [e, bin, bin, bin_symm n k (by omega), bin_symm n (k + 1) (by omega)]
      have e2 : n - k = n - (k + 1) + 1 := by omega
      rw [e2, Nat.add_comm]

theorem bin_div (n i : Nat) (h : i < n) : ((bin n i : Int) * ((n : Int) - (i : Int))) / ((i : Int) + 1) = (bin n (i + 1) : Int) := by
  have h1 := bin_step n i
  have e : ((n : Int) - (i : Int)) = ((n - i : Nat) : Int) := by omega
  rw [e]
  have e2 : ((bin n i : Int) * ((n - i : Nat) : Int)) = ((bin n (i + 1) : Nat) : Int) * ((i : Int) + 1) := by
    exact_mod_cast h1.symm
  rw [e2, Int.mul_ediv_cancel _ (by omega)]
theorem bin_mul_le (n i : Nat) (h : i ≤ n) (h2 : n ≤ 50) : 0 ≤ (bin n i : Int) * ((n : Int) - (i : Int)) ∧ (bin n i : Int) * ((n : Int) - (i : Int)) ≤ 56294995342131200 := by
  have h3 := bin_le50 n i h2
  have e : ((n : Int) - (i : Int)) = ((n - i : Nat) : Int) := by omega
  rw [e]
  have h4 : bin n i * (n - i) ≤ 1125899906842624 * 50 := Nat.mul_le_mul h3 (by omega)
  generalize bin n i = x at *
  generalize n - i = y at *
  have h5 : ((x * y : Nat) : Int) = (x : Int) * (y : Int) := by simp
  rw [← h5]
  omega

/-- How many samples of n have just x errors: K units have errors, M have none. -/
def hyp (K M n x : Nat) : Nat := if x ≤ n then bin K x * bin M (n - x) else 0
/-- How many samples of n have fewer than j errors. -/
def cum (K M n : Nat) : Nat → Nat
  | 0 => 0
  | j + 1 => cum K M n j + hyp K M n j

theorem cum_mono (K M n : Nat) : ∀ j d, cum K M n j ≤ cum K M n (j + d)
  | j, 0 => by simp
  | j, d + 1 => by
    have := cum_mono K M n j d
    rw [← Nat.add_assoc, cum]; omega
theorem cum_le (K M n j k : Nat) (h : j ≤ k) : cum K M n j ≤ cum K M n k := by
  have := cum_mono K M n j (k - j)
  rwa [show j + (k - j) = k from by omega] at this
theorem cum_sat (K M n : Nat) : ∀ d, cum K M n (n + 1 + d) = cum K M n (n + 1)
  | 0 => rfl
  | d + 1 => by
    rw [← Nat.add_assoc, cum, cum_sat K M n d]
    unfold hyp
    rw [if_neg (by omega)]; rfl
theorem cum_sat' (K M n j : Nat) (h : n + 1 ≤ j) : cum K M n j = cum K M n (n + 1) := by
  have := cum_sat K M n (j - (n + 1))
  rwa [show n + 1 + (j - (n + 1)) = j from by omega] at this

theorem hyp_A (K M n y : Nat) : hyp (K + 1) M (n + 1) (y + 1) = hyp K M (n + 1) (y + 1) + hyp K M n y := by
  unfold hyp
  by_cases h : y ≤ n
  · rw [if_pos (by omega), if_pos (by omega), if_pos h, bin, Nat.add_mul]
    have e : n + 1 - (y + 1) = n - y := by omega
    rw [e]; omega
  · rw [if_neg (by omega), if_neg (by omega), if_neg h]
theorem hyp_A0 (K M n : Nat) : hyp (K + 1) M n 0 = hyp K M n 0 := by
  unfold hyp; simp [bin_zero]
theorem cum_A (K M n : Nat) : ∀ j, cum (K + 1) M (n + 1) (j + 1) = cum K M (n + 1) (j + 1) + cum K M n j
  | 0 => by simp only [cum, hyp_A0]; omega
  | j + 1 => by
    have ih := cum_A K M n j
    rw [cum, ih, hyp_A]
    conv => rhs; rw [cum]
    conv => rhs; rhs; rw [cum]
    omega
theorem hyp_B (K M n x : Nat) : hyp K (M + 1) (n + 1) x = hyp K M (n + 1) x + hyp K M n x := by
  unfold hyp
  by_cases h : x ≤ n
  · rw [if_pos (by omega), if_pos (by omega), if_pos h]
    have e : n + 1 - x = (n - x) + 1 := by omega
    rw [e, bin, Nat.mul_add]; omega
  · by_cases h2 : x = n + 1
    · subst h2
      rw [if_pos (by omega), if_pos (by omega), if_neg h, Nat.sub_self, bin_zero, bin_zero]
      omega
    · rw [if_neg (by omega), if_neg (by omega), if_neg h]
theorem cum_B (K M n : Nat) : ∀ j, cum K (M + 1) (n + 1) j = cum K M (n + 1) j + cum K M n j
  | 0 => rfl
  | j + 1 => by
    have ih := cum_B K M n j
    rw [cum, ih, hyp_B]
    conv => rhs; rw [cum]
    conv => rhs; rhs; rw [cum]
    omega
theorem cum_zero_n (K M : Nat) : ∀ j, cum K M 0 (j + 1) = 1
  | 0 => by simp [cum, hyp, bin_zero]
  | j + 1 => by rw [cum, cum_zero_n K M j]; simp [hyp]
theorem cum_zero_K (M n : Nat) : ∀ j, cum 0 M n (j + 1) = bin M n
  | 0 => by simp [cum, hyp, bin_zero]
  | j + 1 => by
    rw [cum, cum_zero_K M n j]
    simp [hyp, bin]
/-- Vandermonde. -/
theorem vander : ∀ K M n, cum K M n (n + 1) = bin (K + M) n
  | 0, M, n => by rw [cum_zero_K, Nat.zero_add]
  | K + 1, M, 0 => by rw [cum_zero_n, bin_zero]
  | K + 1, M, n + 1 => by
    rw [cum_A, vander K M (n + 1), vander K M n]
    have e : K + 1 + M = K + M + 1 := by omega
    rw [e, bin]; omega
theorem cum_bound (K M n j : Nat) : cum K M n j ≤ bin (K + M) n := by
  rw [← vander]
  by_cases h : j ≤ n + 1
  · exact cum_le K M n j _ h
  · rw [cum_sat' K M n j (by omega)]; exact Nat.le_refl _
theorem cum_all (K M n j : Nat) (h : n + 1 ≤ j) : cum K M n j = bin (K + M) n := by
  rw [cum_sat' K M n j h, vander]
/-- Only K units have errors: all samples have fewer than K + 1. -/
theorem cum_K (K M n : Nat) : ∀ d, cum K M n (K + 1 + d) = bin (K + M) n := by
  have step : ∀ d, cum K M n (K + 1 + d) = cum K M n (K + 1) := by
    intro d
    induction d with
    | zero => rfl
    | succ d ih =>
      rw [← Nat.add_assoc, cum, ih]
      unfold hyp
      rw [bin_gt K (K + 1 + d) (by omega)]
      simp
  intro d
  rw [step d]
  have h := step (n + 1)
  rw [← h, cum_all K M n _ (by omega)]
/-- Where M units have no error, a sample of M + x has at least x. -/
theorem cum_least (K M x : Nat) : ∀ j, j ≤ x → cum K M (M + x) j = 0
  | 0, _ => rfl
  | j + 1, h => by
    rw [cum, cum_least K M x j (by omega)]
    unfold hyp
    rw [if_pos (by omega), bin_gt M (M + x - j) (by omega)]
    simp

/-- One error more: fewer samples have fewer than j, but at least as many as had fewer than j - 1. -/
theorem cum_fall (K M n j : Nat) : cum (K + 1) M n j ≤ cum K (M + 1) n j := by
  cases j with
  | zero => simp [cum]
  | succ j =>
    cases n with
    | zero => rw [cum_zero_n, cum_zero_n]; omega
    | succ n =>
      rw [cum_A, cum_B]
      have := cum_le K M n j (j + 1) (by omega)
      omega
theorem cum_couple (K M n j : Nat) : cum K (M + 1) n j ≤ cum (K + 1) M n (j + 1) := by
  cases n with
  | zero =>
    rw [cum_zero_n]
    cases j with
    | zero => simp [cum]
    | succ j => rw [cum_zero_n]; omega
  | succ n =>
    rw [cum_A, cum_B]
    have := cum_le K M (n + 1) j (j + 1) (by omega)
    omega
theorem cum_falls (N n j : Nat) : ∀ d K, K + d ≤ N → cum (K + d) (N - (K + d)) n j ≤ cum K (N - K) n j
  | 0, K, _ => by simp
  | d + 1, K, h => by
    have h1 := cum_falls N n j d K (by omega)
    have h2 := cum_fall (K + d) (N - (K + d + 1)) n j
    have e : N - (K + d + 1) + 1 = N - (K + d) := by omega
    rw [e] at h2
    rw [← Nat.add_assoc]; omega

/-! The bounds. -/
def upOk (N n x a K : Nat) : Bool := decide (a * bin N n < 1000 * cum K (N - K) n (x + 1))
def loOk (N n x a K : Nat) : Bool := decide (a * bin N n < 1000 * (bin N n - cum K (N - K) n x))
/-- Down from x + d. -/
def up (N n x a : Nat) : Nat → Nat
  | 0 => x
  | d + 1 => if upOk N n x a (x + (d + 1)) then x + (d + 1) else up N n x a d
/-- Up, d before x + D. -/
def lo (N n x a D : Nat) : Nat → Nat
  | 0 => x + D
  | d + 1 => if loOk N n x a (x + D - (d + 1)) then x + D - (d + 1) else lo N n x a D d

theorem up_le (N n x a : Nat) : ∀ d, x ≤ up N n x a d ∧ up N n x a d ≤ x + d
  | 0 => by simp [up]
  | d + 1 => by
    have := up_le N n x a d
    unfold up; split <;> omega
theorem upOk_x (N n x a : Nat) (hx : x ≤ N) (hn : n ≤ N) (ha : a < 1000) : upOk N n x a x = true := by
  unfold upOk
  have h := cum_K x (N - x) n 0
  rw [Nat.add_zero, show x + (N - x) = N from by omega] at h
  rw [h]
  have := bin_pos N n hn
  simp only [decide_eq_true_eq]
  exact Nat.mul_lt_mul_of_pos_right ha this
theorem up_ok (N n x a : Nat) (hx : x ≤ N) (hn : n ≤ N) (ha : a < 1000) : ∀ d, upOk N n x a (up N n x a d) = true
  | 0 => by rw [up]; exact upOk_x N n x a hx hn ha
  | d + 1 => by
    unfold up; split
    · assumption
    · exact up_ok N n x a hx hn ha d
theorem up_not (N n x a : Nat) : ∀ d k, up N n x a d < k → k ≤ x + d → upOk N n x a k = false
  | 0, k, h1, h2 => by rw [up] at h1; omega
  | d + 1, k, h1, h2 => by
    unfold up at h1
    split at h1
    · omega
    · rename_i hno
      by_cases hk : k = x + (d + 1)
      · subst hk; exact Bool.eq_false_iff.2 hno
      · exact up_not N n x a d k h1 (by omega)

theorem lo_le (N n x a D : Nat) : ∀ d, d ≤ D → x + D - d ≤ lo N n x a D d ∧ lo N n x a D d ≤ x + D
  | 0, _ => by simp [lo]
  | d + 1, h => by
    have := lo_le N n x a D d (by omega)
    unfold lo; split <;> omega
theorem loOk_end (N n x a : Nat) (hx : x ≤ n) (hn : n ≤ N) (ha : a < 1000) : loOk N n x a (x + (N - n)) = true := by
  unfold loOk
  have h := cum_least (x + (N - n)) (n - x) x x (Nat.le_refl _)
  rw [show n - x + x = n from by omega] at h
  rw [show N - (x + (N - n)) = n - x from by omega, h, Nat.sub_zero]
  have := bin_pos N n hn
  simp only [decide_eq_true_eq]
  exact Nat.mul_lt_mul_of_pos_right ha this
theorem lo_ok (N n x a : Nat) (hx : x ≤ n) (hn : n ≤ N) (ha : a < 1000) : ∀ d, loOk N n x a (lo N n x a (N - n) d) = true
  | 0 => by rw [lo]; exact loOk_end N n x a hx hn ha
  | d + 1 => by
    unfold lo; split
    · assumption
    · exact lo_ok N n x a hx hn ha d
theorem lo_not (N n x a D : Nat) : ∀ d k, d ≤ D → x + D - d ≤ k → k < lo N n x a D d → loOk N n x a k = false
  | 0, k, _, h1, h2 => by rw [lo] at h2; omega
  | d + 1, k, hd, h1, h2 => by
    unfold lo at h2
    split at h2
    · omega
    · rename_i hno
      by_cases hk : k = x + D - (d + 1)
      · subst hk; exact Bool.eq_false_iff.2 hno
      · exact lo_not N n x a D d k (by omega) (by omega) h2

/-! What the functions return, for any numbers. -/
def cho (n k : Int) : Int := if 0 ≤ n ∧ n ≤ 50 ∧ 0 ≤ k ∧ k ≤ n then bin n.toNat k.toNat else 0
def peo (N s : Int) : Bool := decide (1 ≤ N) && decide (N ≤ 50) && decide (0 ≤ s) && decide (s ≤ N)
def smp (N K n x : Int) : Int := if peo N K && peo N n && decide (0 ≤ x) then hyp K.toNat (N.toNat - K.toNat) n.toNat x.toNat else 0
def atm (N K n x : Int) : Int := if peo N K && peo N n then cum K.toNat (N.toNat - K.toNat) n.toNat (x + 1).toNat else 0
def rgt (N n x a : Int) : Bool := peo N n && decide (1 ≤ n) && decide (0 ≤ x) && decide (x ≤ n) && decide (1 ≤ a) && decide (a < 1000)
def upV (N n x a : Int) : Int := if rgt N n x a then up N.toNat n.toNat x.toNat a.toNat (N.toNat - n.toNat) else 0
def loV (N n x a : Int) : Int := if rgt N n x a then lo N.toNat n.toNat x.toNat a.toNat (N.toNat - n.toNat) (N.toNat - n.toNat) else 0
def err (N n x a : Int) : Int := if rgt N n x a then 0 else 2
def rat (N K : Int) : Int := if peo N K then (K * 1000 + N - 1) / N else 0

theorem cho_in (n k : Nat) (h : k ≤ n) (h2 : n ≤ 50) : cho n k = bin n k := by
  unfold cho; rw [if_pos (by omega)]; simp
theorem cho_out (n k : Int) (h : ¬ (0 ≤ n ∧ n ≤ 50 ∧ 0 ≤ k ∧ k ≤ n)) : cho n k = 0 := by
  unfold cho; rw [if_neg h]
theorem cho_nat (n k : Nat) (h2 : n ≤ 50) : cho n k = bin n k := by
  by_cases h : k ≤ n
  · exact cho_in n k h h2
  · rw [cho_out _ _ (by omega), bin_gt n k (by omega)]; rfl
theorem cho_bd (n k : Int) : 0 ≤ cho n k ∧ cho n k ≤ 1125899906842624 := by
  unfold cho
  split
  · have := bin_le50 n.toNat k.toNat (by omega); omega
  · omega
theorem peo_iff (N s : Int) : peo N s = true ↔ 1 ≤ N ∧ N ≤ 50 ∧ 0 ≤ s ∧ s ≤ N := by
  simp [peo]; omega
theorem peo_not (N s : Int) : peo N s = false ↔ ¬ (1 ≤ N ∧ N ≤ 50 ∧ 0 ≤ s ∧ s ≤ N) := by
  rw [← peo_iff]; simp
theorem rgt_iff (N n x a : Int) : rgt N n x a = true ↔ 1 ≤ N ∧ N ≤ 50 ∧ 1 ≤ n ∧ n ≤ N ∧ 0 ≤ x ∧ x ≤ n ∧ 1 ≤ a ∧ a < 1000 := by
  simp [rgt, peo]; omega
theorem cum_bd (N K n j : Nat) (h : K ≤ N) (h2 : N ≤ 50) : cum K (N - K) n j ≤ 1125899906842624 := by
  have h1 := cum_bound K (N - K) n j
  rw [show K + (N - K) = N from by omega] at h1
  have := bin_le50 N n h2
  omega
theorem hyp_le_cum (K M n x : Nat) : hyp K M n x ≤ cum K M n (x + 1) := by rw [cum]; omega
theorem atm_bd (N K n x : Int) : 0 ≤ atm N K n x ∧ atm N K n x ≤ cho N n := by
  unfold atm
  have h0 := cho_bd N n
  split
  · rename_i h
    simp only [Bool.and_eq_true, peo_iff] at h
    unfold cho
    rw [if_pos (by omega)]
    have := cum_bound K.toNat (N.toNat - K.toNat) n.toNat (x + 1).toNat
    rw [show K.toNat + (N.toNat - K.toNat) = N.toNat from by omega] at this
    omega
  · omega
theorem smp_bd (N K n x : Int) : 0 ≤ smp N K n x ∧ smp N K n x ≤ 1125899906842624 := by
  unfold smp
  split
  · rename_i h
    simp only [Bool.and_eq_true, peo_iff] at h
    have h1 := hyp_le_cum K.toNat (N.toNat - K.toNat) n.toNat x.toNat
    have := cum_bd N.toNat K.toNat n.toNat (x.toNat + 1) (by omega) (by omega)
    omega
  · omega
theorem smp_nat (N K n x : Nat) (h1 : 1 ≤ N) (h2 : N ≤ 50) (h3 : K ≤ N) (h4 : n ≤ N) : smp N K n x = hyp K (N - K) n x := by
  have hp : peo N K = true := (peo_iff _ _).2 (by omega)
  have hq : peo N n = true := (peo_iff _ _).2 (by omega)
  unfold smp
  rw [hp, hq]; simp
theorem atm_nat (N K n j : Nat) (h1 : 1 ≤ N) (h2 : N ≤ 50) (h3 : K ≤ N) (h4 : n ≤ N) : atm N K n ((j : Int) - 1) = cum K (N - K) n j := by
  have hp : peo N K = true := (peo_iff _ _).2 (by omega)
  have hq : peo N n = true := (peo_iff _ _).2 (by omega)
  unfold atm
  rw [hp, hq]; simp
theorem smp_cho (N K n x : Int) (h : (peo N K && peo N n) = true) : smp N K n x = cho K x * cho (N - K) (n - x) := by
  rw [Bool.and_eq_true] at h
  unfold smp
  rw [h.1, h.2]
  obtain ⟨h1, h2⟩ := h
  rw [peo_iff] at h1 h2
  by_cases hx : 0 ≤ x
  · rw [if_pos (by simpa using hx)]
    unfold hyp
    by_cases hxn : x ≤ n
    · rw [if_pos (by omega)]
      obtain ⟨x', rfl⟩ := Int.eq_ofNat_of_zero_le hx
      obtain ⟨K', rfl⟩ := Int.eq_ofNat_of_zero_le h1.2.2.1
      obtain ⟨n', rfl⟩ := Int.eq_ofNat_of_zero_le h2.2.2.1
      obtain ⟨N', rfl⟩ := Int.eq_ofNat_of_zero_le (show 0 ≤ N by omega)
      have e1 : ((N' : Int) - (K' : Int)) = ((N' - K' : Nat) : Int) := by omega
      have e2 : ((n' : Int) - (x' : Int)) = ((n' - x' : Nat) : Int) := by omega
      rw [e1, e2, cho_nat _ _ (by omega), cho_nat _ _ (by omega)]
      simp
    · rw [if_neg (by omega), cho_out (N - K) (n - x) (by omega)]; simp
  · rw [if_neg (by simpa using hx), cho_out K x (by omega)]; simp
end Est
end Go.Proofs.Ytmmekdkllccmdaa
