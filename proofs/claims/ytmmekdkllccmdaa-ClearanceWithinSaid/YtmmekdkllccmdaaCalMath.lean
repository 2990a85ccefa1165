/-
  Plain mathematics for chapter 3: days, windows, working days. No program in sight.
-/
namespace Go.Proofs.Ytmmekdkllccmdaa
namespace Cal

def isD (d : Int) : Bool := decide (0 ≤ d) && decide (d ≤ 36864)
def vld (f u : Int) : Bool := decide (0 ≤ f) && decide (f < 365) && decide (0 ≤ u) && decide (u < 365)
/-- Whether a place of a year is in a window. -/
def pin (f u p : Int) : Bool := if u < f then decide (f ≤ p) || decide (p ≤ u) else decide (f ≤ p) && decide (p ≤ u)
def inn (f u d : Int) : Bool := isD d && vld f u && pin f u (d % 365)
/-- The first day of n from d on that is in a window. -/
def nx (f u : Int) : Nat → Int → Int × Bool
  | 0, _ => (0, false)
  | n + 1, d => if isD d then (if inn f u d then (d, true) else nx f u n (d + 1)) else (0, false)
theorem nx_succ (f u : Int) (n : Nat) (d : Int) : nx f u (n + 1) d = if isD d then (if inn f u d then (d, true) else nx f u n (d + 1)) else (0, false) := rfl
def nxt (f u d : Int) : Int × Bool := if vld f u then nx f u 365 d else (0, false)
def dys (f u : Int) : Int := if vld f u then (if u < f then 365 - f + u + 1 else u - f + 1) else 0
/-- How many of the first k places are in a window. -/
def cnt (f u : Int) : Nat → Int
  | 0 => 0
  | k + 1 => cnt f u k + if inn f u k then 1 else 0

theorem isD_iff (d : Int) : isD d = true ↔ 0 ≤ d ∧ d ≤ 36864 := by simp [isD]
theorem isD_not (d : Int) : isD d = false ↔ ¬ (0 ≤ d ∧ d ≤ 36864) := by rw [← isD_iff]; simp
theorem vld_iff (f u : Int) : vld f u = true ↔ 0 ≤ f ∧ f < 365 ∧ 0 ≤ u ∧ u < 365 := by simp [vld]; omega
theorem vld_not (f u : Int) : vld f u = false ↔ ¬ (0 ≤ f ∧ f < 365 ∧ 0 ≤ u ∧ u < 365) := by rw [← vld_iff]; simp
theorem inn_day (f u d : Int) (h : isD d = false) : inn f u d = false := by unfold inn; rw [h]; rfl
theorem inn_win (f u d : Int) (h : vld f u = false) : inn f u d = false := by unfold inn; rw [h]; simp
theorem inn_yes (f u d : Int) (h : isD d = true) (h2 : vld f u = true) : inn f u d = pin f u (d % 365) := by unfold inn; rw [h, h2]; rfl
theorem nx_off (f u : Int) (n : Nat) (d : Int) (h : isD d = false) : nx f u n d = (0, false) := by
  cases n with
  | zero => rfl
  | succ n => rw [nx, h]; rfl
theorem nx_win (f u : Int) (h : vld f u = false) : ∀ n d, nx f u n d = (0, false)
  | 0, _ => rfl
  | n + 1, d => by rw [nx, inn_win f u d h, nx_win f u h n (d + 1)]; simp
/-- Not found in n days: none of them is in the window. -/
theorem nx_none (f u : Int) : ∀ n d, 0 ≤ d → (nx f u n d).2 = false → ∀ j : Int, 0 ≤ j → j < n → inn f u (d + j) = false
  | 0, d, _, _, j, h0, h1 => by omega
  | n + 1, d, hd0, h, j, h0, h1 => by
    cases hd : isD d
    · rw [isD_not] at hd
      exact inn_day _ _ _ ((isD_not _).2 (by omega))
    · rw [nx, hd, if_pos rfl] at h
      cases hi : inn f u d
      · rw [hi] at h
        by_cases hj : j = 0
        · rw [hj, Int.add_zero]; exact hi
        · have := nx_none f u n (d + 1) (by omega) (by simpa using h) (j - 1) (by omega) (by omega)
          rwa [show d + 1 + (j - 1) = d + j by omega] at this
      · rw [hi] at h; simp at h
/-- Found: it is in the window, and a day from d on, within n. -/
theorem nx_found (f u : Int) : ∀ n d, (nx f u n d).2 = true → d ≤ (nx f u n d).1 ∧ (nx f u n d).1 < d + n ∧ inn f u (nx f u n d).1 = true ∧ ((nx f u n d).1 = d ∨ inn f u d = false)
  | 0, d, h => by simp [nx] at h
  | n + 1, d, h => by
    cases hd : isD d
    · rw [nx, hd] at h; simp at h
    · cases hi : inn f u d
      · have e : nx f u (n + 1) d = nx f u n (d + 1) := by rw [nx, hd, hi]; simp
        rw [e] at h ⊢
        have := nx_found f u n (d + 1) h
        exact ⟨by omega, by omega, this.2.2.1, .inr rfl⟩
      · have e : nx f u (n + 1) d = (d, true) := by rw [nx, hd, hi]; simp
        rw [e]
        exact ⟨Int.le_refl _, by simp; omega, hi, .inl rfl⟩
theorem nx_zero (f u : Int) : ∀ n d, (nx f u n d).2 = false → (nx f u n d).1 = 0
  | 0, _, _ => rfl
  | n + 1, d, h => by
    rw [nx] at h ⊢
    split
    · rename_i hd
      rw [if_pos hd] at h
      split
      · rename_i hi; rw [if_pos hi] at h; cases h
      · rename_i hi; rw [if_neg hi] at h; exact nx_zero f u n (d + 1) h
    · rfl
theorem nx_more (f u : Int) : ∀ n d, (nx f u n d).2 = true → nx f u (n + 1) d = nx f u n d
  | 0, d, h => by simp [nx] at h
  | n + 1, d, h => by
    rw [nx_succ] at h
    rw [nx_succ f u (n + 1) d, nx_succ f u n d]
    split
    · rename_i hd
      rw [if_pos hd] at h
      split
      · rfl
      · rename_i hi; rw [if_neg hi] at h; exact nx_more f u n (d + 1) h
    · rfl
theorem nx_end (f u : Int) : ∀ (n : Nat) d, (nx f u n d).2 = false → inn f u (d + n) = false → nx f u (n + 1) d = (0, false)
  | 0, d, _, h => by
    rw [show d + ((0 : Nat) : Int) = d by omega] at h
    rw [nx]
    split
    · rw [h]; rfl
    · rfl
  | n + 1, d, h1, h2 => by
    rw [nx] at h1
    rw [nx]
    split
    · rename_i hd
      rw [if_pos hd] at h1
      split
      · rename_i hi; rw [if_pos hi] at h1; cases h1
      · rename_i hi
        rw [if_neg hi] at h1
        exact nx_end f u n (d + 1) h1 (by rw [show d + 1 + (n : Int) = d + ((n + 1 : Nat) : Int) by omega]; exact h2)
    · rfl
/-- A year of days is enough. -/
theorem nx_year (f u d : Int) (h0 : 0 ≤ d) : nx f u 366 d = nx f u 365 d := by
  cases h : (nx f u 365 d).2
  · have h1 := nx_none f u 365 d h0 h 0 (by omega) (by omega)
    rw [Int.add_zero] at h1
    have h2 : inn f u (d + (365 : Nat)) = false := by
      cases hd : isD (d + (365 : Nat))
      · exact inn_day _ _ _ hd
      · cases hv : vld f u
        · exact inn_win _ _ _ hv
        · rw [inn_yes _ _ _ hd hv]
          rw [isD_iff] at hd
          rw [inn_yes _ _ _ ((isD_iff d).2 (by omega)) hv] at h1
          rw [show (d + (365 : Nat)) % 365 = d % 365 by omega]
          exact h1
    rw [nx_end f u 365 d h h2]
    have := nx_zero f u 365 d h
    generalize nx f u 365 d = q at *
    obtain ⟨a, b⟩ := q
    simp at this h
    rw [this, h]
  · exact nx_more f u 365 d h

theorem cnt_lin (f u : Int) (h : vld f u = true) (hle : ¬ u < f) : ∀ k : Nat, k ≤ 365 → cnt f u k = max 0 (min (k : Int) (u + 1) - f)
  | 0, _ => by have := (vld_iff f u).1 h; simp [cnt]; omega
  | k + 1, hk => by
    have hv := (vld_iff f u).1 h
    rw [cnt, cnt_lin f u h hle k (by omega), inn_yes f u k ((isD_iff _).2 (by omega)) h]
    unfold pin
    rw [if_neg hle, show ((k : Int)) % 365 = k by omega]
    split
    · rename_i hp; simp at hp; omega
    · rename_i hp; simp at hp; omega
theorem cnt_wrap (f u : Int) (h : vld f u = true) (hlt : u < f) : ∀ k : Nat, k ≤ 365 → cnt f u k = min (k : Int) (u + 1) + max 0 ((k : Int) - f)
  | 0, _ => by have := (vld_iff f u).1 h; simp [cnt]; omega
  | k + 1, hk => by
    have hv := (vld_iff f u).1 h
    rw [cnt, cnt_wrap f u h hlt k (by omega), inn_yes f u k ((isD_iff _).2 (by omega)) h]
    unfold pin
    rw [if_pos hlt, show ((k : Int)) % 365 = k by omega]
    split
    · rename_i hp; simp at hp; omega
    · rename_i hp; simp at hp; omega
theorem cnt_off (f u : Int) (h : vld f u = false) : ∀ k : Nat, cnt f u k = 0
  | 0 => rfl
  | k + 1 => by rw [cnt, cnt_off f u h k, inn_win _ _ _ h]; rfl
theorem cnt_year (f u : Int) : cnt f u 365 = dys f u := by
  unfold dys
  cases h : vld f u
  · rw [cnt_off f u h]; rfl
  · have hv := (vld_iff f u).1 h
    by_cases hlt : u < f
    · rw [cnt_wrap f u h hlt 365 (by omega), if_pos rfl, if_pos hlt]; omega
    · rw [cnt_lin f u h hlt 365 (by omega), if_pos rfl, if_neg hlt]; omega
theorem cnt_bd (f u : Int) : ∀ k : Nat, 0 ≤ cnt f u k ∧ cnt f u k ≤ k
  | 0 => by simp [cnt]
  | k + 1 => by
    have := cnt_bd f u k
    rw [cnt]; split <;> omega

/-! Working days. -/
def wk (l : List Int) (d : Int) : Bool := decide (d % 7 < 5) && !l.contains d
/-- How many of the k days from a on are working days. -/
def wks (l : List Int) (a : Int) : Nat → Int
  | 0 => 0
  | k + 1 => wks l a k + if wk l (a + k) then 1 else 0
def wkE (a b : Int) (n : Nat) : Int := if a < 0 ∨ b < a ∨ 36865 < b then 9 else if 400 < n then 1 else 0
def wkV (l : List Int) (a b : Int) : Int := if wkE a b l.length = 0 then wks l a (b - a).toNat else 0
theorem wks_bd (l : List Int) (a : Int) : ∀ k : Nat, 0 ≤ wks l a k ∧ wks l a k ≤ k
  | 0 => by simp [wks]
  | k + 1 => by
    have := wks_bd l a k
    rw [wks]; split <;> omega
theorem wks_add (l : List Int) (a : Int) : ∀ j k : Nat, wks l a (j + k) = wks l a j + wks l (a + j) k
  | j, 0 => by simp [wks]
  | j, k + 1 => by
    rw [← Nat.add_assoc, wks, wks_add l a j k, wks, show a + ((j + k : Nat) : Int) = a + j + k by omega]; omega
end Cal
end Go.Proofs.Ytmmekdkllccmdaa
