/-
  CalendarWorking: the plain law.
-/
import Derived.Test.YtmmekdkllccmdaaCalMath
import Derived.Test.YtmmekdkllccmdaaLatMath
namespace Go.Proofs.Ytmmekdkllccmdaa
namespace Cal
theorem wk_nil (d : Int) : wk [] d = decide (d % 7 < 5) := by simp [wk]
theorem wks_nil (a : Int) (h0 : 0 ≤ a) : ∀ k : Nat, wks [] a k = Lat.bef (a + k) - Lat.bef a
  | 0 => by rw [wks, show a + ((0 : Nat) : Int) = a by omega]; omega
  | k + 1 => by
    rw [wks, wks_nil a h0 k, show a + ((k + 1 : Nat) : Int) = a + k + 1 by omega, Lat.bef_step _ (by omega), wk_nil]
    by_cases h : (a + (k : Int)) % 7 < 5
    · rw [decide_eq_true h, if_pos rfl, if_pos h]; omega
    · rw [decide_eq_false h, if_neg (by decide), if_neg h]; omega
theorem wks_week (x : Int) (h0 : 0 ≤ x) : wks [] x 7 = 5 := by
  rw [wks_nil x h0]; unfold Lat.bef; omega
theorem wks_less (l : List Int) (x : Int) : ∀ k : Nat, wks l x k ≤ wks [] x k
  | 0 => by simp [wks]
  | k + 1 => by
    have := wks_less l x k
    rw [wks, wks, wk_nil]
    unfold wk
    by_cases h : (x + (k : Int)) % 7 < 5
    · rw [decide_eq_true h, if_pos rfl]; split <;> omega
    · rw [decide_eq_false h, if_neg (by simp), if_neg (by decide)]; omega
theorem wks_one (e : Int) (l : List Int) (x : Int) : ∀ k : Nat, wks l x k ≤ wks (e :: l) x k + (if x ≤ e ∧ e < x + k then 1 else 0)
  | 0 => by simp [wks]; split <;> omega
  | k + 1 => by
    have ih := wks_one e l x k
    rw [wks, wks]
    by_cases he : x + (k : Int) = e
    · rw [if_neg (by omega)] at ih
      rw [if_pos (show x ≤ e ∧ e < x + ((k + 1 : Nat) : Int) by omega)]
      have h1 : (if wk l (x + k) = true then (1 : Int) else 0) ≤ 1 := by split <;> omega
      have h2 : (0 : Int) ≤ (if wk (e :: l) (x + k) = true then 1 else 0) := by split <;> omega
      generalize (if wk l (x + k) = true then (1 : Int) else 0) = p at *
      generalize (if wk (e :: l) (x + k) = true then (1 : Int) else 0) = q at *
      omega
    · have : wk (e :: l) (x + k) = wk l (x + k) := by
        unfold wk
        rw [List.contains_cons]
        have : ((x + (k : Int)) == e) = false := beq_eq_false_iff_ne.2 he
        rw [this, Bool.false_or]
      rw [this]
      have h2 : (if x ≤ e ∧ e < x + (k : Int) then (1 : Int) else 0) ≤ (if x ≤ e ∧ e < x + ((k + 1 : Nat) : Int) then 1 else 0) := by
        split
        · rw [if_pos (by omega)]; omega
        · split <;> omega
      generalize (if wk l (x + k) = true then (1 : Int) else 0) = p at *
      generalize (if x ≤ e ∧ e < x + (k : Int) then (1 : Int) else 0) = q at *
      generalize (if x ≤ e ∧ e < x + ((k + 1 : Nat) : Int) then (1 : Int) else 0) = r at *
      omega
theorem wks_all (x : Int) (k : Nat) : ∀ l : List Int, wks [] x k ≤ wks l x k + l.length
  | [] => by simp
  | e :: l => by
    have := wks_all x k l
    have h1 := wks_one e l x k
    have h2 : (if x ≤ e ∧ e < x + (k : Int) then (1 : Int) else 0) ≤ 1 := by split <;> omega
    rw [List.length_cons]
    generalize (if x ≤ e ∧ e < x + (k : Int) then (1 : Int) else 0) = q at *
    omega
theorem wkE_ok (a b : Int) (n : Nat) (h0 : 0 ≤ a) (h1 : a ≤ b) (h2 : b ≤ 36865) (hn : n ≤ 400) : wkE a b n = 0 := by
  unfold wkE; rw [if_neg (by omega), if_neg (by omega)]
theorem wkV_ok (l : List Int) (a : Int) (k : Nat) (h0 : 0 ≤ a) (h2 : a + k ≤ 36865) (hn : l.length ≤ 400) : wkV l a (a + k) = wks l a k := by
  unfold wkV; rw [if_pos (wkE_ok _ _ _ h0 (by omega) h2 hn), show (a + (k : Int) - a).toNat = k by omega]
/-- The days that are free. -/
def frees (x : Int) (g : Nat → Int) (k : Nat) : List Int := (List.range k).map fun i => x + g i
theorem frees_len (x : Int) (g : Nat → Int) (k : Nat) : (frees x g k).length = k := by simp [frees]
theorem frees_succ (x : Int) (g : Nat → Int) (k : Nat) : frees x g (k + 1) = frees x g k ++ [x + g k] := by simp [frees, List.range_succ]
end Cal
end Go.Proofs.Ytmmekdkllccmdaa
