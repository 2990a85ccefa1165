/-
  Chapter 41: Check of both sides: what the walks' predicates say.
-/
import Derived.Test.YtmmekdkllccmdaaClB
namespace Go.Proofs.Ytmmekdkllccmdaa
open Go.RowKit
set_option linter.unusedVariables false
namespace Eng
namespace Clr
theorem ix_last {α : Type} [Inhabited α] (pre : List α) (y : α) (q : List α) (h : pre.length < 4611686018427387904) : inb (pre ++ [y] ++ q) (w64 (((pre ++ [y]).length : Nat) - 1)) ∧ ix (pre ++ [y] ++ q) (w64 (((pre ++ [y]).length : Nat) - 1)) = y := by
  have hl : (pre ++ [y]).length = pre.length + 1 := by simp
  rw [w64_eq (by omega) (by omega)]
  have e : (((pre ++ [y]).length : Nat) : Int) - 1 = (pre.length : Nat) := by omega
  rw [e]
  have hg : (pre ++ [y] ++ q)[pre.length]? = some y := by simp
  exact ⟨inb_nat (by rw [List.length_append, hl]; omega), ix_nat hg⟩
def lastO {α : Type} (p : List α) : Option α := p.getLast?
theorem lastO_app {α : Type} (p : List α) (x : α) : lastO (p ++ [x]) = some x := by simp [lastO]
/-- What of the element ahead is looked at. -/
theorem ahead {α : Type} [Inhabited α] (pre q : List α) (h : pre.length < 4611686018427387904) : (pre = [] ∧ lastO pre = none) ∨ ∃ y, lastO pre = some y ∧ 0 < pre.length ∧ inb (pre ++ q) (w64 ((pre.length : Nat) - 1)) ∧ ix (pre ++ q) (w64 ((pre.length : Nat) - 1)) = y := by
  rcases List.eq_nil_or_concat pre with rfl | ⟨p, y, rfl⟩
  · exact .inl ⟨rfl, rfl⟩
  · right
    rw [List.concat_eq_append] at h ⊢
    obtain ⟨h1, h2⟩ := ix_last p y q (by simp at h; omega)
    exact ⟨y, lastO_app p y, by simp, h1, h2⟩
theorem badF_cons (p : Option api_Finding) (x : api_Finding) (q : List api_Finding) : badF p (x :: q) = ((!c_right_E x || (match p with | some y => decide (x.Number ≤ y.Number) | none => false)) || badF (some x) q) := rfl
theorem badS_cons (p : Option api_Spent) (x : api_Spent) (q : List api_Spent) : badS p (x :: q) = ((!c_fact_E x || (match p with | some y => decide (aft x y ≤ 0) | none => false)) || badS (some x) q) := rfl
theorem c_l1 (Post : Int → Prop) (e : Unit → Prop) (l : List api_Finding) (hl : l.length ≤ 20) (h1 : badF none l = true → Post 66) (h0 : badF none l = false → e ()) : ∀ (q pre : List api_Finding), l = pre ++ q → (badF none l = badF (lastO pre) q) → forLI (c_chk_l1b l Post) e pre.length q ()
  | [], pre, _, hb => h0 (by rw [hb]; simp [badF])
  | x :: q, pre, hp, hb => by
    show c_chk_l1b l Post (forLI (c_chk_l1b l Post) e (pre.length + 1) q) pre.length x ()
    unfold c_chk_l1b
    have hpl : pre.length < 4611686018427387904 := by rw [hp] at hl; simp at hl; omega
    have hrec : (badF none l = badF (some x) q) → forLI (c_chk_l1b l Post) e (pre.length + 1) q () := fun hb => by
      have := c_l1 Post e l hl h1 h0 q (pre ++ [x]) (by rw [hp]; simp) (by rw [lastO_app]; exact hb)
      rwa [show (pre ++ [x]).length = pre.length + 1 by simp] at this
    rw [badF_cons] at hb
    rcases ahead pre (x :: q) hpl with ⟨rfl, hn⟩ | ⟨y, hn, h0', hi, hx⟩
    · rw [hn] at hb
      refine ⟨fun h => by simp at h, ?_⟩
      cases hr : c_right_E x with
      | false => rw [if_pos (by simp [hr])]; exact h1 (by rw [hb, hr]; simp)
      | true => rw [if_neg (by simp [hr])]; exact hrec (by rw [hb, hr]; simp)
    · rw [← hp] at hi hx
      rw [hn] at hb
      refine ⟨fun _ => hi, ?_⟩
      rw [hx]
      have hd : decide (0 < ((pre.length : Nat) : Int)) = true := by simp; omega
      rw [hd]
      cases hr : c_right_E x with
      | false => rw [if_pos (by simp [hr])]; exact h1 (by rw [hb, hr]; simp)
      | true =>
        by_cases hc : x.Number ≤ y.Number
        · rw [if_pos (by simp [hr, hc])]; exact h1 (by rw [hb, hr]; simp [hc])
        · rw [if_neg (by simp [hr, hc])]; exact hrec (by rw [hb, hr]; simp [hc])
theorem c_l2 (Post : Int → Prop) (e : Unit → Prop) (l : List api_Spent) (hl : l.length ≤ 64) (h1 : badS none l = true → Post 68) (h0 : badS none l = false → e ()) : ∀ (q pre : List api_Spent), l = pre ++ q → (badS none l = badS (lastO pre) q) → forLI (c_chk_l2b l Post) e pre.length q ()
  | [], pre, _, hb => h0 (by rw [hb]; simp [badS])
  | x :: q, pre, hp, hb => by
    show c_chk_l2b l Post (forLI (c_chk_l2b l Post) e (pre.length + 1) q) pre.length x ()
    unfold c_chk_l2b
    have hpl : pre.length < 4611686018427387904 := by rw [hp] at hl; simp at hl; omega
    have hrec : (badS none l = badS (some x) q) → forLI (c_chk_l2b l Post) e (pre.length + 1) q () := fun hb => by
      have := c_l2 Post e l hl h1 h0 q (pre ++ [x]) (by rw [hp]; simp) (by rw [lastO_app]; exact hb)
      rwa [show (pre ++ [x]).length = pre.length + 1 by simp] at this
    rw [badS_cons] at hb
    rcases ahead pre (x :: q) hpl with ⟨rfl, hn⟩ | ⟨y, hn, h0', hi, hx⟩
    · rw [hn] at hb
      refine ⟨fun h => by simp at h, ?_⟩
      cases hr : c_fact_E x with
      | false => rw [if_pos (by simp [hr])]; exact h1 (by rw [hb, hr]; simp)
      | true => rw [if_neg (by simp [hr])]; exact hrec (by rw [hb, hr]; simp)
    · rw [← hp] at hi hx
      rw [hn] at hb
      refine ⟨fun _ => hi, ?_⟩
      rw [hx]
      have hd : decide (0 < ((pre.length : Nat) : Int)) = true := by simp; omega
      rw [hd]
      cases hr : c_fact_E x with
      | false => rw [if_pos (by simp [hr])]; exact h1 (by rw [hb, hr]; simp)
      | true =>
        by_cases hc : aft x y ≤ 0
        · rw [if_pos (by simp [hr, hc])]; exact h1 (by rw [hb, hr]; simp [hc])
        · rw [if_neg (by simp [hr, hc])]; exact hrec (by rw [hb, hr]; simp [hc])
theorem c_chk_s (l : List api_Finding) (s : List api_Spent) (Post : Int → Prop) (h : Post (chkC l s)) : c_chk_W l s Post := by
  unfold c_chk_W
  unfold chkC at h
  split
  · rename_i hc
    rw [if_pos (by simp at hc; omega)] at h; exact h
  · rename_i hc
    have hl : l.length ≤ 20 := by simp at hc; omega
    rw [if_neg (by omega)] at h
    refine c_l1 Post _ l hl (fun hb => by rw [if_pos hb] at h; exact h) (fun hb => ?_) l [] rfl rfl
    rw [if_neg (by rw [hb]; simp)] at h
    unfold c_chk_l1e
    split
    · rename_i hc
      rw [if_pos (by simp at hc; omega)] at h; exact h
    · rename_i hc
      have hl : s.length ≤ 64 := by simp at hc; omega
      rw [if_neg (by omega)] at h
      exact c_l2 Post _ s hl (fun hb => by rw [if_pos hb] at h; exact h) (fun hb => by rw [if_neg (by rw [hb]; simp)] at h; exact h) s [] rfl rfl
theorem bc_chk (l : List api_Finding) (s : List api_Spent) : FC Try.prog 22 [.sl 5 (l.map api_Finding.av), .sl 3 (s.map api_Spent.av)] (iD (chkC l s)) :=
  FC.of1 (enc := fun y : Int => iD y) (c_chk_w l s _ (c_chk_s l s (· = chkC l s) rfl))
/-! ### of the reference -/
theorem right_not (x : api_Finding) : c_right_E x = !((((((((decide (x.Number < 1) || decide (1125899906842624 < x.Number)) || decide (x.Schemes < 1)) || decide (65536 ≤ x.Schemes)) || decide (x.From < 0)) || decide (x.Until < x.From)) || decide (100 < x.Until)) || decide (x.Mille < 1)) || decide (1000 < x.Mille)) := by
  unfold c_right_E
  rw [Bool.eq_iff_iff]
  simp
theorem fact_not (x : api_Spent) : c_fact_E x = !((((decide (x.Year < 0) || decide (100 < x.Year)) || decide (x.Scheme < 0)) || decide (15 < x.Scheme)) || (!(r32_Money_E x.Amount))) := by
  unfold c_fact_E r32_Money_E
  rw [Bool.eq_iff_iff]
  simp
  omega
theorem r_l1 (Post : Int → Prop) (e : Unit → Prop) (l : List api_Finding) (hl : l.length ≤ 20) (h1 : badF none l = true → Post 66) (h0 : badF none l = false → e ()) : ∀ (q pre : List api_Finding), l = pre ++ q → (badF none l = badF (lastO pre) q) → forLI (r_chk_l1b l Post) e pre.length q ()
  | [], pre, _, hb => h0 (by rw [hb]; simp [badF])
  | x :: q, pre, hp, hb => by
    show r_chk_l1b l Post (forLI (r_chk_l1b l Post) e (pre.length + 1) q) pre.length x ()
    unfold r_chk_l1b
    have hpl : pre.length < 4611686018427387904 := by rw [hp] at hl; simp at hl; omega
    have hrec : (badF none l = badF (some x) q) → forLI (r_chk_l1b l Post) e (pre.length + 1) q () := fun hb => by
      have := r_l1 Post e l hl h1 h0 q (pre ++ [x]) (by rw [hp]; simp) (by rw [lastO_app]; exact hb)
      rwa [show (pre ++ [x]).length = pre.length + 1 by simp] at this
    rw [badF_cons] at hb
    intro b1 e1
    have hr := right_not x
    rw [← e1] at hr
    generalize hz : (((b1 || decide (100 < x.Until)) || decide (x.Mille < 1)) || decide (1000 < x.Mille)) = z at hr ⊢
    rcases ahead pre (x :: q) hpl with ⟨rfl, hn⟩ | ⟨y, hn, h0', hi, hx⟩
    · rw [hn] at hb
      refine ⟨fun h => by simp at h, fun b2 e2 => ?_⟩
      subst e2
      cases z with
      | true => rw [if_pos (by simp)]; exact h1 (by rw [hb, hr]; simp)
      | false => rw [if_neg (by simp)]; exact hrec (by rw [hb, hr]; simp)
    · rw [← hp] at hi hx
      rw [hn] at hb
      refine ⟨fun _ => hi, fun b2 e2 => ?_⟩
      rw [hx] at e2
      have hd : decide (0 < ((pre.length : Nat) : Int)) = true := by simp; omega
      rw [hd] at e2
      subst e2
      cases z with
      | true => rw [if_pos (by simp)]; exact h1 (by rw [hb, hr]; simp)
      | false =>
        by_cases hc : x.Number ≤ y.Number
        · rw [if_pos (by simp [hc])]; exact h1 (by rw [hb, hr]; simp [hc])
        · rw [if_neg (by simp [hc])]; exact hrec (by rw [hb, hr]; simp [hc])
theorem r_l2 (Post : Int → Prop) (e : Unit → Prop) (l : List api_Spent) (hl : l.length ≤ 64) (h1 : badS none l = true → Post 68) (h0 : badS none l = false → e ()) : ∀ (q pre : List api_Spent), l = pre ++ q → (badS none l = badS (lastO pre) q) → forLI (r_chk_l2b l Post) e pre.length q ()
  | [], pre, _, hb => h0 (by rw [hb]; simp [badS])
  | x :: q, pre, hp, hb => by
    show r_chk_l2b l Post (forLI (r_chk_l2b l Post) e (pre.length + 1) q) pre.length x ()
    unfold r_chk_l2b
    have hpl : pre.length < 4611686018427387904 := by rw [hp] at hl; simp at hl; omega
    have hrec : (badS none l = badS (some x) q) → forLI (r_chk_l2b l Post) e (pre.length + 1) q () := fun hb => by
      have := r_l2 Post e l hl h1 h0 q (pre ++ [x]) (by rw [hp]; simp) (by rw [lastO_app]; exact hb)
      rwa [show (pre ++ [x]).length = pre.length + 1 by simp] at this
    rw [badS_cons] at hb
    have hr := fact_not x
    generalize ((((decide (x.Year < 0) || decide (100 < x.Year)) || decide (x.Scheme < 0)) || decide (15 < x.Scheme)) || (!(r32_Money_E x.Amount))) = z at hr ⊢
    cases z with
    | true => rw [if_pos (by simp)]; exact h1 (by rw [hb, hr]; simp)
    | false =>
      simp only [Bool.false_eq_true, if_false]
      rcases ahead pre (x :: q) hpl with ⟨rfl, hn⟩ | ⟨y, hn, h0', hi, hx⟩
      · rw [hn] at hb
        refine ⟨fun h => by simp at h, fun h => by simp at h, fun h => by simp at h, fun b3 e3 => ?_⟩
        rw [if_neg (by simp)]; exact hrec (by rw [hb, hr]; simp)
      · rw [← hp] at hi hx
        rw [hn] at hb
        refine ⟨fun _ => hi, fun _ => hi, fun _ => hi, fun b3 e3 => ?_⟩
        rw [hx] at e3
        have hd : decide (0 < ((pre.length : Nat) : Int)) = true := by simp; omega
        rw [hd]
        have hb3 : b3 = decide (aft x y ≤ 0) := by
          rw [e3, Bool.eq_iff_iff]
          simp [aft_le]
        by_cases hc : aft x y ≤ 0
        · rw [if_pos (by simp [hb3, hc])]; exact h1 (by rw [hb, hr]; simp [hc])
        · rw [if_neg (by simp [hb3, hc])]; exact hrec (by rw [hb, hr]; simp [hc])
theorem r_chk_s (l : List api_Finding) (s : List api_Spent) (Post : Int → Prop) (h : Post (chkC l s)) : r_chk_W l s Post := by
  unfold r_chk_W
  unfold chkC at h
  split
  · rename_i hc
    rw [if_pos (by simp at hc; omega)] at h; exact h
  · rename_i hc
    have hl : l.length ≤ 20 := by simp at hc; omega
    rw [if_neg (by omega)] at h
    refine r_l1 Post _ l hl (fun hb => by rw [if_pos hb] at h; exact h) (fun hb => ?_) l [] rfl rfl
    rw [if_neg (by rw [hb]; simp)] at h
    unfold r_chk_l1e
    split
    · rename_i hc
      rw [if_pos (by simp at hc; omega)] at h; exact h
    · rename_i hc
      have hl : s.length ≤ 64 := by simp at hc; omega
      rw [if_neg (by omega)] at h
      exact r_l2 Post _ s hl (fun hb => by rw [if_pos hb] at h; exact h) (fun hb => by rw [if_neg (by rw [hb]; simp)] at h; exact h) s [] rfl rfl
theorem br_chk (l : List api_Finding) (s : List api_Spent) : FC Try.prog 23 [.sl 5 (l.map api_Finding.av), .sl 3 (s.map api_Spent.av)] (iD (chkC l s)) :=
  FC.of1 (enc := fun y : Int => iD y) (r_chk_w l s _ (r_chk_s l s (· = chkC l s) rfl))
/-! ### what passed -/
def FdOK (x : api_Finding) : Prop := 1 ≤ x.Number ∧ 1 ≤ x.Schemes ∧ x.Schemes < 65536 ∧ 0 ≤ x.From ∧ x.From ≤ x.Until ∧ x.Until ≤ 100 ∧ 1 ≤ x.Mille ∧ x.Mille ≤ 1000
def SpOK (x : api_Spent) : Prop := 0 ≤ x.Year ∧ x.Year ≤ 100 ∧ 0 ≤ x.Scheme ∧ x.Scheme ≤ 15 ∧ 0 ≤ x.Amount ∧ x.Amount ≤ 68719476736
theorem badF_ok : ∀ (l : List api_Finding) (p : Option api_Finding), badF p l = false → ∀ x ∈ l, FdOK x
  | [], _, _, x, h => by cases h
  | y :: q, p, hb, x, h => by
    unfold badF at hb
    simp only [Bool.or_eq_false_iff] at hb
    rcases List.mem_cons.1 h with rfl | h
    · have := hb.1.1
      unfold c_right_E at this
      simp at this
      unfold FdOK
      omega
    · exact badF_ok q (some y) hb.2 x h
theorem badS_ok : ∀ (l : List api_Spent) (p : Option api_Spent), badS p l = false → ∀ x ∈ l, SpOK x
  | [], _, _, x, h => by cases h
  | y :: q, p, hb, x, h => by
    unfold badS at hb
    simp only [Bool.or_eq_false_iff] at hb
    rcases List.mem_cons.1 h with rfl | h
    · have := hb.1.1
      unfold c_fact_E at this
      simp at this
      unfold SpOK
      omega
    · exact badS_ok q (some y) hb.2 x h
theorem chkC_ok {l : List api_Finding} {s : List api_Spent} (h : chkC l s = 0) : l.length ≤ 20 ∧ s.length ≤ 64 ∧ badF none l = false ∧ badS none s = false := by
  unfold chkC at h
  split at h
  · omega
  · split at h
    · omega
    · split at h
      · omega
      · split at h
        · omega
        · rename_i h1 h2 h3 h4
          exact ⟨by omega, by omega, by simpa using h2, by simpa using h4⟩
end Clr
end Eng
end Go.Proofs.Ytmmekdkllccmdaa
