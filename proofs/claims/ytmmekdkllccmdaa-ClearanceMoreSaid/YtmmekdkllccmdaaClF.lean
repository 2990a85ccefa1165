/-
  Chapter 41: Named, Extrapolated, Flat; what the generators give.
-/
import Derived.Test.YtmmekdkllccmdaaClE
import Derived.Test.YtmmekdkllccmdaaClrMath
namespace Go.Proofs.Ytmmekdkllccmdaa
open Go.RowKit Go.Sort
set_option linter.unusedVariables false
namespace Eng
namespace Clr
open Est (upV err rat)
/-! ### Named -/
def namE (l : List api_Finding) (s : List api_Spent) (k : Int) : Int := if chkC l s = 0 then (if (decide (k < 0) || decide (((s.length : Nat) : Int) ≤ k)) = true then 2 else 0) else chkC l s
def namS (l : List api_Finding) (s : List api_Spent) (k : Int) : List Int := if chkC l s = 0 then (if (decide (k < 0) || decide (((s.length : Nat) : Int) ≤ k)) = true then [] else (l.filter (fun f => conB f (ix s k))).map (·.Number)) else []
theorem nam_in {s : List api_Spent} {k : Int} (h : ¬ (decide (k < 0) || decide (((s.length : Nat) : Int) ≤ k)) = true) : inb s k ∧ ix s k ∈ s := by
  have hi : inb s k := by simp at h; unfold inb; omega
  exact ⟨hi, List.mem_of_getElem? (ix_get hi).1⟩
theorem c_namloop (Post : List Int → Int → Prop) : ∀ (q : List api_Finding) (v : List Int), v.length + q.length ≤ 20 → Post (v ++ q.map (·.Number)) 0 → forL (c_nam_l1b) (c_nam_l1e Post) q v
  | [], v, _, h => by
    have h : Post (v ++ []) 0 := h
    rw [List.append_nil] at h
    exact h
  | x :: q, v, hl, h => by
    show c_nam_l1b (forL (c_nam_l1b) (c_nam_l1e Post) q) x v
    unfold c_nam_l1b
    simp only [List.length_cons] at hl
    refine ⟨by unfold apOK; omega, c_namloop Post q _ (by simp; omega) ?_⟩
    rw [List.append_assoc]; exact h
theorem r_namloop (s : List api_Spent) (k : Int) (hi : inb s k) (hk : 0 ≤ (ix s k).Scheme ∧ (ix s k).Scheme ≤ 15) (Post : List Int → Int → Prop) : ∀ (q : List api_Finding) (v : List Int), v.length + q.length ≤ 20 → Post (v ++ (q.filter (fun f => conB f (ix s k))).map (·.Number)) 0 → forL (r_nam_l1b s k) (r_nam_l1e Post) q v
  | [], v, _, h => by
    have h : Post (v ++ []) 0 := h
    rw [List.append_nil] at h
    exact h
  | x :: q, v, hl, h => by
    show r_nam_l1b s k (forL (r_nam_l1b s k) (r_nam_l1e Post) q) x v
    unfold r_nam_l1b
    simp only [List.length_cons] at hl
    refine ⟨hi, hk, ?_⟩
    by_cases hc : conB x (ix s k) = true
    · rw [if_pos hc]
      rw [List.filter_cons, if_pos hc, List.map_cons] at h
      refine ⟨by unfold apOK; omega, r_namloop s k hi hk Post q _ (by simp; omega) ?_⟩
      rw [List.append_assoc]; exact h
    · rw [if_neg hc]
      rw [List.filter_cons, if_neg hc] at h
      exact r_namloop s k hi hk Post q v (by omega) h
theorem bc_nam (l : List api_Finding) (s : List api_Spent) (k : Int) : FC Try.prog 26 [.sl 5 (l.map api_Finding.av), .sl 3 (s.map api_Spent.av), iD k] (.tup [.sl 1 ((namS l s k).map avI), iD (namE l s k)]) := by
  refine FC.of2 (e1 := fun y : List Int => .sl 1 (y.map avI)) (e2 := fun y : Int => iD y) (c_nam_w l s k _ ?_)
  unfold c_nam_W namS namE
  by_cases hc : chkC l s = 0
  · rw [if_neg (by simp [hc]), if_pos hc, if_pos hc]
    obtain ⟨h1, h2, h3, h4⟩ := chkC_ok hc
    by_cases hk : (decide (k < 0) || decide (((s.length : Nat) : Int) ≤ k)) = true
    · rw [if_pos hk, if_pos hk, if_pos hk]; exact ⟨rfl, rfl⟩
    · rw [if_neg hk, if_neg hk, if_neg hk]
      obtain ⟨i1, i2⟩ := nam_in hk
      have := badS_ok s none h4 _ i2
      unfold SpOK at this
      refine ⟨i1, ⟨by omega, by omega, h1⟩, c_namloop _ _ [] ?_ ⟨rfl, rfl⟩⟩
      have := List.length_filter_le (fun f => conB f (ix s k)) l
      simp; omega
  · rw [if_pos (by simp [hc]), if_neg hc, if_neg hc]; exact ⟨rfl, rfl⟩
theorem br_nam (l : List api_Finding) (s : List api_Spent) (k : Int) : FC Try.prog 27 [.sl 5 (l.map api_Finding.av), .sl 3 (s.map api_Spent.av), iD k] (.tup [.sl 1 ((namS l s k).map avI), iD (namE l s k)]) := by
  refine FC.of2 (e1 := fun y : List Int => .sl 1 (y.map avI)) (e2 := fun y : Int => iD y) (r_nam_w l s k _ ?_)
  unfold r_nam_W namS namE
  by_cases hc : chkC l s = 0
  · rw [if_neg (by simp [hc]), if_pos hc, if_pos hc]
    obtain ⟨h1, h2, h3, h4⟩ := chkC_ok hc
    by_cases hk : (decide (k < 0) || decide (((s.length : Nat) : Int) ≤ k)) = true
    · rw [if_pos hk, if_pos hk, if_pos hk]; exact ⟨rfl, rfl⟩
    · rw [if_neg hk, if_neg hk, if_neg hk]
      obtain ⟨i1, i2⟩ := nam_in hk
      have := badS_ok s none h4 _ i2
      unfold SpOK at this
      exact r_namloop s k i1 (by omega) _ l [] (by simp; exact h1) ⟨rfl, rfl⟩
  · rw [if_pos (by simp [hc]), if_neg hc, if_neg hc]; exact ⟨rfl, rfl⟩
/-! ### Extrapolated, Flat -/
def extE (a b c d : Int) : Int := err a b c d
def extV (a b c d : Int) : Int := if err a b c d = 0 then rat a (upV a b c d) else 0
theorem bc_ext (a b c d : Int) : FC Try.prog 28 [iD a, iD b, iD c, iD d] (.tup [iD (extV a b c d), iD (extE a b c d)]) := by
  refine FC.of2 (e1 := fun y : Int => iD y) (e2 := fun y : Int => iD y) (c_ext_w a b c d _ ?_)
  unfold c_ext_W extV extE
  by_cases h : err a b c d = 0
  · rw [if_neg (by simp [h]), if_pos h]; exact ⟨rfl, h.symm⟩
  · rw [if_pos (by simp [h]), if_neg h]; exact ⟨rfl, rfl⟩
theorem br_ext (a b c d : Int) : FC Try.prog 29 [iD a, iD b, iD c, iD d] (.tup [iD (extV a b c d), iD (extE a b c d)]) := by
  refine FC.of2 (e1 := fun y : Int => iD y) (e2 := fun y : Int => iD y) (r_ext_w a b c d _ ?_)
  unfold r_ext_W extV extE
  by_cases h : err a b c d = 0
  · rw [if_neg (by simp [h]), if_pos h]; exact ⟨rfl, h.symm⟩
  · rw [if_pos (by simp [h]), if_neg h]; exact ⟨rfl, rfl⟩
def flatI (k : Int) : Int := if (decide (k < 0) || decide (5 < k)) = true then 0 else ix ([0, 20, 50, 100, 250, 1000] : List Int) k
theorem br_flat (k : Int) : FC Try.prog 31 [iD k] (iD (flatI k)) := by
  refine FC.of1 (enc := fun y : Int => iD y) (r_flat_w k _ ?_)
  unfold r_flat_W flatI
  split
  · rfl
  · rename_i h
    refine ⟨?_, rfl⟩
    simp at h
    unfold inb
    simp
    omega
theorem flat_calls (k : Int) (w : World) : Calls Try.prog 30 #[.int .i64 k] w fun e w' => e = .returned (.int .i64 (flatI k)) ∧ Below w.heap.size w w' := by
  have hk : k < 0 ∨ 5 < k ∨ k = 0 ∨ k = 1 ∨ k = 2 ∨ k = 3 ∨ k = 4 ∨ k = 5 := by omega
  rcases hk with h | h | rfl | rfl | rfl | rfl | rfl | rfl
  · rw [show flatI k = 0 by unfold flatI; rw [if_pos (by simp; omega)]]
    go_enter Try.func30, Try.ntmps30
    go_wp2
    go_ret
    exact ⟨rfl, (Below.refl _ _).alloc (Nat.le_refl _) _⟩
  · rw [show flatI k = 0 by unfold flatI; rw [if_pos (by simp; omega)]]
    have h1 : ¬ k < 0 := by omega
    have h2 : 6 ≤ k := by omega
    go_enter Try.func30, Try.ntmps30
    go_wp2
    go_ret
    exact ⟨rfl, (Below.refl _ _).alloc (Nat.le_refl _) _⟩
  all_goals
    go_enter Try.func30, Try.ntmps30
    go_wp2
    go_ret
    exact ⟨rfl, (Below.refl _ _).alloc (Nat.le_refl _) _⟩
theorem bc_flat (k : Int) : FC Try.prog 30 [iD k] (iD (flatI k)) := FC.ofCalls (vs := [.int .i64 k]) (fun _ _ => .v _) (fun w => flat_calls k w)
/-! ### what passes Check -/
def SLt (a b : api_Spent) : Prop := a.Year < b.Year ∨ (a.Year = b.Year ∧ a.Scheme < b.Scheme)
theorem badF_iff : ∀ (l : List api_Finding) (p : Option api_Finding), badF p l = false ↔ (∀ x ∈ l, c_right_E x = true) ∧ (∀ x ∈ l, ∀ y, p = some y → y.Number < x.Number) ∧ l.Pairwise (fun a b => a.Number < b.Number)
  | [], p => by simp [badF]
  | x :: q, p => by
    rw [badF_cons, List.pairwise_cons]
    simp only [Bool.or_eq_false_iff, Bool.not_eq_false', badF_iff q (some x), List.mem_cons, forall_eq_or_imp, Option.some.injEq]
    constructor
    · rintro ⟨⟨h1, h2⟩, h3, h4, h5⟩
      have h4' : ∀ y ∈ q, x.Number < y.Number := fun y hy => h4 y hy x rfl
      have h2' : ∀ y, p = some y → y.Number < x.Number := fun y hy => by subst hy; simpa using h2
      exact ⟨⟨h1, h3⟩, ⟨h2', fun z hz y hy => by have := h2' y hy; have := h4' z hz; omega⟩, h4', h5⟩
    · rintro ⟨⟨h1, h3⟩, ⟨h2, _⟩, h4, h5⟩
      refine ⟨⟨h1, ?_⟩, h3, fun y hy z hz => hz ▸ h4 y hy, h5⟩
      cases p with
      | none => rfl
      | some y => simpa using h2 y rfl
theorem slt_trans {a b c : api_Spent} (h : SLt a b) (k : SLt b c) : SLt a c := by unfold SLt at *; omega
theorem aft_no (x y : api_Spent) : decide (aft x y ≤ 0) = false ↔ SLt y x := by
  rw [decide_eq_false_iff_not, aft_le]
  unfold SLt
  omega
theorem badS_iff : ∀ (l : List api_Spent) (p : Option api_Spent), badS p l = false ↔ (∀ x ∈ l, c_fact_E x = true) ∧ (∀ x ∈ l, ∀ y, p = some y → SLt y x) ∧ l.Pairwise SLt
  | [], p => by simp [badS]
  | x :: q, p => by
    rw [badS_cons, List.pairwise_cons]
    simp only [Bool.or_eq_false_iff, Bool.not_eq_false', badS_iff q (some x), List.mem_cons, forall_eq_or_imp, Option.some.injEq]
    constructor
    · rintro ⟨⟨h1, h2⟩, h3, h4, h5⟩
      have h4' : ∀ y ∈ q, SLt x y := fun y hy => h4 y hy x rfl
      have h2' : ∀ y, p = some y → SLt y x := fun y hy => by subst hy; exact (aft_no x y).1 h2
      exact ⟨⟨h1, h3⟩, ⟨h2', fun z hz y hy => slt_trans (h2' y hy) (h4' z hz)⟩, h4', h5⟩
    · rintro ⟨⟨h1, h3⟩, ⟨h2, _⟩, h4, h5⟩
      refine ⟨⟨h1, ?_⟩, h3, fun y hy z hz => hz ▸ h4 y hy, h5⟩
      cases p with
      | none => rfl
      | some y => exact (aft_no x y).2 (h2 y rfl)
theorem chkC_zero {l : List api_Finding} {s : List api_Spent} (h1 : l.length ≤ 20) (h2 : s.length ≤ 64) (h3 : badF none l = false) (h4 : badS none s = false) : chkC l s = 0 := by
  unfold chkC
  rw [if_neg (by omega), if_neg (by rw [h3]; simp), if_neg (by omega), if_neg (by rw [h4]; simp)]
/-! ### the generators -/
structure FGood (l : List api_Finding) : Prop where
  len : l.length ≤ 4
  ok : badF none l = false
  num : ∀ x ∈ l, x.Number ≤ 12
structure SGood (l : List api_Spent) : Prop where
  len : l.length ≤ 24
  ok : badS none l = false
theorem fin_loop (Post : List api_Finding → Prop) (h : ∀ l, FGood l → Post l) : ∀ (k : Nat) (num n : Int) (l : List api_Finding), 0 ≤ n → n ≤ k → l.length + k ≤ 4 → 0 ≤ num → num ≤ 3 * l.length → (∀ x ∈ l, c_right_E x = true ∧ x.Number ≤ num) → l.Pairwise (fun a b => a.Number < b.Number) → forF (s_fin_l1b Post) (k + 1) (num, n, l)
  | k, num, n, l, h0, hk, hl, hn, hn2, hr, hp => by
    show s_fin_l1b Post (forF (s_fin_l1b Post) k) (num, n, l)
    unfold s_fin_l1b
    by_cases hc : 0 < n
    · rw [if_pos (by simpa using hc)]
      intro z2 a1 a2 z3 b1 b2 z4 c1 c2 z5 d1 d2 z6 e1 e2
      obtain ⟨j, rfl⟩ : ∃ j, k = j + 1 := ⟨k - 1, by omega⟩
      refine ⟨by show apOK 40 l.length 1; unfold apOK; omega, ?_⟩
      simp only
      rw [w64_eq (z := num + z2) (by omega) (by omega), w64_eq (z := n - 1) (by omega) (by omega), w64_eq (z := z3 + z5) (by omega) (by omega)]
      refine fin_loop Post h j (num + z2) (n - 1) _ (by omega) (by omega) (by simp; omega) (by omega) (by simp; omega) (fun x hx => ?_) ?_
      · rcases List.mem_append.1 hx with hx | hx
        · have := hr x hx
          exact ⟨this.1, by omega⟩
        · simp at hx
          subst hx
          refine ⟨?_, by simp⟩
          unfold c_right_E
          simp
          omega
      · rw [List.pairwise_append]
        refine ⟨hp, by simp, fun x hx y hy => ?_⟩
        simp at hy
        subst hy
        have := (hr x hx).2
        show x.Number < num + z2
        omega
    · rw [if_neg (by simpa using hc)]
      refine h l ⟨by omega, (badF_iff l none).2 ⟨fun x hx => (hr x hx).1, fun x hx y hy => (by cases hy), hp⟩, fun x hx => by have := (hr x hx).2; omega⟩
  termination_by k => k
theorem b_fin : ACalls Try.prog 17 true false [.tp] (fun r => ∃ l : List api_Finding, r = .sl 5 (l.map api_Finding.av) ∧ FGood l) := by
  refine s_fin_w _ ?_
  unfold s_fin_W
  intro z h1 h2
  exact ⟨5, fin_loop _ (fun l h => h) 4 0 z [] (by omega) (by omega) (by simp) (by omega) (by simp) (fun x hx => by cases hx) List.Pairwise.nil⟩
structure SIn (y s : Int) (l : List api_Spent) : Prop where
  all : ∀ x ∈ l, c_fact_E x = true ∧ (x.Year < y ∨ (x.Year = y ∧ x.Scheme < s))
  pw : l.Pairwise SLt
theorem spe_in (y : Int) (hy : 0 ≤ y) (hy2 : y < 6) (v1 : Int × List api_Spent) (hv : v1.1 = y) (rec1 : Int × List api_Spent → Prop) (m : Nat) (h : ∀ l, SIn (y + 1) 0 l → l.length ≤ m → rec1 (y + 1, l)) : ∀ (k : Nat) (s : Int) (l : List api_Spent), 0 ≤ s → s + k = 4 → l.length + k ≤ m → m ≤ 24 → SIn y s l → forF (s_spe_l2b v1 rec1) (k + 1) (s, l)
  | k, s, l, h0, hk, hl, hm, hs => by
    show s_spe_l2b v1 rec1 (forF (s_spe_l2b v1 rec1) k) (s, l)
    obtain ⟨R, hR⟩ : ∃ R, R = forF (s_spe_l2b v1 rec1) k := ⟨_, rfl⟩
    rw [← hR]
    unfold s_spe_l2b
    rw [hv]
    by_cases hc : s < 4
    · rw [if_pos (by simpa using hc)]
      obtain ⟨j, rfl⟩ : ∃ j, k = j + 1 := ⟨k - 1, by omega⟩
      intro z1
      simp only
      rw [w64_eq (z := s + 1) (by omega) (by omega)]
      split
      · intro z2 a1 a2 z3 b1 b2
        refine ⟨by show apOK 24 l.length 1; unfold apOK; omega, ?_⟩
        have c1 : 0 ≤ z2 * z3 := Int.mul_nonneg a1 b1
        have c2 : z2 * z3 ≤ 2000 * 50 := Int.mul_le_mul (by omega) (by omega) b1 (by omega)
        rw [w64_eq (z := z2 * z3) (by omega) (by omega)]
        rw [hR]
        refine spe_in y hy hy2 v1 hv rec1 m h j (s + 1) _ (by omega) (by omega) (by simp; omega) hm ⟨fun x hx => ?_, ?_⟩
        · rcases List.mem_append.1 hx with hx | hx
          · have := hs.all x hx
            exact ⟨this.1, by omega⟩
          · simp at hx
            subst hx
            refine ⟨?_, by simp; omega⟩
            unfold c_fact_E
            simp
            omega
        · rw [List.pairwise_append]
          refine ⟨hs.pw, by simp, fun x hx z hz => ?_⟩
          simp at hz
          subst hz
          have := (hs.all x hx).2
          unfold SLt
          simp only
          omega
      · rw [hR]
        exact spe_in y hy hy2 v1 hv rec1 m h j (s + 1) l (by omega) (by omega) (by omega) hm ⟨fun x hx => by have := hs.all x hx; exact ⟨this.1, by omega⟩, hs.pw⟩
    · rw [if_neg (by simpa using hc)]
      rw [w64_eq (z := y + 1) (by omega) (by omega)]
      exact h l ⟨fun x hx => by have := hs.all x hx; unfold c_fact_E at this; refine ⟨(hs.all x hx).1, by omega⟩, hs.pw⟩ (by omega)
  termination_by k => k
theorem spe_out (Post : List api_Spent → Prop) (h : ∀ l, SGood l → Post l) : ∀ (k : Nat) (y : Int) (l : List api_Spent), 0 ≤ y → y + k = 6 → l.length + 4 * k ≤ 24 → SIn y 0 l → forF (s_spe_l1b Post) (k + 1) (y, l)
  | k, y, l, h0, hk, hl, hs => by
    show s_spe_l1b Post (forF (s_spe_l1b Post) k) (y, l)
    unfold s_spe_l1b
    by_cases hc : y < 6
    · rw [if_pos (by simpa using hc)]
      obtain ⟨j, rfl⟩ : ∃ j, k = j + 1 := ⟨k - 1, by omega⟩
      exact ⟨5, spe_in y h0 hc (y, l) rfl _ (l.length + 4) (fun l' hs' hl' => spe_out Post h j (y + 1) l' (by omega) (by omega) (by omega) hs') 4 0 l (by omega) (by omega) (by omega) (by omega) hs⟩
    · rw [if_neg (by simpa using hc)]
      exact h l ⟨by omega, (badS_iff l none).2 ⟨fun x hx => (hs.all x hx).1, fun x hx y hy => (by cases hy), hs.pw⟩⟩
  termination_by k => k
theorem b_spe : ACalls Try.prog 18 true false [.tp] (fun r => ∃ l : List api_Spent, r = .sl 3 (l.map api_Spent.av) ∧ SGood l) := by
  refine s_spe_w _ ?_
  unfold s_spe_W
  exact ⟨7, spe_out _ (fun l h => h) 6 0 [] (by omega) (by omega) (by simp) ⟨fun x hx => (by cases hx), List.Pairwise.nil⟩⟩
end Clr
end Eng
end Go.Proofs.Ytmmekdkllccmdaa
