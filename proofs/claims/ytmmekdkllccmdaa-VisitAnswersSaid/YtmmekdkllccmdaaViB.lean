/-
  Chapter 27: Lines of the reference: what the walk's predicate says.
-/
import Derived.Test.YtmmekdkllccmdaaViA
namespace Go.Proofs.Ytmmekdkllccmdaa
open Go.RowKit
set_option linter.unusedVariables false
namespace Eng
namespace Vis
/-! ### an ascending list with a number more -/
theorem putA_app (n : Int) : ∀ (l : List Int) (p : List Int × Bool), l.foldl (putStep n) p = (p.1 ++ (l.foldl (putStep n) ([], p.2)).1, (l.foldl (putStep n) ([], p.2)).2)
  | [], p => by simp
  | x :: r, p => by
    simp only [List.foldl_cons]
    rw [putA_app n r (putStep n p x), putA_app n r (putStep n ([], p.2) x)]
    unfold putStep
    by_cases h : x > n <;> cases hp : p.2 <;> simp [h]
theorem putA_done (n : Int) : ∀ (l : List Int), l.foldl (putStep n) ([], true) = (l, true)
  | [] => rfl
  | x :: r => by
    simp only [List.foldl_cons]
    rw [putA_app]
    have : putStep n ([], true) x = ([x], true) := by unfold putStep; simp
    rw [this, putA_done n r]; rfl
def putF (p : List Int × Bool) (n : Int) : List Int := if !p.2 then p.1 ++ [n] else p.1
theorem putS_def (l : List Int) (n : Int) : putS l n = putF (l.foldl (putStep n) ([], false)) n := rfl
theorem putS_nil (n : Int) : putS [] n = [n] := rfl
theorem putS_cons (x : Int) (r : List Int) (n : Int) : putS (x :: r) n = if n < x then n :: x :: r else x :: putS r n := by
  rw [putS_def, putS_def, List.foldl_cons]
  by_cases h : n < x
  · have : putStep n ([], false) x = ([n, x], true) := by unfold putStep; simp [h]
    rw [this, putA_app, putA_done, if_pos h]; rfl
  · have : putStep n ([], false) x = ([x], false) := by unfold putStep; simp [h]
    rw [this, putA_app, if_neg h]
    cases hb : (List.foldl (putStep n) ([], false) r).2 <;> simp [hb, putF]
theorem putS_len (n : Int) : ∀ l : List Int, (putS l n).length = l.length + 1
  | [] => rfl
  | x :: r => by
    rw [putS_cons]
    split
    · simp
    · simp [putS_len n r]
theorem mem_putS (n y : Int) : ∀ l : List Int, y ∈ putS l n ↔ y = n ∨ y ∈ l
  | [] => by simp [putS_nil]
  | x :: r => by
    rw [putS_cons]
    split
    · simp
    · simp only [List.mem_cons, mem_putS n y r]
      constructor
      · rintro (h | h | h)
        · exact .inr (.inl h)
        · exact .inl h
        · exact .inr (.inr h)
      · rintro (h | h | h)
        · exact .inr (.inl h)
        · exact .inl h
        · exact .inr (.inr h)
theorem putS_lt (n : Int) : ∀ {l : List Int}, l.Pairwise (· < ·) → ¬ n ∈ l → (putS l n).Pairwise (· < ·)
  | [], _, _ => by rw [putS_nil]; simp
  | x :: r, h, hn => by
    rw [List.pairwise_cons] at h
    simp only [List.mem_cons, not_or] at hn
    rw [putS_cons]
    split
    · rename_i hlt
      rw [List.pairwise_cons, List.pairwise_cons]
      exact ⟨fun y hy => (List.mem_cons.1 hy).elim (fun e => e ▸ hlt) (fun hy => by have := h.1 y hy; omega), h.1, h.2⟩
    · rw [List.pairwise_cons]
      refine ⟨fun y hy => ?_, putS_lt n h.2 hn.2⟩
      rcases (mem_putS n y r).1 hy with rfl | hy
      · omega
      · exact h.1 y hy
theorem lt_ext : ∀ {l m : List Int}, l.Pairwise (· < ·) → m.Pairwise (· < ·) → (∀ y, y ∈ l ↔ y ∈ m) → l = m
  | [], [], _, _, _ => rfl
  | [], y :: m, _, _, h => absurd ((h y).2 (by simp)) (by simp)
  | x :: l, [], _, _, h => absurd ((h x).1 (by simp)) (by simp)
  | x :: l, y :: m, hl, hm, h => by
    rw [List.pairwise_cons] at hl hm
    have e : x = y := by
      rcases List.mem_cons.1 ((h x).1 (by simp)) with h1 | h1
      · exact h1
      · rcases List.mem_cons.1 ((h y).2 (by simp)) with h2 | h2
        · exact h2.symm
        · have := hl.1 y h2; have := hm.1 x h1; omega
    subst e
    rw [lt_ext hl.2 hm.2 fun z => ?_]
    constructor
    · intro hz
      rcases List.mem_cons.1 ((h z).1 (by simp [hz])) with h1 | h1
      · have := hl.1 z hz; omega
      · exact h1
    · intro hz
      rcases List.mem_cons.1 ((h z).2 (by simp [hz])) with h1 | h1
      · have := hm.1 z hz; omega
      · exact h1
/-! ### Compact of a sorted list -/
theorem keeps_ne {d : Array Int} {j : Nat} (h1 : 1 ≤ j) (h : Lib.keeps d j = true) : d[j]! ≠ d[j - 1]! := fun e => by
  have : ¬ d[j]! ≠ d[j - 1]! := fun h => h e
  unfold Lib.keeps at h
  simp [e] at h
  all_goals omega
theorem compactUpTo_lt (d : Array Int) (hs : ∀ i j, i < j → j < d.size → d[i]! ≤ d[j]!) : ∀ m, m ≤ d.size → (Lib.compactUpTo d m).Pairwise (· < ·) ∧ ∀ y ∈ Lib.compactUpTo d m, ∃ i, i < m ∧ y = d[i]!
  | 0, _ => ⟨by simp [Lib.compactUpTo], fun y hy => by simp [Lib.compactUpTo] at hy⟩
  | m + 1, h => by
    obtain ⟨h1, h2⟩ := compactUpTo_lt d hs m (by omega)
    rw [Lib.compactUpTo_succ]
    cases hk : Lib.keeps d m with
    | false => simp; exact ⟨h1, fun y hy => by obtain ⟨i, hi, e⟩ := h2 y hy; exact ⟨i, by omega, e⟩⟩
    | true =>
      simp only [if_true]
      refine ⟨?_, fun y hy => ?_⟩
      · rw [List.pairwise_append]
        refine ⟨h1, by simp, fun y hy z hz => ?_⟩
        simp at hz
        subst hz
        obtain ⟨i, hi, rfl⟩ := h2 y hy
        have hm : 1 ≤ m := by omega
        have hne := keeps_ne hm hk
        have a1 : d[m - 1]! ≤ d[m]! := hs (m - 1) m (by omega) (by omega)
        have a2 : d[i]! ≤ d[m - 1]! := by
          rcases Nat.lt_or_ge i (m - 1) with h | h
          · exact hs i (m - 1) h (by omega)
          · have : i = m - 1 := by omega
            rw [this]; exact Int.le_refl _
        omega
      · rcases List.mem_append.1 hy with hy | hy
        · obtain ⟨i, hi, e⟩ := h2 y hy; exact ⟨i, by omega, e⟩
        · simp at hy; exact ⟨m, by omega, hy⟩
theorem compact_lt {l : List Int} (h : l.Pairwise (· ≤ ·)) : (Lib.compact l).Pairwise (· < ·) := by
  unfold Lib.compact
  refine (compactUpTo_lt l.toArray (fun i j hij hj => ?_) _ (Nat.le_refl _)).1
  simp at hj
  rw [getElem!_pos l.toArray i (by simp; omega), getElem!_pos l.toArray j (by simpa using hj)]
  simpa using List.pairwise_iff_getElem.1 h i j (by omega) hj hij
theorem compactUpTo_sup' (d : Array Int) : ∀ (m j : Nat), j < m → d[j]! ∈ Lib.compactUpTo d m
  | 0, j, h => absurd h (Nat.not_lt_zero _)
  | m + 1, j, h => by
    rw [Lib.compactUpTo_succ]
    by_cases hj : j < m
    · exact List.mem_append_left _ (compactUpTo_sup' d m j hj)
    · have e : j = m := by omega
      subst e
      cases hk : Lib.keeps d j with
      | true => exact List.mem_append_right _ (by simp)
      | false =>
        have h1 : 1 ≤ j := by
          apply Nat.le_of_not_lt
          intro h0
          rw [Lib.keeps_lt_one d j (by omega)] at hk; cases hk
        have h2 : d[j]! = d[j - 1]! := Decidable.byContradiction fun hne => by rw [Lib.keeps_pos hne] at hk; cases hk
        rw [h2]
        exact List.mem_append_left _ (compactUpTo_sup' d j (j - 1) (by omega))
theorem mem_compact {l : List Int} {x : Int} : x ∈ Lib.compact l ↔ x ∈ l := by
  constructor
  · intro h
    unfold Lib.compact Lib.compactUpTo at h
    obtain ⟨j, hj, rfl⟩ := List.mem_map.1 h
    have hlt : j < l.length := List.mem_range.1 (List.mem_filter.1 hj).1
    simp [hlt]
  · intro h
    obtain ⟨j, hj, rfl⟩ := List.getElem_of_mem h
    have := compactUpTo_sup' l.toArray l.length j hj
    simpa [Lib.compact, hj] using this
theorem sort_le (l : List Int) : (l.mergeSort fun x y => decide (x ≤ y)).Pairwise (· ≤ ·) := by
  have := List.pairwise_mergeSort (le := fun x y : Int => decide (x ≤ y)) (fun a b c h1 h2 => by simp at *; omega) (fun a b => by simp; omega) l
  exact this.imp fun h => by simpa using h
/-! ### Lines -/
def linK (f : Int) (out : List Int) (x : api_Report) : List Int := if ((decide (x.Farm = f) && (!decide (x.Kind = 4))) && (!(decide (x.Line ∈ out)))) then putS out x.Line else out
theorem lines_loop (f : Int) (Post : List Int → Prop) : ∀ (q : List api_Report) (v : List Int), v.length + q.length ≤ 1000000 → Post (q.foldl (linK f) v) → forL (r27_Lines_l1b f) (r27_Lines_l1e Post) q v
  | [], v, _, h => h
  | x :: q, v, hl, h => by
    show r27_Lines_l1b f (forL (r27_Lines_l1b f) (r27_Lines_l1e Post) q) x v
    unfold r27_Lines_l1b
    simp only [List.length_cons] at hl
    simp only [List.foldl_cons] at h
    refine ⟨fun _ => by omega, ?_⟩
    unfold linK at h
    split
    · rename_i hc
      rw [if_pos hc] at h
      exact ⟨by omega, lines_loop f Post q _ (by rw [putS_len]; omega) h⟩
    · rename_i hc
      rw [if_neg hc] at h
      exact lines_loop f Post q v (by omega) h
theorem linK_lt (f : Int) : ∀ (q : List api_Report) (v : List Int), v.Pairwise (· < ·) → (q.foldl (linK f) v).Pairwise (· < ·) ∧ ∀ y, y ∈ q.foldl (linK f) v ↔ y ∈ v ∨ ∃ x ∈ q, x.Farm = f ∧ x.Kind ≠ 4 ∧ x.Line = y
  | [], v, h => ⟨h, fun y => by simp⟩
  | x :: q, v, h => by
    simp only [List.foldl_cons]
    by_cases hc : ((decide (x.Farm = f) && (!decide (x.Kind = 4))) && (!(decide (x.Line ∈ v)))) = true
    · have e : linK f v x = putS v x.Line := if_pos hc
      rw [e]
      simp at hc
      obtain ⟨h1, h2⟩ := linK_lt f q _ (putS_lt x.Line h hc.2)
      refine ⟨h1, fun y => ?_⟩
      rw [h2, mem_putS]
      constructor
      · rintro ((rfl | h) | ⟨z, hz, h⟩)
        · exact .inr ⟨x, by simp, hc.1.1, hc.1.2, rfl⟩
        · exact .inl h
        · exact .inr ⟨z, by simp [hz], h⟩
      · rintro (h | ⟨z, hz, h⟩)
        · exact .inl (.inr h)
        · rcases List.mem_cons.1 hz with rfl | hz
          · exact .inl (.inl h.2.2.symm)
          · exact .inr ⟨z, hz, h⟩
    · have e : linK f v x = v := if_neg hc
      rw [e]
      obtain ⟨h1, h2⟩ := linK_lt f q v h
      refine ⟨h1, fun y => ?_⟩
      rw [h2]
      simp at hc
      constructor
      · rintro (h | ⟨z, hz, h⟩)
        · exact .inl h
        · exact .inr ⟨z, by simp [hz], h⟩
      · rintro (h | ⟨z, hz, h⟩)
        · exact .inl h
        · rcases List.mem_cons.1 hz with rfl | hz
          · exact .inl (h.2.2 ▸ hc h.1 h.2.1)
          · exact .inr ⟨z, hz, h⟩
theorem linesS_eq (l : List api_Report) (f : Int) (hc : chkE (l.map toRep) = 0) : linesS (l.map toRep) f = l.foldl (linK f) [] := by
  obtain ⟨h1, h2⟩ := linK_lt f l [] List.Pairwise.nil
  unfold linesS
  rw [if_pos (by rw [hc]; rfl)]
  refine lt_ext (compact_lt (sort_le _)) h1 fun y => ?_
  rw [mem_compact, List.mem_mergeSort, h2, List.mem_map]
  constructor
  · rintro ⟨z, hz, rfl⟩
    obtain ⟨hz1, hz2⟩ := List.mem_filter.1 hz
    obtain ⟨x, hx, rfl⟩ := List.mem_map.1 hz1
    unfold lnP at hz2
    simp only [toRep, Bool.and_eq_true, Bool.not_eq_true'] at hz2
    exact .inr ⟨x, hx, of_decide_eq_true hz2.1, of_decide_eq_false hz2.2, rfl⟩
  · rintro (h | ⟨x, hx, h1, h2, rfl⟩)
    · cases h
    · exact ⟨toRep x, List.mem_filter.2 ⟨List.mem_map.2 ⟨x, hx, rfl⟩, by unfold lnP; simp [toRep, h1, h2]⟩, rfl⟩
theorem r27_Lines_s (l : List api_Report) (f : Int) (hl : l.length ≤ 4611686018427387903) (Post : List Int → Prop) (h : Post (linesS (l.map toRep) f)) : r27_Lines_W l f Post := by
  unfold r27_Lines_W
  refine ⟨hl, ?_⟩
  by_cases hc : chkE (l.map toRep) = 0
  · rw [if_neg (by simp [hc])]
    have h100 := chkE_len hc
    rw [List.length_map] at h100
    rw [linesS_eq l f hc] at h
    exact lines_loop f Post l [] (by simp; omega) h
  · rw [if_pos (by simp [hc])]
    have : linesS (l.map toRep) f = [] := by unfold linesS; rw [if_neg (by simpa using hc)]
    rw [← this]; exact h
theorem br_lines (l : List api_Report) (f : Int) (h : l.length ≤ 4611686018427387903) : FC Try.prog 64 [.sl 7 (l.map api_Report.av), iD f] (.sl 1 ((linesS (l.map toRep) f).map avI)) :=
  FC.of1 (enc := fun y : List Int => .sl 1 (y.map avI)) (r27_Lines_w l f _ (r27_Lines_s l f h (· = linesS (l.map toRep) f) rfl))
end Vis
end Eng
end Go.Proofs.Ytmmekdkllccmdaa
