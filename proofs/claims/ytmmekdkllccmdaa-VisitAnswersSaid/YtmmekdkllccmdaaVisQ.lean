/-
  Plain law of chapter 27: the reference's Line is the program's.
-/
import Derived.Test.YtmmekdkllccmdaaVisM
namespace Go.Proofs.Ytmmekdkllccmdaa
open Go.RowKit
set_option linter.unusedVariables false
namespace Eng
namespace Vis
def stOf (m : Rep) : Seen × Int × Int := (⟨m.k, m.a, m.b⟩, m.d, m.n)
theorem greS_of (farm line : Int) (m x : Rep) : greS farm line (stOf m) x = if atP farm line x then stOf (if decide (cmpR x m > 0) then x else m) else stOf m := by
  have hc := cmpR_pos x m
  unfold greS atP
  cases h : (decide (x.f = farm) && decide (x.l = line)) with
  | false => simp
  | true =>
    by_cases h1 : cmpR x m > 0
    · have := hc.1 h1
      rw [if_pos (by rcases this with h2 | ⟨h2, h3⟩ <;> simp [stOf, *]), if_pos rfl, if_pos (by simpa using h1)]
      rfl
    · have : ¬ (m.d < x.d ∨ (x.d = m.d ∧ m.n < x.n)) := fun h => h1 (hc.2 h)
      rw [if_neg (by intro hh; apply this; simp [stOf] at hh; exact hh.imp id (fun ⟨q1, q2⟩ => ⟨of_decide_eq_true q1, q2⟩)), if_pos rfl, if_neg (by simpa using h1)]
theorem gre_fold (farm line : Int) : ∀ (l : List Rep) (m : Rep), l.foldl (greS farm line) (stOf m) = stOf (maxF cmpR m (l.filter (atP farm line)))
  | [], m => rfl
  | x :: r, m => by
    rw [List.foldl_cons, greS_of, List.filter_cons]
    cases h : atP farm line x with
    | false => simp only [Bool.false_eq_true, if_false]; exact gre_fold farm line r m
    | true => simp only [if_true]; exact gre_fold farm line r _
theorem gre_seen (farm line : Int) : ∀ (l : List Rep), (∀ x ∈ l, 0 ≤ x.d) → (gre farm line l).1 = seenOf (l.filter (atP farm line))
  | [], _ => rfl
  | x :: r, hd => by
    unfold gre
    rw [List.foldl_cons, List.filter_cons]
    cases h : atP farm line x with
    | false =>
      have e : greS farm line (⟨0, 0, 0⟩, -1, 0) x = (⟨0, 0, 0⟩, -1, 0) := by
        unfold greS
        unfold atP at h
        rw [h]; simp
      rw [e]
      simp only [Bool.false_eq_true, if_false]
      exact gre_seen farm line r fun y hy => hd y (by simp [hy])
    | true =>
      have e : greS farm line (⟨0, 0, 0⟩, -1, 0) x = stOf x := by
        unfold greS
        unfold atP at h
        have := hd x (by simp)
        rw [h, if_pos (by simp; omega)]
        rfl
      rw [e, gre_fold]
      simp only [if_true]
      rfl
theorem chk_right : ∀ (l : List Rep) (seen : List Int), chk seen l = 0 → ∀ x ∈ l, rightB x = true
  | [], _, _, x, h => by cases h
  | y :: r, seen, h, x, hx => by
    simp only [chk] at h
    split at h
    · rename_i hy
      split at h
      · cases h
      · rcases List.mem_cons.1 hx with rfl | hx
        · exact hy
        · exact chk_right r _ h x hx
    · cases h
theorem lineR_eq (l : List Rep) (farm line : Int) : lineR l farm line = lineS l farm line := by
  unfold lineR lineS
  by_cases hc : chkE l = 0
  · have hd : decide (chkE l = 0) = true := decide_eq_true hc
    rw [hd]
    simp only [if_true]
    split
    · rfl
    · refine gre_seen farm line l fun x hx => ?_
      have h0 := hc
      unfold chkE at h0
      split at h0
      · cases h0
      · have := chk_right l [] h0 x hx
        unfold rightB at this
        simp only [decide_eq_true_eq] at this
        omega
  · have hd : decide (chkE l = 0) = false := decide_eq_false hc
    rw [hd]
    rfl
end Vis
end Eng
end Go.Proofs.Ytmmekdkllccmdaa
