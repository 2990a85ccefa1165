/-
  CalendarWindows: the plain law, and the walk.
-/
import Derived.Test.YtmmekdkllccmdaaCalLaws
import Derived.Deep.DeepCutAuto
namespace Go.Proofs.Ytmmekdkllccmdaa
open Go.RowKit
set_option linter.unusedVariables false
namespace Cal
/-- The window of all other days. -/
def rf (u : Int) : Int := (u + 1) % 365
def ru (f : Int) : Int := (f + 364) % 365
theorem rest_plain (f u d : Int) (hf : 0 ≤ f ∧ f < 365) (hu : 0 ≤ u ∧ u < 365) (hn : dys f u ≠ 365) (hd : 0 ≤ d ∧ d < 36864) :
    inn (rf u) (ru f) d = !inn f u d ∧ dys f u + dys (rf u) (ru f) = 365 := by
  have hv : vld f u = true := (vld_iff f u).2 (by omega)
  have hv2 : vld (rf u) (ru f) = true := by rw [vld_iff]; unfold rf ru; omega
  have hD : isD d = true := (isD_iff d).2 (by omega)
  have hn' : ¬ (if u < f then 365 - f + u + 1 else u - f + 1 : Int) = 365 := by
    intro h; apply hn; unfold dys; rw [hv, if_pos rfl]; exact h
  constructor
  · rw [inn_yes _ _ _ hD hv2, inn_yes _ _ _ hD hv]
    obtain ⟨p, hp⟩ : ∃ p, d % 365 = p := ⟨_, rfl⟩
    have : 0 ≤ p ∧ p < 365 := by omega
    rw [hp]
    rw [Bool.eq_iff_iff, Bool.not_eq_true', ← Bool.not_eq_true]
    unfold pin rf ru
    split
    · split
      · simp; omega
      · simp; omega
    · split
      · simp; omega
      · simp; omega
  · unfold dys
    rw [hv, hv2, if_pos rfl, if_pos rfl]
    unfold rf ru
    split
    · split <;> omega
    · split <;> omega
theorem whole_plain (f u d : Int) (hf : 0 ≤ f ∧ f < 365) (hu : 0 ≤ u ∧ u < 365) (hn : dys f u = 365) (hd : 0 ≤ d ∧ d < 36864) : inn f u d = true := by
  have hv : vld f u = true := (vld_iff f u).2 (by omega)
  have hD : isD d = true := (isD_iff d).2 (by omega)
  unfold dys at hn
  rw [hv, if_pos rfl] at hn
  rw [inn_yes _ _ _ hD hv]
  unfold pin
  split at hn
  · rename_i h; rw [if_pos h]; simp; omega
  · rename_i h; rw [if_neg h]; simp; omega
/-- What Next says of a day. -/
theorem next_plain (f u d : Int) (hv : vld f u = true) (hd : 0 ≤ d ∧ d < 36864) :
    ((nxt f u d).2 = true ∧ d ≤ (nxt f u d).1 ∧ (nxt f u d).1 ≤ 36864 ∧ inn f u (nxt f u d).1 = true ∧ inn f u d = ((nxt f u d).1 == d)) ∨ ((nxt f u d).2 = false ∧ inn f u d = false) := by
  have e : nxt f u d = nx f u 365 d := by unfold nxt; rw [hv]; rfl
  rw [e]
  cases h : (nx f u 365 d).2
  · refine .inr ⟨rfl, ?_⟩
    have := nx_none f u 365 d hd.1 h 0 (by omega) (by omega)
    rwa [Int.add_zero] at this
  · obtain ⟨h1, h2, h3, h4⟩ := nx_found f u 365 d h
    have h5 : (nx f u 365 d).1 ≤ 36864 := by
      cases hh : isD (nx f u 365 d).1
      · rw [inn_day _ _ _ hh] at h3; cases h3
      · exact ((isD_iff _).1 hh).2
    refine .inl ⟨rfl, h1, h5, h3, ?_⟩
    rcases h4 with h4 | h4
    · rw [h4] at h3 ⊢; rw [h3]; simp
    · rw [h4]
      refine (beq_eq_false_iff_ne.2 fun hh => ?_).symm
      rw [hh, h4] at h3; cases h3
end Cal
end Go.Proofs.Ytmmekdkllccmdaa
