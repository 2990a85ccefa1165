/-
  A slice of integers that came in, as a list.
-/
import Derived.Test.YtmmekdkllccmdaaSeq
namespace Go.Proofs.Ytmmekdkllccmdaa
open Go.RowKit
set_option linter.unusedVariables false
namespace Seq
theorem ints_of_isrow (w : World) (a : Option Addr) (len cap : Nat) (zs : List Int)
    (h : (a = none ∧ len = 0 ∧ cap = 0 ∧ zs = []) ∨ ∃ x, a = some x ∧ len ≤ cap ∧ cap ≤ maxLen ∧ zs.length = cap ∧ (∀ i, i < zs.length → w.cell? (x.add i) = some (.int .i64 (zs.getD i 0))) ∧ ∀ n ∈ zs, (Lit.int .i64 n).wf = true) :
    ∃ ys : List Int, ys.length = len ∧ len ≤ 9223372036854775807 ∧ Ints w.heap.size w a ys := by
  rcases h with ⟨rfl, rfl, rfl, _⟩ | ⟨x, rfl, h1, h2, h3, h4, _⟩
  · exact ⟨[], rfl, by omega, .inl rfl⟩
  · unfold maxLen at h2
    refine ⟨zs.take len, by rw [List.length_take]; omega, by omega, ?_⟩
    by_cases hl : len = 0
    · subst hl; exact .inl (by simp)
    obtain ⟨bl, off, spot⟩ := x
    have h0 := h4 0 (by omega)
    have hs : spot = none := by
      simp only [Addr.add, if_true] at h0
      unfold World.cell? at h0
      split at h0
      · simp only at h0
        cases spot with
        | none => rfl
        | some k => simp at h0
      · cases h0
    subst hs
    have hc : ∀ i, i < zs.length → w.cell? ⟨bl, off + i, none⟩ = some (.int .i64 (zs.getD i 0)) := fun i hi => by
      have := h4 i hi
      rwa [show (⟨bl, off, none⟩ : Addr).add i = ⟨bl, off + i, none⟩ from by unfold Addr.add; split <;> simp_all] at this
    refine .inr ⟨bl, off, rfl, World.block_lt_of_cell? w _ (hc 0 (by omega)), fun j hj => ?_⟩
    rw [List.length_take] at hj
    rw [hc j (by omega), List.getElem?_take, if_pos (by omega), List.getD_eq_getElem?_getD]
end Seq
end Go.Proofs.Ytmmekdkllccmdaa
