/-
  What came in, as typed data.
-/
import Derived.Test.YtmmekdkllccmdaaTy
import Derived.Test.YtmmekdkllccmdaaEgO
namespace Go.Proofs.Ytmmekdkllccmdaa
open Go.RowKit
set_option linter.unusedVariables false
namespace Eng
def api_Measured.ok (x : api_Measured) : Prop := okI x.Area ∧ okI x.Border
theorem api_Measured.opn : Opn Try.prog 76 api_Measured.av api_Measured.ok := by
  intro H enc w base spare held fuel cs x h
  obtain ⟨xs, n, rfl, _, hl, hx, hf⟩ := DataW.trod_struct Try.underlying76 h
  have hget : ∀ i, i < 2 → xs[i]? = some xs[i]! := fun i hi => by
    have : i < xs.length := by rw [hx]; exact hi
    rw [getElem!_pos xs i this, List.getElem?_eq_getElem this]
  obtain ⟨y0, o0, l0, c0⟩ := (Opn.int (by kernel_rfl)) enc w base spare held n _ _ ((hf 0 _ rfl).trans (hget 0 (by decide)))
  obtain ⟨y1, o1, l1, c1⟩ := (Opn.int (by kernel_rfl)) enc w base spare held n _ _ ((hf 1 _ rfl).trans (hget 1 (by decide)))
  exact ⟨⟨y0, y1⟩, ⟨o0, o1⟩, hl.trans (by kernel_rfl), (CellsAt.append (CellsAt.part c0) (CellsAt.append (CellsAt.part c1) CellsAt.nil))⟩
def api_Report.ok (x : api_Report) : Prop := okI x.Number ∧ okI x.Farm ∧ okI x.Day ∧ okI x.Kind ∧ okI x.Line ∧ api_Measured.ok x.Measured
theorem api_Report.opn : Opn Try.prog 78 api_Report.av api_Report.ok := by
  intro H enc w base spare held fuel cs x h
  obtain ⟨xs, n, rfl, _, hl, hx, hf⟩ := DataW.trod_struct Try.underlying78 h
  have hget : ∀ i, i < 6 → xs[i]? = some xs[i]! := fun i hi => by
    have : i < xs.length := by rw [hx]; exact hi
    rw [getElem!_pos xs i this, List.getElem?_eq_getElem this]
  obtain ⟨y0, o0, l0, c0⟩ := (Opn.int (by kernel_rfl)) enc w base spare held n _ _ ((hf 0 _ rfl).trans (hget 0 (by decide)))
  obtain ⟨y1, o1, l1, c1⟩ := (Opn.int (by kernel_rfl)) enc w base spare held n _ _ ((hf 1 _ rfl).trans (hget 1 (by decide)))
  obtain ⟨y2, o2, l2, c2⟩ := (Opn.int (by kernel_rfl)) enc w base spare held n _ _ ((hf 2 _ rfl).trans (hget 2 (by decide)))
  obtain ⟨y3, o3, l3, c3⟩ := (Opn.int (by kernel_rfl)) enc w base spare held n _ _ ((hf 3 _ rfl).trans (hget 3 (by decide)))
  obtain ⟨y4, o4, l4, c4⟩ := (Opn.int (by kernel_rfl)) enc w base spare held n _ _ ((hf 4 _ rfl).trans (hget 4 (by decide)))
  obtain ⟨y5, o5, l5, c5⟩ := api_Measured.opn enc w base spare held n _ _ ((hf 5 _ rfl).trans (hget 5 (by decide)))
  exact ⟨⟨y0, y1, y2, y3, y4, y5⟩, ⟨o0, o1, o2, o3, o4, o5⟩, hl.trans (by kernel_rfl), (CellsAt.append (CellsAt.part c0) (CellsAt.append (CellsAt.part c1) (CellsAt.append (CellsAt.part c2) (CellsAt.append (CellsAt.part c3) (CellsAt.append (CellsAt.part c4) (CellsAt.append (CellsAt.part c5) CellsAt.nil))))))⟩
def api_Finding.ok (x : api_Finding) : Prop := okI x.Number ∧ okI x.Schemes ∧ okI x.From ∧ okI x.Until ∧ okI x.Mille
theorem api_Finding.opn : Opn Try.prog 32 api_Finding.av api_Finding.ok := by
  intro H enc w base spare held fuel cs x h
  obtain ⟨xs, n, rfl, _, hl, hx, hf⟩ := DataW.trod_struct Try.underlying32 h
  have hget : ∀ i, i < 5 → xs[i]? = some xs[i]! := fun i hi => by
    have : i < xs.length := by rw [hx]; exact hi
    rw [getElem!_pos xs i this, List.getElem?_eq_getElem this]
  obtain ⟨y0, o0, l0, c0⟩ := (Opn.int (by kernel_rfl)) enc w base spare held n _ _ ((hf 0 _ rfl).trans (hget 0 (by decide)))
  obtain ⟨y1, o1, l1, c1⟩ := (Opn.int (by kernel_rfl)) enc w base spare held n _ _ ((hf 1 _ rfl).trans (hget 1 (by decide)))
  obtain ⟨y2, o2, l2, c2⟩ := (Opn.int (by kernel_rfl)) enc w base spare held n _ _ ((hf 2 _ rfl).trans (hget 2 (by decide)))
  obtain ⟨y3, o3, l3, c3⟩ := (Opn.int (by kernel_rfl)) enc w base spare held n _ _ ((hf 3 _ rfl).trans (hget 3 (by decide)))
  obtain ⟨y4, o4, l4, c4⟩ := (Opn.int (by kernel_rfl)) enc w base spare held n _ _ ((hf 4 _ rfl).trans (hget 4 (by decide)))
  exact ⟨⟨y0, y1, y2, y3, y4⟩, ⟨o0, o1, o2, o3, o4⟩, hl.trans (by kernel_rfl), (CellsAt.append (CellsAt.part c0) (CellsAt.append (CellsAt.part c1) (CellsAt.append (CellsAt.part c2) (CellsAt.append (CellsAt.part c3) (CellsAt.append (CellsAt.part c4) CellsAt.nil)))))⟩
def api_Spent.ok (x : api_Spent) : Prop := okI x.Year ∧ okI x.Scheme ∧ okI x.Amount
theorem api_Spent.opn : Opn Try.prog 36 api_Spent.av api_Spent.ok := by
  intro H enc w base spare held fuel cs x h
  obtain ⟨xs, n, rfl, _, hl, hx, hf⟩ := DataW.trod_struct Try.underlying36 h
  have hget : ∀ i, i < 3 → xs[i]? = some xs[i]! := fun i hi => by
    have : i < xs.length := by rw [hx]; exact hi
    rw [getElem!_pos xs i this, List.getElem?_eq_getElem this]
  obtain ⟨y0, o0, l0, c0⟩ := (Opn.int (by kernel_rfl)) enc w base spare held n _ _ ((hf 0 _ rfl).trans (hget 0 (by decide)))
  obtain ⟨y1, o1, l1, c1⟩ := (Opn.int (by kernel_rfl)) enc w base spare held n _ _ ((hf 1 _ rfl).trans (hget 1 (by decide)))
  obtain ⟨y2, o2, l2, c2⟩ := (Opn.int (by kernel_rfl)) enc w base spare held n _ _ ((hf 2 _ rfl).trans (hget 2 (by decide)))
  exact ⟨⟨y0, y1, y2⟩, ⟨o0, o1, o2⟩, hl.trans (by kernel_rfl), (CellsAt.append (CellsAt.part c0) (CellsAt.append (CellsAt.part c1) (CellsAt.append (CellsAt.part c2) CellsAt.nil)))⟩
end Eng
end Go.Proofs.Ytmmekdkllccmdaa
