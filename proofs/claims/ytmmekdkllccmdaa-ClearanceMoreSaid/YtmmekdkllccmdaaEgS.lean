/-
  The engine: library calls that put the elements of an owned row into another order.
-/
import Derived.Test.YtmmekdkllccmdaaEgZ
import Derived.Shelf.SlSortCmp.InsertionK
namespace Go.Proofs.Ytmmekdkllccmdaa
open Go.RowKit Go.Sort Go.Shelf
set_option linter.unusedVariables false
namespace Eng
variable {P : Program}
theorem heap_sortedK {w : World} {g n : Nat} {os : Array Obj} {cur : Array Value} {e : TypeId} {fr : Nat × Nat} (d : Array Value) (hb : w.heap[g]? = some (.cells cur e fr)) :
    (grow (putRow _root_.id (Sort.ahead w n) g 0 d) os).heap[g]? = some (.cells (putCells _root_.id 0 d cur) e fr) := by
  have hg : g < w.heap.size := (Array.getElem?_eq_some_iff.1 hb).1
  rw [heap_grow_old _ _ (by simpa using hg)]
  simp [putRow, mapBlock, Sort.ahead, Array.getElem?_modify, hb, onCells]
theorem grownBy_sortedK {w : World} {g n : Nat} {os : Array Obj} (d : Array Value) : w.grownBy (grow (putRow _root_.id (Sort.ahead w n) g 0 d) os) (some g) := by
  refine ⟨rfl, rfl, rfl, by simp, fun k hk hne => ?_⟩
  rw [heap_grow_old _ _ (by simpa using hk)]
  have : g ≠ k := fun e => hne (by rw [e])
  simp [putRow, mapBlock, Sort.ahead, Array.getElem?_modify, this]
section
variable {α : Type} [Inhabited α] {av : α → List D} {vs : α → List Value} {k : Nat}
theorem flatK_row (hlen : ∀ x, (vs x).length = k) (l : List α) {i j : Nat} {x : α} (hi : l[i]? = some x) (hj : j < k) : (flatK vs k l.toArray)[i * k + j]? = (vs x)[j]? := by
  have hil := (List.getElem?_eq_some_iff.1 hi).1
  have hlt : i * k + j < l.toArray.size * k := by simpa using row_lt hil hj
  obtain ⟨e1, e2⟩ := div_mod_at (i := i) hj
  have h := get_flatK vs k l.toArray (i * k + j) hlt
  rw [e1, e2] at h
  have hx : l.toArray[i]! = x := by
    have := (List.getElem?_eq_some_iff.1 hi).2
    simp [hil, this]
  rw [hx] at h
  rw [getElem!_pos (flatK vs k l.toArray) _ (by rw [size_flatK]; exact hlt), getElem!_pos (vs x) j (by rw [hlen]; exact hj)] at h
  rw [Array.getElem?_eq_getElem (by rw [size_flatK]; exact hlt), h, List.getElem?_eq_getElem (by rw [hlen]; exact hj)]
/-- The rows that an owned row of flat elements holds, as the library's sort laws want them. -/
theorem holdsK_own (hav : ∀ x, av x = (vs x).map D.v) (hlen : ∀ x, (vs x).length = k) {S : Cells} {w : World} {g : Nat} {e : TypeId} {cur : Array Value} {l : List α} (hg : w.heap[g]? = some (.cells cur e (0, 0)))
    (hr : ∀ (i : Nat) (row : List D), (l.map av)[i]? = some row → row.length = k ∧ ∀ (j : Nat) (c : D), row[j]? = some c → ∃ u : Value, cur[i * k + j]? = some u ∧ u.oneCell' = true ∧ Rd S w c u) : HoldsK vs k w g 0 l.toArray := by
  intro t ht
  rw [size_flatK] at ht
  have h0 : 0 < k := Nat.pos_of_ne_zero fun h => by rw [h] at ht; simp at ht
  have hi : t / k < l.length := Nat.div_lt_of_lt_mul (by simpa [Nat.mul_comm] using ht)
  have hj : t % k < k := Nat.mod_lt _ h0
  have het : t / k * k + t % k = t := Nat.div_add_mod' t k
  refine ⟨?_, by simp [World.frozen?, hg]⟩
  obtain ⟨_, h2⟩ := hr (t / k) _ (by rw [List.getElem?_map, List.getElem?_eq_getElem hi]; rfl)
  have hvj : t % k < (vs l[t / k]).length := by rw [hlen]; exact hj
  obtain ⟨u, u1, _, u3⟩ := h2 (t % k) (.v (vs l[t / k])[t % k]) (by rw [hav, List.getElem?_map, List.getElem?_eq_getElem hvj]; rfl)
  rw [het] at u1
  cases u3
  rw [Nat.zero_add, cell_of_row _ _ _ _ _ _ hg, u1]
  have := flatK_row hlen l (List.getElem?_eq_getElem hi) hj
  rw [het] at this
  rw [getElem!_pos (flatK vs k l.toArray) t (by rw [size_flatK]; exact ht)]
  rw [Array.getElem?_eq_getElem (by rw [size_flatK]; exact ht), List.getElem?_eq_getElem hvj] at this
  injection this with this
  rw [this]; rfl
theorem ownX_sortedK (hav : ∀ x, av x = (vs x).map D.v) (hlen : ∀ x, (vs x).length = k) (hone : ∀ x, ∀ v ∈ vs x, v.oneCell' = true) (h0 : 0 < k) {base : Nat} {S : Cells} {w : World} {g cap n : Nat} {e : TypeId} {cur : Array Value} {os : Array Obj} {l : List α}
    (hbg : base ≤ g) (hg : w.heap[g]? = some (.cells cur e (0, 0))) (hcs : cur.size = cap * k) (hcm : cap ≤ maxLen) (hS : ∀ o, ¬ S g o) (hl : l.length ≤ cap) :
    OwnX base (grow (putRow _root_.id (Sort.ahead w n) g 0 (flatK vs k l.toArray)) os) S (.slice (some ⟨g, 0, none⟩) l.length cap) ⟨e, k, l.map av⟩ := by
  refine .inl ⟨h0, .inr ⟨g, cap, _, by rw [List.length_map], hbg, heap_sortedK _ hg, by rw [List.length_map]; exact hl, hcm, by simp [putCells, hcs], hS, fun i row hi => ?_⟩⟩
  have hi : (l.map av)[i]? = some row := hi
  rw [List.getElem?_map] at hi
  obtain ⟨x, hx, rfl⟩ := Option.map_eq_some_iff.1 hi
  have hil := (List.getElem?_eq_some_iff.1 hx).1
  refine ⟨by rw [hav, List.length_map, hlen], fun j c hj => ?_⟩
  have hjl : j < k := by have := (List.getElem?_eq_some_iff.1 hj).1; rw [hav, List.length_map, hlen] at this; exact this
  rw [hav, List.getElem?_map] at hj
  obtain ⟨u, hu, rfl⟩ := Option.map_eq_some_iff.1 hj
  refine ⟨u, ?_, hone x u (List.mem_of_getElem? hu), .v _⟩
  have hlt : i * k + j < l.length * k := row_lt hil hjl
  have hlc : i * k + j < cur.size := by rw [hcs]; exact Nat.lt_of_lt_of_le hlt (Nat.mul_le_mul_right _ hl)
  have h1 := flatK_row hlen l hx hjl
  rw [hu] at h1
  show (putCells _root_.id 0 (flatK vs k l.toArray) cur)[i * k + j]? = some u
  have hsz : i * k + j < (flatK vs k l.toArray).size := by rw [size_flatK]; simpa using hlt
  simp only [putCells, Array.getElem?_mapIdx, Array.getElem?_eq_getElem hlc, Option.map_some, Nat.zero_le, true_and, Nat.zero_add, if_pos hsz, Nat.sub_zero, id]
  rw [getElem!_pos (flatK vs k l.toArray) _ hsz]
  rw [Array.getElem?_eq_getElem hsz] at h1
  exact h1
end
section
variable {w0 : World} {S0 : Ev} {T : Nat → Prop} {ops : Array Oper} {rest : List Oper} {st : St} {Q : St → Prop}
/-- What a sort of flat elements by function f, bound to cs, does. -/
def SortsK {α : Type} [Inhabited α] (P : Program) (f : FuncId) (fv : Value) (vs : α → List Value) (k : Nat) (N : Nat) (R : List α → List α → Prop) : Prop :=
  (∀ w, Calls P f #[.slice none 0 0, fv] w fun e w' => e = .returned (.tuple #[]) ∧ w' = w) ∧
  ∀ (g cap : Nat) (l : List α) (w : World), l.length ≤ N → HoldsK vs k w g 0 l.toArray → g < w.heap.size → Calls P f #[.slice (some ⟨g, 0, none⟩) l.length cap, fv] w fun e w' => e = .returned (.tuple #[]) ∧ ∃ (n : Nat) (l' : List α) (os : Array Obj), l'.length = l.length ∧ R l l' ∧ w' = grow (putRow _root_.id (Sort.ahead w n) g 0 (flatK vs k l'.toArray)) os
theorem AO.sortK {α : Type} [Inhabited α] {av : α → List D} {f : FuncId} {fv : Value} {vs : α → List Value} {k N : Nat} {R : List α → List α → Prop} (hs : SortsK P f fv vs k N R) (hav : ∀ x, av x = (vs x).map D.v) (hlen : ∀ x, (vs x).length = k) (hone : ∀ x, ∀ v ∈ vs x, v.oneCell' = true) (hnil : ∀ l, R [] l → l = []) (hrn : R [] [])
    {x y : Operand} {tys : Array TypeId} {ty : TypeId} {pos : String} {aft : Array Edge} {d id : Nat} {e : TypeId} (l : List α) (hx : SLe (st.ev x) (.os id)) (hy : SLe (st.ev y) (.d (.v fv))) (ho : lookA st.own id = some ⟨e, k, l.map av⟩) (h0 : Nat.ble 1 k = true) (hN : l.length ≤ N) (hf : callable P f = true) (hd : Nat.ble (d + 1) st.n = true)
    (h : ∀ l', R l l' → AO P w0 S0 T ops rest ⟨(d, .un) :: st.sl, st.bx, setA st.own id ⟨e, k, l'.map av⟩, st.nx, st.tp, st.n⟩ Q) : AO P w0 S0 T ops (⟨some d, .call ⟨.value (.func f), #[x, y], tys⟩, ty, pos, aft, none⟩ :: rest) st Q := by
  rintro a w ⟨c, hT, hr⟩ Qx hQ
  refine wpList_plain rfl fun K hK => ?_
  have h0 := Nat.le_of_ble_eq_true h0
  have hxv := srel_os (hx c w _ (ev_rel hr x))
  have hyv := srel_v (hy c w _ (ev_rel hr y))
  unfold Oper.wp
  rw [eval_fn (args := [x, y]) hf]
  show Calls _ _ _ _ _
  have hgo : ∀ l', R l l' → ∀ v w', RelX w0 S0 ⟨st.sl, st.bx, setA st.own id ⟨e, k, l'.map av⟩, st.nx, st.tp, st.n⟩ a w' c → K (a.put (some d) v) w' := fun l' hl' v w' hr' =>
    hK _ _ (h l' hl' _ _ ⟨c, hT, hr'.put (d := d) (r := .un) (Nat.le_of_ble_eq_true hd) (.un v) (Nat.zero_le _)⟩ Qx hQ)
  rcases (hr.ow id _ ho).2.slice h0 with ⟨e1, e2⟩ | ⟨g, cap, cur, hv, hbg, hg, hnl, hcm, hcs, hS, hrr⟩
  · have hz : l = [] := List.map_eq_nil_iff.1 e2
    subst hz
    rw [show (([x, y] : List Operand).map a.eval).toArray = #[.slice none 0 0, fv] from by simp [hxv, e1, hyv]]
    refine (hs.1 w).mono ?_
    rintro e' w' ⟨rfl, rfl⟩
    refine hgo [] hrn _ _ (hr.owns _ fun i y hy => ?_)
    rcases lookA_setA _ _ _ _ _ hy with ⟨rfl, rfl, _⟩ | ⟨_, h2⟩
    · exact ho
    · exact h2
  · have hnl : (l.map av).length ≤ cap := hnl
    rw [List.length_map] at hnl
    have hv : c.O id = .slice (some ⟨g, 0, none⟩) (l.map av).length cap := hv
    rw [List.length_map] at hv
    rw [show (([x, y] : List Operand).map a.eval).toArray = #[.slice (some ⟨g, 0, none⟩) l.length cap, fv] from by simp [hxv, hv, hyv]]
    have hgl := (Array.getElem?_eq_some_iff.1 hg).1
    refine (hs.2 g cap l w hN (holdsK_own hav hlen hg hrr) hgl).mono ?_
    rintro e' w' ⟨rfl, n, l', os, hl', hR, rfl⟩
    obtain ⟨W, hW⟩ : ∃ W, W = grow (putRow _root_.id (Sort.ahead w n) g 0 (flatK vs k l'.toArray)) os := ⟨_, rfl⟩
    have q1 : w.grownBy W (some g) := by rw [hW]; exact grownBy_sortedK _
    have q2 : OwnX w0.heap.size W c.S (.slice (some ⟨g, 0, none⟩) l'.length cap) ⟨e, k, l'.map av⟩ := by rw [hW]; exact ownX_sortedK hav hlen hone h0 hbg hg hcs hcm hS (by omega)
    rw [hl', ← hv] at q2
    rw [← hW]
    exact hgo l' hR _ _ (hr.rewr ho (x' := ⟨e, k, l'.map av⟩) (g := g) (by rw [hv]; rfl) q1 q2)
end
end Eng
end Go.Proofs.Ytmmekdkllccmdaa
