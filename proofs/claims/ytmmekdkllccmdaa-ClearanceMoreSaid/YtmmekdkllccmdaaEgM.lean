/-
  The engine: slices.Sort and slices.Compact of integers, over a row of the call's own.
-/
import Derived.Test.YtmmekdkllccmdaaEgL
import Derived.Test.YtmmekdkllccmdaaShelf
import Derived.Sort.OwnSortedInts
namespace Go.Proofs.Ytmmekdkllccmdaa
open Go.RowKit Go.Sort
set_option linter.unusedVariables false
namespace Eng
/-- Integers as rows. -/
def ir (zs : List Int) : List (List D) := zs.map fun z => [.v (.int .i64 z)]
theorem ir_length (zs : List Int) : (ir zs).length = zs.length := by simp [ir]
theorem ir_get {zs : List Int} {i : Nat} {row : List D} (h : (ir zs)[i]? = some row) : ∃ z, zs[i]? = some z ∧ row = [.v (.int .i64 z)] := by
  unfold ir at h
  rw [List.getElem?_map] at h
  cases hz : zs[i]? with
  | none => rw [hz] at h; cases h
  | some z => rw [hz] at h; simp at h; exact ⟨z, rfl, h.symm⟩
theorem ir_snoc (zs : List Int) (z : Int) : ir zs ++ [[.v (.int .i64 z)]] = ir (zs ++ [z]) := by simp [ir]
theorem own_take {base : Nat} {w : World} {S : Cells} {v : Value} {e : TypeId} {zs : List Int} {g cap : Nat} {cur : Array Value}
    (hr : ∀ (i : Nat) (row : List D), (ir zs)[i]? = some row → row.length = 1 ∧ ∀ (j : Nat) (c : D), row[j]? = some c → ∃ u : Value, cur[i * 1 + j]? = some u ∧ u.oneCell' = true ∧ Rd S w c u) :
    cur.toList.take zs.length = zs.map (Value.int .i64) := by
  apply List.ext_getElem?
  intro i
  by_cases hi : i < zs.length
  · rw [List.getElem?_take_of_lt hi, Array.getElem?_toList, List.getElem?_map]
    obtain ⟨_, q⟩ := hr i [.v (.int .i64 zs[i])] (by simp [ir, hi])
    obtain ⟨u, h1, _, h3⟩ := q 0 _ rfl
    rw [Nat.mul_one, Nat.add_zero] at h1
    rw [h1, List.getElem?_eq_getElem hi]
    cases h3; rfl
  · rw [List.getElem?_take_eq_none (by omega), List.getElem?_eq_none (by simp; omega)]
/-- Behind a call that has put integers at the row's head. -/
theorem own_put {base : Nat} {w : World} {S : Cells} {e : TypeId} {g cap n : Nat} {os : Array Obj} {cur : Array Value} {zs ys : List Int} (hbg : base ≤ g) (hg : w.heap[g]? = some (.cells cur e (0, 0))) (hcs : cur.size = cap * 1) (hcm : cap ≤ maxLen) (hS : ∀ o, ¬ S g o)
    (hl : zs.length ≤ ys.length) (hy : ys.length ≤ cap) (hp : ∀ i, i < zs.length → ys[i]? = zs[i]?) :
    OwnX base (grow (Sort.putRow (Value.int .i64) (Sort.ahead w n) g 0 ys.toArray) os) S (.slice (some ⟨g, 0, none⟩) zs.length cap) ⟨e, 1, ir zs⟩ := by
  refine .inl ⟨Nat.one_pos, .inr ⟨g, cap, _, by rw [ir_length], hbg, heap_sortedI _ hg, by rw [ir_length]; omega, hcm, by simp [Sort.putCells, hcs], hS, fun i row hi => ?_⟩⟩
  obtain ⟨z, hz, rfl⟩ := ir_get hi
  have hiz : i < zs.length := (List.getElem?_eq_some_iff.1 hz).1
  refine ⟨rfl, fun j c hj => ?_⟩
  cases j with
  | succ j => simp at hj
  | zero =>
    simp at hj
    subst hj
    have hyi := hp i hiz
    rw [hz] at hyi
    have hiy := (List.getElem?_eq_some_iff.1 hyi).1
    refine ⟨.int .i64 z, ?_, rfl, .v _⟩
    rw [Nat.mul_one, Nat.add_zero]
    have h1 : i < cur.size := by omega
    simp only [Sort.putCells, Array.getElem?_mapIdx, Array.getElem?_eq_getElem h1, Option.map_some, Nat.zero_le, true_and, Nat.zero_add, List.size_toArray, if_pos hiy, Nat.sub_zero]
    have : ys.toArray[i]! = z := by
      have h2 : ys[i] = z := (List.getElem?_eq_some_iff.1 hyi).2
      simp [hiy, h2]
    rw [this]
section
variable {w0 : World} {S0 : Ev} {T : Nat → Prop} {ops : Array Oper} {rest : List Oper} {st : St} {Q : St → Prop}
theorem AO.sortI {x : Operand} {tys : Array TypeId} {ty : TypeId} {pos : String} {aft : Array Edge} {d id : Nat} {e : TypeId} {zs : List Int} (hx : SLe (st.ev x) (.os id)) (ho : lookA st.own id = some ⟨e, 1, ir zs⟩) (hn : zs.length < 4611686018427387904) (hd : Nat.ble (d + 1) st.n = true)
    (h : AO Try.prog w0 S0 T ops rest ⟨(d, .un) :: st.sl, st.bx, setA st.own id ⟨e, 1, ir (zs.mergeSort fun x y => decide (x ≤ y))⟩, st.nx, st.tp, st.n⟩ Q) : AO Try.prog w0 S0 T ops (⟨some d, .call ⟨.value (.func 106), #[x], tys⟩, ty, pos, aft, none⟩ :: rest) st Q := by
  rintro a w ⟨c, hT, hr⟩ Qx hQ
  refine wpList_plain rfl fun K hK => ?_
  have hxv := srel_os (hx c w _ (ev_rel hr x))
  unfold Oper.wp
  have hfn : callable Try.prog 106 = true := by kernel_rfl
  rw [eval_fn (args := [x]) hfn]
  show Calls _ _ _ _ _
  have hgo : ∀ v w', RelX w0 S0 ⟨st.sl, st.bx, setA st.own id ⟨e, 1, ir (zs.mergeSort fun x y => decide (x ≤ y))⟩, st.nx, st.tp, st.n⟩ a w' c → K (a.put (some d) v) w' := fun v w' hr' =>
    hK _ _ (h _ _ ⟨c, hT, hr'.put (d := d) (r := .un) (Nat.le_of_ble_eq_true hd) (.un v) (Nat.zero_le _)⟩ Qx hQ)
  rcases (hr.ow id _ ho).2.slice Nat.one_pos with ⟨e1, e2⟩ | ⟨g, cap, cur, hv, hbg, hg, hnl, hcm, hcs, hS, hrr⟩
  · have hz : zs = [] := by
      have := congrArg List.length e2
      rw [ir_length] at this
      exact List.length_eq_zero_iff.1 this
    subst hz
    rw [show (([x] : List Operand).map a.eval).toArray = #[.slice none 0 0] from by simp [hxv, e1]]
    refine (Try.slices_Sort_int_none none 0 w).mono ?_
    rintro e' w' ⟨rfl, rfl⟩
    refine hgo _ _ (hr.owns _ fun i y hy => ?_)
    rcases lookA_setA _ _ _ _ _ hy with ⟨rfl, rfl, _⟩ | ⟨_, h2⟩
    · rw [ho]; simp
    · exact h2
  · rw [show (([x] : List Operand).map a.eval).toArray = #[.slice (some ⟨g, 0, none⟩) zs.length cap] from by simp [hxv, hv, ir_length]]
    have hgl := (Array.getElem?_eq_some_iff.1 hg).1
    refine (Try.slices_Sort_int g 0 cap zs w (holds_of_blockI hg (own_take (base := 0) (v := .nilFunc) (e := e) (g := g) (cap := cap) hrr)) hgl hn).mono ?_
    rintro e' w' ⟨rfl, n, os, rfl⟩
    refine hgo _ _ (hr.rewr ho (x' := ⟨e, 1, ir (zs.mergeSort fun x y => decide (x ≤ y))⟩) (g := g) (by rw [hv]; rfl) (grownBy_sortedI _) ?_)
    rw [hv, ir_length]
    rw [ir_length] at hnl
    have := own_put (base := w0.heap.size) (n := n) (os := os) (zs := zs.mergeSort fun x y => decide (x ≤ y)) (ys := zs.mergeSort fun x y => decide (x ≤ y)) (S := c.S) hbg hg hcs hcm hS (Nat.le_refl _) (by simpa using hnl) (fun _ _ => rfl)
    simpa using this
theorem AO.compactI {x : Operand} {tys : Array TypeId} {ty : TypeId} {pos : String} {aft : Array Edge} {d id : Nat} {e : TypeId} {zs : List Int} (hx : SLe (st.ev x) (.os id)) (ho : lookA st.own id = some ⟨e, 1, ir zs⟩) (hd : Nat.ble (d + 1) st.n = true)
    (h : AO Try.prog w0 S0 T ops rest ⟨(d, .os st.nx) :: st.sl, st.bx, (st.nx, ⟨e, 1, ir (Lib.compact zs)⟩) :: delA st.own id, st.nx + 1, st.tp, st.n⟩ Q) : AO Try.prog w0 S0 T ops (⟨some d, .call ⟨.value (.func 107), #[x], tys⟩, ty, pos, aft, none⟩ :: rest) st Q := by
  rintro a w ⟨c, hT, hr⟩ Qx hQ
  refine wpList_plain rfl fun K hK => ?_
  have hxv := srel_os (hx c w _ (ev_rel hr x))
  unfold Oper.wp
  have hfn : callable Try.prog 107 = true := by kernel_rfl
  rw [eval_fn (args := [x]) hfn]
  show Calls _ _ _ _ _
  have hd' := Nat.le_of_ble_eq_true hd
  have hlen : (Lib.compact zs).length ≤ zs.length := by
    unfold Lib.compact Lib.compactUpTo
    rw [List.length_map]
    exact Nat.le_trans (List.length_filter_le _ _) (by simp)
  rcases (hr.ow id _ ho).2.slice Nat.one_pos with ⟨e1, e2⟩ | ⟨g, cap, cur, hv, hbg, hg, hnl, hcm, hcs, hS, hrr⟩
  · have hz : zs = [] := by
      have := congrArg List.length e2
      rw [ir_length] at this
      exact List.length_eq_zero_iff.1 this
    subst hz
    rw [show (([x] : List Operand).map a.eval).toArray = #[.slice none 0 0] from by simp [hxv, e1]]
    refine (Try.slices_Compact_int_empty none 0 w).mono ?_
    rintro e' w' ⟨rfl, rfl⟩
    have h1 := (hr.owns (delA st.own id) fun i y hy => (lookA_delA _ _ _ _ hy).2).put (d := d) (r := .d (.v (.slice none 0 0))) (v := .slice none 0 0) hd' (v_srel _) (Nat.zero_le _)
    obtain ⟨c', e1, e2⟩ := h1.ownNil d e 1 (by show look ((d, _) :: st.sl) d = _; rw [look_cons, if_pos rfl]) Nat.one_pos
    refine hK _ _ (h _ _ ⟨c', tmv e1 hT, e2.slots (fun y => ?_) ⟨rfl, rfl, rfl, rfl, rfl⟩⟩ Qx hQ)
    show look ((d, .os st.nx) :: st.sl) y = look ((d, .os st.nx) :: (d, _) :: st.sl) y
    rw [look_cons, look_cons, look_cons]
    split <;> rfl
  · rw [show (([x] : List Operand).map a.eval).toArray = #[.slice (some ⟨g, 0, none⟩) zs.length cap] from by simp [hxv, hv, ir_length]]
    rw [ir_length] at hnl
    have hcm' : cap ≤ 9223372036854775807 := hcm
    refine (Try.slices_Compact_int g 0 cap zs w (holds_of_blockI hg (own_take (base := 0) (v := .nilFunc) (e := e) (g := g) (cap := cap) hrr)) (by omega) hnl).mono ?_
    rintro e' w' ⟨rfl, n, rfl⟩
    have hgr := grownBy_sortedI (w := w) (g := g) (n := n) (os := #[]) (Lib.compact zs ++ List.replicate (zs.length - (Lib.compact zs).length) 0).toArray
    have hown := own_put (base := w0.heap.size) (n := n) (os := #[]) (zs := Lib.compact zs) (ys := Lib.compact zs ++ List.replicate (zs.length - (Lib.compact zs).length) 0) (S := c.S) hbg hg hcs hcm hS (by simp) (by simp; omega) (fun i hi => by rw [List.getElem?_append_left hi])
    rw [grow_empty] at hgr hown
    obtain ⟨c', e1, e2, e3⟩ := hr.newOwn (g := g) (delA st.own id) (fun i y hy => ⟨(lookA_delA _ _ _ _ hy).2, hr.owd id i _ y ho (lookA_delA _ _ _ _ hy).2 (Ne.symm (lookA_delA _ _ _ _ hy).1) g (by rw [hv]; rfl)⟩) (fun i cs hc e => hr.owb id _ ho i cs hc (by rw [hv, ← e]; rfl)) (fun hp e => (hr.tp hp).2.2.2 id _ ho (by rw [hv, ← e]; rfl)) hgr rfl hbg hS hown
    have hos : ∀ W, SRel c' W (.os st.nx) (.slice (some ⟨g, 0, none⟩) (Lib.compact zs).length cap) := fun W => by rw [← e2]; exact .os st.nx
    exact hK _ _ (h _ _ ⟨c', tmv e1 hT, e3.put (d := d) (r := .os st.nx) hd' (hos _) (Nat.le_refl _)⟩ Qx hQ)
end
end Eng
end Go.Proofs.Ytmmekdkllccmdaa
