/-
  The engine's rules: operations in a row; contracts and calls.
-/
import Derived.Test.YtmmekdkllccmdaaEgE
namespace Go.Proofs.Ytmmekdkllccmdaa
open Go.RowKit
set_option linter.unusedVariables false
namespace Eng
variable {P : Program}
def AO (P : Program) (w0 : World) (S0 : Ev) (T : Nat → Prop) (ops : Array Oper) (rest : List Oper) (st : St) (Q : St → Prop) : Prop :=
  ∀ a w, Rel w0 S0 T st a w → ∀ Qx : Exit → Act → World → Prop, (∀ st' a' w', Rel w0 S0 T st' a' w' → Q st' → Qx .normal a' w') → wpList P ops Qx rest a w
section
variable {w0 : World} {S0 : Ev} {T : Nat → Prop} {ops : Array Oper} {rest : List Oper} {st : St} {Q : St → Prop}
theorem ev_rel {a : Act} {w : World} {c : Cx} (hr : RelX w0 S0 st a w c) (x : Operand) : SRel c w (st.ev x) (a.eval x) := by
  cases x with
  | tmp t => exact hr.sl t
  | const v => exact .d _ _ (.v v)
  | func f => exact .d _ _ (.v _)
  | global g => exact .un _
theorem RelX.sees {a : Act} {w : World} {c : Cx} (hr : RelX w0 S0 st a w c) (o : Oper) : Sees o st.ev st.bx st.own w0.heap.size a w c :=
  ⟨fun x _ => ev_rel hr x, fun id cs hc => (hr.bx id cs hc).2.2, fun id x hx => (hr.ow id x hx).2, hr.sb⟩
theorem AO.nil (h : Q st) : AO P w0 S0 T ops [] st Q := fun a w hr Qx hQ => hQ st a w hr h
theorem AO.pure {op : Op} {ty : TypeId} {pos : String} {after : Array Edge} {d : Nat} {r : SV} (hp : PureOp P ⟨some d, op, ty, pos, after, none⟩ st.ev st.bx st.own r) (hd : Nat.ble (d + 1) st.n = true) (ht : Nat.ble r.top st.nx = true)
    (h : AO P w0 S0 T ops rest (st.put d r) Q) : AO P w0 S0 T ops (⟨some d, op, ty, pos, after, none⟩ :: rest) st Q := by
  rintro a w ⟨c, hT, hr⟩ Qx hQ
  refine wpList_plain rfl fun K hK => ?_
  exact hp w0.heap.size a w c (hr.sees _) K Qx fun v w' S' he hv => hK _ _ (h _ _ ⟨⟨S', c.B, c.O, c.T⟩, hT, (hr.grow he).put (Nat.le_of_ble_eq_true hd) hv (Nat.le_of_ble_eq_true ht)⟩ Qx hQ)
theorem AO.pureN {op : Op} {ty : TypeId} {pos : String} {after : Array Edge} {r : SV} (hp : PureOp P ⟨none, op, ty, pos, after, none⟩ st.ev st.bx st.own r)
    (h : AO P w0 S0 T ops rest st Q) : AO P w0 S0 T ops (⟨none, op, ty, pos, after, none⟩ :: rest) st Q := by
  rintro a w ⟨c, hT, hr⟩ Qx hQ
  refine wpList_plain rfl fun K hK => ?_
  exact hp w0.heap.size a w c (hr.sees _) K Qx fun v w' S' he hv => hK _ _ (h _ _ ⟨⟨S', c.B, c.O, c.T⟩, hT, hr.grow he⟩ Qx hQ)
/-- The guard's condition, as the state has it. -/
def guardOf (want : Bool) : SV → Option Bool
  | .d (.v (.bool b)) => some (b == want)
  | .cnd g (.d (.v (.bool b))) => some (g && (b == want))
  | _ => none
theorem AO.guarded {op : Op} {ty : TypeId} {pos : String} {after : Array Edge} {d j dj : Nat} {want G : Bool} {r : SV} (hj : (ops[j]?).bind (·.dst) = some dj) (hg : guardOf want (look st.sl dj) = some G)
    (hp : G = true → PureOp P ⟨some d, op, ty, pos, after, some (j, want)⟩ st.ev st.bx st.own r) (hd : Nat.ble (d + 1) st.n = true) (ht : Nat.ble r.top st.nx = true)
    (h : AO P w0 S0 T ops rest (st.put d (.cnd G r)) Q) : AO P w0 S0 T ops (⟨some d, op, ty, pos, after, some (j, want)⟩ :: rest) st Q := by
  rintro a w ⟨c, hT, hr⟩ Qx hQ
  refine wpList_step fun K hK => ?_
  have hjs := hr.sl dj
  have hy : Region.wanted ⟨some d, op, ty, pos, after, some (j, want)⟩ (yielded ops a.tmps) = G := by
    have hgd : ∀ b, a.tmps.getD dj undef = .bool b → a.tmps[dj]? = some (.bool b) := fun b hb => by
      rw [Array.getD_eq_getD_getElem?] at hb
      cases hx : a.tmps[dj]? with
      | none => rw [hx] at hb; cases hb
      | some u => rw [hx] at hb; simpa using hb
    have hun : a.tmps.getD dj undef = undef → ∀ b, a.tmps[dj]? ≠ some (.bool b) := fun hb b hx => by
      rw [Array.getD_eq_getD_getElem?, hx] at hb
      cases hb
    unfold Region.wanted yielded
    simp only [hj, Option.bind_some]
    cases hs : look st.sl dj with
    | d x =>
      rw [hs] at hg hjs
      cases x with
      | v u =>
        cases u with
        | bool b =>
          simp only [guardOf, Option.some.injEq] at hg
          rw [hgd b (srel_v hjs), ← hg]
          cases b <;> cases want <;> rfl
        | _ => simp [guardOf] at hg
      | _ => simp [guardOf] at hg
    | cnd g x =>
      rw [hs] at hg hjs
      obtain ⟨hj1, hj2⟩ := srel_cnd hjs
      cases x with
      | d x =>
        cases x with
        | v u =>
          cases u with
          | bool b =>
            simp only [guardOf, Option.some.injEq] at hg
            rw [← hg]
            cases hgb : g with
            | true =>
              rw [hgd b (srel_v (hj1 hgb))]
              cases b <;> cases want <;> rfl
            | false =>
              have := hun (hj2 hgb)
              cases hx : a.tmps[dj]? with
              | none => simp
              | some u =>
                cases u with
                | bool b' => exact absurd hx (this b')
                | _ => simp
          | _ => simp [guardOf] at hg
        | _ => simp [guardOf] at hg
      | _ => simp [guardOf] at hg
    | _ => rw [hs] at hg; simp [guardOf] at hg
  rw [hy]
  cases hG : G with
  | true =>
    simp only [if_true]
    exact hp hG w0.heap.size a w c (hr.sees _) K Qx fun v w' S' he hv => hK _ _ (h _ _ ⟨⟨S', c.B, c.O, c.T⟩, hT, (hr.grow he).put (Nat.le_of_ble_eq_true hd) (.cnd G r v (fun _ => hv) (fun e => (by rw [hG] at e; cases e))) (Nat.le_of_ble_eq_true ht)⟩ Qx hQ)
  | false =>
    simp only [Bool.false_eq_true, if_false]
    exact hK _ _ (h _ _ ⟨c, hT, hr.put (Nat.le_of_ble_eq_true hd) (.cnd G r undef (fun e => (by rw [hG] at e; cases e)) (fun _ => rfl)) (Nat.le_of_ble_eq_true ht)⟩ Qx hQ)
/-- Is it no row, or one that is there: then it is a slice. -/
def osOk (own : List (Nat × OwnE)) : SV → Bool
  | .os id => (lookA own id).isSome
  | _ => true
theorem osOk_spec {a : Act} {w : World} {c : Cx} (hr : RelX w0 S0 st a w c) {s : SV} (h : osOk st.own s = true) : ∀ id, s = .os id → (c.O id).cells = #[c.O id] ∧ (c.O id).oneCell' = true := by
  rintro id rfl
  obtain ⟨x, hx⟩ := Option.isSome_iff_exists.1 h
  exact (hr.ow id x hx).2.one
theorem AO.box {e : TypeId} {x : Operand} {ty : TypeId} {pos : String} {after : Array Edge} {d : Nat} {s : SV} {cs : List SV} (hx : SLe (st.ev x) s) (hcs : cellsOf s = cs) (hc : s.okc = true) (hos : osOk st.own s = true) (ht : Nat.ble s.top st.nx = true) (hd : Nat.ble (d + 1) st.n = true)
    (h : AO P w0 S0 T ops rest ⟨(d, .bx st.nx 0) :: st.sl, (st.nx, cs) :: st.bx, st.own, st.nx + 1, st.tp, st.n⟩ Q) : AO P w0 S0 T ops (⟨some d, .box e x, ty, pos, after, none⟩ :: rest) st Q := by
  rintro a w ⟨c, hT, hr⟩ Qx hQ
  refine wpList_plain rfl fun K hK => ?_
  subst hcs
  obtain ⟨k1, k2, k3⟩ := cells_rd (hx c w _ (ev_rel hr x)) hc (osOk_spec hr hos)
  have hrun : (execOp a.eval ⟨some d, .box e x, ty, pos, after, none⟩).run P w = .ok (.value (.pointer (some ⟨w.heap.size, 0, none⟩))) (w.alloc (.cells (a.eval x).cells.toList.toArray e)) := by
    simp [execOp, Instr.box, newVar, newRow]
  unfold Oper.wp
  rw [hrun]
  obtain ⟨c', e1, e2⟩ := hr.box (Nat.le_of_ble_eq_true hd) e k1 k2 k3 (topL_cells (Nat.le_of_ble_eq_true ht))
  exact hK _ _ (h _ _ ⟨c', tmv e1 hT, e2⟩ Qx hQ)
theorem AO.alloc {e : TypeId} {ty : TypeId} {pos : String} {after : Array Edge} {d : Nat} {z : Value} {cs : List SV} (hz : (P.info? e).bind (·.zero) = some z) (h1 : z.cells.toList.all (·.oneCell') = true) (hcs : z.cells.toList.map (fun u => SV.d (.v u)) = cs) (hd : Nat.ble (d + 1) st.n = true)
    (h : AO P w0 S0 T ops rest ⟨(d, .bx st.nx 0) :: st.sl, (st.nx, cs) :: st.bx, st.own, st.nx + 1, st.tp, st.n⟩ Q) : AO P w0 S0 T ops (⟨some d, .alloc e, ty, pos, after, none⟩ :: rest) st Q := by
  rintro a w ⟨c, hT, hr⟩ Qx hQ
  refine wpList_plain rfl fun K hK => ?_
  subst hcs
  cases hi : P.info? e with
  | none => rw [hi] at hz; cases hz
  | some i =>
    rw [hi] at hz
    simp only [Option.bind_some] at hz
    have hrun : (execOp a.eval ⟨some d, .alloc e, ty, pos, after, none⟩).run P w = .ok (.value (.pointer (some ⟨w.heap.size, 0, none⟩))) (w.alloc (.cells z.cells.toList.toArray e)) := by
      simp [execOp, Instr.alloc, zeroValue, typeInfo, hi, hz, newVar, newRow]
    unfold Oper.wp
    rw [hrun]
    have htop : ∀ (l : List Value), topL (l.map fun u => SV.d (.v u)) ≤ st.nx := fun l => by
      induction l with
      | nil => exact Nat.zero_le _
      | cons x r ih => exact (le_mx _ _ _).2 ⟨Nat.zero_le _, ih⟩
    obtain ⟨c', e1, e2⟩ := hr.box (arr := z.cells.toList) (cs := z.cells.toList.map fun u => SV.d (.v u)) (Nat.le_of_ble_eq_true hd) e (by simp) (fun u hu => (List.all_eq_true.1 h1) u hu) (fun j s u hs hu => by
      rw [List.getElem?_map, hu] at hs; simp at hs; subst hs; exact .d _ _ (.v u)) (htop _)
    exact hK _ _ (h _ _ ⟨c', tmv e1 hT, e2⟩ Qx hQ)
def szTy (P : Program) (t sz : Nat) : Bool := match P.info? t with
  | some i => Nat.beq i.size sz
  | none => false
theorem run_store (t : TypeId) (w : World) (b o : Nat) (u : Value) (h : szTy P t u.cells.toList.length = true) (hc : ∀ j, j < u.cells.toList.length → (w.cell? ⟨b, o + j, none⟩).isSome = true) (hf : ∀ j, j < u.cells.toList.length → w.frozen? ⟨b, o + j, none⟩ = false)
    (h1 : ∀ v ∈ u.cells.toList, v.oneCell' = true) : (Instr.storeAt t (.pointer (some ⟨b, o, none⟩)) u).run P w = .ok () (w.setCells b o u.cells.toList) := by
  unfold szTy at h
  cases hi : P.info? t with
  | none => rw [hi] at h; cases h
  | some i =>
    rw [hi] at h
    have hs : i.size = u.cells.size := by simpa using beq_eq h
    have := run_storeCells_cells (P := P) b o u.cells.toList 0 w (by simpa using hc) (by simpa using hf) h1
    rw [Nat.add_zero] at this
    simp [Instr.storeAt, Instr.sureAddr, storeVar, sizeOf, typeInfo, hi, hs, this]
theorem AO.store {t : TypeId} {x y : Operand} {ty : TypeId} {pos : String} {after : Array Edge} {id off : Nat} {cs cs' ks : List SV} {s : SV} (hx : SLe (st.ev x) (.bx id off)) (hy : SLe (st.ev y) s) (hb : lookA st.bx id = some cs) (hks : cellsOf s = ks) (hc : s.okc = true) (hos : osOk st.own s = true) (htop : Nat.ble s.top st.nx = true)
    (ht : szTy P t ks.length = true) (ho : Nat.ble (off + ks.length) cs.length = true) (hcs : spl cs off ks = cs')
    (h : AO P w0 S0 T ops rest ⟨st.sl, setA st.bx id cs', st.own, st.nx, st.tp, st.n⟩ Q) : AO P w0 S0 T ops (⟨none, .store t x y, ty, pos, after, none⟩ :: rest) st Q := by
  rintro a w ⟨c, hT, hr⟩ Qx hQ
  refine wpList_plain rfl fun K hK => ?_
  subst hks
  obtain ⟨k1, k2, k3⟩ := cells_rd (hy c w _ (ev_rel hr y)) hc (osOk_spec hr hos)
  have hxv := srel_bx (hx c w _ (ev_rel hr x))
  have ho' := Nat.le_of_ble_eq_true ho
  obtain ⟨_, _, _, _, arr, t', hh, hal, _, _⟩ := hr.bx id cs hb
  have hst := run_store (P := P) t w (c.B id) off (a.eval y) (by rw [k1]; exact ht) (fun j hj => by
    rw [cell_of_row _ _ _ _ _ _ hh, List.getElem?_toArray, List.getElem?_eq_getElem (by omega)]; rfl) (fun j hj => by simp [World.frozen?, hh]) k2
  have hrun : (execOp a.eval ⟨none, .store t x y, ty, pos, after, none⟩).run P w = .ok .skip (w.setCells (c.B id) off (a.eval y).cells.toList) := by
    simp [execOp, hxv, hst]
  unfold Oper.wp
  rw [hrun]
  have := hr.store hb (vs := (a.eval y).cells.toList) (off := off) k1 ho' k2 k3 (topL_cells (Nat.le_of_ble_eq_true htop))
  rw [hcs] at this
  exact hK _ _ (h _ _ ⟨c, hT, this⟩ Qx hQ)
/-- A store into an element of an owned row. -/
theorem AO.storeO {t : TypeId} {x y : Operand} {ty : TypeId} {pos : String} {after : Array Edge} {id off i j : Nat} {o : OwnE} {row row' ks : List D} {s : D} (hx : SLe (st.ev x) (.op id off)) (hy : SLe (st.ev y) (.d s)) (ho : lookA st.own id = some o) (hks : cellsOf (.d s) = ks.map SV.d) (hc : (SV.d s).okc = true)
    (ht : szTy P t ks.length = true) (hoff : off = i * o.sz + j) (hi : o.rows[i]? = some row) (hj : j + ks.length ≤ row.length) (hrow : spl row j ks = row') (h0 : Nat.ble 1 o.sz = true)
    (h : AO P w0 S0 T ops rest ⟨st.sl, st.bx, setA st.own id ⟨o.e, o.sz, o.rows.set i row'⟩, st.nx, st.tp, st.n⟩ Q) : AO P w0 S0 T ops (⟨none, .store t x y, ty, pos, after, none⟩ :: rest) st Q := by
  rintro a w ⟨c, hT, hr⟩ Qx hQ
  refine wpList_plain rfl fun K hK => ?_
  obtain ⟨k1, k2, k3⟩ := cells_rd (hy c w _ (ev_rel hr y)) hc (fun id e => by cases e)
  rw [hks, List.length_map] at k1
  rw [hks] at k3
  have hxv := hx c w _ (ev_rel hr x)
  generalize hu : a.eval x = u at hxv
  cases hxv with
  | op _ _ g n cap hO =>
    have hown := (hr.ow id o ho).2.slice (Nat.le_of_ble_eq_true h0)
    rcases hown with ⟨e1, e2⟩ | ⟨g', cap', cur, hv, hbg, hg, hn, hcm, hcs, hS, hrr⟩
    · rw [e2] at hi; simp at hi
    · have eg : g' = g ∧ cap' = cap := by
        rw [hv] at hO
        injection hO with e1 e2 e3
        injection e1 with e1
        injection e1 with e1
        exact ⟨e1, e3⟩
      obtain ⟨rfl, rfl⟩ := eg
      have hil := (List.getElem?_eq_some_iff.1 hi).1
      obtain ⟨hrl, _⟩ := hrr i row hi
      have hfit : i * o.sz + j + ks.length ≤ cur.size := by
        have h1 : (i + 1) * o.sz ≤ cap' * o.sz := Nat.mul_le_mul_right _ (by omega)
        have h2 : (i + 1) * o.sz = i * o.sz + o.sz := Nat.succ_mul _ _
        omega
      subst hoff
      have hst := run_store (P := P) t w g' (i * o.sz + j) (a.eval y) (by rw [k1]; exact ht) (fun q hq => by
        rw [cell_of_row _ _ _ _ _ _ hg, Array.getElem?_eq_getElem (by omega)]; rfl) (fun q hq => by simp [World.frozen?, hg]) k2
      have hrun : (execOp a.eval ⟨none, .store t x y, ty, pos, after, none⟩).run P w = .ok .skip (w.setCells g' (i * o.sz + j) (a.eval y).cells.toList) := by
        simp [execOp, hu, hst]
      unfold Oper.wp
      rw [hrun]
      have hg' : w.heap[g']? = some (.cells cur.toList.toArray o.e (0, 0)) := by simpa using hg
      have hh := heap_setCells_at g' (a.eval y).cells.toList (i * o.sz + j) w cur.toList o.e (0, 0) hg' (by rw [k1, Array.length_toList]; exact hfit)
      have hgr := below_setCells' g' (i * o.sz + j) (a.eval y).cells.toList w
      have hT' : st.tp = true → g' ≠ c.T := fun hp e => (hr.tp hp).2.2.2 id o ho (by rw [hv]; simp [blkOf, e])
      have k22 := (hr.write hbg hS hgr hT').2.1
      have := hr.rewr ho (x' := ⟨o.e, o.sz, o.rows.set i row'⟩) (g := g') (by rw [hv]; rfl) hgr (.inl ⟨Nat.le_of_ble_eq_true h0, by
        refine .inr ⟨g', cap', _, by rw [hv, List.length_set], hbg, hh, by rw [List.length_set]; exact hn, hcm, ?_, hS, fun q rw_ hq => ?_⟩
        · simp only [List.size_toArray, List.length_append, List.length_take, List.length_drop, Array.length_toList, k1]; omega
        · have hget : ∀ p, (cur.toList.take (i * o.sz + j) ++ (a.eval y).cells.toList ++ cur.toList.drop (i * o.sz + j + (a.eval y).cells.toList.length)).toArray[p]? = if p < i * o.sz + j then cur[p]? else if p < i * o.sz + j + ks.length then (a.eval y).cells.toList[p - (i * o.sz + j)]? else cur[p]? := fun p => by
            have := spl_get (cs := cur.toList) (ks := (a.eval y).cells.toList) (off := i * o.sz + j) (by rw [k1, Array.length_toList]; exact hfit) p
            rw [k1] at this
            rw [List.getElem?_toArray]
            simpa [spl, k1] using this
          have hq' : (o.rows.set i row')[q]? = some rw_ := hq
          rw [List.getElem?_set] at hq'
          by_cases hqi : i = q
          · subst hqi
            rw [if_pos rfl, if_pos hil] at hq'
            injection hq' with hq'
            subst hq'
            have hrl' : row'.length = o.sz := by rw [← hrow]; simp [spl]; omega
            refine ⟨hrl', fun p cc hp => ?_⟩
            have hpl : p < o.sz := by have := (List.getElem?_eq_some_iff.1 hp).1; omega
            rw [← hrow, spl_get hj] at hp
            show ∃ u, _[i * o.sz + p]? = some u ∧ _
            rw [hget]
            by_cases h1 : p < j
            · rw [if_pos h1] at hp
              rw [if_pos (by omega)]
              obtain ⟨u, u1, u2, u3⟩ := (hrr i row hi).2 p cc hp
              exact ⟨u, u1, u2, u3.mono (fun _ _ h => h) k22⟩
            · by_cases h2 : p < j + ks.length
              · rw [if_neg h1, if_pos h2] at hp
                rw [if_neg (by omega), if_pos (by omega), show i * o.sz + p - (i * o.sz + j) = p - j by omega]
                have hlt : p - j < (a.eval y).cells.toList.length := by omega
                refine ⟨_, List.getElem?_eq_getElem hlt, k2 _ (List.getElem_mem hlt), ?_⟩
                have := k3 (p - j) (.d cc) _ (by rw [List.getElem?_map, hp]; rfl) (List.getElem?_eq_getElem hlt)
                exact (srel_d this).mono (fun _ _ h => h) k22
              · rw [if_neg h1, if_neg h2] at hp
                rw [if_neg (by omega), if_neg (by omega)]
                obtain ⟨u, u1, u2, u3⟩ := (hrr i row hi).2 p cc hp
                exact ⟨u, u1, u2, u3.mono (fun _ _ h => h) k22⟩
          · rw [if_neg hqi] at hq'
            obtain ⟨q1, q2⟩ := hrr q rw_ hq'
            refine ⟨q1, fun p cc hp => ?_⟩
            have hpl : p < o.sz := by have := (List.getElem?_eq_some_iff.1 hp).1; omega
            obtain ⟨u, u1, u2, u3⟩ := q2 p cc hp
            refine ⟨u, ?_, u2, u3.mono (fun _ _ h => h) k22⟩
            show _[q * o.sz + p]? = _
            rw [hget]
            rcases Nat.lt_or_gt_of_ne hqi with hlt | hgt
            · have e1 : (i + 1) * o.sz ≤ q * o.sz := Nat.mul_le_mul_right _ hlt
              have e2 : (i + 1) * o.sz = i * o.sz + o.sz := Nat.succ_mul _ _
              rw [if_neg (by omega), if_neg (by omega)]; exact u1
            · have e1 : (q + 1) * o.sz ≤ i * o.sz := Nat.mul_le_mul_right _ hgt
              have e2 : (q + 1) * o.sz = q * o.sz + o.sz := Nat.succ_mul _ _
              rw [if_pos (by omega)]; exact u1⟩)
      exact hK _ _ (h _ _ ⟨c, hT, this⟩ Qx hQ)
def appTy (P : Program) (t e sz bs : Nat) : Bool := match P.underlying t with
  | some (.slice e') => Nat.beq e' e && (match P.info? e with
    | some i => Nat.beq i.size sz && Nat.beq i.bytes bs && Nat.blt 0 sz && Nat.blt 0 bs && (match i.zero with
      | some z => Nat.beq z.cells.size sz
      | none => false)
    | none => false)
  | _ => false
theorem appTy_spec {t e sz bs : Nat} (h : appTy P t e sz bs = true) : ∃ i z, P.underlying t = some (.slice e) ∧ P.info? e = some i ∧ i.zero = some z ∧ i.size = sz ∧ z.cells.size = sz ∧ i.bytes = bs ∧ 0 < sz ∧ 0 < bs := by
  unfold appTy at h
  split at h
  · rename_i e' hu
    simp only [Bool.and_eq_true] at h
    obtain ⟨h1, h2⟩ := h
    have := beq_eq h1
    subst this
    split at h2
    · rename_i i hi
      simp only [Bool.and_eq_true] at h2
      obtain ⟨⟨⟨⟨h3, h4⟩, h5⟩, h6⟩, h7⟩ := h2
      split at h7
      · rename_i z hz
        exact ⟨i, z, hu, hi, hz, beq_eq h3, beq_eq h7, beq_eq h4, Nat.le_of_ble_eq_true h5, Nat.le_of_ble_eq_true h6⟩
      · cases h7
    · cases h2
  · cases h
theorem AO.append {t e sz bs d id : Nat} {x y : Operand} {ty : TypeId} {pos : String} {after : Array Edge} {rows ys : List (List D)} (hx : SLe (st.ev x) (.os id)) (ho : lookA st.own id = some ⟨e, sz, rows⟩) (hy : SLe (st.ev y) (.d (.sl sz ys)))
    (ht : appTy P t e sz bs = true) (hb : (rows.length + ys.length) * bs ≤ 140737488355328) (hd : Nat.ble (d + 1) st.n = true)
    (h : AO P w0 S0 T ops rest ⟨(d, .os st.nx) :: st.sl, st.bx, (st.nx, ⟨e, sz, rows ++ ys⟩) :: delA st.own id, st.nx + 1, st.tp, st.n⟩ Q) :
    AO P w0 S0 T ops (⟨some d, .call ⟨.builtin .append, #[x, y], #[t, t]⟩, ty, pos, after, none⟩ :: rest) st Q := by
  rintro a w ⟨c, hT, hr⟩ Qx hQ
  refine wpList_plain rfl fun K hK => ?_
  obtain ⟨inf, z, hu, hi, hz, h1, h2, h3, h4, h5⟩ := appTy_spec ht
  have hxv := srel_os (hx c w _ (ev_rel hr x))
  have hys := srel_d (hy c w _ (ev_rel hr y))
  have hlen : rows.length + ys.length ≤ (rows.length + ys.length) * bs := Nat.le_mul_of_pos_right _ h5
  obtain ⟨v', w', c', hrun, e1, e2, hrel⟩ := hr.append (P := P) t ty ho inf z hu hi hz h1 h2 h4 hys (by simp only [maxLen]; omega) (by rw [h3]; exact hb)
  have hrun' : (execOp a.eval ⟨some d, .call ⟨.builtin .append, #[x, y], #[t, t]⟩, ty, pos, after, none⟩).run P w = .ok (.value v') w' := by
    simp [execOp, resolve, invoke, builtin, hxv, hrun]
  unfold Oper.wp
  rw [hrun']
  have hos : SRel c' w' (.os st.nx) v' := by rw [← e2]; exact .os st.nx
  exact hK _ _ (h _ _ ⟨c', tmv e1 hT, hrel.put (d := d) (r := .os st.nx) (Nat.le_of_ble_eq_true hd) hos (Nat.le_refl _)⟩ Qx hQ)
theorem AO.ownNil (x : Nat) (e : TypeId) (sz : Nat) (hx : look st.sl x = .d (.v (.slice none 0 0))) (h0 : Nat.ble 1 sz = true)
    (h : AO P w0 S0 T ops rest ⟨(x, .os st.nx) :: st.sl, st.bx, (st.nx, ⟨e, sz, []⟩) :: st.own, st.nx + 1, st.tp, st.n⟩ Q) : AO P w0 S0 T ops rest st Q := by
  rintro a w ⟨c, hT, hr⟩ Qx hQ
  obtain ⟨c', e1, e2⟩ := hr.ownNil x e sz hx (Nat.le_of_ble_eq_true h0)
  exact h _ _ ⟨c', tmv e1 hT, e2⟩ Qx hQ
end
/-! ### Contracts -/
/-- Called with arguments that read as 'args', f returns something that reads as a datum of which Φ holds, in new memory (where fr); no block that was there turns but the tape's. -/
def ACalls (P : Program) (f : FuncId) (tp fr : Bool) (args : List SV) (Φ : D → Prop) : Prop :=
  ∀ (w : World) (S Sτ : Cells) (T : Nat) (vals : List Value), (∀ b o, S b o → b < w.heap.size) → (∀ b o, Sτ b o → S b o) → (tp = true → TapeS w T Sτ ∧ ∀ o, ¬ S T o) → (tp = false → w.heap.size ≤ T) → vals.length = args.length →
    (∀ (i : Nat) (s : SV) (u : Value), args[i]? = some s → vals[i]? = some u → SRel ⟨S, fun _ => 0, fun _ => undef, T⟩ w s u) →
    Calls P f vals.toArray w fun e w' => ∃ (r : D) (v : Value) (S' : Cells), Φ r ∧ e = .returned v ∧ w.grownBy w' (some T) ∧ (∀ b o, b < w.heap.size → (S' b o ↔ S b o)) ∧ (∀ b o, S' b o → b < w'.heap.size) ∧ (tp = true → TapeS w' T Sτ) ∧
      Rd (fun b o => S' b o ∧ (fr = true → w.heap.size ≤ b)) w' r v
/-- A contract of a function that only computes from what it reads. -/
def FCalls (P : Program) (f : FuncId) (args : List D) (r : D) : Prop := ACalls P f false true (args.map SV.d) (· = r)
theorem ACalls.mono {f : FuncId} {tp fr : Bool} {args : List SV} {Φ Ψ : D → Prop} (h : ACalls P f tp fr args Φ) (hq : ∀ r, Φ r → Ψ r) : ACalls P f tp fr args Ψ :=
  fun w S Sτ T vals h1 h2 h3 h4 h5 h6 => (h w S Sτ T vals h1 h2 h3 h4 h5 h6).mono fun _ _ ⟨r, v, S', hr, q⟩ => ⟨r, v, S', hq r hr, q⟩
def callable (P : Program) (f : FuncId) : Bool := match P.funcs[f]? with
  | some fn => fn.body.isSome && !(fn.name == "runtime.NumGoroutine")
  | none => false
theorem run_call {f : FuncId} (hf : callable P f = true) (vals : Array Value) (w : World) : (callFunc f vals).run P w = .ok (.enter f vals) w := by
  unfold callable at hf
  split at hf
  · rename_i fn hfn
    simp only [Bool.and_eq_true, Bool.not_eq_true'] at hf
    obtain ⟨h1, h2⟩ := hf
    obtain ⟨c, hc⟩ := Option.isSome_iff_exists.1 h1
    have h3 : fn.name ≠ "runtime.NumGoroutine" := by simpa using h2
    simp [callFunc, hfn, h3, hc]
  · cases hf
/-- What a callee may read of the call's own: boxes and rows, for the time of the call. -/
def lent (c : Cx) (bx : List (Nat × List SV)) (own : List (Nat × OwnE)) : Cells := fun b o =>
  c.S b o ∨ (∃ id cs, lookA bx id = some cs ∧ c.B id = b ∧ o < cs.length) ∨ ∃ id x, lookA own id = some x ∧ blkOf (c.O id) = some b ∧ o < x.rows.length * x.sz
mutual
/-- How something of the call's own looks to a callee. -/
inductive View (bx : List (Nat × List SV)) (own : List (Nat × OwnE)) : SV → D → Prop
  | d (x : D) : View bx own (.d x) x
  | os {id : Nat} {x : OwnE} (h : lookA own id = some x) (h0 : Nat.ble 1 x.sz = true) : View bx own (.os id) (.sl x.sz x.rows)
  | bx {id off : Nat} {cs : List SV} {ds : List D} (h : lookA bx id = some cs) (h' : dOf (cs.drop off) = some ds) : View bx own (.bx id off) (.p ds)
  | agg {ss : List SV} {ds : List D} (h : Views bx own ss ds) : View bx own (.agg ss) (.agg ds)
  | fn {f : FuncId} {ss : List SV} {ds : List D} (h : Views bx own ss ds) : View bx own (.fn f ss) (.fn f ds)
inductive Views (bx : List (Nat × List SV)) (own : List (Nat × OwnE)) : List SV → List D → Prop
  | nil : Views bx own [] []
  | cons {s : SV} {y : D} {ss : List SV} {ds : List D} (h : View bx own s y) (t : Views bx own ss ds) : Views bx own (s :: ss) (y :: ds)
end
theorem View.osr {bx : List (Nat × List SV)} {own : List (Nat × OwnE)} {id e sz : Nat} {rows : List (List D)} (h : lookA own id = some ⟨e, sz, rows⟩) (h0 : Nat.ble 1 sz = true) : View bx own (.os id) (.sl sz rows) := .os h h0
theorem own_rd {base : Nat} {w : World} {S S' : Cells} {v : Value} {x : OwnE} (h : OwnAt base w S v x) (hS : ∀ b o, S b o → S' b o) (hg : ∀ g, blkOf v = some g → ∀ o, o < x.rows.length * x.sz → S' g o) : Rd S' w (.sl x.sz x.rows) v := by
  rcases h with ⟨h1, h2⟩ | ⟨g, cap, cur, hv, hbg, hh, hn, hcm, hcs, hnS, hr⟩
  · rw [h1, h2]
    exact Rd.sl x.sz [] none 0 0 0 (fun _ _ => undef) (Nat.le_refl _) (by simp [maxLen]) (.inl rfl) (fun i row h => by simp at h) (fun i row j c h => by simp at h)
  · subst hv
    have hcell : ∀ i row, x.rows[i]? = some row → ∀ j, j < x.sz → cur[i * x.sz + j]? = some (cur.getD (i * x.sz + j) undef) ∧ (cur.getD (i * x.sz + j) undef).oneCell' = true ∧ ∀ c, row[j]? = some c → Rd S w c (cur.getD (i * x.sz + j) undef) := fun i row hi j hj => by
      obtain ⟨q1, q2⟩ := hr i row hi
      obtain ⟨u, u1, u2, u3⟩ := q2 j row[j] (List.getElem?_eq_getElem (by omega))
      rw [Array.getD_eq_getD_getElem?, u1]
      refine ⟨rfl, u2, fun c hc => ?_⟩
      rw [List.getElem?_eq_getElem (by omega)] at hc
      injection hc with hc
      rw [← hc]; exact u3
    refine Rd.sl x.sz x.rows _ cap g 0 (fun i j => cur.getD (i * x.sz + j) undef) hn hcm (.inr rfl) (fun i row hi => ⟨(hr i row hi).1, fun j hj => ⟨?_, ?_, (hcell i row hi j hj).2.1⟩⟩) (fun i row j c hi hj => ?_)
    · rw [Nat.zero_add]; exact hg g rfl _ (row_lt (List.getElem?_eq_some_iff.1 hi).1 hj)
    · rw [Nat.zero_add, cell_of_row _ _ _ _ _ _ hh]; exact (hcell i row hi j hj).1
    · have hjl : j < x.sz := by have := (List.getElem?_eq_some_iff.1 hj).1; rw [(hr i row hi).1] at this; exact this
      exact ((hcell i row hi j hjl).2.2 c hj).mono hS (fun _ _ _ => rfl)
theorem view_rd {base : Nat} {w : World} {c : Cx} {bx : List (Nat × List SV)} {own : List (Nat × OwnE)} (hb : ∀ id cs, lookA bx id = some cs → BoxAt base w c (c.B id) cs) (ho : ∀ id x, lookA own id = some x → OwnX base w c.S (c.O id) x) {s : SV} {y : D} (hv : View bx own s y) :
    ∀ {u : Value}, SRel c w s u → Rd (lent c bx own) w y u := by
  refine View.rec (motive_1 := fun s y _ => ∀ {u : Value}, SRel c w s u → Rd (lent c bx own) w y u) (motive_2 := fun ss ds _ => ss.length = ds.length ∧ ∀ (i : Nat) (s : SV) (y : D), ss[i]? = some s → ds[i]? = some y → ∀ {u : Value}, SRel c w s u → Rd (lent c bx own) w y u) ?_ ?_ ?_ ?_ ?_ ?_ ?_ hv
  · exact fun x u h => (srel_d h).mono (fun _ _ h => .inl h) (fun _ _ _ => rfl)
  · intro id x hx h0 u h
    rw [srel_os h]
    exact own_rd ((ho id x hx).slice (Nat.le_of_ble_eq_true h0)) (fun _ _ h => .inl h) (fun g hg o hlt => .inr (.inr ⟨id, x, hx, hg, hlt⟩))
  · intro id off cs ds hc hd u h
    rw [srel_bx h]
    obtain ⟨_, _, arr, t, hh, hl, h1, hr⟩ := hb id cs hc
    have hds := dOf_spec hd
    have hdl : ds.length = cs.length - off := by
      have := congrArg List.length hds
      rw [List.length_drop, List.length_map] at this
      exact this.symm
    have hget : ∀ j c', ds[j]? = some c' → cs[off + j]? = some (.d c') := fun j c' hj => by
      rw [← List.getElem?_drop, hds, List.getElem?_map, hj]; rfl
    refine Rd.p ds _ off (fun j => arr.getD (off + j) undef) (fun j hj => ?_) (fun j c' hj => ?_)
    · have hlt : off + j < arr.length := by omega
      have e : arr.getD (off + j) undef = arr[off + j] := by rw [List.getD_eq_getElem?_getD, List.getElem?_eq_getElem hlt]; rfl
      rw [e]
      exact ⟨.inr (.inl ⟨id, cs, hc, rfl, by omega⟩), by rw [cell_of_row _ _ _ _ _ _ hh]; simp [hlt], h1 _ (List.getElem_mem hlt)⟩
    · have hlt : off + j < arr.length := by have := (List.getElem?_eq_some_iff.1 hj).1; omega
      have e : arr.getD (off + j) undef = arr[off + j] := by rw [List.getD_eq_getElem?_getD, List.getElem?_eq_getElem hlt]; rfl
      rw [e]
      exact (srel_d (hr (off + j) (.d c') _ (hget j c' hj) (List.getElem?_eq_getElem hlt))).mono (fun _ _ h => .inl h) (fun _ _ _ => rfl)
  · rintro ss ds _ ⟨hl, ih⟩ u h
    cases h with
    | agg _ us hul h1 h =>
      refine Rd.agg ds us (by omega) h1 fun i y v hy hv => ?_
      have hi : i < ss.length := by have := (List.getElem?_eq_some_iff.1 hy).1; omega
      exact ih i _ y (List.getElem?_eq_getElem hi) hy (h i _ v (List.getElem?_eq_getElem hi) hv)
  · rintro f ss ds _ ⟨hl, ih⟩ u h
    cases h with
    | fn _ _ us hul h =>
      refine Rd.fn f ds us (by omega) fun i y v hy hv => ?_
      have hi : i < ss.length := by have := (List.getElem?_eq_some_iff.1 hy).1; omega
      exact ih i _ y (List.getElem?_eq_getElem hi) hy (h i _ v (List.getElem?_eq_getElem hi) hv)
  · exact ⟨rfl, fun i s y h => by simp at h⟩
  · rintro s y ss ds _ _ ih1 ⟨hl, ih2⟩
    refine ⟨by simp [hl], fun i s' y' hs hy => ?_⟩
    cases i with
    | zero => simp at hs hy; subst hs hy; exact ih1
    | succ i => simp at hs hy; exact ih2 i s' y' hs hy
/-- The operands, in turn, as a callee sees them. -/
inductive Args (ρ : Operand → SV) (bx : List (Nat × List SV)) (own : List (Nat × OwnE)) : List Operand → List SV → Prop
  | nil : Args ρ bx own [] []
  | cons {x : Operand} {s : SV} {y : D} {xs : List Operand} {ss : List SV} (h : SLe (ρ x) s) (hv : View bx own s y) (t : Args ρ bx own xs ss) : Args ρ bx own (x :: xs) (.d y :: ss)
  | tp {x : Operand} {xs : List Operand} {ss : List SV} (h : SLe (ρ x) .tp) (t : Args ρ bx own xs ss) : Args ρ bx own (x :: xs) (.tp :: ss)
theorem Args.length {ρ : Operand → SV} {bx : List (Nat × List SV)} {own : List (Nat × OwnE)} {xs : List Operand} {ss : List SV} (h : Args ρ bx own xs ss) : xs.length = ss.length := by
  induction h with
  | nil => rfl
  | cons h hv t ih => simp [ih]
  | tp h t ih => simp [ih]
theorem Args.rel {base : Nat} {w : World} {c : Cx} {ρ : Operand → SV} {bx : List (Nat × List SV)} {own : List (Nat × OwnE)} (hb : ∀ id cs, lookA bx id = some cs → BoxAt base w c (c.B id) cs) (ho : ∀ id x, lookA own id = some x → OwnX base w c.S (c.O id) x) {xs : List Operand} {ss : List SV} (h : Args ρ bx own xs ss) {ev : Operand → Value} :
    (∀ x ∈ xs, SRel c w (ρ x) (ev x)) → ∀ (i : Nat) (s : SV) (u : Value), ss[i]? = some s → (xs.map ev)[i]? = some u → SRel ⟨lent c bx own, fun _ => 0, fun _ => undef, c.T⟩ w s u := by
  induction h with
  | nil => intro _ i s u hs; simp at hs
  | cons h hv t ih =>
    intro hρ i s u hs hu
    cases i with
    | zero =>
      simp at hs hu
      subst hs hu
      exact .d _ _ (view_rd hb ho hv (h c w _ (hρ _ (by simp))))
    | succ i => simp at hs hu; exact ih (fun x hx => hρ x (by simp [hx])) i s u hs (by simpa using hu)
  | tp h t ih =>
    intro hρ i s u hs hu
    cases i with
    | zero =>
      simp at hs hu
      subst hs hu
      rw [srel_tp (h c w _ (hρ _ (by simp)))]
      exact .tp
    | succ i => simp at hs hu; exact ih (fun x hx => hρ x (by simp [hx])) i s u hs (by simpa using hu)
theorem lent_lt {base : Nat} {w : World} {c : Cx} {bx : List (Nat × List SV)} {own : List (Nat × OwnE)} (hs : ∀ b o, c.S b o → b < w.heap.size) (hb : ∀ id cs, lookA bx id = some cs → BoxAt base w c (c.B id) cs) (ho : ∀ id x, lookA own id = some x → OwnX base w c.S (c.O id) x) : ∀ b o, lent c bx own b o → b < w.heap.size := by
  rintro b o (h | ⟨id, cs, hc, rfl, _⟩ | ⟨id, x, hx, hbk, _⟩)
  · exact hs b o h
  · obtain ⟨_, _, arr, t, hh, _⟩ := hb id cs hc
    exact (Array.getElem?_eq_some_iff.1 hh).1
  · exact ((ho id x hx).blk hbk).2.1
theorem eval_fn {a : Act} {w : World} {f : FuncId} {args : List Operand} {tys : Array TypeId} {dst : Option Tmp} {ty : TypeId} {pos : String} {after : Array Edge} {gd : Option (Nat × Bool)} (hf : callable P f = true) :
    (execOp a.eval ⟨dst, .call ⟨.value (.func f), args.toArray, tys⟩, ty, pos, after, gd⟩).run P w = .ok (.enter f (args.map a.eval).toArray) w := by
  simp [execOp, resolve, Act.eval, Deferred.ofValue, invoke, run_call hf]
/-- The stable cells behind a call: those ahead of it, and the new ones. -/
def after (S S' : Cells) (n : Nat) : Cells := fun b o => if b < n then S b o else S' b o
theorem PureOp.call {ρ : Operand → SV} {bx : List (Nat × List SV)} {own : List (Nat × OwnE)} {dst : Option Tmp} {ty : TypeId} {pos : String} {aft : Array Edge} {gd : Option (Nat × Bool)} {f : FuncId} {args : List Operand} {tys : Array TypeId} {ds : List D} {r : D}
    (hc : FCalls P f ds r) (ha : Args ρ bx own args (ds.map SV.d)) (hf : callable P f = true) : PureOp P ⟨dst, .call ⟨.value (.func f), args.toArray, tys⟩, ty, pos, aft, gd⟩ ρ bx own (.d r) := by
  intro base a w c hs K Q hK
  unfold Oper.wp
  rw [eval_fn hf]
  show Calls _ _ _ _ _
  have hl : (args.map a.eval).length = (ds.map SV.d).length := by rw [List.length_map, ha.length]
  have hlt := lent_lt hs.sb hs.bx hs.ow
  have hrel := ha.rel hs.bx hs.ow (ev := a.eval) (fun x hx => hs.op x (by simp [Op.operands, Call.operands, hx]))
  refine (hc w (lent c bx own) (fun _ _ => False) w.heap.size (args.map a.eval) hlt (fun _ _ h => h.elim) (fun h => by cases h) (fun _ => Nat.le_refl _) hl (fun i s u hi hu => ?_)).mono ?_
  · have h3 := hrel i s u hi hu
    rw [List.getElem?_map] at hi
    cases hd : ds[i]? with
    | none => rw [hd] at hi; cases hi
    | some d =>
      rw [hd] at hi
      simp only [Option.map_some, Option.some.injEq] at hi
      subst hi
      have h4 := srel_d h3
      exact .d _ _ h4
  · rintro e w' ⟨r', v, S', rfl, rfl, hg, ho, hs', _, hr⟩
    refine hK v w' (after c.S S' w.heap.size) ⟨⟨hg.os, hg.tape, hg.output, hg.size, fun k hk => hg.block k hk (fun e => by have := Option.some.inj e; omega)⟩, fun b o hb => by unfold after; rw [if_pos hb], fun b o hb => ?_⟩ (.d _ _ (hr.mono (fun b o hb => ?_) (fun _ _ _ => rfl)))
    · unfold after at hb
      split at hb
      · exact Nat.lt_of_lt_of_le (hs.sb b o hb) hg.size
      · exact hs' b o hb
    · show after c.S S' w.heap.size b o
      unfold after
      rw [if_neg (by have := hb.2 rfl; omega)]
      exact hb.1
theorem PureOp.pcall {ρ : Operand → SV} {bx : List (Nat × List SV)} {own : List (Nat × OwnE)} {dst : Option Tmp} {ty : TypeId} {pos : String} {aft : Array Edge} {gd : Option (Nat × Bool)} {f : FuncId} {args : List Operand} {tys : Array TypeId} {ds : List D} {r : D}
    (ha : Args ρ bx own args (ds.map SV.d)) (hc : FCalls P f ds r) (hf : callable P f = true) : PureOp P ⟨dst, .call ⟨.value (.func f), args.toArray, tys⟩, ty, pos, aft, gd⟩ ρ bx own (.d r) := PureOp.call hc ha hf
section
variable {w0 : World} {S0 : Ev} {T : Nat → Prop} {ops : Array Oper} {rest : List Oper} {st : St} {Q : St → Prop}
/-- A call with the tape at hand. -/
theorem AO.callT {f : FuncId} {args : List Operand} {tys : Array TypeId} {ty : TypeId} {pos : String} {aft : Array Edge} {d : Nat} {ss : List SV} {Φ : D → Prop} (hc : ACalls P f true true ss Φ) (ha : Args st.ev st.bx st.own args ss) (htp : st.tp = true) (hf : callable P f = true)
    (hd : Nat.ble (d + 1) st.n = true) (h : ∀ r, Φ r → AO P w0 S0 T ops rest (st.put d (.d r)) Q) : AO P w0 S0 T ops (⟨some d, .call ⟨.value (.func f), args.toArray, tys⟩, ty, pos, aft, none⟩ :: rest) st Q := by
  rintro a w ⟨c, hT, hr⟩ Qx hQ
  refine wpList_plain rfl fun K hK => ?_
  unfold Oper.wp
  rw [eval_fn hf]
  show Calls _ _ _ _ _
  have hl : (args.map a.eval).length = ss.length := by rw [List.length_map, ha.length]
  obtain ⟨t1, t3, t4, t5⟩ := hr.tp htp
  have hbx : ∀ id cs, lookA st.bx id = some cs → BoxAt w0.heap.size w c (c.B id) cs := fun id cs hc => (hr.bx id cs hc).2.2
  have how : ∀ id x, lookA st.own id = some x → OwnX w0.heap.size w c.S (c.O id) x := fun id x hx => (hr.ow id x hx).2
  have hlt := lent_lt hr.sb hbx how
  refine (hc w (lent c st.bx st.own) S0.St c.T (args.map a.eval) hlt (fun b o hb => .inl (hr.stt b o hb)) (fun _ => ⟨t1, fun o ho => ?_⟩) (fun h => by cases h) hl (ha.rel hbx how (fun x _ => ev_rel hr x))).mono ?_
  · rcases ho with ho | ⟨id, cs, hc, e, _⟩ | ⟨id, x, hx, hb, _⟩
    · exact t3 o ho
    · exact t4 id cs hc e
    · exact t5 id x hx hb
  · rintro e w' ⟨r, v, S', hΦ, rfl, hg, ho, hs', hT', hrd⟩
    have h1 := hr.growT htp (S' := after c.S S' w.heap.size) hg (fun b o hb => by unfold after; rw [if_pos hb]) (fun b o hb => by
      unfold after at hb
      split at hb
      · exact Nat.lt_of_lt_of_le (hr.sb b o hb) hg.size
      · exact hs' b o hb) (hT' rfl)
    refine hK _ _ (h r hΦ _ _ ⟨⟨after c.S S' w.heap.size, c.B, c.O, c.T⟩, hT, h1.put (r := .d r) (v := v) (Nat.le_of_ble_eq_true hd) (.d _ _ (hrd.mono (fun b o hb => ?_) (fun _ _ _ => rfl))) (Nat.zero_le _)⟩ Qx hQ)
    show after c.S S' w.heap.size b o
    unfold after
    rw [if_neg (by have := hb.2 rfl; omega)]
    exact hb.1
/-- A call without it, whose result is not said exactly. -/
theorem AO.callD {f : FuncId} {args : List Operand} {tys : Array TypeId} {ty : TypeId} {pos : String} {aft : Array Edge} {d : Nat} {ds : List D} {Φ : D → Prop} (hc : ACalls P f false true (ds.map SV.d) Φ) (ha : Args st.ev st.bx st.own args (ds.map SV.d)) (hf : callable P f = true)
    (hd : Nat.ble (d + 1) st.n = true) (h : ∀ r, Φ r → AO P w0 S0 T ops rest (st.put d (.d r)) Q) : AO P w0 S0 T ops (⟨some d, .call ⟨.value (.func f), args.toArray, tys⟩, ty, pos, aft, none⟩ :: rest) st Q := by
  rintro a w ⟨c, hT, hr⟩ Qx hQ
  refine wpList_plain rfl fun K hK => ?_
  unfold Oper.wp
  rw [eval_fn hf]
  show Calls _ _ _ _ _
  have hl : (args.map a.eval).length = (ds.map SV.d).length := by rw [List.length_map, ha.length]
  have hbx : ∀ id cs, lookA st.bx id = some cs → BoxAt w0.heap.size w c (c.B id) cs := fun id cs hc => (hr.bx id cs hc).2.2
  have how : ∀ id x, lookA st.own id = some x → OwnX w0.heap.size w c.S (c.O id) x := fun id x hx => (hr.ow id x hx).2
  have hlt := lent_lt hr.sb hbx how
  have hrel := ha.rel hbx how (ev := a.eval) (fun x _ => ev_rel hr x)
  refine (hc w (lent c st.bx st.own) (fun _ _ => False) w.heap.size (args.map a.eval) hlt (fun _ _ h => h.elim) (fun h => by cases h) (fun _ => Nat.le_refl _) hl (fun i s u hi hu => ?_)).mono ?_
  · have h3 := hrel i s u hi hu
    rw [List.getElem?_map] at hi
    cases hd : ds[i]? with
    | none => rw [hd] at hi; cases hi
    | some d =>
      rw [hd] at hi
      simp only [Option.map_some, Option.some.injEq] at hi
      subst hi
      have h4 := srel_d h3
      exact .d _ _ h4
  · rintro e w' ⟨r, v, S', hΦ, rfl, hg, ho, hs', _, hrd⟩
    have he : Ext c.S w (after c.S S' w.heap.size) w' := ⟨⟨hg.os, hg.tape, hg.output, hg.size, fun k hk => hg.block k hk (fun e => by have := Option.some.inj e; omega)⟩, fun b o hb => by unfold after; rw [if_pos hb], fun b o hb => by
      unfold after at hb
      split at hb
      · exact Nat.lt_of_lt_of_le (hr.sb b o hb) hg.size
      · exact hs' b o hb⟩
    refine hK _ _ (h r hΦ _ _ ⟨⟨after c.S S' w.heap.size, c.B, c.O, c.T⟩, hT, (hr.grow he).put (r := .d r) (v := v) (Nat.le_of_ble_eq_true hd) (.d _ _ (hrd.mono (fun b o hb => ?_) (fun _ _ _ => rfl))) (Nat.zero_le _)⟩ Qx hQ)
    show after c.S S' w.heap.size b o
    unfold after
    rw [if_neg (by have := hb.2 rfl; omega)]
    exact hb.1
theorem AO.tcall {f : FuncId} {args : List Operand} {tys : Array TypeId} {ty : TypeId} {pos : String} {aft : Array Edge} {d : Nat} {ss : List SV} {Φ : D → Prop} (ha : Args st.ev st.bx st.own args ss) (hc : ACalls P f true true ss Φ) (htp : st.tp = true) (hf : callable P f = true)
    (hd : Nat.ble (d + 1) st.n = true) (h : ∀ r, Φ r → AO P w0 S0 T ops rest (st.put d (.d r)) Q) : AO P w0 S0 T ops (⟨some d, .call ⟨.value (.func f), args.toArray, tys⟩, ty, pos, aft, none⟩ :: rest) st Q := AO.callT hc ha htp hf hd h
theorem AO.dcall {f : FuncId} {args : List Operand} {tys : Array TypeId} {ty : TypeId} {pos : String} {aft : Array Edge} {d : Nat} {ds : List D} {Φ : D → Prop} (ha : Args st.ev st.bx st.own args (ds.map SV.d)) (hc : ACalls P f false true (ds.map SV.d) Φ) (hf : callable P f = true)
    (hd : Nat.ble (d + 1) st.n = true) (h : ∀ r, Φ r → AO P w0 S0 T ops rest (st.put d (.d r)) Q) : AO P w0 S0 T ops (⟨some d, .call ⟨.value (.func f), args.toArray, tys⟩, ty, pos, aft, none⟩ :: rest) st Q := AO.callD hc ha hf hd h
end
end Eng
end Go.Proofs.Ytmmekdkllccmdaa
