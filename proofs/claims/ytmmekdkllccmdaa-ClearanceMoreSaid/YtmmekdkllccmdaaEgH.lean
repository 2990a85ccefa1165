/-
  The engine: structs and rows built; equality of structs; slicing; calls of function values; rows given up.
-/
import Derived.Test.YtmmekdkllccmdaaEgG
import Derived.Great.BuildSlice
namespace Go.Proofs.Ytmmekdkllccmdaa
open Go.RowKit
set_option linter.unusedVariables false
namespace Eng
variable {P : Program}
theorem foldl_set : ∀ (vs : List Value) (k off : Nat) (cs : Array Value), off + k + vs.length ≤ cs.size →
    ((vs.zipIdx k).foldl (fun (cs : Array Value) (p : Value × Nat) => cs.setIfInBounds (off + p.2) p.1) cs).toList = spl cs.toList (off + k) vs
  | [], k, off, cs, h => by simp [spl]
  | v :: vs, k, off, cs, h => by
    simp at h
    rw [List.zipIdx_cons, List.foldl_cons, foldl_set vs (k + 1) off _ (by simp; omega)]
    apply List.ext_getElem?
    intro j
    rw [spl_get (by simp; omega), spl_get (by simp; omega)]
    simp only [Array.toList_setIfInBounds, List.getElem?_set, List.length_cons, Array.length_toList]
    by_cases h1 : j < off + k
    · rw [if_pos (by omega), if_neg (by omega), if_pos h1]
    · by_cases h2 : j = off + k
      · subst h2
        rw [if_pos (by omega), if_pos rfl, if_pos (by omega), if_neg (by omega), if_pos (by omega)]; simp
      · by_cases h3 : j < off + k + (vs.length + 1)
        · rw [if_neg (by omega), if_pos (by omega), if_neg h1, if_pos h3, show j - (off + k) = (j - (off + (k + 1))) + 1 by omega]; simp
        · rw [if_neg (by omega), if_neg (by omega), if_neg (by omega), if_neg h1, if_neg h3]
theorem spl_len {α : Type} {cs ks : List α} {off : Nat} (h : off + ks.length ≤ cs.length) : (spl cs off ks).length = cs.length := by
  simp [spl]; omega
/-- The cells of a struct or a row of which some parts are given. -/
def fillS (pl : List (Nat × Nat)) : List SV → List (Nat × SV) → Option (List SV)
  | cells, [] => some cells
  | cells, (i, s) :: rest => match pl[i]? with
    | some (off, sz) => bif Nat.beq (cellsOf s).length sz && Nat.ble (off + sz) cells.length && s.okc then fillS pl (spl cells off (cellsOf s)) rest else none
    | none => none
theorem fill_rel {c : Cx} {w : World} {pl : List (Nat × Nat)} {place : Nat → Option (Nat × Nat)} (hp : ∀ i p, pl[i]? = some p → place i = some p) : ∀ (parts : List (Nat × SV)) (vals : List (Nat × Value)) (cells : List SV) (arr : Array Value) (cs : List SV),
    vals.length = parts.length → (∀ (i : Nat) (p : Nat × SV) (q : Nat × Value), parts[i]? = some p → vals[i]? = some q → p.1 = q.1 ∧ SRel c w p.2 q.2 ∧ ∀ id, p.2 = .os id → (c.O id).cells = #[c.O id] ∧ (c.O id).oneCell' = true) →
    arr.toList.length = cells.length → (∀ u ∈ arr.toList, u.oneCell' = true) → (∀ (j : Nat) (s : SV) (u : Value), cells[j]? = some s → arr.toList[j]? = some u → SRel c w s u) → fillS pl cells parts = some cs →
    ∃ arr', Instr.fill place arr vals = some arr' ∧ arr'.toList.length = cs.length ∧ (∀ u ∈ arr'.toList, u.oneCell' = true) ∧ ∀ (j : Nat) (s : SV) (u : Value), cs[j]? = some s → arr'.toList[j]? = some u → SRel c w s u
  | [], vals, cells, arr, cs, hl, hv, h1, h2, h3, h4 => by
    have : vals = [] := List.eq_nil_of_length_eq_zero (by simpa using hl)
    subst this
    simp only [fillS, Option.some.injEq] at h4
    subst h4
    exact ⟨arr, rfl, h1, h2, h3⟩
  | (i, s) :: parts, [], cells, arr, cs, hl, _, _, _, _, _ => by simp at hl
  | (i, s) :: parts, (i', u) :: vals, cells, arr, cs, hl, hv, h1, h2, h3, h4 => by
    obtain ⟨e, hs, hos⟩ := hv 0 (i, s) (i', u) rfl rfl
    simp only at e hs hos
    subst e
    unfold fillS at h4
    cases hpl : pl[i]? with
    | none => rw [hpl] at h4; cases h4
    | some p =>
      obtain ⟨off, sz⟩ := p
      rw [hpl] at h4
      cases hb : (Nat.beq (cellsOf s).length sz && Nat.ble (off + sz) cells.length && s.okc) with
      | false => simp only [hb, cond_false] at h4; cases h4
      | true =>
        simp only [hb, cond_true] at h4
        simp only [Bool.and_eq_true] at hb
        obtain ⟨⟨hb1, hb2⟩, hb3⟩ := hb
        have hb1 := beq_eq hb1
        have hb2 := Nat.le_of_ble_eq_true hb2
        obtain ⟨k1, k2, k3⟩ := cells_rd hs hb3 hos
        have hsz : u.cells.size = sz := by rw [← Array.length_toList]; omega
        have hfold : (u.cells.zipIdx.foldl (fun (cs : Array Value) (p : Value × Nat) => cs.setIfInBounds (off + p.2) p.1) arr).toList = spl arr.toList off u.cells.toList := by
          rw [← Array.foldl_toList, Array.toList_zipIdx]
          exact foldl_set u.cells.toList 0 off arr (by rw [Array.length_toList, hsz, ← Array.length_toList, h1]; omega)
        obtain ⟨arr', q1, q2, q3, q4⟩ := fill_rel hp parts vals (spl cells off (cellsOf s)) (u.cells.zipIdx.foldl (fun (cs : Array Value) (p : Value × Nat) => cs.setIfInBounds (off + p.2) p.1) arr) cs (by simpa using hl) (fun j p q hj hq => hv (j + 1) p q (by simpa using hj) (by simpa using hq)) (by rw [hfold, spl_len (by omega), spl_len (by omega)]; exact h1) (fun v hv' => by
            rw [hfold] at hv'
            simp only [spl, List.mem_append] at hv'
            rcases hv' with (hv' | hv') | hv'
            · exact h2 v (List.mem_of_mem_take hv')
            · exact k2 v hv'
            · exact h2 v (List.mem_of_mem_drop hv')) (fun j s' v hs' hv' => by
            rw [hfold, spl_get (by omega)] at hv'
            rw [spl_get (by omega)] at hs'
            by_cases g1 : j < off
            · rw [if_pos g1] at hs' hv'; exact h3 j s' v hs' hv'
            · by_cases g2 : j < off + (cellsOf s).length
              · rw [if_neg g1, if_pos g2] at hs'
                rw [if_neg g1, if_pos (by omega)] at hv'
                exact k3 _ s' v hs' hv'
              · rw [if_neg g1, if_neg g2] at hs'
                rw [if_neg g1, if_neg (by omega)] at hv'
                exact h3 j s' v hs' hv') h4
        refine ⟨arr', ?_, q2, q3, q4⟩
        unfold Instr.fill
        rw [hp i _ hpl]
        have hnot : ¬ (u.cells.size ≠ sz ∨ arr.size < off + u.cells.size) := by
          rw [hsz]
          have : arr.size = cells.length := by rw [← Array.length_toList]; exact h1
          omega
        simp only [hsz, ne_eq, not_true_eq_false, decide_false, Bool.false_or]
        rw [if_neg (by simp; have : arr.size = cells.length := by rw [← Array.length_toList]; exact h1
                       omega)]
        exact q1
/-- The places of a composite's parts, as a list; its zero value. -/
def builtOk (P : Program) (t : TypeId) (pl : List (Nat × Nat)) : Bool := match P.underlying t with
  | some (.struct fs) => (match fs.toList.mapM (fun f => (P.info? f.type).map fun i => (f.offset, i.size)) with
    | some q => q == pl
    | none => false)
  | some (.array n e) => (match P.info? e with
    | some i => (List.range pl.length).all fun k => pl.getD k (0, 0) == (k * i.size, i.size)
    | none => false)
  | _ => false
theorem builtOk_spec {t : TypeId} {pl : List (Nat × Nat)} {z : Value} (h : builtOk P t pl = true) (hz : (P.info? t).bind (·.zero) = some z) : ∃ place : Nat → Option (Nat × Nat), (∀ i p, pl[i]? = some p → place i = some p) ∧ ∀ vals arr, Instr.fill place z.cells vals = some arr → P.built t vals = some arr := by
  cases hi : P.info? t with
  | none => rw [hi] at hz; cases hz
  | some it =>
    rw [hi] at hz
    simp only [Option.bind_some] at hz
    unfold builtOk at h
    split at h
    · rename_i fs hu
      split at h
      · rename_i q hq
        have e : q = pl := by simpa using h
        subst e
        refine ⟨fun i => q.toArray[i]?, fun i p hp => by simpa using hp, fun vals arr hf => ?_⟩
        unfold Program.built
        simp only [hi, hu, hz, hq]
        exact hf
      · cases h
    · rename_i n e hu
      split at h
      · rename_i ie hie
        refine ⟨fun i => some (i * ie.size, ie.size), fun i p hp => ?_, fun vals arr hf => ?_⟩
        · have hl := (List.getElem?_eq_some_iff.1 hp).1
          have := List.all_eq_true.1 h i (List.mem_range.2 hl)
          rw [List.getD_eq_getElem?_getD, hp] at this
          simp at this
          show some _ = some p
          rw [this]
        · unfold Program.built
          simp only [hi, hu, hz, hie]
          exact hf
      · cases h
    · cases h
/-- The operands of a composite, in turn. -/
inductive Parts (ρ : Operand → SV) (own : List (Nat × OwnE)) : List (Nat × Operand) → List (Nat × SV) → Prop
  | nil : Parts ρ own [] []
  | cons {i : Nat} {x : Operand} {s : SV} {xs : List (Nat × Operand)} {ss : List (Nat × SV)} (h : SLe (ρ x) s) (ho : osOk own s = true) (t : Parts ρ own xs ss) : Parts ρ own ((i, x) :: xs) ((i, s) :: ss)
theorem Parts.rel {base : Nat} {w : World} {c : Cx} {ρ : Operand → SV} {own : List (Nat × OwnE)} (ho : ∀ id x, lookA own id = some x → OwnX base w c.S (c.O id) x) {xs : List (Nat × Operand)} {ss : List (Nat × SV)} (h : Parts ρ own xs ss) {ev : Operand → Value} :
    (∀ x ∈ xs, SRel c w (ρ x.2) (ev x.2)) → xs.length = ss.length ∧ ∀ (i : Nat) (p : Nat × SV) (q : Nat × Value), ss[i]? = some p → (xs.map fun y => (y.1, ev y.2))[i]? = some q → p.1 = q.1 ∧ SRel c w p.2 q.2 ∧ ∀ id, p.2 = .os id → (c.O id).cells = #[c.O id] ∧ (c.O id).oneCell' = true := by
  induction h with
  | nil => exact fun _ => ⟨rfl, fun i p q h => by simp at h⟩
  | @cons i0 x0 s0 xs0 ss0 h ho' t ih =>
    intro hρ
    obtain ⟨l1, l2⟩ := ih (fun x hx => hρ x (by simp [hx]))
    refine ⟨by simp [l1], fun i p q hp hq => ?_⟩
    cases i with
    | zero =>
      simp at hp hq
      subst hp hq
      refine ⟨rfl, h c w _ (hρ (i0, x0) (by simp)), fun id e => ?_⟩
      simp only at e
      subst e
      obtain ⟨x, hx⟩ := Option.isSome_iff_exists.1 ho'
      exact (ho id x hx).one
    | succ i => simp at hp hq; exact l2 i p q hp (by simpa using hq)
section ops
variable {ρ : Operand → SV} {bx : List (Nat × List SV)} {own : List (Nat × OwnE)} {dst : Option Tmp} {ty : TypeId} {pos : String} {aft : Array Edge} {gd : Option (Nat × Bool)}
theorem build_run {base : Nat} {a : Act} {w : World} {c : Cx} {t : TypeId} {z : Value} {pl : List (Nat × Nat)} {xs : List (Nat × Operand)} {ss : List (Nat × SV)} {cs : List SV}
    (hz : (P.info? t).bind (·.zero) = some z) (h1 : z.cells.toList.all (·.oneCell') = true) (hpl : builtOk P t pl = true) (hx : Parts ρ own xs ss) (hf : fillS pl (z.cells.toList.map fun u => SV.d (.v u)) ss = some cs) (hs : Sees ⟨dst, .build t xs.toArray, ty, pos, aft, gd⟩ ρ bx own base a w c) :
    ∃ us : List Value, (execOp a.eval ⟨dst, .build t xs.toArray, ty, pos, aft, gd⟩).run P w = .ok (.value (.agg us.toArray)) w ∧ us.length = cs.length ∧ (∀ u ∈ us, u.oneCell' = true) ∧ ∀ (j : Nat) (s : SV) (u : Value), cs[j]? = some s → us[j]? = some u → SRel c w s u := by
  obtain ⟨l1, l2⟩ := hx.rel hs.ow (ev := a.eval) (fun x hx => hs.op x.2 (by simp [Op.operands]; exact ⟨x.1, hx⟩))
  obtain ⟨place, hp1, hp2⟩ := builtOk_spec hpl hz
  obtain ⟨arr, q1, q2, q3, q4⟩ := fill_rel (c := c) (w := w) (pl := pl) (place := place) hp1 ss (xs.map fun y => (y.1, a.eval y.2)) _ z.cells cs (by rw [List.length_map, l1]) l2 (by simp) (fun u hu => List.all_eq_true.1 h1 u hu) (fun j s u hj hu => by
    rw [List.getElem?_map, hu] at hj; simp at hj; subst hj; exact .d _ _ (.v u)) hf
  refine ⟨arr.toList, ?_, q2, q3, q4⟩
  have hparts : (xs.toArray.map fun (i, x) => (i, a.eval x)).toList = xs.map fun y => (y.1, a.eval y.2) := by simp
  have hrun := run_build (P := P) w t (xs.toArray.map fun (i, x) => (i, a.eval x)) arr (by rw [hparts]; exact hp2 _ _ q1)
  simp only [execOp, Sem.run_bind, hrun, Result.andThen_ok, Array.toArray_toList]
  rfl
theorem PureOp.build {t : TypeId} {z : Value} {pl : List (Nat × Nat)} {xs : List (Nat × Operand)} {ss : List (Nat × SV)} {cs : List SV} {ds : List D}
    (hz : (P.info? t).bind (·.zero) = some z) (h1 : z.cells.toList.all (·.oneCell') = true) (hpl : builtOk P t pl = true) (hx : Parts ρ own xs ss) (hf : fillS pl (z.cells.toList.map fun u => SV.d (.v u)) ss = some cs) (hd : dOf cs = some ds) : PureOp P ⟨dst, .build t xs.toArray, ty, pos, aft, gd⟩ ρ bx own (.d (.agg ds)) :=
  .of_run fun base a w c hs => by
    obtain ⟨us, q1, q2, q3, q4⟩ := build_run (P := P) hz h1 hpl hx hf hs
    have hds := dOf_spec hd
    exact ⟨_, q1, .d _ _ (Rd.agg ds us (by rw [q2, hds, List.length_map]) q3 fun i c' u hc hu => srel_d (q4 i (.d c') u (by rw [hds, List.getElem?_map, hc]; rfl) hu))⟩
theorem PureOp.buildS {t : TypeId} {z : Value} {pl : List (Nat × Nat)} {xs : List (Nat × Operand)} {ss : List (Nat × SV)} {cs : List SV}
    (hz : (P.info? t).bind (·.zero) = some z) (h1 : z.cells.toList.all (·.oneCell') = true) (hpl : builtOk P t pl = true) (hx : Parts ρ own xs ss) (hf : fillS pl (z.cells.toList.map fun u => SV.d (.v u)) ss = some cs) : PureOp P ⟨dst, .build t xs.toArray, ty, pos, aft, gd⟩ ρ bx own (.agg cs) :=
  .of_run fun base a w c hs => by
    obtain ⟨us, q1, q2, q3, q4⟩ := build_run (P := P) hz h1 hpl hx hf hs
    exact ⟨_, q1, .agg cs us q2 q3 q4⟩
/-- The rows of n elements out of their cells. -/
def chunk {α : Type} (sz : Nat) : Nat → List α → List (List α)
  | 0, _ => []
  | n + 1, l => l.take sz :: chunk sz n (l.drop sz)
theorem chunk_get {α : Type} (sz : Nat) : ∀ (n : Nat) (l : List α) (i : Nat), i < n → (chunk sz n l)[i]? = some ((l.drop (i * sz)).take sz)
  | 0, _, i, h => by omega
  | n + 1, l, 0, _ => by simp [chunk]
  | n + 1, l, i + 1, h => by
    rw [chunk, List.getElem?_cons_succ, chunk_get sz n _ i (by omega), List.drop_drop]
    congr 3; rw [Nat.succ_mul]; omega
theorem chunk_length {α : Type} (sz : Nat) : ∀ (n : Nat) (l : List α), (chunk sz n l).length = n
  | 0, _ => rfl
  | n + 1, l => by simp [chunk, chunk_length sz n]
def zeroRow (z : List Value) (k : Nat) : List SV := (List.range k).map fun q => SV.d (.v (z.getD (q % z.length) undef))
def rowTy (P : Program) (t e sz : Nat) (z : Value) : Prop := ∃ i, P.underlying t = some (.slice e) ∧ P.info? e = some i ∧ i.size = sz ∧ i.zero = some z
theorem rowTy_of {t e sz : Nat} {z : Value} (h : slTy P t e sz = true) (hz : (P.info? e).bind (·.zero) = some z) : rowTy P t e sz z := by
  obtain ⟨i, h1, h2, h3⟩ := slTy_spec h
  rw [h2] at hz
  exact ⟨i, h1, h2, h3, hz⟩
def rowPl (sz n : Nat) : List (Nat × Nat) := (List.range n).map fun k => (k * sz, sz)
theorem buildSlice_run {base : Nat} {a : Act} {w : World} {c : Cx} {t e sz len : Nat} {z : Value} {xs : List (Nat × Operand)} {ss : List (Nat × SV)} {cs : List SV}
    (ht : rowTy P t e sz z) (h1 : z.cells.toList.all (·.oneCell') = true) (hzl : Nat.beq z.cells.toList.length sz = true) (hsm : Nat.ble (len * sz) 16777216 = true) (hx : Parts ρ own xs ss) (hf : fillS (rowPl sz len) (zeroRow z.cells.toList (len * sz)) ss = some cs) (hs : Sees ⟨dst, .buildSlice t len xs.toArray, ty, pos, aft, gd⟩ ρ bx own base a w c) :
    ∃ us : List Value, (execOp a.eval ⟨dst, .buildSlice t len xs.toArray, ty, pos, aft, gd⟩).run P w = .ok (.value (.slice (some ⟨w.heap.size, 0, none⟩) len len)) (w.alloc (.cells us.toArray e)) ∧ us.length = cs.length ∧ (∀ u ∈ us, u.oneCell' = true) ∧ ∀ (j : Nat) (s : SV) (u : Value), cs[j]? = some s → us[j]? = some u → SRel c w s u := by
  obtain ⟨l1, l2⟩ := hx.rel hs.ow (ev := a.eval) (fun x hx => hs.op x.2 (by simp [Op.operands]; exact ⟨x.1, hx⟩))
  obtain ⟨i, hu, hi, hsz, hz⟩ := ht
  have hzl := beq_eq hzl
  have hsm := Nat.le_of_ble_eq_true hsm
  have hparts : (xs.toArray.map fun (i, x) => (i, a.eval x)).toList = xs.map fun y => (y.1, a.eval y.2) := by simp
  have hzget : ∀ q, q < len * sz → 0 < sz := fun q hq => by
    rcases Nat.eq_zero_or_pos sz with h | h
    · rw [h] at hq; omega
    · exact h
  have harr : ∀ q, q < len * sz → ((Array.range (len * sz)).map (z.cells[· % z.cells.size]!)).toList[q]? = some (z.cells.toList.getD (q % z.cells.toList.length) undef) := fun q hq => by
    have hp := hzget q hq
    have hm : q % z.cells.size < z.cells.size := Nat.mod_lt _ (by rw [← Array.length_toList]; omega)
    simp [hq]
    rw [getElem!_pos z.cells _ hm, Array.getElem?_eq_getElem hm]
    rfl
  obtain ⟨arr, q1, q2, q3, q4⟩ := fill_rel (c := c) (w := w) (pl := rowPl sz len) (place := fun i => some (i * sz, sz)) (fun i p hp => by
      have hl := (List.getElem?_eq_some_iff.1 hp).1
      simp only [rowPl, List.length_map, List.length_range] at hl
      simp [rowPl, hl] at hp
      rw [← hp]) ss (xs.map fun y => (y.1, a.eval y.2)) (zeroRow z.cells.toList (len * sz)) ((Array.range (len * sz)).map (z.cells[· % z.cells.size]!)) cs (by rw [List.length_map, l1]) l2 (by simp [zeroRow]) (fun u hu => by
      obtain ⟨q, hq, rfl⟩ := List.getElem_of_mem hu
      have hql : q < len * sz := by simpa using hq
      have := harr q hql
      rw [List.getElem?_eq_getElem hq] at this
      injection this with this
      rw [this]
      have hm : q % z.cells.toList.length < z.cells.toList.length := Nat.mod_lt _ (by have := hzget q hql; omega)
      rw [List.getD_eq_getElem?_getD, List.getElem?_eq_getElem hm]
      exact List.all_eq_true.1 h1 _ (List.getElem_mem hm)) (fun j s u hj hu => by
      have hjl : j < len * sz := by have := (List.getElem?_eq_some_iff.1 hj).1; simpa [zeroRow] using this
      rw [harr j hjl] at hu
      injection hu with hu
      simp only [zeroRow, List.getElem?_map, List.getElem?_range hjl, Option.map_some, Option.some.injEq] at hj
      subst hj; subst hu
      exact .d _ _ (.v _)) hf
  refine ⟨arr.toList, ?_, q2, q3, q4⟩
  have hrun : (Instr.buildSlice t len (xs.toArray.map fun (i, x) => (i, a.eval x))).run P w = .ok (.slice (some ⟨w.heap.size, 0, none⟩) len len) (w.alloc (.cells arr e)) := by
    by_cases h0 : len * sz = 0
    · have hfe : Instr.fill (fun i => some (i * sz, sz)) #[] (xs.map fun y => (y.1, a.eval y.2)) = some arr := by
        rw [h0] at q1
        have e : (Array.range 0).map (fun x => z.cells[x % z.cells.size]!) = #[] := by simp
        rw [e] at q1; exact q1
      have er : Array.range 0 = #[] := rfl
      simp [Instr.buildSlice, run_underlying hu, sizeOf, typeInfo, hi, hsz, h0, newRow, hfe, er]
    · exact run_buildSlice w t e len _ arr i z hu hi hz (by rw [hsz]; omega) (by rw [hsz]; exact h0) (by rw [hsz, hparts]; exact q1)
  simp only [execOp, Sem.run_bind, hrun, Result.andThen_ok, Array.toArray_toList]
  rfl
def dRows : List (List SV) → Option (List (List D))
  | [] => some []
  | r :: rs => match dOf r, dRows rs with
    | some d, some ds => some (d :: ds)
    | _, _ => none
theorem dRows_spec : ∀ {ss : List (List SV)} {ds : List (List D)}, dRows ss = some ds → ss = ds.map (·.map SV.d)
  | [], ds, h => by simp [dRows] at h; subst h; rfl
  | r :: rs, ds, h => by
    unfold dRows at h
    split at h
    · rename_i d ds' h1 h2
      injection h with h
      subst h
      rw [dOf_spec h1, dRows_spec h2]; rfl
    · cases h
theorem row_cells {c : Cx} {w : World} {sz len : Nat} {cs : List SV} {rows : List (List D)} {us : List Value} (hcl : cs.length = len * sz) (hd : dRows (chunk sz len cs) = some rows) (h4 : ∀ (j : Nat) (s : SV) (u : Value), cs[j]? = some s → us[j]? = some u → SRel c w s u) (hul : us.length = cs.length) :
    rows.length = len ∧ ∀ (i : Nat) (row : List D), rows[i]? = some row → i < len ∧ row.length = sz ∧ ∀ (j : Nat) (y : D), row[j]? = some y → ∃ u, us[i * sz + j]? = some u ∧ Rd c.S w y u := by
  have hs := dRows_spec hd
  have hrl : rows.length = len := by
    have := congrArg List.length hs
    rw [chunk_length, List.length_map] at this
    exact this.symm
  refine ⟨hrl, fun i row hi => ?_⟩
  have hil : i < len := by have := (List.getElem?_eq_some_iff.1 hi).1; omega
  have e1 : (chunk sz len cs)[i]? = some (row.map SV.d) := by rw [hs, List.getElem?_map, hi]; rfl
  rw [chunk_get sz len cs i hil] at e1
  injection e1 with e1
  have hle : (i + 1) * sz ≤ len * sz := Nat.mul_le_mul_right _ hil
  have hsu : (i + 1) * sz = i * sz + sz := Nat.succ_mul _ _
  have hrow : row.length = sz := by
    have := congrArg List.length e1
    rw [List.length_take, List.length_drop, List.length_map] at this
    omega
  refine ⟨hil, hrow, fun j y hj => ?_⟩
  have hjl : j < sz := by have := (List.getElem?_eq_some_iff.1 hj).1; omega
  have e2 : cs[i * sz + j]? = some (.d y) := by
    have := congrArg (fun l => l[j]?) e1
    simp only [List.getElem?_take, if_pos hjl, List.getElem?_drop, List.getElem?_map, hj, Option.map_some] at this
    exact this
  have hlt : i * sz + j < us.length := by omega
  exact ⟨us[i * sz + j], List.getElem?_eq_getElem hlt, srel_d (h4 _ _ _ e2 (List.getElem?_eq_getElem hlt))⟩
/-- A row built, to be read only. -/
theorem PureOp.buildSlice {t e sz len : Nat} {z : Value} {xs : List (Nat × Operand)} {ss : List (Nat × SV)} {cs : List SV} {rows : List (List D)}
    (ht : slTy P t e sz = true) (hz : (P.info? e).bind (·.zero) = some z) (h1 : z.cells.toList.all (·.oneCell') = true) (hzl : Nat.beq z.cells.toList.length sz = true) (hsm : Nat.ble (len * sz) 16777216 = true) (hx : Parts ρ own xs ss) (hf : fillS (rowPl sz len) (zeroRow z.cells.toList (len * sz)) ss = some cs) (hcl : Nat.beq cs.length (len * sz) = true) (hd : dRows (chunk sz len cs) = some rows) (hlm : Nat.ble len 16777216 = true) :
    PureOp P ⟨dst, .buildSlice t len xs.toArray, ty, pos, aft, gd⟩ ρ bx own (.d (.sl sz rows)) := by
  intro base a w c hs K Q hK
  obtain ⟨us, q1, q2, q3, q4⟩ := buildSlice_run (P := P) (rowTy_of ht hz) h1 hzl hsm hx hf hs
  unfold Oper.wp
  rw [q1]
  have hcl := beq_eq hcl
  obtain ⟨r1, r2⟩ := row_cells (c := c) (w := w) hcl hd q4 q2
  have hb : Below w.heap.size w (w.alloc (.cells us.toArray e)) := (Below.refl _ _).alloc (Nat.le_refl _) _
  have hnew := heap_alloc_new w (.cells us.toArray e)
  refine hK _ _ (fun b o => c.S b o ∨ (b = w.heap.size ∧ o < len * sz)) ⟨hb, fun b o hlt => ⟨fun h => h.elim id (fun h => absurd h.1 (by omega)), .inl⟩, fun b o h => ?_⟩ (.d _ _ ?_)
  · rcases h with h | ⟨rfl, _⟩
    · exact Nat.lt_of_lt_of_le (hs.sb b o h) hb.size
    · simp
  · have hmax : len ≤ maxLen := by have := Nat.le_of_ble_eq_true hlm; simp only [maxLen]; omega
    show Rd _ _ (.sl sz rows) (.slice (some ⟨w.heap.size, 0, none⟩) len len)
    have e : len = rows.length := r1.symm
    have hget : ∀ i row, rows[i]? = some row → ∀ j, j < sz → ∃ u, us[i * sz + j]? = some u ∧ us.getD (i * sz + j) undef = u := fun i row hi j hj => by
      obtain ⟨g1, g2, g3⟩ := r2 i row hi
      obtain ⟨u, u1, _⟩ := g3 j _ (List.getElem?_eq_getElem (by omega))
      exact ⟨u, u1, by rw [List.getD_eq_getElem?_getD, u1]; rfl⟩
    rw [e]
    refine Rd.sl sz rows _ rows.length w.heap.size 0 (fun i j => us.getD (i * sz + j) undef) (Nat.le_refl _) (by omega) (.inr rfl) (fun i row hi => ⟨(r2 i row hi).2.1, fun j hj => ?_⟩) (fun i row j y hi hj => ?_)
    · obtain ⟨u, u1, u2⟩ := hget i row hi j hj
      simp only [u2]
      refine ⟨.inr ⟨by trivial, ?_⟩, ?_, q3 u (List.mem_of_getElem? u1)⟩
      · rw [Nat.zero_add]; exact row_lt (List.getElem?_eq_some_iff.1 hi).1 hj
      · rw [Nat.zero_add, cell_of_row _ _ _ _ _ _ hnew]; simpa using u1
    · obtain ⟨g1, g2, g3⟩ := r2 i row hi
      obtain ⟨u, u1, u2⟩ := g3 j y hj
      have : us.getD (i * sz + j) undef = u := by rw [List.getD_eq_getElem?_getD, u1]; rfl
      simp only [this]
      exact u2.mono (fun _ _ h => .inl h) (fun b o h => hb.cell (p := ⟨b, o, none⟩) (hs.sb b o h))
/-! equality of structs -/
/-- Are the cells equal: integers and bools. -/
def eqD : List D → List D → Bool
  | .v (.int _ a) :: xs, .v (.int _ b) :: ys => decide (a = b) && eqD xs ys
  | .v (.bool a) :: xs, .v (.bool b) :: ys => (a == b) && eqD xs ys
  | [], [] => true
  | _, _ => false
end ops
section
variable {w0 : World} {S0 : Ev} {T : Nat → Prop} {ops : Array Oper} {rest : List Oper} {st : St} {Q : St → Prop}
/-- A row built, for the call's own. -/
theorem AO.buildOwn {t e sz len d : Nat} {z : Value} {xs : List (Nat × Operand)} {ss : List (Nat × SV)} {cs : List SV} {rows : List (List D)} {ty : TypeId} {pos : String} {aft : Array Edge}
    (ht : slTy P t e sz = true) (hz : (P.info? e).bind (·.zero) = some z) (h1 : z.cells.toList.all (·.oneCell') = true) (hzl : Nat.beq z.cells.toList.length sz = true) (hsm : Nat.ble (len * sz) 16777216 = true) (hx : Parts st.ev st.own xs ss) (hf : fillS (rowPl sz len) (zeroRow z.cells.toList (len * sz)) ss = some cs) (hcl : Nat.beq cs.length (len * sz) = true) (hdr : dRows (chunk sz len cs) = some rows) (hlm : Nat.ble len 16777216 = true) (h0 : Nat.ble 1 sz = true) (hd : Nat.ble (d + 1) st.n = true)
    (h : AO P w0 S0 T ops rest ⟨(d, .os st.nx) :: st.sl, st.bx, (st.nx, ⟨e, sz, rows⟩) :: st.own, st.nx + 1, st.tp, st.n⟩ Q) : AO P w0 S0 T ops (⟨some d, .buildSlice t len xs.toArray, ty, pos, aft, none⟩ :: rest) st Q := by
  rintro a w ⟨c, hT, hr⟩ Qx hQ
  refine wpList_plain rfl fun K hK => ?_
  obtain ⟨us, q1, q2, q3, q4⟩ := buildSlice_run (P := P) (rowTy_of ht hz) h1 hzl hsm hx hf (hr.sees _)
  unfold Oper.wp
  rw [q1]
  have hcl := beq_eq hcl
  obtain ⟨r1, r2⟩ := row_cells (c := c) (w := w) hcl hdr q4 q2
  have hb : Below w.heap.size w (w.alloc (.cells us.toArray e)) := (Below.refl _ _).alloc (Nat.le_refl _) _
  have hnew := heap_alloc_new w (.cells us.toArray e)
  have k2 : ∀ b o, c.S b o → (w.alloc (.cells us.toArray e)).cell? ⟨b, o, none⟩ = w.cell? ⟨b, o, none⟩ := fun b o h => hb.cell (p := ⟨b, o, none⟩) (hr.sb b o h)
  obtain ⟨c', e1, e2, e3⟩ := hr.newOwn (w' := w.alloc (.cells us.toArray e)) (v' := .slice (some ⟨w.heap.size, 0, none⟩) len len) (x' := ⟨e, sz, rows⟩) (g := w.heap.size) st.own (fun i y hy => ⟨hy, fun hbk => by have := (hr.owlt hy hbk).1; omega⟩) (fun id cs hc hbk => by have := hr.bxlt hc; omega)
    (fun hp hbk => by have := (hr.tp hp).1.lt; omega) ⟨hb.os, hb.tape, hb.output, hb.size, fun k hk _ => hb.block k hk⟩ rfl hr.below.size (fun o ho => by have := hr.sb _ _ ho; omega) (.inl ⟨Nat.le_of_ble_eq_true h0, .inr ⟨w.heap.size, len, us.toArray, by rw [← r1], hr.below.size, hnew, by rw [r1]; exact Nat.le_refl _, by have := Nat.le_of_ble_eq_true hlm; simp only [maxLen]; omega, by simp; omega, fun o ho => by have := hr.sb _ _ ho; omega, fun i row hi => by
      obtain ⟨g1, g2, g3⟩ := r2 i row hi
      refine ⟨g2, fun j y hj => ?_⟩
      obtain ⟨u, u1, u2⟩ := g3 j y hj
      exact ⟨u, by simpa using u1, q3 u (List.mem_of_getElem? u1), u2.mono (fun _ _ h => h) k2⟩⟩⟩)
  have hos : SRel c' (w.alloc (.cells us.toArray e)) (.os st.nx) (.slice (some ⟨w.heap.size, 0, none⟩) len len) := by rw [← e2]; exact .os st.nx
  exact hK _ _ (h _ _ ⟨c', tmv e1 hT, e3.put (d := d) (r := .os st.nx) (Nat.le_of_ble_eq_true hd) hos (Nat.le_refl _)⟩ Qx hQ)
end
end Eng
end Go.Proofs.Ytmmekdkllccmdaa
