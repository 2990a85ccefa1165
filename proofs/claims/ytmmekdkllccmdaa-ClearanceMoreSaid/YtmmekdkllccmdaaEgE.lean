/-
  The engine's owned rows: laid, appended to, written, given up.
-/
import Derived.Test.YtmmekdkllccmdaaEgD
namespace Go.Proofs.Ytmmekdkllccmdaa
open Go.RowKit
set_option linter.unusedVariables false
namespace Eng
variable {P : Program}
/-- A row that is the call's own from now on: its block g is new, or nobody's but a row's that is given up. -/
theorem RelX.newOwn {w0 : World} {S0 : Ev} {st : St} {a : Act} {w : World} {c : Cx} (h : RelX w0 S0 st a w c) {w' : World} {v' : Value} {x' : OwnE} {g : Nat} (own' : List (Nat × OwnE)) (hsub : ∀ i y, lookA own' i = some y → lookA st.own i = some y ∧ blkOf (c.O i) ≠ some g)
    (hbx : ∀ id cs, lookA st.bx id = some cs → c.B id ≠ g) (hT : st.tp = true → g ≠ c.T) (hg : w.grownBy w' (some g)) (hv : blkOf v' = some g) (hbase : w0.heap.size ≤ g) (hnS : ∀ o, ¬ c.S g o) (hown : OwnX w0.heap.size w' c.S v' x') :
    ∃ c' : Cx, c'.T = c.T ∧ c'.O st.nx = v' ∧ RelX w0 S0 ⟨st.sl, st.bx, (st.nx, x') :: own', st.nx + 1, st.tp, st.n⟩ a w' c' := by
  obtain ⟨w1, k2, hblk, w4⟩ := h.write hbase hnS hg hT
  have k1 : ∀ b o, c.S b o → c.S b o := fun _ _ h => h
  have hf := h.fresh 0 v'
  have hO : ∀ i y, lookA own' i = some y → i < st.nx := fun i y hy => (h.ow i y (hsub i y hy).1).1
  have hsr : ∀ {s : SV} {u : Value}, SRel ⟨c.S, fun i => if i = st.nx then 0 else c.B i, fun i => if i = st.nx then v' else c.O i, c.T⟩ w s u → SRel ⟨c.S, fun i => if i = st.nx then 0 else c.B i, fun i => if i = st.nx then v' else c.O i, c.T⟩ w' s u := fun hr => SRel.mono' (c := ⟨c.S, fun i => if i = st.nx then 0 else c.B i, fun i => if i = st.nx then v' else c.O i, c.T⟩) k1 k2 hr
  refine ⟨⟨c.S, fun i => if i = st.nx then 0 else c.B i, fun i => if i = st.nx then v' else c.O i, c.T⟩, rfl, if_pos rfl, ⟨w1, hf.df, hf.sz, fun x => hsr (hf.sl x), hf.top, fun b o hs => Nat.lt_of_lt_of_le (h.sb b o hs) hg.size, fun id cs hc => ?_, hf.bxd, fun i y hy => ?_, fun i j p q hi hj hne b hb => ?_, fun i y hi id cs hc => ?_, h.old, h.stt, fun hp => ?_⟩⟩
  · obtain ⟨i1, i2, i3⟩ := hf.bx id cs hc
    have e : (if id = st.nx then 0 else c.B id) = c.B id := if_neg (by have := (h.bx id cs hc).1; omega)
    have i3' : BoxAt w0.heap.size w ⟨c.S, fun i => if i = st.nx then 0 else c.B i, fun i => if i = st.nx then v' else c.O i, c.T⟩ (if id = st.nx then 0 else c.B id) cs := i3
    refine ⟨i1, i2, ?_⟩
    show BoxAt _ _ _ (if id = st.nx then 0 else c.B id) _
    rw [e] at i3' ⊢
    exact i3'.keep k1 k2 (hblk _ (h.bxlt hc) (hbx id cs hc)) i3'.2.1
  · rw [lookA_cons] at hy
    split at hy
    · rename_i e
      subst e
      injection hy with hy
      subst hy
      refine ⟨Nat.lt_succ_self _, ?_⟩
      show OwnX _ _ _ (if st.nx = st.nx then v' else _) _
      rw [if_pos rfl]; exact hown
    · obtain ⟨q1, q2⟩ := hsub i y hy
      obtain ⟨i1, i2⟩ := h.ow i y q1
      refine ⟨Nat.lt_succ_of_lt i1, ?_⟩
      show OwnX _ _ _ (if i = st.nx then v' else c.O i) _
      rw [if_neg (by omega)]
      exact i2.keep k1 k2 fun b hb => ⟨hblk b (h.owlt q1 hb).1 (fun e => q2 (e ▸ hb)), (h.owlt q1 hb).2⟩
  · rw [lookA_cons] at hi hj
    have hb' : blkOf (if i = st.nx then v' else c.O i) = some b := hb
    show blkOf (if j = st.nx then v' else c.O j) ≠ some b
    split at hi
    · rename_i e1
      rw [if_pos e1.symm, hv] at hb'
      split at hj
      · omega
      · have := hO j q hj
        rw [if_neg (by omega)]
        exact fun hh => (hsub j q hj).2 (hh.trans hb'.symm)
    · have := hO i p hi
      rw [if_neg (by omega)] at hb'
      split at hj
      · rename_i e2
        rw [if_pos e2.symm, hv]
        exact fun hh => (hsub i p hi).2 (hb'.trans hh.symm)
      · have := hO j q hj
        rw [if_neg (by omega)]
        exact h.owd i j p q (hsub i p hi).1 (hsub j q hj).1 hne b hb'
  · rw [lookA_cons] at hi
    have e : (if id = st.nx then 0 else c.B id) = c.B id := if_neg (by have := (h.bx id cs hc).1; omega)
    show blkOf (if i = st.nx then v' else c.O i) ≠ some (if id = st.nx then 0 else c.B id)
    rw [e]
    split at hi
    · rename_i e1
      rw [if_pos e1.symm, hv]
      exact fun hh => hbx id cs hc (Option.some.inj hh).symm
    · have := hO i y hi
      rw [if_neg (by omega)]
      exact h.owb i y (hsub i y hi).1 id cs hc
  · obtain ⟨t1, t3, t4, t5⟩ := hf.tp hp
    refine ⟨w4 hp, t3, t4, fun i y hi => ?_⟩
    rw [lookA_cons] at hi
    show blkOf (if i = st.nx then v' else c.O i) ≠ some c.T
    split at hi
    · rename_i e1
      rw [if_pos e1.symm, hv]
      exact fun hh => hT hp (Option.some.inj hh)
    · have := hO i y hi
      rw [if_neg (by omega)]
      exact (h.tp hp).2.2.2 i y (hsub i y hi).1
/-- An owned row is written in place. -/
theorem RelX.rewr {w0 : World} {S0 : Ev} {st : St} {a : Act} {w : World} {c : Cx} (h : RelX w0 S0 st a w c) {id : Nat} {x x' : OwnE} (ho : lookA st.own id = some x) {w' : World} {g : Nat} (hv : blkOf (c.O id) = some g) (hg : w.grownBy w' (some g)) (hown : OwnX w0.heap.size w' c.S (c.O id) x') :
    RelX w0 S0 ⟨st.sl, st.bx, setA st.own id x', st.nx, st.tp, st.n⟩ a w' c := by
  have hbase : w0.heap.size ≤ g := ((h.ow id x ho).2.blk hv).1
  have hT : st.tp = true → g ≠ c.T := fun hp e => (h.tp hp).2.2.2 id x ho (e ▸ hv)
  obtain ⟨w1, k2, hblk, w4⟩ := h.write hbase (h.owlt ho hv).2 hg hT
  have k1 : ∀ b o, c.S b o → c.S b o := fun _ _ h => h
  have hsr : ∀ {s : SV} {u : Value}, SRel c w s u → SRel c w' s u := fun hr => hr.mono' k1 k2
  have hlk : ∀ i y, lookA (setA st.own id x') i = some y → ∃ z, lookA st.own i = some z := fun i y hy => by
    rcases lookA_setA _ _ _ _ _ hy with ⟨rfl, _, z, hz⟩ | ⟨_, hz⟩
    · exact ⟨z, hz⟩
    · exact ⟨_, hz⟩
  refine ⟨w1, h.df, h.sz, fun x => hsr (h.sl x), h.top, fun b o hs => Nat.lt_of_lt_of_le (h.sb b o hs) hg.size, fun i cs hc => ?_, h.bxd, fun i y hy => ?_, fun i j p q hi hj => ?_, fun i y hi j cs hc => ?_, h.old, h.stt, fun hp => ?_⟩
  · obtain ⟨i1, i2, i3⟩ := h.bx i cs hc
    exact ⟨i1, i2, i3.keep k1 k2 (hblk _ (h.bxlt hc) (fun e => h.owb id x ho i cs hc (by rw [e]; exact hv))) i3.2.1⟩
  · rcases lookA_setA _ _ _ _ _ hy with ⟨rfl, rfl, _⟩ | ⟨hne, hy'⟩
    · exact ⟨(h.ow i x ho).1, hown⟩
    · obtain ⟨i1, i2⟩ := h.ow i y hy'
      exact ⟨i1, i2.keep k1 k2 fun b hb => ⟨hblk b (h.owlt hy' hb).1 (fun e => h.owd i id y x hy' ho hne b hb (e ▸ hv)), (h.owlt hy' hb).2⟩⟩
  · obtain ⟨p', e1⟩ := hlk i p hi
    obtain ⟨q', e2⟩ := hlk j q hj
    exact h.owd i j p' q' e1 e2
  · obtain ⟨p', e1⟩ := hlk i y hi
    exact h.owb i p' e1 j cs hc
  · obtain ⟨t1, t3, t4, t5⟩ := h.tp hp
    exact ⟨w4 hp, t3, t4, fun i y hi => by obtain ⟨p', e1⟩ := hlk i y hi; exact t5 i p' e1⟩

/-! ### append -/
theorem app_run (w : World) (t ty e : TypeId) (i : TypeInfo) (z : Value) (sz : Nat) (ht : P.underlying t = some (.slice e)) (hi : P.info? e = some i) (hz : i.zero = some z) (hsize : i.size = sz) (hzs : z.cells.size = sz)
    {base : Nat} {S : Cells} {v : Value} {rows : List (List D)} (ho : OwnAt base w S v ⟨e, sz, rows⟩)
    {x : Value} {m : Nat} {news : List Value} (hs : Src P sz t x m news w) (h63 : rows.length + m ≤ maxLen) (hb : (rows.length + m) * i.bytes ≤ 140737488355328) :
    ∃ v' w', (Builtin.append_ #[t, t] ty #[v, x]).run P w = .ok v' w' ∧ ((m = 0 ∧ v' = v ∧ w' = w) ∨
      ∃ (g cap : Nat) (arr : Array Value), v' = .slice (some ⟨g, 0, none⟩) (rows.length + m) cap ∧ rows.length + m ≤ cap ∧ cap ≤ maxLen ∧ w'.heap[g]? = some (.cells arr e (0, 0)) ∧ arr.size = cap * sz ∧
        (∀ (g0 c0 : Nat) (cur : Array Value), v = .slice (some ⟨g0, 0, none⟩) rows.length c0 → w.heap[g0]? = some (.cells cur e (0, 0)) → ∀ q, q < rows.length * sz → arr[q]? = cur[q]?) ∧
        (∀ (q : Nat) (u : Value), news[q]? = some u → arr[rows.length * sz + q]? = some u) ∧ w.grownBy w' (some g) ∧ ((g = w.heap.size) ∨ blkOf v = some g)) := by
  subst hsize
  obtain ⟨n, hn0⟩ : ∃ n, rows.length = n := ⟨_, rfl⟩
  rw [hn0] at h63 hb
  have hsmall : n + m ≤ 9223372036854775807 := by simp only [maxLen] at h63; omega
  rcases ho with ⟨hv, hrow⟩ | ⟨g, cap, cur, hv, hbg, hg, hn, hcm, hcs, hf, hr⟩
  · have hrow' : rows = [] := hrow
    subst hrow'
    simp at hn0
    subst hn0
    by_cases hm : m = 0
    · subst hm
      have hnw : news = [] := List.eq_nil_of_length_eq_zero (by simpa using hs.newsLen)
      subst hnw
      subst hv
      exact ⟨_, _, run_append_nothing (P := P) w t t ty e i ht hi none 0 0 (Nat.le_refl _) x hs, .inl ⟨rfl, rfl, rfl⟩⟩
    · have hfc := run_firstCells_none (P := P) w.drew i.size 0 0 0
      have hrun := run_append_grow_src (P := P) w t t ty e i z ht hi hz none 0 0 [] hfc x m news hs (by omega) (by omega) (growslice_fits (by omega) hb)
      rw [hv]
      refine ⟨_, _, hrun, .inr ⟨w.heap.size, _, _, rfl, grownCap_ge w (0 + m) 0 e, grownCap_le_maxLen w (0 + m) 0 e h63, heap_alloc_new w.drew _, ?_, fun g0 c0 cur hv0 => (by cases hv0), fun q u hq => ?_, ⟨rfl, rfl, rfl, by simp, fun k hk _ => heap_alloc_old w.drew _ hk⟩, .inl rfl⟩⟩
      · have hge := grownCap_ge w (0 + m) 0 e
        simp only [Array.size_append, List.size_toArray, List.length_append, size_zeroCells, hzs, hs.newsLen, List.length_nil, Nat.zero_add, ← Nat.add_mul] at hge ⊢
        first | done | (congr 1; omega)
      · have hl : q < news.length := (List.getElem?_eq_some_iff.1 hq).1
        simp only [List.length_nil, Nat.zero_mul, Nat.zero_add, List.nil_append]
        rw [Array.getElem?_append_left (by simpa using hl)]
        simpa using hq
  · have hv2 : v = .slice (some ⟨g, 0, none⟩) n cap := by rw [hv]; simp [hn0]
    have hn2 : n ≤ cap := by rw [← hn0]; exact hn
    have hcs2 : cur.size = cap * i.size := hcs
    by_cases hroom : n + m ≤ cap
    · have hlen : n * i.size + news.length ≤ cur.size := by rw [hs.newsLen, hcs2, ← Nat.add_mul]; exact Nat.mul_le_mul_right _ hroom
      have hrun := run_append_room_src (P := P) w t t ty e i ht hi g 0 n cap x m news hs hroom (fun j hj => by rw [cell_of_row _ _ _ _ _ _ hg, Array.getElem?_eq_getElem (by omega)]; rfl) (fun j hj => by simp [World.frozen?, hg])
      rw [← hv2] at hrun
      have hg' : w.heap[g]? = some (.cells cur.toList.toArray e (0, 0)) := by simpa using hg
      rw [hn0]
      refine ⟨_, _, hrun, .inr ⟨g, cap, _, rfl, hroom, hcm, heap_setCells_at g news (0 + n * i.size) w cur.toList e (0, 0) hg' (by simp; omega), ?_, fun g0 c0 cur0 hv0 hg0 q hq => ?_, fun q u hq => ?_, below_setCells' _ _ _ _, .inr (by rw [hv2]; rfl)⟩⟩
      · simp only [List.size_toArray, List.length_append, List.length_take, List.length_drop, Array.length_toList]; omega
      · rw [hv2] at hv0
        injection hv0 with e1 e2 e3
        injection e1 with e1
        injection e1 with e1
        subst e1
        rw [hg] at hg0
        injection hg0 with hg0
        injection hg0 with hg0
        subst hg0
        simp only [Nat.zero_add]
        rw [List.getElem?_toArray, List.append_assoc, List.getElem?_append_left (by rw [List.length_take, Array.length_toList]; omega), List.getElem?_take, if_pos hq]
        simp
      · have hl : q < news.length := (List.getElem?_eq_some_iff.1 hq).1
        simp only [Nat.zero_add]
        rw [List.getElem?_toArray, List.append_assoc, List.getElem?_append_right (by rw [List.length_take, Array.length_toList]; omega), List.length_take, show min (n * i.size) cur.toList.length = n * i.size by rw [Array.length_toList]; omega, Nat.add_sub_cancel_left, List.getElem?_append_left hl]
        exact hq
    · have hol : (cur.toList.take (n * i.size)).length = n * i.size := by
        rw [List.length_take, Array.length_toList, hcs2]
        exact Nat.min_eq_left (Nat.mul_le_mul_right _ hn2)
      have hfc : (Builtin.firstCells i.size n (.slice (some ⟨g, 0, none⟩) n cap)).run P w.drew = .ok (cur.toList.take (n * i.size)).toArray w.drew :=
        run_firstCells_some w.drew i.size n ⟨g, 0, none⟩ n cap _ hol (fun j u hj => by
          rw [addr_add]
          have hjl : j < n * i.size := by have := (List.getElem?_eq_some_iff.1 hj).1; rwa [hol] at this
          rw [List.getElem?_take, if_pos hjl] at hj
          have := cell_of_row w g j cur e (0, 0) hg
          simp at hj
          simpa [this] using hj)
      have hrun := run_append_grow_src (P := P) w t t ty e i z ht hi hz (some ⟨g, 0, none⟩) n cap _ hfc x m news hs (by omega) (by omega) (growslice_fits (by omega) hb)
      rw [← hv2] at hrun
      rw [hn0]
      refine ⟨_, _, hrun, .inr ⟨w.heap.size, _, _, rfl, grownCap_ge w (n + m) cap e, grownCap_le_maxLen w (n + m) cap e h63, heap_alloc_new w.drew _, ?_, fun g0 c0 cur0 hv0 hg0 q hq => ?_, fun q u hq => ?_, ⟨rfl, rfl, rfl, by simp, fun k hk _ => heap_alloc_old w.drew _ hk⟩, .inl rfl⟩⟩
      · have hge := grownCap_ge w (n + m) cap e
        simp only [Array.size_append, List.size_toArray, List.length_append, size_zeroCells, hzs, hs.newsLen, hol, ← Nat.add_mul]
        congr 1; omega
      · rw [hv2] at hv0
        injection hv0 with e1 e2 e3
        injection e1 with e1
        injection e1 with e1
        subst e1
        rw [hg] at hg0
        injection hg0 with hg0
        injection hg0 with hg0
        subst hg0
        rw [Array.getElem?_append_left (by simp only [List.size_toArray, List.length_append, hol]; omega), List.getElem?_toArray, List.getElem?_append_left (by rw [hol]; exact hq), List.getElem?_take, if_pos hq]
        simp
      · have hl : q < news.length := (List.getElem?_eq_some_iff.1 hq).1
        rw [Array.getElem?_append_left (by simp only [List.size_toArray, List.length_append, hol]; omega), List.getElem?_toArray, List.getElem?_append_right (by rw [hol]; omega), hol, Nat.add_sub_cancel_left]
        exact hq
theorem getElem?_flat {f : Nat → Nat → Value} {m sz q : Nat} (hq : q < m * sz) : ((List.range (m * sz)).map (fun q => f (q / sz) (q % sz)))[q]? = some (f (q / sz) (q % sz)) := by
  simp [hq]
theorem div_mod_at {sz i j : Nat} (hj : j < sz) : (i * sz + j) / sz = i ∧ (i * sz + j) % sz = j := by
  have h : 0 < sz := by omega
  rw [Nat.add_comm, Nat.add_mul_div_right _ _ h, Nat.add_mul_mod_self_right, Nat.div_eq_of_lt hj, Nat.mod_eq_of_lt hj]
  exact ⟨by omega, rfl⟩
theorem row_lt {sz i j n : Nat} (hi : i < n) (hj : j < sz) : i * sz + j < n * sz := by
  have h1 : (i + 1) * sz ≤ n * sz := Nat.mul_le_mul_right _ hi
  have h2 : (i + 1) * sz = i * sz + sz := Nat.succ_mul _ _
  omega
theorem Rd.sl_inv {S : Cells} {w : World} {sz : Nat} {xs : List (List D)} {u : Value} (h : Rd S w (.sl sz xs) u) : ∃ (ad : Option Addr) (cap b off : Nat) (f : Nat → Nat → Value), u = .slice ad xs.length cap ∧ xs.length ≤ cap ∧ cap ≤ maxLen ∧ (xs = [] ∨ ad = some ⟨b, off, none⟩) ∧
    (∀ (i : Nat) (row : List D), xs[i]? = some row → row.length = sz ∧ ∀ j, j < sz → S b (off + i * sz + j) ∧ w.cell? ⟨b, off + i * sz + j, none⟩ = some (f i j) ∧ (f i j).oneCell' = true) ∧
    ∀ (i : Nat) (row : List D) (j : Nat) (c : D), xs[i]? = some row → row[j]? = some c → Rd S w c (f i j) := by
  cases h with
  | sl _ _ ad cap b off f hc hm ha hx h => exact ⟨ad, cap, b, off, f, rfl, hc, hm, ha, hx, h⟩
theorem Src.ofRd {S : Cells} {w : World} {sz : Nat} {ys : List (List D)} {u : Value} {t e : TypeId} (ht : P.underlying t = some (.slice e)) (h : Rd S w (.sl sz ys) u) (h0 : 0 < sz) :
    ∃ fy : Nat → Nat → Value, Src P sz t u ys.length ((List.range (ys.length * sz)).map (fun q => fy (q / sz) (q % sz))) w ∧ (∀ (i : Nat) (row : List D), ys[i]? = some row → row.length = sz ∧ ∀ j, j < sz → (fy i j).oneCell' = true) ∧
      ∀ (i : Nat) (row : List D) (j : Nat) (c : D), ys[i]? = some row → row[j]? = some c → Rd S w c (fy i j) := by
  obtain ⟨ad, cap, b, off, f, rfl, hc, hm, ha, hx, hr⟩ := h.sl_inv
  have hone : ∀ q, q < ys.length * sz → w.cell? ⟨b, off + q, none⟩ = some (f (q / sz) (q % sz)) ∧ (f (q / sz) (q % sz)).oneCell' = true := fun q hq => by
    have h1 : q / sz < ys.length := Nat.div_lt_of_lt_mul (by rwa [Nat.mul_comm] at hq)
    have h2 : q % sz < sz := Nat.mod_lt _ h0
    have := (hx (q / sz) _ (List.getElem?_eq_getElem h1)).2 (q % sz) h2
    rw [show off + q / sz * sz + q % sz = off + q by rw [Nat.add_assoc, Nat.div_add_mod']] at this
    exact ⟨this.2.1, this.2.2⟩
  refine ⟨f, ?_, fun i row hi => ⟨(hx i row hi).1, fun j hj => ((hx i row hi).2 j hj).2.2⟩, hr⟩
  rcases ha with ha | ha
  · subst ha
    cases ad with
    | none => simpa using Src.ofNil (P := P) w (size := sz) ht cap
    | some a => simpa using Src.ofSlice (P := P) w (size := sz) ht a 0 cap [] (by simp) (fun j u h => by simp at h) (fun u h => by simp at h)
  · subst ha
    refine Src.ofSlice w ht _ _ _ _ (by simp) (fun j u hj => ?_) (fun u hu => ?_)
    · have hj' : j < ys.length * sz := by have := (List.getElem?_eq_some_iff.1 hj).1; simpa using this
      rw [getElem?_flat hj'] at hj
      injection hj with hj
      rw [addr_add, ← hj]; exact (hone j hj').1
    · simp at hu
      obtain ⟨q, hq, rfl⟩ := hu
      exact (hone q hq).2
/-- An append onto an owned row: the result is a row of its own, the old one is given up. -/
theorem RelX.append {w0 : World} {S0 : Ev} {st : St} {a : Act} {w : World} {c : Cx} (h : RelX w0 S0 st a w c) (t ty : TypeId) {id : Nat} {e : TypeId} {sz : Nat} {rows : List (List D)} (ho : lookA st.own id = some ⟨e, sz, rows⟩)
    (inf : TypeInfo) (z : Value) (ht : P.underlying t = some (.slice e)) (hi : P.info? e = some inf) (hz : inf.zero = some z) (hsize : inf.size = sz) (hzs : z.cells.size = sz) (h0 : 0 < sz)
    {ys : List (List D)} {vy : Value} (hys : Rd c.S w (.sl sz ys) vy) (h63 : rows.length + ys.length ≤ maxLen) (hb : (rows.length + ys.length) * inf.bytes ≤ 140737488355328) :
    ∃ (v' : Value) (w' : World) (c' : Cx), (Builtin.append_ #[t, t] ty #[c.O id, vy]).run P w = .ok v' w' ∧ c'.T = c.T ∧ c'.O st.nx = v' ∧
      RelX w0 S0 ⟨st.sl, st.bx, (st.nx, ⟨e, sz, rows ++ ys⟩) :: delA st.own id, st.nx + 1, st.tp, st.n⟩ a w' c' := by
  obtain ⟨hid, hownx⟩ := h.ow id _ ho
  have hown := hownx.slice h0
  obtain ⟨fy, hsrc, hy1, hy2⟩ := Src.ofRd ht hys h0
  obtain ⟨v', w', hrun, hres⟩ := app_run (P := P) w t ty e inf z sz ht hi hz hsize hzs hown hsrc h63 hb
  rcases hres with ⟨hm, rfl, rfl⟩ | ⟨g, cap, arr, rfl, hcap, hcm, hg, harr, hold, hnew, hgr, hwhere⟩
  · have hye : ys = [] := List.eq_nil_of_length_eq_zero hm
    subst hye
    -- nothing was appended: the same value under a new number
    have hf := h.fresh 0 (c.O id)
    refine ⟨_, _, ⟨c.S, fun i => if i = st.nx then 0 else c.B i, fun i => if i = st.nx then c.O id else c.O i, c.T⟩, hrun, rfl, if_pos rfl, ⟨hf.below, hf.df, hf.sz, hf.sl, hf.top, hf.sb, hf.bx, hf.bxd, fun i y hy => ?_, fun i j p q hi hj hne b hb => ?_, fun i y hi j cs hc => ?_, hf.old, hf.stt, fun hp => ?_⟩⟩
    · rw [lookA_cons] at hy
      split at hy
      · rename_i e1
        subst e1
        injection hy with hy
        subst hy
        refine ⟨Nat.lt_succ_self _, ?_⟩
        show OwnX _ _ _ (if st.nx = st.nx then _ else _) _
        rw [if_pos rfl, List.append_nil]; exact hownx
      · exact hf.ow i y (lookA_delA _ _ _ _ hy).2
    · rw [lookA_cons] at hi hj
      have hb' : blkOf (if i = st.nx then c.O id else c.O i) = some b := hb
      show blkOf (if j = st.nx then c.O id else c.O j) ≠ some b
      have hlt : ∀ i y, lookA (delA st.own id) i = some y → i ≠ id ∧ lookA st.own i = some y ∧ i < st.nx := fun i y hy => ⟨(lookA_delA _ _ _ _ hy).1, (lookA_delA _ _ _ _ hy).2, (h.ow i y (lookA_delA _ _ _ _ hy).2).1⟩
      split at hi
      · rename_i e1
        rw [if_pos e1.symm] at hb'
        split at hj
        · omega
        · obtain ⟨q1, q2, q3⟩ := hlt j q hj
          rw [if_neg (by omega)]
          exact h.owd id j _ q ho q2 (Ne.symm q1) b hb'
      · obtain ⟨p1, p2, p3⟩ := hlt i p hi
        rw [if_neg (by omega)] at hb'
        split at hj
        · rename_i e2
          rw [if_pos e2.symm]
          exact h.owd i id p _ p2 ho p1 b hb'
        · obtain ⟨q1, q2, q3⟩ := hlt j q hj
          rw [if_neg (by omega)]
          exact h.owd i j p q p2 q2 hne b hb'
    · rw [lookA_cons] at hi
      have eb : (if j = st.nx then 0 else c.B j) = c.B j := if_neg (by have := (h.bx j cs hc).1; omega)
      show blkOf (if i = st.nx then c.O id else c.O i) ≠ some (if j = st.nx then 0 else c.B j)
      rw [eb]
      split at hi
      · rename_i e1
        rw [if_pos e1.symm]; exact h.owb id _ ho j cs hc
      · have hi' := (lookA_delA _ _ _ _ hi).2
        rw [if_neg (by have := (h.ow i y hi').1; omega)]
        exact h.owb i y hi' j cs hc
    · obtain ⟨t1, t3, t4, t5⟩ := hf.tp hp
      refine ⟨t1, t3, t4, fun i y hi => ?_⟩
      rw [lookA_cons] at hi
      show blkOf (if i = st.nx then c.O id else c.O i) ≠ some c.T
      split at hi
      · rename_i e1
        rw [if_pos e1.symm]; exact (h.tp hp).2.2.2 id _ ho
      · have hi' := (lookA_delA _ _ _ _ hi).2
        rw [if_neg (by have := (h.ow i y hi').1; omega)]
        exact (h.tp hp).2.2.2 i y hi'
  · have hbase : w0.heap.size ≤ g := by
      rcases hwhere with rfl | hv0
      · exact h.below.size
      · rcases hown with ⟨e1, _⟩ | ⟨g', cap', cur, e1, e2, _⟩
        · rw [e1] at hv0; cases hv0
        · rw [e1] at hv0; cases hv0; exact e2
    have hnS : ∀ o, ¬ c.S g o := fun o hs => by
      rcases hwhere with rfl | hv0
      · have := h.sb _ _ hs; omega
      · exact (h.owlt ho hv0).2 o hs
    have hT : st.tp = true → g ≠ c.T := fun hp e1 => by
      rcases hwhere with rfl | hv0
      · have := (h.tp hp).1.lt; omega
      · exact (h.tp hp).2.2.2 id _ ho (e1 ▸ hv0)
    have hbx : ∀ j cs, lookA st.bx j = some cs → c.B j ≠ g := fun j cs hc e1 => by
      rcases hwhere with rfl | hv0
      · have := h.bxlt hc; omega
      · exact h.owb id _ ho j cs hc (e1 ▸ hv0)
    have hsub : ∀ i y, lookA (delA st.own id) i = some y → lookA st.own i = some y ∧ blkOf (c.O i) ≠ some g := fun i y hy => by
      obtain ⟨q1, q2⟩ := lookA_delA _ _ _ _ hy
      refine ⟨q2, fun hb => ?_⟩
      rcases hwhere with rfl | hv0
      · have := (h.owlt q2 hb).1; omega
      · exact h.owd i id y _ q2 ho q1 g hb hv0
    have k2 : ∀ b' o, c.S b' o → w'.cell? ⟨b', o, none⟩ = w.cell? ⟨b', o, none⟩ := (h.write hbase hnS hgr hT).2.1
    have hown' : OwnAt w0.heap.size w' c.S (.slice (some ⟨g, 0, none⟩) (rows.length + ys.length) cap) ⟨e, sz, rows ++ ys⟩ := by
      refine .inr ⟨g, cap, arr, by simp, hbase, hg, by simpa using hcap, hcm, harr, hnS, fun i row hir => ?_⟩
      have hir' : (rows ++ ys)[i]? = some row := hir
      by_cases h1 : i < rows.length
      · rw [List.getElem?_append_left h1] at hir'
        rcases hown with ⟨e1, e2⟩ | ⟨g0, cap0, cur, e1, _, hg0, _, _, hcs0, _, hr0⟩
        · have e2' : rows = [] := e2
          rw [e2'] at h1; simp at h1
        · obtain ⟨q1, q2⟩ := hr0 i row hir'
          refine ⟨q1, fun j cc hj => ?_⟩
          obtain ⟨u, u1, u2, u3⟩ := q2 j cc hj
          have hjl : j < sz := by have := (List.getElem?_eq_some_iff.1 hj).1; rw [q1] at this; exact this
          refine ⟨u, ?_, u2, u3.mono (fun _ _ h => h) k2⟩
          have := hold g0 cap0 cur (by rw [e1]) hg0 (i * sz + j) (row_lt h1 hjl)
          rw [this]; exact u1
      · rw [List.getElem?_append_right (by omega)] at hir'
        obtain ⟨q1, q2⟩ := hy1 (i - rows.length) row hir'
        refine ⟨q1, fun j cc hj => ?_⟩
        have hjl : j < sz := by have := (List.getElem?_eq_some_iff.1 hj).1; rw [q1] at this; exact this
        have hil : i - rows.length < ys.length := (List.getElem?_eq_some_iff.1 hir').1
        refine ⟨fy (i - rows.length) j, ?_, q2 j hjl, (hy2 _ row j cc hir' hj).mono (fun _ _ h => h) k2⟩
        have e1 : i * sz = rows.length * sz + (i - rows.length) * sz := by rw [← Nat.add_mul]; congr 1; omega
        have := hnew ((i - rows.length) * sz + j) (fy (i - rows.length) j) (by rw [getElem?_flat (row_lt hil hjl), (div_mod_at hjl).1, (div_mod_at hjl).2])
        show arr[i * sz + j]? = _
        rw [e1, Nat.add_assoc]; exact this
    obtain ⟨c', e1, e2, e3⟩ := h.newOwn (delA st.own id) hsub hbx hT hgr rfl hbase hnS (.inl ⟨h0, hown'⟩)
    exact ⟨_, _, c', hrun, e1, e2, e3⟩
end Eng
end Go.Proofs.Ytmmekdkllccmdaa
