/-
  The engine's steps that lay or write memory: boxes, stores, appends.
-/
import Derived.Test.YtmmekdkllccmdaaEgC
namespace Go.Proofs.Ytmmekdkllccmdaa
open Go.RowKit
set_option linter.unusedVariables false
namespace Eng
variable {P : Program}
/-- The single cells that a value takes up in memory. -/
def cellsOf : SV → List SV
  | .d (.agg cs) => cs.map SV.d
  | .agg cs => cs
  | x => [x]
/-- What may be stored. -/
def SV.okc : SV → Bool
  | .d (.v (.agg _)) => false
  | .d (.v x) => x.oneCell'
  | .d (.tup _) => false
  | .d _ => true
  | .tup _ => false
  | .cnd _ _ => false
  | .un => false
  | _ => true
theorem cells_rd {c : Cx} {w : World} {x : SV} {u : Value} (h : SRel c w x u) (h1 : x.okc = true) (hO : ∀ id, x = .os id → (c.O id).cells = #[c.O id] ∧ (c.O id).oneCell' = true) :
    u.cells.toList.length = (cellsOf x).length ∧ (∀ v ∈ u.cells.toList, v.oneCell' = true) ∧ ∀ (j : Nat) (s : SV) (v : Value), (cellsOf x)[j]? = some s → u.cells.toList[j]? = some v → SRel c w s v := by
  have one : ∀ (u : Value), (∀ cs, u ≠ .agg cs) → u.cells = #[u] := fun u h => by cases u <;> first | rfl | exact absurd rfl (h _)
  have fin : ∀ (x : SV) (u : Value), cellsOf x = [x] → SRel c w x u → u.cells = #[u] → u.oneCell' = true → u.cells.toList.length = (cellsOf x).length ∧ (∀ v ∈ u.cells.toList, v.oneCell' = true) ∧ ∀ (j : Nat) (s : SV) (v : Value), (cellsOf x)[j]? = some s → u.cells.toList[j]? = some v → SRel c w s v := by
    intro x u hx hr hu ho
    rw [hx, hu]
    refine ⟨rfl, fun v hv => by simp at hv; rw [hv]; exact ho, fun j s v hs hv => ?_⟩
    cases j with
    | zero => simp at hs hv; rw [← hs, ← hv]; exact hr
    | succ j => simp at hs
  cases h with
  | d x u h =>
    cases h with
    | v =>
      have hne : ∀ cs, u ≠ .agg cs := fun cs e => by subst e; simp [SV.okc] at h1
      refine fin _ _ rfl (.d _ _ (.v u)) (one u hne) ?_
      cases u <;> first | rfl | (exfalso; exact hne _ rfl) | (simp [SV.okc, Value.oneCell'] at h1)
    | fn f cs us hl h => exact fin _ _ rfl (.d _ _ (.fn f cs us hl h)) rfl rfl
    | agg cs us hl ho h =>
      refine ⟨by simpa [Value.cells, cellsOf] using hl, fun v hv => ho v (by simpa [Value.cells] using hv), fun j s v hs hv => ?_⟩
      simp only [cellsOf, List.getElem?_map, Option.map_eq_some_iff] at hs
      obtain ⟨y, hy, rfl⟩ := hs
      exact .d _ _ (h j y v hy (by simpa [Value.cells] using hv))
    | tup cs us hl h => simp [SV.okc] at h1
    | sl sz xs ad cap b off f hc hm ha hx h => exact fin _ _ rfl (.d _ _ (.sl sz xs ad cap b off f hc hm ha hx h)) rfl rfl
    | p cs b off f hx h => exact fin _ _ rfl (.d _ _ (.p cs b off f hx h)) rfl rfl
  | bx id off => exact fin _ _ rfl (.bx id off) rfl rfl
  | os id =>
    obtain ⟨e1, e2⟩ := hO id rfl
    exact fin _ _ rfl (.os id) e1 e2
  | op id off g n cap h => exact fin _ _ rfl (.op id off g n cap h) rfl rfl
  | agg cs us hl ho h => exact ⟨by simpa [Value.cells, cellsOf] using hl, fun v hv => ho v (by simpa [Value.cells] using hv), fun j s v hs hv => h j s v hs (by simpa [Value.cells] using hv)⟩
  | tup cs us hl h => simp [SV.okc] at h1
  | fn f cs us hl h => exact fin _ _ rfl (.fn f cs us hl h) rfl rfl
  | cnd g x u h h' => simp [SV.okc] at h1
  | tp => exact fin _ _ rfl .tp rfl rfl
  | un => simp [SV.okc] at h1
theorem Ext.alloc {S : Cells} {w : World} (hs : ∀ b o, S b o → b < w.heap.size) (o : Obj) : Ext S w S (w.alloc o) :=
  ⟨(Below.refl _ _).alloc (Nat.le_refl _) _, fun _ _ _ => Iff.rfl, fun b o h => by have := hs b o h; simp; omega⟩
theorem topL_cells {n : Nat} : ∀ {x : SV}, x.top ≤ n → topL (cellsOf x) ≤ n := by
  have h0 : ∀ (x : SV), x.top ≤ n → topL [x] ≤ n := fun x h => by simp only [topL]; exact (le_mx _ _ _).2 ⟨h, Nat.zero_le _⟩
  have h1 : ∀ (cs : List D), topL (cs.map SV.d) ≤ n := fun cs => by
    induction cs with
    | nil => exact Nat.zero_le _
    | cons c r ih => simp only [List.map_cons, topL]; exact (le_mx _ _ _).2 ⟨Nat.zero_le _, ih⟩
  intro x h
  cases x with
  | d y => cases y <;> first | exact h1 _ | exact h0 _ (Nat.zero_le _)
  | agg cs => exact h
  | _ => exact h0 _ h
/-- A new object: the boxes and rows that were stay; one number is new. -/
theorem RelX.fresh {w0 : World} {S0 : Ev} {st : St} {a : Act} {w : World} {c : Cx} (h : RelX w0 S0 st a w c) (b : Nat) (v : Value) :
    RelX w0 S0 ⟨st.sl, st.bx, st.own, st.nx + 1, st.tp, st.n⟩ a w ⟨c.S, fun i => if i = st.nx then b else c.B i, fun i => if i = st.nx then v else c.O i, c.T⟩ := by
  have hB : ∀ id, id < st.nx → (if id = st.nx then b else c.B id) = c.B id ∧ (if id = st.nx then v else c.O id) = c.O id := fun id hid => by rw [if_neg (by omega), if_neg (by omega)]; exact ⟨rfl, rfl⟩
  have hs : ∀ {s : SV} {u : Value}, s.top ≤ st.nx → SRel c w s u → SRel ⟨c.S, fun i => if i = st.nx then b else c.B i, fun i => if i = st.nx then v else c.O i, c.T⟩ w s u := fun ht hr => SRel.mono (c := c) (c' := ⟨c.S, fun i => if i = st.nx then b else c.B i, fun i => if i = st.nx then v else c.O i, c.T⟩) (n := st.nx) (fun _ _ h => h) (fun _ _ _ => rfl) rfl hB hr ht
  refine ⟨h.below, h.df, h.sz, fun x => hs (h.top x) (h.sl x), fun x => Nat.le_succ_of_le (h.top x), h.sb, fun id cs hc => ?_, fun i j x y hi hj => ?_, fun id x hx => ?_, fun i j x y hi hj => ?_, fun i x hi id cs hc => ?_, h.old, h.stt, fun hp => ?_⟩
  · obtain ⟨h1, h2, h3, h4, arr, t, h5, h6, h7, h8⟩ := h.bx id cs hc
    refine ⟨Nat.lt_succ_of_lt h1, Nat.le_succ_of_le h2, ?_⟩
    show BoxAt _ _ _ (if id = st.nx then b else c.B id) _
    rw [(hB id h1).1]
    exact ⟨h3, h4, arr, t, h5, h6, h7, fun j s u hj hu => hs (topL_get h2 hj) (h8 j s u hj hu)⟩
  · show _ → (if i = st.nx then b else c.B i) ≠ (if j = st.nx then b else c.B j)
    rw [(hB i (h.bx i x hi).1).1, (hB j (h.bx j y hj).1).1]
    exact h.bxd i j x y hi hj
  · obtain ⟨h1, h2⟩ := h.ow id x hx
    refine ⟨Nat.lt_succ_of_lt h1, ?_⟩
    show OwnX _ _ _ (if id = st.nx then v else c.O id) _
    rw [(hB id h1).2]; exact h2
  · show _ → ∀ b', blkOf (if i = st.nx then v else c.O i) = some b' → blkOf (if j = st.nx then v else c.O j) ≠ some b'
    rw [(hB i (h.ow i x hi).1).2, (hB j (h.ow j y hj).1).2]
    exact h.owd i j x y hi hj
  · show blkOf (if i = st.nx then v else c.O i) ≠ some (if id = st.nx then b else c.B id)
    rw [(hB i (h.ow i x hi).1).2, (hB id (h.bx id cs hc).1).1]
    exact h.owb i x hi id cs hc
  · obtain ⟨t1, t3, t4, t5⟩ := h.tp hp
    refine ⟨t1, t3, fun id cs hc => ?_, fun i x hi => ?_⟩
    · show (if id = st.nx then b else c.B id) ≠ _
      rw [(hB id (h.bx id cs hc).1).1]; exact t4 id cs hc
    · show blkOf (if i = st.nx then v else c.O i) ≠ _
      rw [(hB i (h.ow i x hi).1).2]; exact t5 i x hi
/-- A new box. -/
theorem RelX.box {w0 : World} {S0 : Ev} {st : St} {a : Act} {w : World} {c : Cx} (h : RelX w0 S0 st a w c) {d : Nat} (hd : d < st.n) {arr : List Value} {cs : List SV} (t : TypeId)
    (hl : arr.length = cs.length) (h1 : ∀ u ∈ arr, u.oneCell' = true) (hr : ∀ (j : Nat) (s : SV) (u : Value), cs[j]? = some s → arr[j]? = some u → SRel c w s u) (ht : topL cs ≤ st.nx) :
    ∃ c' : Cx, c'.T = c.T ∧ RelX w0 S0 ⟨(d, .bx st.nx 0) :: st.sl, (st.nx, cs) :: st.bx, st.own, st.nx + 1, st.tp, st.n⟩ (a.put (some d) (.pointer (some ⟨w.heap.size, 0, none⟩))) (w.alloc (.cells arr.toArray t)) c' := by
  have he : Ext c.S w c.S (w.alloc (.cells arr.toArray t)) := Ext.alloc h.sb _
  obtain ⟨k1, k2⟩ := he.keep h.sb
  have hf := h.fresh w.heap.size (.slice none 0 0)
  have hg := hf.grow (S' := c.S) he
  have hp := hg.put (d := d) (r := .bx st.nx 0) (v := .pointer (some ⟨w.heap.size, 0, none⟩)) hd (by
    have := SRel.bx (c := ⟨c.S, fun i => if i = st.nx then w.heap.size else c.B i, fun i => if i = st.nx then .slice none 0 0 else c.O i, c.T⟩) (w := w.alloc (.cells arr.toArray t)) st.nx 0
    simpa using this) (Nat.le_refl _)
  refine ⟨⟨c.S, fun i => if i = st.nx then w.heap.size else c.B i, fun i => if i = st.nx then .slice none 0 0 else c.O i, c.T⟩, rfl, ⟨hp.below, hp.df, hp.sz, hp.sl, hp.top, hp.sb, fun id x hc => ?_, fun i j x y hi hj hne => ?_, hp.ow, hp.owd, fun i x hi id y hc => ?_, hp.old, hp.stt, fun ht' => ?_⟩⟩
  · rw [lookA_cons] at hc
    split at hc
    · rename_i e
      subst e
      injection hc with hc
      subst hc
      refine ⟨Nat.lt_succ_self _, Nat.le_succ_of_le ht, ?_⟩
      show BoxAt _ _ _ (if st.nx = st.nx then w.heap.size else _) _
      rw [if_pos rfl]
      refine ⟨h.below.size, fun o ho => by have := h.sb _ _ ho; omega, arr, t, heap_alloc_new w _, hl, h1, fun j s u hs hu => ?_⟩
      exact SRel.mono (c := c) (c' := ⟨c.S, fun i => if i = st.nx then w.heap.size else c.B i, fun i => if i = st.nx then .slice none 0 0 else c.O i, c.T⟩) (n := st.nx) k1 k2 rfl (fun id hid => ⟨if_neg (by omega), if_neg (by omega)⟩) (hr j s u hs hu) (topL_get ht hs)
    · exact hp.bx id x hc
  · rw [lookA_cons] at hi hj
    have hlt : ∀ i x, lookA st.bx i = some x → (if i = st.nx then w.heap.size else c.B i) ≠ w.heap.size := fun i x hx => by
      rw [if_neg (by have := (h.bx i x hx).1; omega)]; have := h.bxlt hx; omega
    show (if i = st.nx then w.heap.size else c.B i) ≠ (if j = st.nx then w.heap.size else c.B j)
    split at hi <;> split at hj
    · omega
    · rename_i e1 e2; rw [if_pos e1.symm]; exact (hlt j y hj).symm
    · rename_i e1 e2; rw [if_pos e2.symm]; exact hlt i x hi
    · exact hp.bxd i j x y hi hj hne
  · rw [lookA_cons] at hc
    split at hc
    · rename_i e
      subst e
      intro hb
      have hb' : blkOf (if i = st.nx then Value.slice none 0 0 else c.O i) = some (if st.nx = st.nx then w.heap.size else c.B st.nx) := hb
      rw [if_pos rfl, if_neg (by have := (h.ow i x hi).1; omega)] at hb'
      have := (h.owlt hi hb').1
      omega
    · exact hp.owb i x hi id y hc
  · obtain ⟨t1, t3, t4, t5⟩ := hp.tp ht'
    refine ⟨t1, t3, fun id x hc => ?_, t5⟩
    rw [lookA_cons] at hc
    split at hc
    · rename_i e
      subst e
      show (if st.nx = st.nx then w.heap.size else _) ≠ c.T
      rw [if_pos rfl]
      have := (h.tp ht').1.lt
      omega
    · exact t4 id x hc

theorem heap_setCell_at {w : World} {b o : Nat} {v : Value} {arr : List Value} {t : TypeId} {fr : Nat × Nat} (h : w.heap[b]? = some (.cells arr.toArray t fr)) : (w.setCell ⟨b, o, none⟩ v).heap[b]? = some (.cells (arr.set o v).toArray t fr) := by
  simp [World.setCell, Array.getElem?_modify, h]
theorem heap_setCells_at (b : Nat) : ∀ (vs : List Value) (o : Nat) (w : World) (arr : List Value) (t : TypeId) (fr : Nat × Nat), w.heap[b]? = some (.cells arr.toArray t fr) → o + vs.length ≤ arr.length →
    (w.setCells b o vs).heap[b]? = some (.cells (arr.take o ++ vs ++ arr.drop (o + vs.length)).toArray t fr)
  | [], o, w, arr, t, fr, h, hl => by simp [World.setCells, h]
  | v :: vs, o, w, arr, t, fr, h, hl => by
    rw [World.setCells, heap_setCells_at b vs (o + 1) _ (arr.set o v) t fr (heap_setCell_at h) (by simp at hl ⊢; omega)]
    simp at hl
    have ho : o < arr.length := by omega
    congr 3
    apply List.ext_getElem?
    intro j
    simp only [List.getElem?_append, List.length_append, List.length_take, List.length_set, List.getElem?_take, List.getElem?_drop, List.getElem?_set, List.length_cons]
    rw [show min (o + 1) arr.length = o + 1 by omega, show min o arr.length = o by omega]
    by_cases h1 : j < o
    · rw [if_pos (by omega), if_pos (by omega), if_pos (by omega), if_neg (by omega), if_pos (by omega), if_pos (by omega), if_pos (by omega)]
    · by_cases h2 : j = o
      · subst h2
        rw [if_pos (by omega), if_pos (by omega), if_pos (by omega), if_pos rfl, if_pos ho, if_pos (by omega), if_neg (by omega)]
        simp
      · by_cases h3 : j < o + 1 + vs.length
        · rw [if_pos (by omega), if_neg (by omega), if_pos (by omega), if_neg (by omega)]
          rw [show j - o = (j - (o + 1)) + 1 by omega, List.getElem?_cons_succ]
        · rw [if_neg (by omega), if_neg (by omega), if_neg (by omega)]
          congr 1; omega
theorem grownBy_refl (w : World) (row : Option Nat) : w.grownBy w row := ⟨rfl, rfl, rfl, Nat.le_refl _, fun _ _ _ => rfl⟩
theorem grownBy_trans {a b c : World} {row : Option Nat} (h : a.grownBy b row) (k : b.grownBy c row) : a.grownBy c row :=
  ⟨k.os.trans h.os, k.tape.trans h.tape, k.output.trans h.output, Nat.le_trans h.size k.size, fun i hi hr => (k.block i (Nat.lt_of_lt_of_le hi h.size) hr).trans (h.block i hi hr)⟩
theorem grownBy_setCell (w : World) (bt o : Nat) (v : Value) : w.grownBy (w.setCell ⟨bt, o, none⟩ v) (some bt) :=
  ⟨rfl, rfl, rfl, by simp [World.setCell], fun k _ hr => Below.heap_setCell _ _ _ _ (by intro e; exact hr (by rw [e]))⟩
theorem below_setCells' (b o : Nat) (vs : List Value) (w : World) : w.grownBy (w.setCells b o vs) (some b) := by
  induction vs generalizing o w with
  | nil => exact grownBy_refl w _
  | cons v vs ih => exact grownBy_trans (grownBy_setCell w b o v) (ih (o + 1) _)
def spl {α : Type} (cs : List α) (off : Nat) (ks : List α) : List α := cs.take off ++ ks ++ cs.drop (off + ks.length)
theorem spl_get {α : Type} {cs ks : List α} {off : Nat} (ho : off + ks.length ≤ cs.length) (j : Nat) : (spl cs off ks)[j]? = if j < off then cs[j]? else if j < off + ks.length then ks[j - off]? else cs[j]? := by
  unfold spl
  simp only [List.getElem?_append, List.length_append, List.length_take, List.getElem?_take, List.getElem?_drop]
  rw [show min off cs.length = off by omega]
  by_cases h1 : j < off
  · rw [if_pos (by omega), if_pos h1, if_pos h1, if_pos h1]
  · by_cases h2 : j < off + ks.length
    · rw [if_pos (by omega), if_neg h1, if_neg h1, if_pos h2]
    · rw [if_neg (by omega), if_neg h1, if_neg h2]; congr 1; omega
/-- One block of the call's own is written, of which nothing is stable and which is not the tape's: all else is as it was. -/
theorem RelX.write {w0 : World} {S0 : Ev} {st : St} {a : Act} {w : World} {c : Cx} (h : RelX w0 S0 st a w c) {b : Nat} (hbase : w0.heap.size ≤ b) (hnS : ∀ o, ¬ c.S b o) {w' : World} (hg : w.grownBy w' (some b)) (hT : st.tp = true → b ≠ c.T) :
    w0.grownBy w' (some c.T) ∧ (∀ b o, c.S b o → w'.cell? ⟨b, o, none⟩ = w.cell? ⟨b, o, none⟩) ∧ (∀ k, k < w.heap.size → k ≠ b → w'.heap[k]? = w.heap[k]?) ∧ (st.tp = true → TapeS w' c.T S0.St) := by
  have hblk : ∀ k, k < w.heap.size → k ≠ b → w'.heap[k]? = w.heap[k]? := fun k hk hne => hg.block k hk (fun e => hne (Option.some.inj e))
  have k2 : ∀ b' o, c.S b' o → w'.cell? ⟨b', o, none⟩ = w.cell? ⟨b', o, none⟩ := fun b' o hs => World.cell?_of_block (hblk b' (h.sb b' o hs) (fun e => hnS o (e ▸ hs)))
  refine ⟨⟨hg.os.trans h.below.os, hg.tape.trans h.below.tape, hg.output.trans h.below.output, Nat.le_trans h.below.size hg.size, fun i hi hne => (hblk i (Nat.lt_of_lt_of_le hi h.below.size) (by omega)).trans (h.below.block i hi hne)⟩, k2, hblk, fun hp => ?_⟩
  obtain ⟨t1, _⟩ := h.tp hp
  exact t1.mono (fun _ _ h => h) (fun b o hb => k2 b o (h.stt b o hb)) (hblk _ t1.lt (fun e => hT hp e.symm))
/-- A store into a box. -/
theorem RelX.store {w0 : World} {S0 : Ev} {st : St} {a : Act} {w : World} {c : Cx} (h : RelX w0 S0 st a w c) {id off : Nat} {cs : List SV} (hb : lookA st.bx id = some cs) {vs : List Value} {ks : List SV} (hl : vs.length = ks.length) (ho : off + ks.length ≤ cs.length)
    (h1 : ∀ u ∈ vs, u.oneCell' = true) (hr : ∀ (j : Nat) (s : SV) (u : Value), ks[j]? = some s → vs[j]? = some u → SRel c w s u) (ht : topL ks ≤ st.nx) :
    RelX w0 S0 ⟨st.sl, setA st.bx id (spl cs off ks), st.own, st.nx, st.tp, st.n⟩ a (w.setCells (c.B id) off vs) c := by
  obtain ⟨hid, htc, hbase, hnS, arr, t, hh, hal, h1a, hra⟩ := h.bx id cs hb
  obtain ⟨w1, k2, hblk, w4⟩ := h.write hbase hnS (below_setCells' (c.B id) off vs w) (fun hp => (h.tp hp).2.2.1 id cs hb)
  have k1 : ∀ b o, c.S b o → c.S b o := fun _ _ h => h
  have hsz := (below_setCells' (c.B id) off vs w).size
  have hsr : ∀ {s : SV} {u : Value}, SRel c w s u → SRel c (w.setCells (c.B id) off vs) s u := fun hr => hr.mono' k1 k2
  have hlk : ∀ i x, lookA (setA st.bx id (spl cs off ks)) i = some x → ∃ y, lookA st.bx i = some y := fun i x hx => by
    rcases lookA_setA _ _ _ _ _ hx with ⟨rfl, _, z, hz⟩ | ⟨_, hz⟩
    · exact ⟨z, hz⟩
    · exact ⟨_, hz⟩
  refine ⟨w1, h.df, h.sz, fun x => hsr (h.sl x), h.top, fun b o hs => Nat.lt_of_lt_of_le (h.sb b o hs) hsz, fun i x hx => ?_, fun i j x y hi hj => ?_, fun i x hx => ?_, h.owd, fun i x hi j y hj => ?_, h.old, h.stt, fun hp => ?_⟩
  · rcases lookA_setA _ _ _ _ _ hx with ⟨rfl, rfl, _⟩ | ⟨hne, hx'⟩
    · refine ⟨hid, ?_, hbase, hnS, _, t, heap_setCells_at (c.B i) vs off w arr t (0, 0) hh (by omega), ?_, ?_, ?_⟩
      · have hall : ∀ (l : List SV), (∀ (j : Nat) (s : SV), l[j]? = some s → s.top ≤ st.nx) → topL l ≤ st.nx := fun l => by
          induction l with
          | nil => exact fun _ => Nat.zero_le _
          | cons s r ih => exact fun hh => (le_mx _ _ _).2 ⟨hh 0 s rfl, ih fun j s hj => hh (j + 1) s (by simpa using hj)⟩
        refine hall _ fun j s hj => ?_
        rw [spl_get ho] at hj
        split at hj
        · exact topL_get htc hj
        · split at hj
          · exact topL_get ht hj
          · exact topL_get htc hj
      · simp [spl]; omega
      · intro u hu
        simp only [List.mem_append] at hu
        rcases hu with (hu | hu) | hu
        · exact h1a u (List.mem_of_mem_take hu)
        · exact h1 u hu
        · exact h1a u (List.mem_of_mem_drop hu)
      · intro j s u hs hu
        refine hsr ?_
        have hu' : (spl arr off vs)[j]? = some u := hu
        rw [spl_get ho] at hs
        rw [spl_get (by omega), hl] at hu'
        by_cases h1 : j < off
        · rw [if_pos h1] at hs hu'; exact hra j s u hs hu'
        · by_cases h2 : j < off + ks.length
          · rw [if_neg h1, if_pos h2] at hs hu'; exact hr (j - off) s u hs hu'
          · rw [if_neg h1, if_neg h2] at hs hu'; exact hra j s u hs hu'
    · obtain ⟨i1, i2, i3⟩ := h.bx i x hx'
      exact ⟨i1, i2, i3.keep k1 k2 (hblk _ (h.bxlt hx') (h.bxd i id x cs hx' hb hne)) i3.2.1⟩
  · obtain ⟨y1, e1⟩ := hlk i x hi
    obtain ⟨y2, e2⟩ := hlk j y hj
    exact h.bxd i j y1 y2 e1 e2
  · obtain ⟨i1, i2⟩ := h.ow i x hx
    exact ⟨i1, i2.keep k1 k2 fun b hb' => ⟨hblk b (h.owlt hx hb').1 (fun e => h.owb i x hx id cs hb (e ▸ hb')), (h.owlt hx hb').2⟩⟩
  · obtain ⟨z, e⟩ := hlk j y hj
    exact h.owb i x hi j z e
  · obtain ⟨t1, t3, t4, t5⟩ := h.tp hp
    refine ⟨w4 hp, t3, fun j y hj => ?_, t5⟩
    obtain ⟨z, e⟩ := hlk j y hj
    exact t4 j z e
/-- A slot that holds nil owns a row of no elements: a new row. -/
theorem RelX.ownNil {w0 : World} {S0 : Ev} {st : St} {a : Act} {w : World} {c : Cx} (h : RelX w0 S0 st a w c) (x : Nat) (e : TypeId) (sz : Nat) (hx : look st.sl x = .d (.v (.slice none 0 0))) (h0 : 0 < sz) :
    ∃ c' : Cx, c'.T = c.T ∧ RelX w0 S0 ⟨(x, .os st.nx) :: st.sl, st.bx, (st.nx, ⟨e, sz, []⟩) :: st.own, st.nx + 1, st.tp, st.n⟩ a w c' := by
  have hf := h.fresh 0 (.slice none 0 0)
  have hv : a.tmps.getD x undef = .slice none 0 0 := by have := h.sl x; rw [hx] at this; exact srel_v this
  refine ⟨⟨c.S, fun i => if i = st.nx then 0 else c.B i, fun i => if i = st.nx then .slice none 0 0 else c.O i, c.T⟩, rfl, ⟨hf.below, hf.df, hf.sz, fun y => ?_, fun y => ?_, hf.sb, hf.bx, hf.bxd, fun id o ho => ?_, fun i j p q hi hj hne b hb => ?_, fun i o hi id cs hc => ?_, hf.old, hf.stt, fun hp => ?_⟩⟩
  · rw [look_cons]
    split
    · rename_i e'
      subst e'
      rw [hv]
      have := SRel.os (c := ⟨c.S, fun i => if i = st.nx then 0 else c.B i, fun i => if i = st.nx then .slice none 0 0 else c.O i, c.T⟩) (w := w) st.nx
      simpa using this
    · exact hf.sl y
  · rw [look_cons]
    split
    · exact Nat.le_refl _
    · exact hf.top y
  · rw [lookA_cons] at ho
    split at ho
    · rename_i e'
      subst e'
      injection ho with ho
      subst ho
      refine ⟨Nat.lt_succ_self _, .inl ⟨h0, .inl ⟨?_, rfl⟩⟩⟩
      show (if st.nx = st.nx then _ else _) = _
      rw [if_pos rfl]
    · exact hf.ow id o ho
  · rw [lookA_cons] at hi hj
    have hb' : blkOf (if i = st.nx then Value.slice none 0 0 else c.O i) = some b := hb
    split at hi
    · rename_i e1; rw [if_pos e1.symm] at hb'; cases hb'
    · split at hj
      · rename_i e2
        show blkOf (if j = st.nx then Value.slice none 0 0 else c.O j) ≠ _
        rw [if_pos e2.symm]; exact fun hh => by cases hh
      · exact hf.owd i j p q hi hj hne b hb
  · rw [lookA_cons] at hi
    split at hi
    · rename_i e1
      show blkOf (if i = st.nx then Value.slice none 0 0 else c.O i) ≠ _
      rw [if_pos e1.symm]; exact fun hh => by cases hh
    · exact hf.owb i o hi id cs hc
  · obtain ⟨t1, t3, t4, t5⟩ := hf.tp hp
    refine ⟨t1, t3, t4, fun i o hi => ?_⟩
    rw [lookA_cons] at hi
    split at hi
    · rename_i e1
      show blkOf (if i = st.nx then Value.slice none 0 0 else c.O i) ≠ _
      rw [if_pos e1.symm]; exact fun hh => by cases hh
    · exact t5 i o hi
end Eng
end Go.Proofs.Ytmmekdkllccmdaa
