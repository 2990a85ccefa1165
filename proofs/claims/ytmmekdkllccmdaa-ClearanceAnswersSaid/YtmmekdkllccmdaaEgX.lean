/-
  The engine: loops as predicates; joins; rows given up in the course of a walk; calls whose results may lie where their arguments lie; arithmetic that wraps.
-/
import Derived.Test.YtmmekdkllccmdaaEgU
import Derived.Test.YtmmekdkllccmdaaEgM
namespace Go.Proofs.Ytmmekdkllccmdaa
open Go.RowKit
set_option linter.unusedVariables false
namespace Eng
variable {P : Program}
/-! ### loops as predicates -/
def forL {T V : Type} (b : (V → Prop) → T → V → Prop) (e : V → Prop) : List T → V → Prop
  | [], v => e v
  | x :: q, v => b (forL b e q) x v
def forN {V : Type} (b : (V → Prop) → V → Prop) (e : V → Prop) : Nat → V → Prop
  | 0, v => e v
  | m + 1, v => b (forN b e m) v
def forF {V : Type} (b : (V → Prop) → V → Prop) : Nat → V → Prop
  | 0, _ => False
  | m + 1, v => b (forF b m) v
theorem forL_step {T V : Type} {b : (V → Prop) → T → V → Prop} {e : V → Prop} {x : T} {q : List T} {v : V} (H : forL b e (x :: q) v) : b (forL b e q) x v := H
theorem forL_end {T V : Type} {b : (V → Prop) → T → V → Prop} {e : V → Prop} {v : V} (H : forL b e [] v) : e v := H
theorem forN_step {V : Type} {b : (V → Prop) → V → Prop} {e : V → Prop} {m : Nat} {v : V} (H : forN b e (m + 1) v) : b (forN b e m) v := H
theorem forN_end {V : Type} {b : (V → Prop) → V → Prop} {e : V → Prop} {v : V} (H : forN b e 0 v) : e v := H
theorem forF_step {V : Type} {b : (V → Prop) → V → Prop} {m : Nat} {v : V} (H : forF b m v) : ∃ k, m = k + 1 ∧ b (forF b k) v := by
  cases m with
  | zero => exact H.elim
  | succ k => exact ⟨k, rfl, H⟩
theorem ite_t {b : Bool} {X Y : Prop} (H : if b = true then X else Y) (hb : b = true) : X := by rw [if_pos hb] at H; exact H
theorem ite_f {b : Bool} {X Y : Prop} (H : if b = true then X else Y) (hb : b = false) : Y := by rw [if_neg (by rw [hb]; decide)] at H; exact H
theorem drop_at {α : Type} {l : List α} {i : Nat} (hb : decide ((i : Int) < ((l.length : Nat) : Int)) = true) : ∃ x, l[i]? = some x ∧ l.drop i = x :: l.drop (i + 1) ∧ i < l.length := by
  have h := of_decide_eq_true hb
  have hi : i < l.length := by omega
  exact ⟨l[i], List.getElem?_eq_getElem hi, List.drop_eq_getElem_cons hi, hi⟩
theorem drop_end {α : Type} {l : List α} {i : Nat} (hi : i ≤ l.length) (hb : decide ((i : Int) < ((l.length : Nat) : Int)) = false) : l.drop i = [] ∧ i = l.length := by
  have h := of_decide_eq_false hb
  have e : i = l.length := by omega
  subst e
  exact ⟨List.drop_length, rfl⟩
/-! ### lists by numbers -/
def inb {α : Type} (l : List α) (i : Int) : Prop := 0 ≤ i ∧ i < (l.length : Int)
def ix {α : Type} [Inhabited α] (l : List α) (i : Int) : α := l.getD i.toNat default
theorem ix_get {α : Type} [Inhabited α] {l : List α} {i : Int} (h : inb l i) : l[i.toNat]? = some (ix l i) ∧ i = (i.toNat : Int) ∧ i.toNat < l.length := by
  obtain ⟨h1, h2⟩ := h
  have hl : i.toNat < l.length := by omega
  refine ⟨?_, by omega, hl⟩
  unfold ix
  rw [List.getD_eq_getElem?_getD, List.getElem?_eq_getElem hl]; rfl
theorem ix_nat {α : Type} [Inhabited α] {l : List α} {n : Nat} {x : α} (h : l[n]? = some x) : ix l (n : Int) = x := by
  unfold ix
  rw [List.getD_eq_getElem?_getD, Int.toNat_natCast, h]; rfl
theorem inb_nat {α : Type} {l : List α} {n : Nat} (h : n < l.length) : inb l (n : Int) := ⟨by omega, by omega⟩
def apOK (bs n m : Nat) : Prop := (n + m) * bs ≤ 140737488355328
def w64 (z : Int) : Int := IntKind.i64.wrap z
theorem w64_eq {z : Int} (h1 : -9223372036854775808 ≤ z) (h2 : z ≤ 9223372036854775807) : w64 z = z := IntWalk.i64_in z ⟨h1, h2⟩
abbrev avI : Int → List D := fun z => [iD z]
abbrev avB : Bool → List D := fun z => [bD z]
/-! ### less is said: slots that hold what is built of data -/
theorem SLe.aggD {s : SV} {ss : List SV} {ds : List D} (h : s = .agg ss) (hd : dOf ss = some ds) : SLe s (.d (.agg ds)) := fun c w u k => by
  subst h
  have e := dOf_spec hd
  cases k with
  | agg _ us hl h1 h => exact .d _ _ (Rd.agg ds us (by rw [hl, e, List.length_map]) h1 fun i c' u hc hu => srel_d (h i (.d c') u (by rw [e, List.getElem?_map, hc]; rfl) hu))
theorem SLe.fnD {s : SV} {f : FuncId} {ss : List SV} {ds : List D} (h : s = .fn f ss) (hd : dOf ss = some ds) : SLe s (.d (.fn f ds)) := fun c w u k => by
  subst h
  have e := dOf_spec hd
  cases k with
  | fn _ _ us hl h => exact .d _ _ (Rd.fn f ds us (by rw [hl, e, List.length_map]) fun i c' u hc hu => srel_d (h i (.d c') u (by rw [e, List.getElem?_map, hc]; rfl) hu))
/-! ### what the slots' data tell -/
section
variable {w0 : World} {S0 : Ev} {T : Nat → Prop} {ops : Array Oper} {rest : List Oper} {st : St}
theorem RelX.len {a : Act} {w : World} {c : Cx} (hr : RelX w0 S0 st a w c) {t sz : Nat} {xs : List (List D)} (h : SLe (look st.sl t) (.d (.sl sz xs))) : xs.length ≤ 9223372036854775807 := by
  obtain ⟨ad, cap, b, off, f, _, h1, h2, _⟩ := (srel_d (h c w _ (hr.sl t))).sl_inv
  simp only [maxLen] at h2
  omega
theorem AC.len {α : Type} {av : α → List D} {l : List α} {c : Code} {Q : Exit → St → Prop} {t sz : Nat} (h : SLe (look st.sl t) (.d (.sl sz (l.map av)))) (k : l.length ≤ 9223372036854775807 → AC P w0 S0 T c st Q) : AC P w0 S0 T c st Q := by
  rintro a w ⟨cx, hT, hr⟩
  exact k (by have := hr.len h; rwa [List.length_map] at this) a w ⟨cx, hT, hr⟩
theorem AO.len {α : Type} {av : α → List D} {l : List α} {Q : St → Prop} {t sz : Nat} (h : SLe (look st.sl t) (.d (.sl sz (l.map av)))) (k : l.length ≤ 9223372036854775807 → AO P w0 S0 T ops rest st Q) : AO P w0 S0 T ops rest st Q := by
  rintro a w ⟨cx, hT, hr⟩
  exact k (by have := hr.len h; rwa [List.length_map] at this) a w ⟨cx, hT, hr⟩
theorem AC.lenO {α : Type} {av : α → List D} {l : List α} {c : Code} {Q : Exit → St → Prop} {id e sz : Nat} (h : lookA st.own id = some ⟨e, sz, l.map av⟩) (h0 : Nat.ble 1 sz = true) (k : l.length ≤ 9223372036854775807 → AC P w0 S0 T c st Q) : AC P w0 S0 T c st Q := by
  rintro a w ⟨cx, hT, hr⟩
  refine k ?_ a w ⟨cx, hT, hr⟩
  rcases (hr.ow id _ h).2.slice (Nat.le_of_ble_eq_true h0) with ⟨_, h2⟩ | ⟨g, cap, cur, _, _, _, h1, h2, _⟩
  · have h2 : l.map av = [] := h2
    rw [List.map_eq_nil_iff] at h2
    rw [h2]; simp
  · have h1 : (l.map av).length ≤ cap := h1
    rw [List.length_map] at h1
    simp only [maxLen] at h2
    omega
/-- Several ways meet: what is behind them is walked once. -/
theorem AC.seqJ {x y : Code} {Q : Exit → St → Prop} {ι : Type} (I : ι → St) (J : ι → Prop) (h1 : AC P w0 S0 T x st (thenQ (fun st' => ∃ j, J j ∧ Le st' (I j)) Q)) (h2 : ∀ j, J j → AC P w0 S0 T y (I j) Q) : AC P w0 S0 T (.seq x y) st Q := by
  intro a w hr
  refine wp_seq (wp_mono (h1 a w hr) ?_)
  rintro e a' w' ⟨st', k1, k2⟩
  cases e with
  | normal =>
    obtain ⟨j, hj, hl⟩ := k2
    exact h2 j hj a' w' (hl _ _ _ _ _ k1)
  | _ => exact ⟨st', k1, k2⟩
end
/-! ### a row given up: it is data from now on -/
mutual
def SV.frz (id : Nat) (x : D) : SV → SV
  | .d y => .d y
  | .bx i o => .bx i o
  | .os i => bif Nat.beq i id then .d x else .os i
  | .op i o => .op i o
  | .agg cs => .agg (frzL id x cs)
  | .tup cs => .tup (frzL id x cs)
  | .fn f cs => .fn f (frzL id x cs)
  | .cnd g y => .cnd g (y.frz id x)
  | .tp => .tp
  | .un => .un
def frzL (id : Nat) (x : D) : List SV → List SV
  | [] => []
  | s :: r => s.frz id x :: frzL id x r
end
theorem frzL_map (id : Nat) (x : D) : ∀ (l : List SV), frzL id x l = l.map (SV.frz id x)
  | [] => rfl
  | s :: r => by rw [frzL, frzL_map id x r]; rfl
theorem SRel.frz {c : Cx} {S' : Cells} {w : World} {id : Nat} {x : D} (hS : ∀ b o, c.S b o → S' b o) (hx : Rd S' w x (c.O id)) {s : SV} {u : Value} (h : SRel c w s u) : SRel ⟨S', c.B, c.O, c.T⟩ w (s.frz id x) u := by
  induction h with
  | d y u h => exact .d y u (h.mono hS (fun _ _ _ => rfl))
  | bx i o => exact .bx (c := ⟨S', c.B, c.O, c.T⟩) i o
  | os i =>
    show SRel _ _ (bif Nat.beq i id then SV.d x else SV.os i) _
    by_cases e : i = id
    · subst e
      rw [Nat.beq_refl]
      exact .d x _ hx
    · rw [beq_ne e]
      exact .os (c := ⟨S', c.B, c.O, c.T⟩) i
  | op i o g n cap h => exact .op (c := ⟨S', c.B, c.O, c.T⟩) i o g n cap h
  | agg cs us hl h1 h ih =>
    show SRel _ _ (.agg (frzL id x cs)) _
    rw [frzL_map]
    refine .agg _ us (by rw [hl, List.length_map]) h1 fun i s u hs hu => ?_
    rw [List.getElem?_map] at hs
    obtain ⟨s0, h0, rfl⟩ := Option.map_eq_some_iff.1 hs
    exact ih i s0 u h0 hu
  | tup cs us hl h ih =>
    show SRel _ _ (.tup (frzL id x cs)) _
    rw [frzL_map]
    refine .tup _ us (by rw [hl, List.length_map]) fun i s u hs hu => ?_
    rw [List.getElem?_map] at hs
    obtain ⟨s0, h0, rfl⟩ := Option.map_eq_some_iff.1 hs
    exact ih i s0 u h0 hu
  | fn f cs us hl h ih =>
    show SRel _ _ (.fn f (frzL id x cs)) _
    rw [frzL_map]
    refine .fn f _ us (by rw [hl, List.length_map]) fun i s u hs hu => ?_
    rw [List.getElem?_map] at hs
    obtain ⟨s0, h0, rfl⟩ := Option.map_eq_some_iff.1 hs
    exact ih i s0 u h0 hu
  | cnd g y u h h' ih => exact .cnd g _ u (fun hg => ih hg) h'
  | tp => exact .tp (c := ⟨S', c.B, c.O, c.T⟩)
  | un u => exact .un u
mutual
theorem SV.frz_top (id : Nat) (x : D) : ∀ (s : SV), (s.frz id x).top ≤ s.top
  | .d y => Nat.le_refl _
  | .bx i o => Nat.le_refl _
  | .os i => by
    show SV.top (bif Nat.beq i id then SV.d x else SV.os i) ≤ _
    cases Nat.beq i id with
    | true => exact Nat.zero_le _
    | false => exact Nat.le_refl _
  | .op i o => Nat.le_refl _
  | .agg cs => frzL_top id x cs
  | .tup cs => frzL_top id x cs
  | .fn f cs => frzL_top id x cs
  | .cnd g y => SV.frz_top id x y
  | .tp => Nat.le_refl _
  | .un => Nat.le_refl _
theorem frzL_top (id : Nat) (x : D) : ∀ (l : List SV), topL (frzL id x l) ≤ topL l
  | [] => Nat.le_refl _
  | s :: r => by
    show mx (s.frz id x).top (topL (frzL id x r)) ≤ mx s.top (topL r)
    have h1 := SV.frz_top id x s
    have h2 := frzL_top id x r
    have h3 := (le_mx s.top (topL r) _).1 (Nat.le_refl _)
    exact (le_mx _ _ _).2 ⟨Nat.le_trans h1 h3.1, Nat.le_trans h2 h3.2⟩
end
def frzS (id : Nat) (x : D) : List (Nat × SV) → List (Nat × SV)
  | [] => []
  | p :: r => (p.1, p.2.frz id x) :: frzS id x r
def frzB (id : Nat) (x : D) : List (Nat × List SV) → List (Nat × List SV)
  | [] => []
  | p :: r => (p.1, frzL id x p.2) :: frzB id x r
theorem look_frz (id : Nat) (x : D) : ∀ (l : List (Nat × SV)) (t : Nat), look (frzS id x l) t = (look l t).frz id x
  | [], t => rfl
  | (k, v) :: r, t => by
    show look ((k, v.frz id x) :: frzS id x r) t = _
    rw [look_cons, look_cons, look_frz id x r t]
    split <;> rfl
theorem lookA_frz (id : Nat) (x : D) : ∀ (l : List (Nat × List SV)) (i : Nat) (cs : List SV), lookA (frzB id x l) i = some cs → ∃ cs0, lookA l i = some cs0 ∧ cs = frzL id x cs0
  | [], i, cs, h => by simp [frzB, lookA] at h
  | (k, v) :: r, i, cs, h => by
    have h : lookA ((k, frzL id x v) :: frzB id x r) i = some cs := h
    rw [lookA_cons] at h
    split at h
    · rename_i e
      injection h with h
      exact ⟨v, by rw [lookA_cons, if_pos e], h.symm⟩
    · rename_i e
      obtain ⟨cs0, h1, h2⟩ := lookA_frz id x r i cs h
      exact ⟨cs0, by rw [lookA_cons, if_neg e]; exact h1, h2⟩
theorem RelX.frz {w0 : World} {S0 : Ev} {st : St} {a : Act} {w : World} {c : Cx} (h : RelX w0 S0 st a w c) {id e sz : Nat} {rows : List (List D)} (ho : lookA st.own id = some ⟨e, sz, rows⟩) (h0 : 0 < sz) :
    ∃ c' : Cx, c'.T = c.T ∧ RelX w0 S0 ⟨frzS id (.sl sz rows) st.sl, frzB id (.sl sz rows) st.bx, delA st.own id, st.nx, st.tp, st.n⟩ a w c' := by
  have hown := (h.ow id _ ho).2
  have hsl := hown.slice h0
  let S' : Cells := fun b o => c.S b o ∨ (blkOf (c.O id) = some b ∧ o < rows.length * sz)
  have hS : ∀ b o, c.S b o → S' b o := fun _ _ h => .inl h
  have hx : Rd S' w (.sl sz rows) (c.O id) := own_rd hsl hS fun g hg o hlt => .inr ⟨hg, hlt⟩
  have hbase : ∀ b, blkOf (c.O id) = some b → w0.heap.size ≤ b ∧ b < w.heap.size := fun b hb => ⟨(hown.blk hb).1, (hown.blk hb).2.1⟩
  have k2 : ∀ b o, c.S b o → w.cell? ⟨b, o, none⟩ = w.cell? ⟨b, o, none⟩ := fun _ _ _ => rfl
  refine ⟨⟨S', c.B, c.O, c.T⟩, rfl, ⟨h.below, h.df, h.sz, fun t => ?_, fun t => ?_, fun b o hb => ?_, fun i cs hc => ?_, fun i j x y hi hj => ?_, fun i x hi => ?_, fun i j x y hi hj => ?_, fun i x hi j cs hc => ?_, fun b o hb => ?_, fun b o hb => .inl (h.stt b o hb), fun hp => ?_⟩⟩
  · show SRel _ _ (look (frzS id _ st.sl) t) _
    rw [look_frz]
    exact (h.sl t).frz hS hx
  · show (look (frzS id _ st.sl) t).top ≤ _
    rw [look_frz]
    exact Nat.le_trans (SV.frz_top _ _ _) (h.top t)
  · rcases hb with hb | ⟨hb, _⟩
    · exact h.sb b o hb
    · exact (hbase b hb).2
  · obtain ⟨cs0, h1, rfl⟩ := lookA_frz _ _ _ _ _ hc
    obtain ⟨i1, i2, i3, i4, arr, t, i5, i6, i7, i8⟩ := h.bx i cs0 h1
    refine ⟨i1, Nat.le_trans (frzL_top _ _ _) i2, i3, fun o ho' => ?_, arr, t, i5, by rw [frzL_map, List.length_map]; exact i6, i7, fun j s u hs hu => ?_⟩
    · rcases ho' with ho' | ⟨hb, _⟩
      · exact i4 o ho'
      · exact h.owb id _ ho i cs0 h1 hb
    · rw [frzL_map, List.getElem?_map] at hs
      obtain ⟨s0, q1, rfl⟩ := Option.map_eq_some_iff.1 hs
      exact (i8 j s0 u q1 hu).frz hS hx
  · obtain ⟨x0, h1, _⟩ := lookA_frz _ _ _ _ _ hi
    obtain ⟨y0, h2, _⟩ := lookA_frz _ _ _ _ _ hj
    exact h.bxd i j x0 y0 h1 h2
  · obtain ⟨hne, hi'⟩ := lookA_delA _ _ _ _ hi
    obtain ⟨i1, i2⟩ := h.ow i x hi'
    refine ⟨i1, i2.keep hS k2 fun b hb => ⟨rfl, fun o ho' => ?_⟩⟩
    rcases ho' with ho' | ⟨hb', _⟩
    · exact (h.owlt hi' hb).2 o ho'
    · exact h.owd i id x _ hi' ho hne b hb hb'
  · exact h.owd i j x y (lookA_delA _ _ _ _ hi).2 (lookA_delA _ _ _ _ hj).2
  · obtain ⟨cs0, h1, _⟩ := lookA_frz _ _ _ _ _ hc
    exact h.owb i x (lookA_delA _ _ _ _ hi).2 j cs0 h1
  · refine Iff.trans ⟨fun hs => ?_, .inl⟩ (h.old b o hb)
    rcases hs with hs | ⟨hs, _⟩
    · exact hs
    · have := (hbase b hs).1; omega
  · obtain ⟨t1, t3, t4, t5⟩ := h.tp hp
    refine ⟨t1, fun o ho' => ?_, fun i cs hc => ?_, fun i x hi => t5 i x (lookA_delA _ _ _ _ hi).2⟩
    · rcases ho' with ho' | ⟨hb, _⟩
      · exact t3 o ho'
      · exact t5 id _ ho hb
    · obtain ⟨cs0, h1, _⟩ := lookA_frz _ _ _ _ _ hc
      exact t4 i cs0 h1
theorem Le.frz {st : St} (id e sz : Nat) (rows : List (List D)) (ho : lookA st.own id = some ⟨e, sz, rows⟩) (h0 : Nat.ble 1 sz = true) : Le st ⟨frzS id (.sl sz rows) st.sl, frzB id (.sl sz rows) st.bx, delA st.own id, st.nx, st.tp, st.n⟩ := by
  rintro w0 S0 T a w ⟨c, hT, hr⟩
  obtain ⟨c', e1, e2⟩ := hr.frz ho (Nat.le_of_ble_eq_true h0)
  exact ⟨c', tmv e1 hT, e2⟩
end Eng
end Go.Proofs.Ytmmekdkllccmdaa
