/-
  The engine: nil slices as empty ones, parts of slices, appends onto nil, loops with a number.
-/
import Derived.Test.YtmmekdkllccmdaaEgY
namespace Go.Proofs.Ytmmekdkllccmdaa
open Go.RowKit
set_option linter.unusedVariables false
namespace Eng
variable {P : Program}
def forLI {T V : Type} (b : (V → Prop) → Nat → T → V → Prop) (e : V → Prop) : Nat → List T → V → Prop
  | _, [], v => e v
  | i, x :: q, v => b (forLI b e (i + 1) q) i x v
theorem forLI_step {T V : Type} {b : (V → Prop) → Nat → T → V → Prop} {e : V → Prop} {i : Nat} {x : T} {q : List T} {v : V} (H : forLI b e i (x :: q) v) : b (forLI b e (i + 1) q) i x v := H
theorem forLI_end {T V : Type} {b : (V → Prop) → Nat → T → V → Prop} {e : V → Prop} {i : Nat} {v : V} (H : forLI b e i [] v) : e v := H
theorem set_get {α : Type} {l : List α} {n : Nat} {x y : α} (h : l[n]? = some x) : (List.set l n y)[n]? = some y := by
  rw [List.getElem?_set_self (List.getElem?_eq_some_iff.1 h).1]
theorem inb_set {α : Type} {l : List α} {n : Nat} {i : Int} {y : α} (h : inb l i) : inb (List.set l n y) i := by
  unfold inb at h ⊢
  rw [List.length_set]; exact h
theorem lawpost {Post : Bool → Prop} {b : Bool} (h : Post = fun r => r = true) (H : Post b) : b = true := by subst h; exact H
theorem and_l {a b : Bool} (h : (a && b) = true) : a = true := ((Bool.and_eq_true _ _).mp h).1
theorem and_i {a b : Bool} (h : a = true) (k : b = true) : (a && b) = true := (Bool.and_eq_true _ _).mpr ⟨h, k⟩
theorem beq_t {t : Bool} (h : t = true) : (t == true) = true := by rw [h]; rfl
theorem beq_f {t : Bool} (h : t = false) : (t == false) = true := by rw [h]; rfl
def sub {α : Type} (l : List α) (a b : Int) : List α := (l.take b.toNat).drop a.toNat
/-! ### nil slices as empty ones -/
mutual
inductive DLe : D → D → Prop
  | refl (x : D) : DLe x x
  | nil (sz : Nat) : DLe (.v (.slice none 0 0)) (.sl sz [])
  | agg {xs ys : List D} (h : DLeL xs ys) : DLe (.agg xs) (.agg ys)
inductive DLeL : List D → List D → Prop
  | nil : DLeL [] []
  | cons {x y : D} {xs ys : List D} (h : DLe x y) (t : DLeL xs ys) : DLeL (x :: xs) (y :: ys)
end
theorem DLe.rd {x y : D} (h : DLe x y) : ∀ {S : Cells} {w : World} {u : Value}, Rd S w x u → Rd S w y u := by
  refine DLe.rec (motive_1 := fun x y _ => ∀ {S : Cells} {w : World} {u : Value}, Rd S w x u → Rd S w y u) (motive_2 := fun xs ys _ => xs.length = ys.length ∧ ∀ (i : Nat) (x y : D), xs[i]? = some x → ys[i]? = some y → ∀ {S : Cells} {w : World} {u : Value}, Rd S w x u → Rd S w y u) ?_ ?_ ?_ ?_ ?_ h
  · exact fun x S w u h => h
  · intro sz S w u h
    cases h
    exact Rd.sl sz [] none 0 0 0 (fun _ _ => undef) (Nat.le_refl _) (by simp [maxLen]) (.inl rfl) (fun i row h => by simp at h) (fun i row j c h => by simp at h)
  · rintro xs ys _ ⟨hl, ih⟩ S w u h
    cases h with
    | agg _ us hul h1 h =>
      refine Rd.agg ys us (by omega) h1 fun i c v hc hv => ?_
      have hi : i < xs.length := by have := (List.getElem?_eq_some_iff.1 hc).1; omega
      exact ih i _ c (List.getElem?_eq_getElem hi) hc (h i _ v (List.getElem?_eq_getElem hi) hv)
  · exact ⟨rfl, fun i x y h => by simp at h⟩
  · rintro x y xs ys _ _ ih1 ⟨hl, ih2⟩
    refine ⟨by simp [hl], fun i x' y' hx hy => ?_⟩
    cases i with
    | zero => simp at hx hy; subst hx hy; exact ih1
    | succ i => simp at hx hy; exact ih2 i x' y' hx hy
theorem SLe.dle {s : SV} {x y : D} (h : s = .d x) (hd : DLe x y) : SLe s (.d y) := fun c w u k => by
  subst h
  exact .d _ _ (hd.rd (srel_d k))
theorem SLe.aggDL {s : SV} {ss : List SV} {ds es : List D} (h : s = .agg ss) (hd : dOf ss = some ds) (hl : DLeL ds es) : SLe s (.d (.agg es)) := fun c w u k =>
  SLe.dle rfl (.agg hl) c w u (SLe.aggD h hd c w u k)
/-! ### parts of slices -/
theorem Rd.sub {S : Cells} {w : World} {sz : Nat} {xs : List (List D)} {u : Value} (h : Rd S w (.sl sz xs) u) {a b : Nat} (hab : a ≤ b) (hb : b ≤ xs.length) :
    ∃ (ad : Option Addr) (cap : Nat), u = .slice ad xs.length cap ∧ b ≤ cap ∧ cap ≤ 9223372036854775807 ∧ Rd S w (.sl sz ((xs.take b).drop a)) (.slice (if cap = a then ad else ad.map (·.add (a * sz))) (b - a) (cap - a)) := by
  obtain ⟨ad, cap, bl, off, f, rfl, hc, hm, ha, hx, hr⟩ := h.sl_inv
  refine ⟨ad, cap, rfl, by omega, by simp only [maxLen] at hm; omega, ?_⟩
  have hl : ((xs.take b).drop a).length = b - a := by simp; omega
  have hget : ∀ i row, ((xs.take b).drop a)[i]? = some row → xs[a + i]? = some row := fun i row hi => by
    rw [List.getElem?_drop, List.getElem?_take] at hi
    split at hi
    · exact hi
    · cases hi
  rw [← hl]
  have hlen : ((xs.take b).drop a).length ≤ cap - a := by omega
  by_cases he : a = b
  · have e0 : (xs.take b).drop a = [] := List.eq_nil_of_length_eq_zero (by omega)
    rw [e0]
    exact Rd.sl sz [] _ (cap - a) bl off f (Nat.zero_le _) (by simp only [maxLen] at hm ⊢; omega) (.inl rfl) (fun i row h => by simp at h) (fun i row j c h => by simp at h)
  · have hne : xs ≠ [] := fun e => by rw [e] at hb; simp at hb; omega
    have had : ad = some ⟨bl, off, none⟩ := ha.resolve_left hne
    subst had
    rw [if_neg (by omega)]
    refine Rd.sl sz _ _ (cap - a) bl (off + a * sz) (fun i j => f (a + i) j) hlen (by simp only [maxLen] at hm ⊢; omega) (.inr (by simp [addr_add])) (fun i row hi => ?_) (fun i row j c hi hj => hr (a + i) row j c (hget i row hi) hj)
    obtain ⟨h1, h2⟩ := hx (a + i) row (hget i row hi)
    refine ⟨h1, fun j hj => ?_⟩
    have e : off + a * sz + i * sz + j = off + (a + i) * sz + j := by rw [Nat.add_mul]; omega
    rw [e]
    exact h2 j hj
section ops
variable {ρ : Operand → SV} {bx : List (Nat × List SV)} {own : List (Nat × OwnE)} {dst : Option Tmp} {ty : TypeId} {pos : String} {aft : Array Edge} {gd : Option (Nat × Bool)}
variable {α : Type} {av : α → List D} {l : List α}
theorem slice_rd {base : Nat} {t sz e : Nat} {x : Operand} {a : Act} {w : World} {c : Cx} {p q : Int} (hx : SRel c w (.d (.sl sz (l.map av))) (a.eval x)) (ht : slTy P t e sz = true) (hpq : 0 ≤ p ∧ p ≤ q ∧ q ≤ ((l.length : Nat) : Int)) :
    ∃ (ad : Option Addr) (cap : Nat), a.eval x = .slice ad l.length cap ∧ q.toNat ≤ cap ∧ SRel c w (.d (.sl sz ((Eng.sub l p q).map av))) (.slice (if cap = p.toNat then ad else ad.map (·.add (p.toNat * sz))) (q.toNat - p.toNat) (cap - p.toNat)) := by
  obtain ⟨h1, h2, h3⟩ := hpq
  obtain ⟨ad, cap, e1, e2, e3, e4⟩ := (srel_d hx).sub (a := p.toNat) (b := q.toNat) (by omega) (by rw [List.length_map]; omega)
  rw [List.length_map] at e1
  refine ⟨ad, cap, e1, e2, .d _ _ ?_⟩
  unfold Eng.sub
  rw [List.map_drop, List.map_take]
  exact e4
theorem PureOp.sliceLH {t e sz : Nat} {x y z : Operand} {p q : Int} (hx : SLe (ρ x) (.d (.sl sz (l.map av)))) (hy : SLe (ρ y) (.d (.v (.int .i64 p)))) (hz : SLe (ρ z) (.d (.v (.int .i64 q)))) (hpq : 0 ≤ p ∧ p ≤ q ∧ q ≤ ((l.length : Nat) : Int)) (ht : slTy P t e sz = true) :
    PureOp P ⟨dst, .slice t x (some y) (some z) none, ty, pos, aft, gd⟩ ρ bx own (.d (.sl sz ((Eng.sub l p q).map av))) :=
  .of_run fun b a w c hs => by
    obtain ⟨inf, hu, hi, hz'⟩ := slTy_spec ht
    have hyv := srel_v (hy c w _ (hs.op y (by simp [Op.operands])))
    have hzv := srel_v (hz c w _ (hs.op z (by simp [Op.operands])))
    obtain ⟨ad, cap, e1, e2, e3⟩ := slice_rd (base := b) (hx c w _ (hs.op x (by simp [Op.operands]))) ht hpq
    refine ⟨_, ?_, e3⟩
    have b1 : 0 ≤ q ∧ q ≤ (cap : Int) := by omega
    have b2 : 0 ≤ p ∧ p ≤ ((q.toNat : Nat) : Int) := by omega
    simp [execOp, Instr.sliceAt, Instr.slice, run_underlying hu, e1, hyv, hzv, Instr.sliceBounds, Instr.sliceBound, asIntOf, b1, b2, sizeOf, typeInfo, hi, hz']
    exact fun hh => absurd hh (by omega)
theorem PureOp.sliceLN {t e sz : Nat} {x y : Operand} {p : Int} (hx : SLe (ρ x) (.d (.sl sz (l.map av)))) (hy : SLe (ρ y) (.d (.v (.int .i64 p)))) (hpq : 0 ≤ p ∧ p ≤ ((l.length : Nat) : Int) ∧ ((l.length : Nat) : Int) ≤ ((l.length : Nat) : Int)) (ht : slTy P t e sz = true) :
    PureOp P ⟨dst, .slice t x (some y) none none, ty, pos, aft, gd⟩ ρ bx own (.d (.sl sz ((Eng.sub l p ((l.length : Nat) : Int)).map av))) :=
  .of_run fun b a w c hs => by
    obtain ⟨inf, hu, hi, hz'⟩ := slTy_spec ht
    have hyv := srel_v (hy c w _ (hs.op y (by simp [Op.operands])))
    obtain ⟨ad, cap, e1, e2, e3⟩ := slice_rd (base := b) (hx c w _ (hs.op x (by simp [Op.operands]))) ht hpq
    refine ⟨_, ?_, e3⟩
    have b2 : 0 ≤ p ∧ p ≤ (l.length : Int) := ⟨hpq.1, hpq.2.1⟩
    simp [execOp, Instr.sliceAt, Instr.slice, run_underlying hu, e1, hyv, Instr.sliceBounds, Instr.sliceBound, asIntOf, b2, sizeOf, typeInfo, hi, hz']
theorem PureOp.sliceNH {t e sz : Nat} {x z : Operand} {q : Int} (hx : SLe (ρ x) (.d (.sl sz (l.map av)))) (hz : SLe (ρ z) (.d (.v (.int .i64 q)))) (hpq : 0 ≤ (0 : Int) ∧ (0 : Int) ≤ q ∧ q ≤ ((l.length : Nat) : Int)) (ht : slTy P t e sz = true) :
    PureOp P ⟨dst, .slice t x none (some z) none, ty, pos, aft, gd⟩ ρ bx own (.d (.sl sz ((Eng.sub l 0 q).map av))) :=
  .of_run fun b a w c hs => by
    obtain ⟨inf, hu, hi, hz'⟩ := slTy_spec ht
    have hzv := srel_v (hz c w _ (hs.op z (by simp [Op.operands])))
    obtain ⟨ad, cap, e1, e2, e3⟩ := slice_rd (base := b) (hx c w _ (hs.op x (by simp [Op.operands]))) ht hpq
    refine ⟨_, ?_, e3⟩
    have b1 : 0 ≤ q ∧ q ≤ (cap : Int) := by omega
    simp [execOp, Instr.sliceAt, Instr.slice, run_underlying hu, e1, hzv, Instr.sliceBounds, Instr.sliceBound, asIntOf, b1, sizeOf, typeInfo, hi, hz']
end ops
section
variable {w0 : World} {S0 : Ev} {T : Nat → Prop} {ops : Array Oper} {rest : List Oper} {st : St} {Q : St → Prop}
theorem put_put (a : Act) (d : Nat) (u v : Value) : (a.put (some d) u).put (some d) v = a.put (some d) v := by
  simp [Act.put, Array.setIfInBounds_setIfInBounds]
theorem RelX.ownNilS {w0 : World} {S0 : Ev} {st : St} {a : Act} {w : World} {c : Cx} (h : RelX w0 S0 st a w c) (x : Nat) (e : TypeId) (sz : Nat) (hx : look st.sl x = .d (.v (.slice none 0 0))) (h0 : 0 < sz) :
    ∃ c' : Cx, c'.T = c.T ∧ c'.S = c.S ∧ c'.O st.nx = .slice none 0 0 ∧ RelX w0 S0 ⟨(x, .os st.nx) :: st.sl, st.bx, (st.nx, ⟨e, sz, []⟩) :: st.own, st.nx + 1, st.tp, st.n⟩ a w c' := by
  have hf := h.fresh 0 (.slice none 0 0)
  have hv : a.tmps.getD x undef = .slice none 0 0 := by have := h.sl x; rw [hx] at this; exact srel_v this
  refine ⟨⟨c.S, fun i => if i = st.nx then 0 else c.B i, fun i => if i = st.nx then .slice none 0 0 else c.O i, c.T⟩, rfl, rfl, if_pos rfl, ⟨hf.below, hf.df, hf.sz, fun y => ?_, fun y => ?_, hf.sb, hf.bx, hf.bxd, fun id o ho => ?_, fun i j p q hi hj hne b hb => ?_, fun i o hi id cs hc => ?_, hf.old, hf.stt, fun hp => ?_⟩⟩
  · rw [look_cons]
    split
    · rename_i e'
      subst e'
      rw [hv]
      have := SRel.os (c := ⟨c.S, fun i => if i = st.nx then 0 else c.B i, fun i => if i = st.nx then .slice none 0 0 else c.O i, c.T⟩) (w := w) st.nx
      simpa using this
    · exact hf.sl y
  · rw [look_cons]
    split
    · exact Nat.le_refl _
    · exact hf.top y
  · rw [lookA_cons] at ho
    split at ho
    · rename_i e'
      subst e'
      injection ho with ho
      subst ho
      refine ⟨Nat.lt_succ_self _, .inl ⟨h0, .inl ⟨?_, rfl⟩⟩⟩
      show (if st.nx = st.nx then _ else _) = _
      rw [if_pos rfl]
    · exact hf.ow id o ho
  · rw [lookA_cons] at hi hj
    have hb' : blkOf (if i = st.nx then Value.slice none 0 0 else c.O i) = some b := hb
    split at hi
    · rename_i e1; rw [if_pos e1.symm] at hb'; cases hb'
    · split at hj
      · rename_i e2
        show blkOf (if j = st.nx then Value.slice none 0 0 else c.O j) ≠ _
        rw [if_pos e2.symm]; exact fun hh => by cases hh
      · exact hf.owd i j p q hi hj hne b hb
  · rw [lookA_cons] at hi
    split at hi
    · rename_i e1
      show blkOf (if i = st.nx then Value.slice none 0 0 else c.O i) ≠ _
      rw [if_pos e1.symm]; exact fun hh => by cases hh
    · exact hf.owb i o hi id cs hc
  · obtain ⟨t1, t3, t4, t5⟩ := hf.tp hp
    refine ⟨t1, t3, t4, fun i o hi => ?_⟩
    rw [lookA_cons] at hi
    split at hi
    · rename_i e1
      show blkOf (if i = st.nx then Value.slice none 0 0 else c.O i) ≠ _
      rw [if_pos e1.symm]; exact fun hh => by cases hh
    · exact t5 i o hi
theorem AO.appendN {α : Type} {av : α → List D} {t e sz bs d : Nat} {x y : Operand} {ty : TypeId} {pos : String} {aft : Array Edge} (l2 : List α) (hx : SLe (st.ev x) (.d (.v (.slice none 0 0)))) (hy : SLe (st.ev y) (.d (.sl sz (l2.map av))))
    (ht : appTy P t e sz bs = true) (hb : apOK bs 0 l2.length) (hd : Nat.ble (d + 1) st.n = true)
    (h : AO P w0 S0 T ops rest ⟨(d, .os (st.nx + 1)) :: (d, .os st.nx) :: (d, .d (.v (.slice none 0 0))) :: st.sl, st.bx, (st.nx + 1, ⟨e, sz, l2.map av⟩) :: delA ((st.nx, ⟨e, sz, []⟩) :: st.own) st.nx, st.nx + 2, st.tp, st.n⟩ Q) :
    AO P w0 S0 T ops (⟨some d, .call ⟨.builtin .append, #[x, y], #[t, t]⟩, ty, pos, aft, none⟩ :: rest) st Q := by
  rintro a w ⟨c, hT, hr⟩ Qx hQ
  refine wpList_plain rfl fun K hK => ?_
  obtain ⟨inf, z, hu, hi, hz, h1, h2, h3, h4, h5⟩ := appTy_spec ht
  have hdn := Nat.le_of_ble_eq_true hd
  have hxv := srel_v (hx c w _ (ev_rel hr x))
  have hys := srel_d (hy c w _ (ev_rel hr y))
  have hr1 := hr.put (d := d) (r := .d (.v (.slice none 0 0))) (v := .slice none 0 0) hdn (v_srel _) (Nat.zero_le _)
  obtain ⟨c1, e1, eS, hO, hr2⟩ := hr1.ownNilS d e sz (by show look ((d, _) :: st.sl) d = _; rw [look_cons, if_pos rfl]) h4
  have hO : c1.O st.nx = .slice none 0 0 := hO
  unfold apOK at hb
  rw [Nat.zero_add] at hb
  have hys1 : Rd c1.S w (.sl sz (l2.map av)) (a.eval y) := by rw [eS]; exact hys
  have hlen : l2.length ≤ l2.length * bs := Nat.le_mul_of_pos_right _ h5
  obtain ⟨v', w', c', hrun, e2, e3, hrel⟩ := hr2.append (P := P) t ty (id := st.nx) (e := e) (sz := sz) (rows := []) (by show lookA ((st.nx, _) :: _) st.nx = _; rw [lookA_cons, if_pos rfl]) inf z hu hi hz h1 h2 h4 hys1 (by simp only [maxLen, List.length_nil, List.length_map]; omega) (by rw [h3, List.length_nil, Nat.zero_add, List.length_map]; exact hb)
  rw [hO] at hrun
  have hrun' : (execOp a.eval ⟨some d, .call ⟨.builtin .append, #[x, y], #[t, t]⟩, ty, pos, aft, none⟩).run P w = .ok (.value v') w' := by
    simp [execOp, resolve, invoke, builtin, hxv, hrun]
  unfold Oper.wp
  rw [hrun']
  have hos : SRel c' w' (.os (st.nx + 1)) v' := by rw [← e3]; exact .os (st.nx + 1)
  have hfin := hrel.put (d := d) (r := .os (st.nx + 1)) (v := v') hdn hos (Nat.le_refl _)
  rw [put_put] at hfin
  exact hK _ _ (h _ _ ⟨c', tmv (e2.trans e1) hT, hfin⟩ Qx hQ)
end
end Eng
end Go.Proofs.Ytmmekdkllccmdaa
