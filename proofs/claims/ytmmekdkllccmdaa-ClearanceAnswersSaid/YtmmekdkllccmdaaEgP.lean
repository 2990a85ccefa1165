/-
  The engine: functions that give back a row of their own, which the caller owns then.
-/
import Derived.Test.YtmmekdkllccmdaaEgZ
namespace Go.Proofs.Ytmmekdkllccmdaa
open Go.RowKit
set_option linter.unusedVariables false
namespace Eng
variable {P : Program}
/-- Called with data that is stable, f returns a row in memory of its own; nothing that was there turns. -/
def OCalls (P : Program) (f : FuncId) (args : List D) (Φ : OwnE → Prop) : Prop :=
  ∀ (w : World) (S : Cells) (vals : List Value), (∀ b o, S b o → b < w.heap.size) → vals.length = args.length →
    (∀ (i : Nat) (d : D) (u : Value), args[i]? = some d → vals[i]? = some u → Rd S w d u) →
    Calls P f vals.toArray w fun e w' => ∃ (x : OwnE) (v : Value) (S' : Cells), Φ x ∧ e = .returned v ∧ Ext S w S' w' ∧ OwnX w.heap.size w' S' v x
def retO (rs : Array ResultVar) (Φ : OwnE → Prop) : Exit → St → Prop
  | .normal, st => ∃ t id x, rs = #[.tmp t] ∧ look st.sl t = .os id ∧ lookA st.own id = some x ∧ Φ x
  | .ret, st => ∃ t id x, rs = #[.tmp t] ∧ look st.sl t = .os id ∧ lookA st.own id = some x ∧ Φ x
  | _, _ => False
theorem OCalls.of {f : FuncId} {fn : Func} {c : Code} {args : List D} {Φ : OwnE → Prop} {rs : Array ResultVar} {nt : Nat} (hf : P.funcs[f]? = some fn) (hb : fn.body = some c) (hrs : fn.results = rs) (hnt : fn.ntmps = nt) (hn : Nat.ble args.length nt = true)
    (h : ∀ w0 S0 T, AC P w0 S0 T c ⟨enumS 0 (args.map SV.d), [], [], 0, false, nt⟩ (retO rs Φ)) : OCalls P f args Φ := by
  intro w S vals hS hl hv
  refine calls_of_wp hf hb ?_
  have hn' : args.length ≤ nt := Nat.le_of_ble_eq_true hn
  have hget : ∀ x, (vals.toArray ++ Array.replicate (fn.ntmps - vals.toArray.size) undef).getD x undef = vals.getD x undef := fun x => by
    rw [Array.getD_eq_getD_getElem?, Array.getElem?_append]
    by_cases hx : x < vals.length
    · simp [hx, List.getD_eq_getElem?_getD]
    · simp only [List.size_toArray, hx, if_false, List.getD_eq_getElem?_getD, List.getElem?_eq_none (Nat.le_of_not_lt hx), Option.getD_none]
      rw [Array.getElem?_replicate]
      split <;> rfl
  have hrel : RelX w ⟨S, fun _ _ => False⟩ ⟨enumS 0 (args.map SV.d), [], [], 0, false, nt⟩ { tmps := vals.toArray ++ Array.replicate (fn.ntmps - vals.toArray.size) undef, defers := [] } w ⟨S, fun _ => 0, fun _ => undef, w.heap.size⟩ := by
    refine ⟨grownBy_refl _ _, rfl, ?_, fun x => ?_, fun x => ?_, hS, fun id cs hc => by simp [lookA] at hc, fun i j c c' hc => by simp [lookA] at hc, fun i c hc => by simp [lookA] at hc, fun i j x y hi => by simp [lookA] at hi, fun i x hi => by simp [lookA] at hi, fun _ _ _ => Iff.rfl, fun _ _ h => h.elim, fun hp => by cases hp⟩
    · simp only [Array.size_append, List.size_toArray, Array.size_replicate, hnt]; omega
    · rw [hget, look_enumS, if_pos (Nat.zero_le _), Nat.sub_zero]
      by_cases hx : x < args.length
      · have hx' : x < vals.length := by omega
        rw [List.getD_eq_getElem?_getD, List.getElem?_map, List.getElem?_eq_getElem hx, List.getD_eq_getElem?_getD, List.getElem?_eq_getElem hx']
        exact .d _ _ (hv x _ _ (List.getElem?_eq_getElem hx) (List.getElem?_eq_getElem hx'))
      · rw [List.getD_eq_getElem?_getD, List.getElem?_eq_none (by rw [List.length_map]; omega)]
        exact .un _
    · rw [look_enumS, if_pos (Nat.zero_le _), Nat.sub_zero, List.getD_eq_getElem?_getD, List.getElem?_map]
      by_cases hx : x < args.length
      · rw [List.getElem?_eq_getElem hx]; exact Nat.le_refl _
      · rw [List.getElem?_eq_none (by omega)]; exact Nat.le_refl _
  refine wp_mono (h w ⟨S, fun _ _ => False⟩ (w.heap.size ≤ ·) _ _ ⟨_, Nat.le_refl _, hrel⟩) ?_
  have fin : ∀ st' a' w', Rel w ⟨S, fun _ _ => False⟩ (w.heap.size ≤ ·) st' a' w' → (∃ t id x, rs = #[.tmp t] ∧ look st'.sl t = .os id ∧ lookA st'.own id = some x ∧ Φ x) → a'.defers = [] ∧ ∃ v, (results fn a'.tmps).run P w' = .ok v w' ∧ ∃ (x : OwnE) (v' : Value) (S' : Cells), Φ x ∧ Ending.returned v = .returned v' ∧ Ext S w S' w' ∧ OwnX w.heap.size w' S' v' x := by
    rintro st' a' w' ⟨c', hTc, hr⟩ ⟨t, id, x, hres, ht, ho, hΦ⟩
    have hsl := hr.sl t
    rw [ht] at hsl
    have hv' := srel_os hsl
    refine ⟨hr.df, c'.O id, ?_, x, c'.O id, c'.S, hΦ, rfl, ⟨⟨hr.below.os, hr.below.tape, hr.below.output, hr.below.size, fun k hk => hr.below.block k hk (fun e => by have := Option.some.inj e; omega)⟩, hr.old, hr.sb⟩, (hr.ow id x ho).2⟩
    have : a'.tmps[t]?.getD undef = c'.O id := by rw [← hv', Array.getD_eq_getD_getElem?]
    simpa [results, hrs, hres] using this
  rintro e a' w' ⟨st', h1, h2⟩
  cases e with
  | normal => exact fin st' a' w' h1 h2
  | ret => exact fin st' a' w' h1 h2
  | _ => exact h2.elim
theorem retO_of {rs : Array ResultVar} {Φ : OwnE → Prop} {st : St} {t id : Nat} {x : OwnE} (hr : rs = #[.tmp t]) (h : look st.sl t = .os id) (ho : lookA st.own id = some x) (hΦ : Φ x) : retO rs Φ .ret st := ⟨t, id, x, hr, h, ho, hΦ⟩
theorem OCalls.mono {f : FuncId} {args : List D} {Φ Ψ : OwnE → Prop} (h : OCalls P f args Φ) (hq : ∀ x, Φ x → Ψ x) : OCalls P f args Ψ :=
  fun w S vals h1 h2 h3 => (h w S vals h1 h2 h3).mono fun _ _ ⟨x, v, S', hx, q⟩ => ⟨x, v, S', hq x hx, q⟩
section
variable {w0 : World} {S0 : Ev} {T : Nat → Prop} {ops : Array Oper} {rest : List Oper} {st : St} {Q : St → Prop}
/-- A call that gives a row. -/
theorem AO.ocall {α : Type} {av : α → List D} {e sz : Nat} {f : FuncId} {args : List Operand} {tys : Array TypeId} {ty : TypeId} {pos : String} {aft : Array Edge} {d : Nat} {ds : List D} {Ψ : List α → Prop} (ha : ArgsS st.ev args (ds.map SV.d)) (hc : OCalls P f ds (fun x => ∃ y : List α, x = ⟨e, sz, y.map av⟩ ∧ Ψ y)) (h0 : Nat.ble 1 sz = true) (hf : callable P f = true)
    (hd : Nat.ble (d + 1) st.n = true) (h : ∀ y, Ψ y → AO P w0 S0 T ops rest ⟨(d, .os st.nx) :: st.sl, st.bx, (st.nx, ⟨e, sz, y.map av⟩) :: st.own, st.nx + 1, st.tp, st.n⟩ Q) : AO P w0 S0 T ops (⟨some d, .call ⟨.value (.func f), args.toArray, tys⟩, ty, pos, aft, none⟩ :: rest) st Q := by
  rintro a w ⟨c, hT, hr⟩ Qx hQ
  refine wpList_plain rfl fun K hK => ?_
  unfold Oper.wp
  rw [eval_fn hf]
  show Calls _ _ _ _ _
  have h0 := Nat.le_of_ble_eq_true h0
  have hdn := Nat.le_of_ble_eq_true hd
  have hl : (args.map a.eval).length = ds.length := by rw [List.length_map, ha.length, List.length_map]
  have hrel := ha.rel (ev := a.eval) (fun x _ => ev_rel hr x)
  refine (hc w c.S (args.map a.eval) hr.sb hl (fun i d u hi hu => by have := srel_d (hrel i (.d d) u (by rw [List.getElem?_map, hi]; rfl) hu); exact this)).mono ?_
  rintro e' w' ⟨x, v, S', ⟨y, rfl, hy⟩, rfl, he, hown⟩
  have h1 := hr.grow he
  have hbase : w0.heap.size ≤ w.heap.size := hr.below.size
  have hown0 : OwnX w0.heap.size w' S' v ⟨e, sz, y.map av⟩ := by
    rcases hown with ⟨hz, h⟩ | ⟨hz, _⟩
    · refine .inl ⟨hz, ?_⟩
      rcases h with h | ⟨g, cap, cur, q1, q2, q3⟩
      · exact .inl h
      · exact .inr ⟨g, cap, cur, q1, by omega, q3⟩
    · have hz : sz = 0 := hz
      omega
  rcases hown.slice h0 with ⟨e1, e2⟩ | ⟨g, cap, cur, q1, q2, q3, q4⟩
  · have e2 : y.map av = [] := e2
    subst e1
    have hr1 := h1.put (d := d) (r := .d (.v (.slice none 0 0))) (v := .slice none 0 0) hdn (v_srel _) (Nat.zero_le _)
    obtain ⟨c1, k1, _, _, hr2⟩ := hr1.ownNilS d e sz (by show look ((d, _) :: st.sl) d = _; rw [look_cons, if_pos rfl]) h0
    have := h y hy
    rw [e2] at this
    refine hK _ _ (this _ _ ⟨c1, tmv k1 hT, hr2.slots (fun z => ?_) ⟨rfl, rfl, rfl, rfl, rfl⟩⟩ Qx hQ)
    show look ((d, .os st.nx) :: st.sl) z = look ((d, .os st.nx) :: (d, _) :: st.sl) z
    rw [look_cons, look_cons, look_cons]
    split <;> rfl
  · have hgl := (Array.getElem?_eq_some_iff.1 q3).1
    have hnS : ∀ o, ¬ S' g o := q4.2.2.2.1
    obtain ⟨c', e1, e2, e3⟩ := h1.newOwn (w' := w') (v' := v) (x' := ⟨e, sz, y.map av⟩) (g := g) st.own (fun i z hz => ⟨hz, fun hbk => by have := (hr.owlt hz hbk).1; omega⟩) (fun id cs hc hbk => by have := hr.bxlt hc; have hbk : c.B id = g := hbk; omega)
      (fun hp hbk => by have := (hr.tp hp).1.lt; have hbk : g = c.T := hbk; omega) (grownBy_refl _ _) (by rw [q1]; rfl) (by omega) hnS hown0
    have hos : SRel c' w' (.os st.nx) v := by rw [← e2]; exact .os st.nx
    exact hK _ _ (h y hy _ _ ⟨c', tmv e1 hT, e3.put (d := d) (r := .os st.nx) hdn hos (Nat.le_refl _)⟩ Qx hQ)
end
end Eng
end Go.Proofs.Ytmmekdkllccmdaa
