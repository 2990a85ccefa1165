/-
  The engine: maps of the call's own, whose keys are integers.
-/
import Derived.Test.YtmmekdkllccmdaaEgI
namespace Go.Proofs.Ytmmekdkllccmdaa
open Go.RowKit
set_option linter.unusedVariables false
namespace Eng
variable {P : Program}
/-- A map's entries as rows. -/
def mrow (p : Int × Value) : List D := [.v (.int .i64 p.1), .v p.2]
def mfind : List (Int × Value) → Int → Option Value
  | [], _ => none
  | p :: r, k => if p.1 = k then some p.2 else mfind r k
def mput : List (Int × Value) → Int → Value → List (Int × Value)
  | [], k, v => [(k, v)]
  | p :: r, k, v => if p.1 = k then (k, v) :: r else p :: mput r k v
def mapTy (P : Program) (t e : TypeId) : Bool := match P.underlying t with
  | some (.map k e') => Nat.beq e' e && (match P.underlying k with
    | some (.int _) => true
    | _ => false)
  | _ => false
theorem mapTy_spec {t e : TypeId} (h : mapTy P t e = true) : ∃ k q, P.underlying t = some (.map k e) ∧ P.underlying k = some (.int q) := by
  unfold mapTy at h
  split at h
  · rename_i k e' hu
    simp only [Bool.and_eq_true] at h
    obtain ⟨h1, h2⟩ := h
    have := beq_eq h1
    subst this
    split at h2
    · rename_i q hq; exact ⟨k, q, hu, hq⟩
    · cases h2
  · cases h
theorem findNow_int {q : IntKind} (k : Int) : ∀ (es : List MapEntry) (ms : List (Int × Value)) (i0 : Nat), es.map (fun e => [D.v e.key, D.v e.val]) = ms.map mrow →
    (mfind ms k = none ∧ Instr.findNow (.int q) (.int .i64 k) es i0 = some none) ∨ ∃ i v, mfind ms k = some v ∧ i < es.length ∧ Instr.findNow (.int q) (.int .i64 k) es i0 = some (some (i0 + i, v)) ∧ (es[i]?).map (·.key) = some (.int .i64 k) ∧
      ∀ (u : Value) (f : MapEntry → MapEntry), (∀ e, f e = { e with key := .int .i64 k, val := u }) → (es.modify i f).map (fun e => [D.v e.key, D.v e.val]) = (mput ms k u).map mrow
  | [], [], i0, _ => .inl ⟨rfl, rfl⟩
  | [], _ :: _, _, h => by simp at h
  | _ :: _, [], _, h => by simp at h
  | e :: es, p :: ms, i0, h => by
    simp only [List.map_cons, List.cons.injEq] at h
    obtain ⟨h1, h2⟩ := h
    unfold mrow at h1
    simp only [List.cons.injEq, D.v.injEq, and_true] at h1
    obtain ⟨hk, hv⟩ := h1
    by_cases he : p.1 = k
    · right
      refine ⟨0, p.2, by simp [mfind, he], by simp, ?_, by simp [hk, he], fun u f hf => ?_⟩
      · simp [Instr.findNow, Instr.sameNow, hk, he, hv]
      · simp [mput, he, hf, mrow, h2]
    · have hs : Instr.sameNow (.int q) (.int .i64 k) e.key = some false := by
        rw [hk]; simp [Instr.sameNow]; exact fun e => he e.symm
      rcases findNow_int (q := q) k es ms (i0 + 1) h2 with ⟨q1, q2⟩ | ⟨i, v, q1, q2, q3, q4, q5⟩
      · left
        exact ⟨by simp [mfind, he, q1], by simp [Instr.findNow, hs, q2]⟩
      · right
        refine ⟨i + 1, v, by simp [mfind, he, q1], by simpa using q2, ?_, by simpa using q4, fun u f hf => ?_⟩
        · simp only [Instr.findNow, hs, q3]; congr 3; omega
        · simp only [mput, if_neg he, List.modify_succ_cons, List.map_cons]
          rw [q5 u f hf]
          simp [mrow, hk, hv]
theorem mput_none {ms : List (Int × Value)} {k : Int} (h : mfind ms k = none) (v : Value) : mput ms k v = ms ++ [(k, v)] := by
  induction ms with
  | nil => rfl
  | cons p r ih =>
    unfold mfind at h
    split at h
    · cases h
    · rename_i he
      rw [mput, if_neg he, ih h]; rfl
theorem run_ck {kt : TypeId} {q : IntKind} (hk : P.underlying kt = some (.int q)) (b : Bool) (n : Nat) (k : Int) (w : World) : (Instr.checkKey b (n + 1) kt (.int .i64 k)).run P w = .ok () w := by
  unfold Instr.checkKey
  simp [run_underlying hk]
theorem sameBits_int (n : Nat) (k : Int) : Instr.sameBits (n + 1) (.int .i64 k) (.int .i64 k) = true := by
  unfold Instr.sameBits
  simp
section ops
variable {ρ : Operand → SV} {bx : List (Nat × List SV)} {own : List (Nat × OwnE)} {dst : Option Tmp} {ty : TypeId} {pos : String} {aft : Array Edge} {gd : Option (Nat × Bool)}
theorem lookup_run {w : World} {t e kt : TypeId} {q : IntKind} {g : Nat} {es : Array MapEntry} {clock : Nat} {ms : List (Int × Value)} {z : Value} (ht : P.underlying t = some (.map kt e)) (hk : P.underlying kt = some (.int q)) (hz : (P.info? e).bind (·.zero) = some z) (hg : w.heap[g]? = some (.map es clock)) (he : es.toList.map (fun e => [D.v e.key, D.v e.val]) = ms.map mrow) (k : Int) :
    (Instr.lookup t (.map (some g)) (.int .i64 k) false).run P w = .ok ((mfind ms k).getD z) w := by
  have hgo : (getObj g).run P w = .ok (.map es clock) w := by simp [getObj, Sem.run, hg]
  have hck : ∀ b, (Instr.checkKey b 10000 kt (.int .i64 k)).run P w = .ok () w := fun b => run_ck hk b 9999 k w
  have hzv : (zeroValue e).run P w = .ok z w := by
    cases hi : P.info? e with
    | none => rw [hi] at hz; cases hz
    | some i => rw [hi] at hz; simp only [Option.bind_some] at hz; simp [zeroValue, typeInfo, hi, hz]
  rcases findNow_int (q := q) k es.toList ms 0 he with ⟨h1, h2⟩ | ⟨i, v, h1, _, h3, _⟩
  · simp [Instr.lookup, run_underlying ht, hgo, hck, Instr.findKey, run_underlying hk, h2, h1, hzv]
  · simp [Instr.lookup, run_underlying ht, hgo, hck, Instr.findKey, run_underlying hk, h3, h1]
theorem PureOp.lookup {t e : TypeId} {x y : Operand} {id : Nat} {e0 : TypeId} {ms : List (Int × Value)} {z : Value} {k : Int} (hx : SLe (ρ x) (.os id)) (ho : lookA own id = some ⟨e0, 0, ms.map mrow⟩) (hy : SLe (ρ y) (.d (.v (.int .i64 k)))) (ht : mapTy P t e = true) (hz : (P.info? e).bind (·.zero) = some z) :
    PureOp P ⟨dst, .lookup t x y false, ty, pos, aft, gd⟩ ρ bx own (.d (.v ((mfind ms k).getD z))) :=
  .of_run fun _ a w cx hs => by
    obtain ⟨kt, q, hu, hk⟩ := mapTy_spec ht
    have hxv := srel_os (hx cx w _ (hs.op x (by simp [Op.operands])))
    have hyv := srel_v (hy cx w _ (hs.op y (by simp [Op.operands])))
    obtain ⟨_, g, es, clock, hv, _, hg, _, he⟩ := (hs.ow id _ ho).map rfl
    refine ⟨_, ?_, v_srel _⟩
    have := lookup_run (P := P) hu hk hz hg he k
    simp [execOp, hxv, hv, hyv, this]
theorem PureOp.lookupB {t e : TypeId} {x y : Operand} {id : Nat} {e0 : TypeId} {ms : List (Int × Value)} {z : Value} {k : Int} {b : Bool} (hx : SLe (ρ x) (.os id)) (ho : lookA own id = some ⟨e0, 0, ms.map mrow⟩) (hy : SLe (ρ y) (.d (.v (.int .i64 k)))) (ht : mapTy P t e = true) (hz : (P.info? e).bind (·.zero) = some z) (hb : (mfind ms k).getD z = .bool b) :
    PureOp P ⟨dst, .lookup t x y false, ty, pos, aft, gd⟩ ρ bx own (.d (.v (.bool b))) := by
  rw [← hb]
  exact PureOp.lookup hx ho hy ht hz
end ops
section
variable {w0 : World} {S0 : Ev} {T : Nat → Prop} {ops : Array Oper} {rest : List Oper} {st : St} {Q : St → Prop}
theorem AO.makeMap {t : TypeId} {d : Nat} {ty : TypeId} {pos : String} {aft : Array Edge} (hd : Nat.ble (d + 1) st.n = true)
    (h : AO P w0 S0 T ops rest ⟨(d, .os st.nx) :: st.sl, st.bx, (st.nx, ⟨0, 0, ([] : List (Int × Value)).map mrow⟩) :: st.own, st.nx + 1, st.tp, st.n⟩ Q) : AO P w0 S0 T ops (⟨some d, .makeMap t none, ty, pos, aft, none⟩ :: rest) st Q := by
  rintro a w ⟨c, hT, hr⟩ Qx hQ
  refine wpList_plain rfl fun K hK => ?_
  have hrun : (execOp a.eval ⟨some d, .makeMap t none, ty, pos, aft, none⟩).run P w = .ok (.value (.map (some w.heap.size))) (w.alloc (.map #[] 0)) := by
    simp [execOp, Instr.makeMap]
  unfold Oper.wp
  rw [hrun]
  have hb : Below w.heap.size w (w.alloc (.map #[] 0)) := (Below.refl _ _).alloc (Nat.le_refl _) _
  obtain ⟨c', e1, e2, e3⟩ := hr.newOwn (w' := w.alloc (.map #[] 0)) (v' := .map (some w.heap.size)) (x' := ⟨0, 0, ([] : List (Int × Value)).map mrow⟩) (g := w.heap.size) st.own (fun i y hy => ⟨hy, fun hbk => by have := (hr.owlt hy hbk).1; omega⟩) (fun id cs hc hbk => by have := hr.bxlt hc; omega)
    (fun hp hbk => by have := (hr.tp hp).1.lt; omega) ⟨hb.os, hb.tape, hb.output, hb.size, fun k hk _ => hb.block k hk⟩ rfl hr.below.size (fun o ho => by have := hr.sb _ _ ho; omega) (.inr ⟨rfl, w.heap.size, #[], 0, rfl, hr.below.size, heap_alloc_new w _, fun o ho => by have := hr.sb _ _ ho; omega, rfl⟩)
  have hos : SRel c' (w.alloc (.map #[] 0)) (.os st.nx) (.map (some w.heap.size)) := by rw [← e2]; exact .os st.nx
  exact hK _ _ (h _ _ ⟨c', tmv e1 hT, e3.put (d := d) (r := .os st.nx) (Nat.le_of_ble_eq_true hd) hos (Nat.le_refl _)⟩ Qx hQ)
theorem AO.mapUpdate {t e : TypeId} {x y z : Operand} {id : Nat} {e0 : TypeId} {ms : List (Int × Value)} {k : Int} {u : Value} {ty : TypeId} {pos : String} {aft : Array Edge} (hx : SLe (st.ev x) (.os id)) (ho : lookA st.own id = some ⟨e0, 0, ms.map mrow⟩) (hy : SLe (st.ev y) (.d (.v (.int .i64 k)))) (hz : SLe (st.ev z) (.d (.v u))) (ht : mapTy P t e = true)
    (h : AO P w0 S0 T ops rest ⟨st.sl, st.bx, setA st.own id ⟨e0, 0, (mput ms k u).map mrow⟩, st.nx, st.tp, st.n⟩ Q) : AO P w0 S0 T ops (⟨none, .mapUpdate t x y z, ty, pos, aft, none⟩ :: rest) st Q := by
  rintro a w ⟨c, hT, hr⟩ Qx hQ
  refine wpList_plain rfl fun K hK => ?_
  obtain ⟨kt, q, hu, hk⟩ := mapTy_spec ht
  have hxv := srel_os (hx c w _ (ev_rel hr x))
  have hyv := srel_v (hy c w _ (ev_rel hr y))
  have hzv := srel_v (hz c w _ (ev_rel hr z))
  obtain ⟨_, g, es, clock, hv, hbg, hg, hS, he⟩ := (hr.ow id _ ho).2.map rfl
  have hgl : g < w.heap.size := (Array.getElem?_eq_some_iff.1 hg).1
  have hgo : (getObj g).run P w = .ok (.map es clock) w := by simp [getObj, Sem.run, hg]
  have hck : ∀ b, (Instr.checkKey b 10000 kt (.int .i64 k)).run P w = .ok () w := fun b => run_ck hk b 9999 k w
  have hset : ∀ o : Obj, (∃ es' cl', o = .map es' cl') → (setObj g o).run P w = .ok () { w with heap := w.heap.setIfInBounds g o } := fun o _ => by simp [setObj, Sem.run, hg]
  have hfin : ∀ (es' : Array MapEntry) (cl' : Nat), es'.toList.map (fun e => [D.v e.key, D.v e.val]) = (mput ms k u).map mrow → K (a.put none undef) { w with heap := w.heap.setIfInBounds g (.map es' cl') } := by
    intro es' cl' hes
    have hgr : w.grownBy { w with heap := w.heap.setIfInBounds g (.map es' cl') } (some g) := ⟨rfl, rfl, rfl, by simp, fun k hk hne => by
      have : g ≠ k := fun e => hne (by rw [e])
      simp [Array.getElem?_setIfInBounds_ne this]⟩
    have := hr.rewr ho (x' := ⟨e0, 0, (mput ms k u).map mrow⟩) (w' := { w with heap := w.heap.setIfInBounds g (.map es' cl') }) (g := g) (by rw [hv]; rfl) hgr (.inr ⟨rfl, g, es', cl', hv, hbg, by simp [hgl], hS, hes⟩)
    exact hK _ _ (h _ _ ⟨c, hT, this⟩ Qx hQ)
  unfold Oper.wp
  rcases findNow_int (q := q) k es.toList ms 0 he with ⟨h1, h2⟩ | ⟨i, v, h1, hil, h3, h4, h5⟩
  · have hrun : (execOp a.eval ⟨none, .mapUpdate t x y z, ty, pos, aft, none⟩).run P w = .ok .skip { w with heap := w.heap.setIfInBounds g (.map (es.push { key := .int .i64 k, val := u, born := clock }) (clock + 1)) } := by
      simp [execOp, Instr.mapUpdate, hxv, hv, hyv, hzv, run_underlying hu, hgo, hck, Instr.findKey, run_underlying hk, h2, hset _ ⟨_, _, rfl⟩]
    rw [hrun]
    refine hfin _ _ ?_
    rw [mput_none h1, Array.toList_push, List.map_append, List.map_append, he]; rfl
  · have hkey : (es[i]?).map (·.key) = some (.int .i64 k) := by simpa using h4
    have hstay : (Instr.keyThatStays (.int .i64 k) (.int .i64 k)).run P w = .ok (.int .i64 k) w := by
      have : Instr.sameBits 10000 (.int .i64 k) (.int .i64 k) = true := sameBits_int 9999 k
      simp [Instr.keyThatStays, this]
    have hrun : (execOp a.eval ⟨none, .mapUpdate t x y z, ty, pos, aft, none⟩).run P w = .ok .skip { w with heap := w.heap.setIfInBounds g (.map (es.modify i fun e => { e with key := .int .i64 k, val := u }) clock) } := by
      simp [execOp, Instr.mapUpdate, hxv, hv, hyv, hzv, run_underlying hu, hgo, hck, Instr.findKey, run_underlying hk, h3, hkey, hstay, hset _ ⟨_, _, rfl⟩]
    rw [hrun]
    refine hfin _ _ ?_
    rw [Array.toList_modify]
    exact h5 u _ (fun e => rfl)
end
end Eng
end Go.Proofs.Ytmmekdkllccmdaa
