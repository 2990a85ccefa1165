/-
  The engine: calls of functions that are values.
-/
import Derived.Test.YtmmekdkllccmdaaEgK
namespace Go.Proofs.Ytmmekdkllccmdaa
open Go.RowKit
set_option linter.unusedVariables false
namespace Eng
variable {P : Program}
/-- A datum that is the function f with what it captured. -/
inductive FnD : D → FuncId → List D → Prop
  | fn (f : FuncId) (cs : List D) : FnD (.fn f cs) f cs
  | bare (f : FuncId) : FnD (.v (.func (.func f) #[] #[])) f []
theorem eval_fnv {a : Act} {w : World} {x : Operand} {f : FuncId} {us : List Value} {args : List Operand} {tys : Array TypeId} {dst : Option Tmp} {ty : TypeId} {pos : String} {after : Array Edge} {gd : Option (Nat × Bool)} (hx : a.eval x = .func (.func f) #[] us.toArray) (hf : callable P f = true) :
    (execOp a.eval ⟨dst, .call ⟨.value x, args.toArray, tys⟩, ty, pos, after, gd⟩).run P w = .ok (.enter f (args.map a.eval ++ us).toArray) w := by
  simp [execOp, resolve, hx, Deferred.ofValue, invoke, run_call hf]
theorem PureOp.callV {ρ : Operand → SV} {bx : List (Nat × List SV)} {own : List (Nat × OwnE)} {dst : Option Tmp} {ty : TypeId} {pos : String} {aft : Array Edge} {gd : Option (Nat × Bool)} {x : Operand} {g : D} {f : FuncId} {caps : List D} {args : List Operand} {tys : Array TypeId} {ds : List D} {r : D}
    (hx : SLe (ρ x) (.d g)) (ha : Args ρ bx own args (ds.map SV.d)) (hg : FnD g f caps) (hc : FCalls P f (ds ++ caps) r) (hf : callable P f = true) : PureOp P ⟨dst, .call ⟨.value x, args.toArray, tys⟩, ty, pos, aft, gd⟩ ρ bx own (.d r) := by
  intro base a w c hs K Q hK
  have hxr := srel_d (hx c w _ (hs.op x (by simp [Op.operands, Call.operands])))
  obtain ⟨us, hus, hul, hur⟩ : ∃ us : List Value, a.eval x = .func (.func f) #[] us.toArray ∧ us.length = caps.length ∧ ∀ (i : Nat) (s : D) (u : Value), caps[i]? = some s → us[i]? = some u → Rd c.S w s u := by
    cases hg with
    | fn =>
      generalize a.eval x = v at hxr
      cases hxr with
      | fn _ _ us hl h => exact ⟨us, rfl, hl, h⟩
    | bare =>
      generalize a.eval x = v at hxr
      cases hxr with
      | v => exact ⟨[], rfl, rfl, fun i s u hi => by simp at hi⟩
  unfold Oper.wp
  rw [eval_fnv hus hf]
  show Calls _ _ _ _ _
  have hla : args.length = ds.length := by simpa using ha.length
  have hl : (args.map a.eval ++ us).length = ((ds ++ caps).map SV.d).length := by simp [hla, hul]
  have hlt := lent_lt hs.sb hs.bx hs.ow
  have hrel := ha.rel hs.bx hs.ow (ev := a.eval) (fun x hx => hs.op x (by simp [Op.operands, Call.operands, hx]))
  refine (hc w (lent c bx own) (fun _ _ => False) w.heap.size (args.map a.eval ++ us) hlt (fun _ _ h => h.elim) (fun h => by cases h) (fun _ => Nat.le_refl _) hl (fun i s u hi hu => ?_)).mono ?_
  · rw [List.getElem?_map] at hi
    cases hd : (ds ++ caps)[i]? with
    | none => rw [hd] at hi; cases hi
    | some d =>
      rw [hd] at hi
      simp only [Option.map_some, Option.some.injEq] at hi
      subst hi
      by_cases hlt' : i < ds.length
      · rw [List.getElem?_append_left hlt'] at hd
        rw [List.getElem?_append_left (by simp [hla]; exact hlt')] at hu
        have h4 := srel_d (hrel i (.d d) u (by rw [List.getElem?_map, hd]; rfl) hu)
        exact .d _ _ h4
      · rw [List.getElem?_append_right (by omega)] at hd
        rw [List.getElem?_append_right (by simp [hla]; omega)] at hu
        refine .d _ _ ((hur (i - ds.length) d u hd (by simpa [hla] using hu)).mono (fun _ _ h => .inl h) (fun _ _ _ => rfl))
  · rintro e w' ⟨r', v, S', rfl, rfl, hg, ho, hs', _, hr⟩
    refine hK v w' (after c.S S' w.heap.size) ⟨⟨hg.os, hg.tape, hg.output, hg.size, fun k hk => hg.block k hk (fun e => by have := Option.some.inj e; omega)⟩, fun b o hb => by unfold after; rw [if_pos hb], fun b o hb => ?_⟩ (.d _ _ (hr.mono (fun b o hb => ?_) (fun _ _ _ => rfl)))
    · unfold after at hb
      split at hb
      · exact Nat.lt_of_lt_of_le (hs.sb b o hb) hg.size
      · exact hs' b o hb
    · show after c.S S' w.heap.size b o
      unfold after
      rw [if_neg (by have := hb.2 rfl; omega)]
      exact hb.1
/-- Fewer rows are told of. -/
theorem RelX.owns {w0 : World} {S0 : Ev} {st : St} {a : Act} {w : World} {c : Cx} (h : RelX w0 S0 st a w c) (own' : List (Nat × OwnE)) (hs : ∀ i y, lookA own' i = some y → lookA st.own i = some y) : RelX w0 S0 ⟨st.sl, st.bx, own', st.nx, st.tp, st.n⟩ a w c :=
  ⟨h.below, h.df, h.sz, h.sl, h.top, h.sb, h.bx, h.bxd, fun i y hy => h.ow i y (hs i y hy), fun i j x y hi hj => h.owd i j x y (hs i x hi) (hs j y hj), fun i x hi => h.owb i x (hs i x hi), h.old, h.stt, fun hp => ⟨(h.tp hp).1, (h.tp hp).2.1, (h.tp hp).2.2.1, fun i x hi => (h.tp hp).2.2.2 i x (hs i x hi)⟩⟩
/-- Pure operations, in turn, n of them. -/
inductive PSeqN (P : Program) (ops : Array Oper) : Nat → List Oper → St → (List Oper → St → Prop) → Prop
  | nil {l : List Oper} {st : St} {Q : List Oper → St → Prop} (h : Q l st) : PSeqN P ops 0 l st Q
  | pure {n : Nat} {st : St} {Q : List Oper → St → Prop} {rest : List Oper} {op : Op} {ty : TypeId} {pos : String} {after : Array Edge} {d : Nat} {r : SV} (hp : PureOp P ⟨some d, op, ty, pos, after, none⟩ st.ev st.bx st.own r) (hd : Nat.ble (d + 1) st.n = true) (ht : Nat.ble r.top st.nx = true)
      (h : PSeqN P ops n rest (st.put d r) Q) : PSeqN P ops (n + 1) (⟨some d, op, ty, pos, after, none⟩ :: rest) st Q
  | guarded {n : Nat} {st : St} {Q : List Oper → St → Prop} {rest : List Oper} {op : Op} {ty : TypeId} {pos : String} {after : Array Edge} {d j dj : Nat} {want G : Bool} {r : SV} (hj : (ops[j]?).bind (·.dst) = some dj) (hg : guardOf want (look st.sl dj) = some G)
      (hp : G = true → PureOp P ⟨some d, op, ty, pos, after, some (j, want)⟩ st.ev st.bx st.own r) (hd : Nat.ble (d + 1) st.n = true) (ht : Nat.ble r.top st.nx = true)
      (h : PSeqN P ops n rest (st.put d (.cnd G r)) Q) : PSeqN P ops (n + 1) (⟨some d, op, ty, pos, after, some (j, want)⟩ :: rest) st Q
theorem PSeqN.to {ops : Array Oper} {n : Nat} {l : List Oper} {st : St} {Q : List Oper → St → Prop} (h : PSeqN P ops n l st Q) : PSeq P ops (l.take n) st (Q (l.drop n)) := by
  induction h with
  | nil h => exact .nil (by simpa using h)
  | pure hp hd ht h ih => exact .pure hp hd ht ih
  | guarded hj hg hp hd ht h ih => exact .guarded hj hg hp hd ht ih
theorem AC.drawN {w0 : World} {S0 : Ev} {T : Nat → Prop} {id : Nat} (k : Nat) (F : List Nat) {l : List Oper} {st : St} {Q : Exit → St → Prop} (hm : P.follows .mixedOrders = true) (hok : drawOK (l.take k) (l.drop k) F = true)
    (hF : (F.all fun i => Nat.blt i (l.take k).length && (match (l.take k)[i]? with | some o => isMove o && (bnd o).isEmpty | none => false) && freeOK l.toArray i) = true) (hpw : F.Pairwise (· ≠ ·)) (hns : Region.noSelect l.toArray = true)
    (h : PSeqN P l.toArray k l st (fun rest st' => AO P w0 S0 T l.toArray rest st' (fun st'' => Q .normal st''))) : AC P w0 S0 T (.region id l.toArray true) st Q :=
  AC.draw rfl rfl hm hok hF hpw hns h.to
inductive CapsL (ρ : Operand → SV) : List Operand → List SV → Prop
  | nil : CapsL ρ [] []
  | cons {x : Operand} {s : SV} {xs : List Operand} {ss : List SV} (h : SLe (ρ x) s) (t : CapsL ρ xs ss) : CapsL ρ (x :: xs) (s :: ss)
theorem CapsL.spec {ρ : Operand → SV} {xs : List Operand} {ss : List SV} (h : CapsL ρ xs ss) : Nat.beq xs.length ss.length = true ∧ ∀ (i : Nat) (x : Operand) (s : SV), xs[i]? = some x → ss[i]? = some s → SLe (ρ x) s := by
  induction h with
  | nil => exact ⟨rfl, fun i x s h => by simp at h⟩
  | cons h t ih =>
    refine ⟨by simpa using ih.1, fun i x s hx hs => ?_⟩
    cases i with
    | zero => simp at hx hs; subst hx hs; exact h
    | succ i => simp at hx hs; exact ih.2 i x s hx hs
theorem PureOp.makeFuncL {ρ : Operand → SV} {bx : List (Nat × List SV)} {own : List (Nat × OwnE)} {dst : Option Tmp} {ty : TypeId} {pos : String} {aft : Array Edge} {gd : Option (Nat × Bool)} {f : FuncId} {xs : List Operand} {ss : List SV} (h : CapsL ρ xs ss) : PureOp P ⟨dst, .makeFunc (.func f) #[] xs.toArray, ty, pos, aft, gd⟩ ρ bx own (.fn f ss) :=
  PureOp.makeFunc h.spec.1 h.spec.2
def ofTy (P : Program) (s f k : Nat) (q : TypeId → Bool) : Bool := match P.underlying s with
  | some (.struct fs) => match fs[f]? with
    | some fd => Nat.beq fd.offset k && q fd.type
    | none => false
  | _ => false
theorem ofTy_spec {s f k : Nat} {q : TypeId → Bool} (h : ofTy P s f k q = true) : ∃ fs fd, P.underlying s = some (.struct fs) ∧ fs[f]? = some fd ∧ fd.offset = k ∧ q fd.type = true := by
  unfold ofTy at h
  split at h
  · rename_i fs hu
    split at h
    · rename_i fd hf
      simp only [Bool.and_eq_true] at h
      exact ⟨fs, fd, hu, hf, beq_eq h.1, h.2⟩
    · cases h
  · cases h
theorem run_part1 {t : TypeId} (ht : oneTy P t = true) {cs : Array Value} {k : Nat} {u : Value} (h : cs[k]? = some u) (w : World) : (part t cs k).run P w = .ok u w := by
  unfold oneTy at ht
  cases hu : P.underlying t with
  | none => rw [hu] at ht; cases ht
  | some d =>
    rw [hu] at ht
    cases d <;> simp_all [part, isAgg, run_underlying hu]
theorem run_partN {t : TypeId} {sz : Nat} (ht : aggTy P t sz = true) (cs : Array Value) (k : Nat) (w : World) : (part t cs k).run P w = .ok (.agg (cs.extract k (k + sz))) w := by
  obtain ⟨d, i, hu, hd, hi, hs⟩ := aggTy_spec ht
  have hsz : (sizeOf t).run P w = .ok sz w := by simp [sizeOf, typeInfo, hi, hs]
  cases d <;> simp_all [part, isAgg, run_underlying hu, TypeDesc.isRow]
section flds
variable {ρ : Operand → SV} {bx : List (Nat × List SV)} {own : List (Nat × OwnE)} {dst : Option Tmp} {ty : TypeId} {pos : String} {aft : Array Edge} {gd : Option (Nat × Bool)}
theorem PureOp.field1 {s f k : Nat} {x : Operand} {cs : List D} {c : D} (hx : SLe (ρ x) (.d (.agg cs))) (hc : cs[k]? = some c) (ht : ofTy P s f k (oneTy P) = true) : PureOp P ⟨dst, .field s x f, ty, pos, aft, gd⟩ ρ bx own (.d c) :=
  .of_run fun _ a w cx hs => by
    obtain ⟨fs, fd, hu, hf, hk, hq⟩ := ofTy_spec ht
    have h := srel_d (hx cx w _ (hs.op x (by simp [Op.operands])))
    generalize he : a.eval x = u at h
    cases h with
    | agg _ us hl h1 h2 =>
      have hlt : k < us.length := by rw [hl]; exact (List.getElem?_eq_some_iff.1 hc).1
      refine ⟨us[k], ?_, .d _ _ (h2 k c _ hc (List.getElem?_eq_getElem hlt))⟩
      have hp := run_part1 (P := P) hq (cs := us.toArray) (k := k) (u := us[k]) (by simp [hlt]) w
      simp [execOp, he, Instr.field, run_underlying hu, hf, asAgg, hk, hp]
theorem PureOp.fieldN {s f k sz : Nat} {x : Operand} {cs ks : List D} (hx : SLe (ρ x) (.d (.agg cs))) (hk : (cs.drop k).take sz = ks) (ht : ofTy P s f k (aggTy P · sz) = true) : PureOp P ⟨dst, .field s x f, ty, pos, aft, gd⟩ ρ bx own (.d (.agg ks)) :=
  .of_run fun _ a w cx hs => by
    obtain ⟨fs, fd, hu, hf, hk', hq⟩ := ofTy_spec ht
    have h := srel_d (hx cx w _ (hs.op x (by simp [Op.operands])))
    generalize he : a.eval x = u at h
    cases h with
    | agg _ us hl h1 h2 =>
      have hp := run_partN (P := P) hq us.toArray k w
      refine ⟨.agg (us.toArray.extract k (k + sz)), by simp [execOp, he, Instr.field, run_underlying hu, hf, asAgg, hk', hp], .d _ _ ?_⟩
      have e : us.toArray.extract k (k + sz) = ((us.drop k).take sz).toArray := by
        apply Array.ext'
        simp [List.extract_eq_take_drop]
      rw [e]
      refine Rd.agg ks _ (by rw [← hk]; simp [hl]) (fun v hv => h1 v (List.mem_of_mem_drop (List.mem_of_mem_take hv))) (fun i c v hc hv => ?_)
      rw [← hk, List.getElem?_take] at hc
      rw [List.getElem?_take] at hv
      split at hc
      · rename_i hi
        rw [if_pos hi] at hv
        rw [List.getElem?_drop] at hc hv
        exact h2 _ c v hc hv
      · cases hc
theorem PureOp.lenR {t e s' e0 sz : TypeId} {x : Operand} {id : Nat} {rows : List (List D)} (hx : SLe (ρ x) (.os id)) (ho : lookA own id = some ⟨e0, sz, rows⟩) (h0 : Nat.ble 1 sz = true) (ht : slTy P t e s' = true) :
    PureOp P ⟨dst, .call ⟨.builtin .len, #[x], #[t]⟩, ty, pos, aft, gd⟩ ρ bx own (.d (.v (.int .i64 rows.length))) := PureOp.lenO hx ho h0 ht
theorem PureOp.idxR {t e sz e0 : Nat} {x y : Operand} {id : Nat} {rows : List (List D)} {k : IntKind} {i : Int} {n : Nat} (hx : SLe (ρ x) (.os id)) (ho : lookA own id = some ⟨e0, sz, rows⟩) (hy : SLe (ρ y) (.d (.v (.int k i)))) (hi : i = (n : Int)) (hn : n < rows.length) (h0 : Nat.ble 1 sz = true) (ht : slTy P t e sz = true) :
    PureOp P ⟨dst, .indexAddr t x y, ty, pos, aft, gd⟩ ρ bx own (.op id (n * sz)) := PureOp.idxO hx ho hy hi hn h0 ht
def boolTy (P : Program) (t : TypeId) : Bool := cmpTy P 10000 t == some [true] && (match P.underlying t with
  | some .bool => true
  | _ => false)
theorem eqB_run {t : TypeId} (ht : boolTy P t = true) (a b : Bool) (w : World) : (Op.equal t (.bool a) (.bool b)).run P w = .ok (a == b) w := by
  unfold boolTy at ht
  simp only [Bool.and_eq_true] at ht
  obtain ⟨h1, h2⟩ := ht
  have h1 : cmpTy P 10000 t = some [true] := by simpa using h1
  have hq := eq_run 10000 t [true] h1 w [.v (.bool a)] [.v (.bool b)] (a == b) (by simp [eqS])
  split at h2
  · rename_i hu
    rw [hu] at hq
    exact hq
  · cases h2
theorem PureOp.eqlB {t t' : TypeId} {x y : Operand} {a b : Bool} (hx : SLe (ρ x) (.d (.v (.bool a)))) (hy : SLe (ρ y) (.d (.v (.bool b)))) (ht : boolTy P t = true) : PureOp P ⟨dst, .binOp .eql t x y t', ty, pos, aft, gd⟩ ρ bx own (.d (.v (.bool (a == b)))) :=
  .bin hx hy fun w => by
    have := eqB_run (P := P) ht a b w
    unfold eqGuard
    split <;> simp [binOp, this]
theorem PureOp.neqB {t t' : TypeId} {x y : Operand} {a b : Bool} (hx : SLe (ρ x) (.d (.v (.bool a)))) (hy : SLe (ρ y) (.d (.v (.bool b)))) (ht : boolTy P t = true) : PureOp P ⟨dst, .binOp .neq t x y t', ty, pos, aft, gd⟩ ρ bx own (.d (.v (.bool (!(a == b))))) :=
  .bin hx hy fun w => by
    have := eqB_run (P := P) ht a b w
    unfold eqGuard
    split <;> simp [binOp, this]
end flds
end Eng
end Go.Proofs.Ytmmekdkllccmdaa
