/-
  The engine: states; operations in a row, computed.
-/
import Derived.Test.YtpnmiieohdkenaaYEngH
namespace Go.Proofs.Ytpnmiieohdkenaa
open Go.RowKit
set_option linter.unusedVariables false
namespace RE
variable {P : Program}
def look : List (Nat × SV) → Nat → SV
  | [], _ => .un
  | (k, v) :: r, x => bif Nat.beq k x then v else look r x
def lookO : List (Nat × Option Ob) → Obs
  | [], _ => none
  | (k, v) :: r, x => bif Nat.beq k x then v else lookO r x
theorem beq_ne {a b : Nat} (h : a ≠ b) : Nat.beq a b = false := by
  cases hb : Nat.beq a b with
  | false => rfl
  | true => exact absurd (beq_eq hb) h
theorem look_cons (k : Nat) (v : SV) (l : List (Nat × SV)) (x : Nat) : look ((k, v) :: l) x = if k = x then v else look l x := by
  show (bif Nat.beq k x then v else look l x) = _
  by_cases h : k = x
  · subst h; simp
  · rw [beq_ne h, if_neg h]; rfl
theorem lookO_cons (k : Nat) (v : Option Ob) (l : List (Nat × Option Ob)) : lookO ((k, v) :: l) = put (lookO l) k v := by
  funext x
  show (bif Nat.beq k x then v else lookO l x) = _
  by_cases h : x = k
  · subst h; rw [put_same]; simp
  · rw [beq_ne (fun e => h e.symm), put_ne _ _ h]; rfl
theorem lookO_app : ∀ (l r : List (Nat × Option Ob)), lookO (l ++ r) = ovr (lookO r) l
  | [], r => rfl
  | (k, v) :: l, r => by rw [List.cons_append, lookO_cons, ovr_cons, lookO_app l r]
mutual
/-- The objects that are named have numbers below n. -/
def SV.lowN (n : Nat) : SV → Bool
  | .bx id _ => Nat.blt id n
  | .os id => Nat.blt id n
  | .sub id _ _ _ => Nat.blt id n
  | .op id _ _ _ => Nat.blt id n
  | .agg cs => belowL n cs
  | .tup cs => belowL n cs
  | .fn _ cs => belowL n cs
  | .cnd _ _ _ x => x.lowN n
  | .d _ => true
  | .tp => true
  | .un => true
  | .ns id => Nat.blt id n
  | .np id _ _ _ => Nat.blt id n
  | .inn id _ => Nat.blt id n
  | .ip id _ _ _ _ => Nat.blt id n
def belowL (n : Nat) : List SV → Bool
  | [] => true
  | s :: r => s.lowN n && belowL n r
end
mutual
theorem SV.lowN_inU {n : Nat} : ∀ (s : SV), s.lowN n = true → s.inU (fun i => i < n)
  | .bx id _, h => Nat.le_of_ble_eq_true h
  | .os id, h => Nat.le_of_ble_eq_true h
  | .sub id _ _ _, h => Nat.le_of_ble_eq_true h
  | .op id _ _ _, h => Nat.le_of_ble_eq_true h
  | .agg cs, h => belowL_inU cs h
  | .tup cs, h => belowL_inU cs h
  | .fn _ cs, h => belowL_inU cs h
  | .cnd _ _ _ x, h => SV.lowN_inU x h
  | .d _, _ => trivial
  | .tp, _ => trivial
  | .un, _ => trivial
  | .ns id, h => Nat.le_of_ble_eq_true h
  | .np id _ _ _, h => Nat.le_of_ble_eq_true h
  | .inn id _, h => Nat.le_of_ble_eq_true h
  | .ip id _ _ _ _, h => Nat.le_of_ble_eq_true h
theorem belowL_inU {n : Nat} : ∀ (cs : List SV), belowL n cs = true → inUL (fun i => i < n) cs
  | [], _ => trivial
  | s :: r, h => ⟨SV.lowN_inU s (Bool.and_eq_true_iff.1 h).1, belowL_inU r (Bool.and_eq_true_iff.1 h).2⟩
end
/-- The objects of a state; the next number that is free; is the tape at hand. -/
structure MS where
  ob : List (Nat × Option Ob)
  nx : Nat
  tp : Bool
def MS.obs (m : MS) : Obs := lookO m.ob
def MS.U (m : MS) : Nat → Prop := fun i => i < m.nx
def MS.mem (m : MS) : Mem := ⟨m.obs, m.U, m.tp⟩
structure St where
  sl : List (Nat × SV)
  ms : MS
  n : Nat
  gs : List Nat
  gd : List Nat
def St.ev (st : St) : Operand → SV
  | .tmp t => bif Nat.blt t st.n then look st.sl t else .un
  | .const v => .d (.v v)
  | .func f => .d (.v (.func (.func f) #[] #[]))
  | .global _ => .un
abbrev TrM (m : MS) (w : World) (c : Cx) (m' : MS) (w' : World) (c' : Cx) : Prop := Tr m.obs m.U w c m'.obs m'.U w' c'
abbrev OXM (m : MS) (w : World) (c : Cx) : Prop := OX m.obs m.U m.tp w c
def has (l : List Nat) (x : Nat) : Bool := match l with
  | [] => false
  | y :: r => Nat.beq y x || has r x
theorem has_cons {y x : Nat} {r : List Nat} : has (y :: r) x = true ↔ y = x ∨ has r x = true := by
  show (Nat.beq y x || has r x) = true ↔ _
  rw [Bool.or_eq_true]
  exact ⟨fun h => h.imp beq_eq id, fun h => h.imp (fun e => by rw [e]; simp) id⟩
/-- The guard's condition, as the slot of the bool has it. -/
def guardG (want : Bool) : SV → Option Bool
  | .d (.v (.bool b)) => some (gx want b)
  | .cnd _ _ g (.d (.v (.bool b))) => some (g && gx want b)
  | _ => none
/-- The frame and the world are as the state says. -/
structure RX (st : St) (a : Act) (w : World) (c : Cx) : Prop where
  ox : OXM st.ms w c
  sz : a.tmps.size = st.n
  sl : ∀ (x : Nat) (u : Value), a.tmps[x]? = some u → SRel c w (look st.sl x) u
  us : ∀ x, (look st.sl x).inU st.ms.U
  cn : ∀ x q wt g y, look st.sl x = .cnd q wt g y → has st.gs q = true ∧ has st.gd x = true ∧ ∀ G, guardG wt (look st.sl q) = some G → g = G
theorem RX.ev {st : St} {a : Act} {w : World} {c : Cx} (h : RX st a w c) (x : Operand) : SRel c w (st.ev x) (a.eval x) := by
  cases x with
  | tmp t =>
    show SRel c w (bif Nat.blt t st.n then look st.sl t else .un) (a.tmps.getD t undef)
    cases hb : Nat.blt t st.n with
    | false => exact .un _
    | true =>
      have hlt : t < a.tmps.size := by rw [h.sz]; exact Nat.le_of_ble_eq_true hb
      have := h.sl t _ (Array.getElem?_eq_getElem hlt)
      rw [Array.getD_eq_getD_getElem?, Array.getElem?_eq_getElem hlt]
      exact this
  | const v => exact .d _ _ (.v v)
  | func f => exact .d _ _ (.v _)
  | global g => exact .un _
theorem RX.evU {st : St} {a : Act} {w : World} {c : Cx} (h : RX st a w c) (x : Operand) : (st.ev x).inU st.ms.U := by
  cases x with
  | tmp t =>
    show (bif Nat.blt t st.n then look st.sl t else .un).inU _
    cases hb : Nat.blt t st.n with
    | false => exact trivial
    | true => exact h.us t
  | const v => trivial
  | func f => trivial
  | global g => trivial
theorem RX.evC {st : St} {a : Act} {w : World} {c : Cx} (h : RX st a w c) : CnOK st.ev := by
  intro x q wt g y b hx hq
  cases x with
  | tmp t =>
    have hx : (bif Nat.blt t st.n then look st.sl t else .un) = .cnd q wt g y := hx
    have hq : (bif Nat.blt q st.n then look st.sl q else .un) = .d (.v (.bool b)) := hq
    cases hb : Nat.blt t st.n with
    | false => rw [hb] at hx; cases hx
    | true =>
      rw [hb] at hx
      cases hc : Nat.blt q st.n with
      | false => rw [hc] at hq; cases hq
      | true => rw [hc] at hq; exact (h.cn t q wt g y hx).2.2 (gx wt b) (by simp only [cond_true] at hq; rw [hq]; rfl)
  | const v => cases hx
  | func f => cases hx
  | global g => cases hx
theorem RX.rels {st : St} {a : Act} {w : World} {c : Cx} (h : RX st a w c) : RelsC st.ms.mem st.ev a w c := ⟨⟨h.ox, h.ev, h.evU⟩, h.evC⟩
/-- A word that is under no guard. -/
def noC : SV → SV
  | .cnd _ _ _ _ => .un
  | s => s
theorem noC_rel {c : Cx} {w : World} {s : SV} {u : Value} (h : SRel c w s u) : SRel c w (noC s) u := by
  unfold noC
  split
  · exact .un _
  · exact h
theorem noC_inU {U : Nat → Prop} {s : SV} (h : s.inU U) : (noC s).inU U := by
  unfold noC
  split
  · trivial
  · exact h
theorem noC_ne {s : SV} {q : Nat} {wt g : Bool} {y : SV} : noC s ≠ .cnd q wt g y := by
  unfold noC
  split
  · exact fun e => by cases e
  · rename_i h; exact fun e => h _ _ _ _ e
/-- The slot that a result goes to. -/
def dstOK (st : St) : Option Nat → Bool
  | none => true
  | some d => Nat.blt d st.n && !(has st.gs d)
def putD (d : Option Nat) (r : SV) (l : List (Nat × SV)) : List (Nat × SV) := match d with
  | some d => (d, r) :: l
  | none => l
def St.set (st : St) (d : Option Nat) (r : SV) (m : MS) : St := ⟨putD d (noC r) st.sl, m, st.n, st.gs, st.gd⟩
/-- A result and a new memory. -/
theorem RX.set {st : St} {a : Act} {w w' : World} {c c' : Cx} (h : RX st a w c) {m : MS} (ht : TrM st.ms w c m w' c') (hox : OXM m w' c') {d : Option Nat} (hd : dstOK st d = true) {r : SV} {v : Value} (hr : SRel c' w' r v) (hu : r.inU m.U) : RX (st.set d r m) (a.put d v) w' c' := by
  have hs : ∀ (x : Nat) (u : Value), a.tmps[x]? = some u → SRel c' w' (look st.sl x) u := fun x u hx => ht.srel h.ox (h.sl x u hx) (h.us x)
  have hU : ∀ x, (look st.sl x).inU m.U := fun x => SV.inU_mono ht.uU _ (h.us x)
  cases d with
  | none => exact ⟨hox, h.sz, hs, hU, h.cn⟩
  | some d =>
    obtain ⟨d1, d2⟩ := Bool.and_eq_true_iff.1 hd
    have hdl : d < a.tmps.size := by rw [h.sz]; exact Nat.le_of_ble_eq_true d1
    have d2 : has st.gs d = false := by simpa using d2
    refine ⟨hox, ?_, fun x u hx => ?_, fun x => ?_, fun x q wt g y hx => ?_⟩
    · show (a.tmps.setIfInBounds d v).size = _
      rw [Array.size_setIfInBounds]; exact h.sz
    · show SRel c' w' (look ((d, noC r) :: st.sl) x) u
      have hx : (a.tmps.setIfInBounds d v)[x]? = some u := hx
      rw [Array.getElem?_setIfInBounds] at hx
      rw [look_cons]
      split at hx
      · rename_i e
        rw [if_pos e]
        injection hx with hx
        rw [← hx]; exact noC_rel hr
      · rename_i e
        rw [if_neg e]
        exact hs x u hx
    · show (look ((d, noC r) :: st.sl) x).inU m.U
      rw [look_cons]
      split
      · exact noC_inU hu
      · exact hU x
    · have hx : look ((d, noC r) :: st.sl) x = .cnd q wt g y := hx
      rw [look_cons] at hx
      split at hx
      · exact absurd hx noC_ne
      · obtain ⟨k1, k2, k3⟩ := h.cn x q wt g y hx
        refine ⟨k1, k2, fun G hb => k3 G ?_⟩
        have hb : guardG wt (look ((d, noC r) :: st.sl) q) = some G := hb
        rw [look_cons] at hb
        split at hb
        · rename_i e; rw [← e, d2] at k1; cases k1
        · exact hb
/-- A result under a guard (slot q), in an unchanged memory. -/
def St.setG (st : St) (d : Nat) (q : Nat) (want g : Bool) (r : SV) : St := ⟨(d, .cnd q want g (noC r)) :: st.sl, st.ms, st.n, q :: st.gs, d :: st.gd⟩
theorem RX.setG {st : St} {a : Act} {w w' : World} {c c' : Cx} (h : RX st a w c) (ht : TrM st.ms w c st.ms w' c') (hox : OXM st.ms w' c') {d : Nat} (hd : dstOK st (some d) = true) {q : Nat} {want g : Bool} (hqd : q ≠ d) (hg : guardG want (look st.sl q) = some g) {r : SV} {v : Value} (hr : g = true → SRel c' w' r v) (hv : g = false → v = undef) (hu : r.inU st.ms.U) : RX (st.setG d q want g r) (a.put (some d) v) w' c' := by
  have hs : ∀ (x : Nat) (u : Value), a.tmps[x]? = some u → SRel c' w' (look st.sl x) u := fun x u hx => ht.srel h.ox (h.sl x u hx) (h.us x)
  obtain ⟨d1, d2⟩ := Bool.and_eq_true_iff.1 hd
  have hdl : d < a.tmps.size := by rw [h.sz]; exact Nat.le_of_ble_eq_true d1
  have d2 : has st.gs d = false := by simpa using d2
  refine ⟨hox, ?_, fun x u hx => ?_, fun x => ?_, fun x q' wt g' y hx => ?_⟩
  · show (a.tmps.setIfInBounds d v).size = _
    rw [Array.size_setIfInBounds]; exact h.sz
  · show SRel c' w' (look ((d, .cnd q want g (noC r)) :: st.sl) x) u
    have hx : (a.tmps.setIfInBounds d v)[x]? = some u := hx
    rw [Array.getElem?_setIfInBounds] at hx
    rw [look_cons]
    split at hx
    · rename_i e
      rw [if_pos e]
      injection hx with hx
      rw [← hx]; exact .cnd q want g _ v (fun e => noC_rel (hr e)) hv
    · rename_i e
      rw [if_neg e]
      exact hs x u hx
  · show (look ((d, .cnd q want g (noC r)) :: st.sl) x).inU st.ms.U
    rw [look_cons]
    split
    · exact noC_inU hu
    · exact h.us x
  · have hx : look ((d, .cnd q want g (noC r)) :: st.sl) x = .cnd q' wt g' y := hx
    rw [look_cons] at hx
    split at hx
    · rename_i e
      injection hx with e1 e2 e3 e4
      subst e1 e2 e3
      refine ⟨has_cons.2 (.inl rfl), has_cons.2 (.inl e), fun G hb => ?_⟩
      have hb : guardG want (look ((d, .cnd q want g (noC r)) :: st.sl) q) = some G := hb
      rw [look_cons, if_neg (fun e => hqd e.symm), hg] at hb
      exact Option.some.inj hb
    · obtain ⟨k1, k2, k3⟩ := h.cn x q' wt g' y hx
      refine ⟨has_cons.2 (.inr k1), has_cons.2 (.inr k2), fun G hb => k3 G ?_⟩
      have hb : guardG wt (look ((d, .cnd q want g (noC r)) :: st.sl) q') = some G := hb
      rw [look_cons] at hb
      split at hb
      · rename_i e; rw [← e, d2] at k1; cases k1
      · exact hb
theorem wanted_of {ops : Array Oper} {st : St} {a : Act} {w : World} {c : Cx} {o : Oper} {j dj : Nat} {want G : Bool} (ho : o.guard = some (j, want)) (hj : (ops[j]?).bind (·.dst) = some dj) (hlt : dj < st.n) (hr : RX st a w c) (hg : guardG want (look st.sl dj) = some G) : Region.wanted o (yielded ops a.tmps) = G := by
  have hdl : dj < a.tmps.size := by rw [hr.sz]; exact hlt
  have hv := hr.sl dj _ (Array.getElem?_eq_getElem hdl)
  unfold Region.wanted yielded
  simp only [ho, hj, Option.bind_some, Array.getElem?_eq_getElem hdl]
  unfold guardG at hg
  split at hg
  · rename_i b hb
    rw [hb] at hv
    rw [srel_v hv]
    injection hg with hg
    subst hg
    cases b <;> cases want <;> rfl
  · rename_i q' w' g b hb
    rw [hb] at hv
    injection hg with hg
    subst hg
    obtain ⟨h1, h2⟩ := srel_cnd hv
    cases g with
    | true =>
      rw [srel_v (h1 rfl)]
      cases b <;> cases want <;> rfl
    | false =>
      rw [h2 rfl]
      rfl
  · cases hg
/-- What an operation under a guard (slot q) sees of the others under it. -/
def stripS (q : Nat) (want : Bool) : SV → SV
  | .cnd q' w' g x => bif Nat.beq q' q && (w' == want) then noC x else .cnd q' w' g x
  | s => s
end RE
end Go.Proofs.Ytpnmiieohdkenaa
namespace Go.Proofs.Ytpnmiieohdkenaa
open Go.RowKit
set_option linter.unusedVariables false
namespace RE
variable {P : Program}
/-! ### what is printed -/
def Cur : List Ty → Type
  | [] => Prop
  | t :: ts => den t → Cur ts
def lam : (ts : List Ty) → (dens ts → Prop) → Cur ts
  | [], f => f ()
  | _ :: ts, f => fun x => lam ts fun r => f (x, r)
def app : (ts : List Ty) → Cur ts → dens ts → Prop
  | [], p, _ => p
  | _ :: ts, f, x => app ts (f x.1) x.2
theorem app_lam : ∀ (ts : List Ty) (f : dens ts → Prop) (x : dens ts), app ts (lam ts f) x = f x
  | [], f, x => rfl
  | _ :: ts, f, x => app_lam ts _ x.2
/-- What follows, once; then the way to it. -/
structure JOIN (ts : List Ty) (J : Cur ts) (B : Cur ts → Prop) : Prop where
  h : B J
/-- A case. -/
structure IFB (b : Bool) (x y : Prop) : Prop where
  t : b = true → x
  f : b = false → y
/-- A loop: some statement holds at its head, and each round makes a number less. -/
structure LOOP (ts : List Ty) (F : Cur ts → Cur ts) (v : dens ts) : Prop where
  h : ∃ (I : dens ts → Prop) (μ : dens ts → Nat), I v ∧ ∀ x, I x → app ts (F (lam ts fun y => I y ∧ μ y < μ x)) x
def andL : List Prop → Prop → Prop
  | [], k => k
  | p :: r, k => p ∧ andL r k
def impL : List Prop → Prop → Prop
  | [], k => k
  | p :: r, k => p → impL r k
theorem andL_spec : ∀ {l : List Prop} {k : Prop}, andL l k → allL l ∧ k
  | [], _, h => ⟨trivial, h⟩
  | p :: r, k, h => by
    obtain ⟨h1, h2⟩ := h
    obtain ⟨h3, h4⟩ := andL_spec h2
    exact ⟨⟨h1, h3⟩, h4⟩
theorem impL_spec : ∀ {l : List Prop} {k : Prop}, impL l k → allL l → k
  | [], _, h, _ => h
  | p :: r, k, h, a => impL_spec (h a.1) a.2
/-! ### calls -/
def callable (P : Program) (f : FuncId) : Bool := match P.funcs[f]? with
  | some fn => fn.body.isSome && !(fn.name == "runtime.NumGoroutine")
  | none => false
theorem run_call {f : FuncId} (hf : callable P f = true) (vals : Array Value) (w : World) : (callFunc f vals).run P w = .ok (.enter f vals) w := by
  unfold callable at hf
  split at hf
  · rename_i fn hfn
    simp only [Bool.and_eq_true, Bool.not_eq_true'] at hf
    obtain ⟨h1, h2⟩ := hf
    obtain ⟨c, hc⟩ := Option.isSome_iff_exists.1 h1
    have h3 : fn.name ≠ "runtime.NumGoroutine" := by simpa using h2
    simp [callFunc, hfn, h3, hc]
  · cases hf
/-- What was said of the objects stands behind what is new. -/
def FrM (m m' : MS) : Prop := (∃ l, m'.ob = l ++ m.ob) ∧ (m.tp = true → m'.tp = true)
theorem FrM.refl (m : MS) : FrM m m := ⟨⟨[], rfl⟩, id⟩
theorem FrM.trans {a b c : MS} (h : FrM a b) (k : FrM b c) : FrM a c := by
  obtain ⟨⟨l, h1⟩, h2⟩ := h
  obtain ⟨⟨l', k1⟩, k2⟩ := k
  exact ⟨⟨l' ++ l, by rw [k1, h1, List.append_assoc]⟩, fun e => k2 (h2 e)⟩
abbrev CP := FuncId → List SV → MS → (SV → MS → Prop) → Prop
def CallOK (P : Program) (cp : CP) : Prop := ∀ f ss m k, cp f ss m k → ∀ (us : List Value) w c, OXM m w c → us.length = ss.length → (∀ (i : Nat) (s : SV) (u : Value), ss[i]? = some s → us[i]? = some u → SRel c w s u ∧ s.inU m.U) →
  Calls P f us.toArray w fun e w' => ∃ v r m' c', e = .returned v ∧ k r m' ∧ FrM m m' ∧ OXM m' w' c' ∧ TrM m w c m' w' c' ∧ SRel c' w' r v ∧ r.inU m'.U
def fnVal : Value → Option FuncId
  | .func (.func f) a b => bif a.toList.isEmpty && b.toList.isEmpty then some f else none
  | _ => none
/-- A function value: the function, and what it captured. -/
def fnOf : SV → Option (FuncId × List SV)
  | .d (.v v) => match fnVal v with
    | some f => some (f, [])
    | none => none
  | .fn f cs => some (f, cs)
  | .d (.fn f ds) => some (f, ds.map SV.d)
  | _ => none
theorem fnOf_rel {s : SV} {f : FuncId} {cs : List SV} (h : fnOf s = some (f, cs)) {c : Cx} {w : World} {u : Value} {U : Nat → Prop} (hr : SRel c w s u) (hu : s.inU U) : ∃ us : List Value, u = .func (.func f) #[] us.toArray ∧ us.length = cs.length ∧ ∀ (i : Nat) (s : SV) (u : Value), cs[i]? = some s → us[i]? = some u → SRel c w s u ∧ s.inU U := by
  unfold fnOf at h
  split at h
  · rename_i v
    split at h
    · rename_i f' hf
      injection h with h
      injection h with h1 h2
      subst h1 h2
      refine ⟨[], ?_, rfl, fun i s u hs => by simp at hs⟩
      rw [srel_v hr]
      unfold fnVal at hf
      split at hf
      · rename_i f'' a b
        cases hb : (a.toList.isEmpty && b.toList.isEmpty) with
        | false => rw [hb] at hf; cases hf
        | true =>
          rw [hb] at hf
          injection hf with hf
          subst hf
          simp only [Bool.and_eq_true, List.isEmpty_iff] at hb
          rw [arr1 hb.1, arr1 hb.2]
      · cases hf
    · cases h
  · injection h with h
    injection h with h1 h2
    subst h1 h2
    cases hr with
    | fn _ _ us hl h => exact ⟨us, rfl, hl, fun i s u hs hv => ⟨h i s u hs hv, inUL_get hu hs⟩⟩
  · injection h with h
    injection h with h1 h2
    subst h1 h2
    cases srel_d hr with
    | fn _ _ us hl h =>
      refine ⟨us, rfl, by simp [hl], fun i s u hs hv => ?_⟩
      rw [List.getElem?_map, Option.map_eq_some_iff] at hs
      obtain ⟨x, hx, rfl⟩ := hs
      exact ⟨.d _ _ (h i x u hx hv), trivial⟩
  · cases h
/-- The function that is called, and its arguments. -/
def callT (ρ : Operand → SV) : Op → Option (FuncId × List SV)
  | .call ⟨.value x, args, _⟩ => match fnOf (ρ x) with
    | some (f, cs) => some (f, (args.toList.map ρ) ++ cs)
    | none => none
  | _ => none
theorem callT_run {m : Mem} {ρ : Operand → SV} {o : Oper} {f : FuncId} {ss : List SV} (h : callT ρ o.op = some (f, ss)) (hf : callable P f = true) {a : Act} {w : World} {c : Cx} (hop : ∀ x, SRel c w (ρ x) (a.eval x)) (hiu : ∀ x, (ρ x).inU m.U) :
    ∃ us : List Value, (execOp a.eval o).run P w = .ok (.enter f us.toArray) w ∧ us.length = ss.length ∧ ∀ (i : Nat) (s : SV) (u : Value), ss[i]? = some s → us[i]? = some u → SRel c w s u ∧ s.inU m.U := by
  unfold callT at h
  split at h
  · rename_i x args tys he
    split at h
    · rename_i f' cs hfn
      injection h with h
      injection h with h1 h2
      subst h1 h2
      obtain ⟨us, hu, hl, hr⟩ := fnOf_rel hfn (hop x) (hiu x)
      refine ⟨args.toList.map a.eval ++ us, ?_, by simp [hl], fun i s u hs hv => ?_⟩
      · have e1 : (args.toList.map a.eval ++ us).toArray = args.map a.eval ++ us.toArray := by
          apply Array.ext'; simp
        rw [e1]
        simp [execOp, he, resolve, hu, Deferred.ofValue, invoke, run_call hf]
      · by_cases hi : i < args.toList.length
        · rw [List.getElem?_append_left (by simpa using hi)] at hs hv
          rw [List.getElem?_map, Option.map_eq_some_iff] at hs hv
          obtain ⟨y, hy, rfl⟩ := hs
          obtain ⟨y', hy', rfl⟩ := hv
          rw [hy] at hy'
          injection hy' with hy'
          subst hy'
          exact ⟨hop y, hiu y⟩
        · rw [List.getElem?_append_right (by simpa using hi)] at hs hv
          simp only [List.length_map] at hs hv
          exact hr _ s u hs hv
    · cases h
  · cases h
/-! ### one operation -/
def MS.upd (m : MS) (R : ERes) : MS := ⟨R.ob ++ m.ob, m.nx + R.cnt, m.tp⟩
theorem upd_obs (m : MS) (R : ERes) : (m.upd R).obs = ovr m.obs R.ob := lookO_app _ _
theorem upd_U (m : MS) (R : ERes) : (m.upd R).U = addN m.U m.nx R.cnt := by
  funext i
  refine propext ⟨fun h => ?_, fun h => ?_⟩
  · have h : i < m.nx + R.cnt := h
    by_cases hi : i < m.nx
    · exact .inl hi
    · exact .inr ⟨by omega, h⟩
  · show i < m.nx + R.cnt
    rcases h with h | h
    · have h : i < m.nx := h
      omega
    · exact h.2
def isC0 (R : ERes) : Bool := R.ob.isEmpty && Nat.beq R.cnt 0
/-- Is a slice nil? Its data do not tell, but that a slice which is nil is empty. -/
def nilOf (m : Mem) : SV → Option Prop
  | .d (.sl _ l) => some (l = [])
  | .d (.v v) => bif isNil v then some True else none
  | .os id => match rowOf m id with
    | some ⟨_, l⟩ => some (l = [])
    | none => none
  | _ => none
def nilTest (P : Program) (m : Mem) (ρ : Operand → SV) : Op → Option (Bool × Prop)
  | .binOp .eql t x (.const v) _ => bif isNil v && (elemOf P t).isSome then (nilOf m (ρ x)).map fun p => (true, p) else none
  | .binOp .neq t x (.const v) _ => bif isNil v && (elemOf P t).isSome then (nilOf m (ρ x)).map fun p => (false, p) else none
  | _ => none
theorem nilOf_ok {m : Mem} {s : SV} {p : Prop} (h : nilOf m s = some p) {c : Cx} {w : World} {u : Value} (ox : OX m.ob m.U m.tp w c) (hr : SRel c w s u) : ∃ ad n cap, u = .slice ad n cap ∧ (ad = none → p) := by
  unfold nilOf at h
  split at h
  · rename_i t l
    injection h with h
    subst h
    obtain ⟨ad, cap, b, off, f, rfl, hc, hm, ha, h1, h2⟩ := (srel_d hr).slInv
    refine ⟨ad, _, cap, rfl, fun e => ?_⟩
    rcases ha with ha | ha
    · first | exact ha | exact List.eq_nil_of_length_eq_zero ha
    · rw [e] at ha; cases ha
  · rename_i v
    cases hn : isNil v with
    | false => rw [hn] at h; cases h
    | true =>
      rw [hn] at h
      simp only [cond_true, Option.some.injEq] at h
      subst h
      exact ⟨none, 0, 0, (srel_v hr).trans (isNil_eq hn), fun _ => trivial⟩
  · split at h
    · rename_i id t l hrow
      injection h with h
      subst h
      obtain ⟨ad, cap, hv, hc, hm, hcell⟩ := rowOf_rel ox hrow
      refine ⟨ad, _, cap, (srel_os hr).trans hv, fun e => ?_⟩
      cases l with
      | nil => rfl
      | cons x r =>
        obtain ⟨g, hg, _⟩ := hcell 0 x rfl
        rw [e] at hg; cases hg
    · cases h
  · cases h
theorem run_nilEq {t e : TypeId} (ht : elemOf P t = some e) (ad : Option Addr) (n cap : Nat) (w : World) : (Op.equal t (.slice ad n cap) (.slice none 0 0)).run P w = .ok ad.isNone w := by
  obtain ⟨inf, hu, _⟩ := elemOf_spec ht
  have key : ∀ d, (Op.equalIn (d + 1) t (.slice ad n cap) (.slice none 0 0)).run P w = .ok ad.isNone w := fun d => by
    unfold Op.equalIn
    cases ad <;> simp [run_underlying hu]
  exact key _
theorem nilTest_ok {m : Mem} {ρ : Operand → SV} {o : Oper} {pos : Bool} {p : Prop} (h : nilTest P m ρ o.op = some (pos, p)) {a : Act} {w : World} {c : Cx} (ox : OX m.ob m.U m.tp w c) (hop : ∀ x, SRel c w (ρ x) (a.eval x)) :
    ∃ b : Bool, (b = true → p) ∧ ∀ w, (execOp a.eval o).run P w = .ok (.value (.bool (bif pos then b else !b))) w := by
  unfold nilTest at h
  split at h
  · rename_i t x v y he
    cases hb : (isNil v && (elemOf P t).isSome) with
    | false => rw [hb] at h; cases h
    | true =>
      rw [hb] at h
      obtain ⟨b1, b2⟩ := Bool.and_eq_true_iff.1 hb
      obtain ⟨e, ht⟩ := Option.isSome_iff_exists.1 b2
      simp only [cond_true, Option.map_eq_some_iff, Prod.mk.injEq] at h
      obtain ⟨q, hq, rfl, rfl⟩ := h
      obtain ⟨ad, n, cap, hu, hp⟩ := nilOf_ok hq ox (hop x)
      have hv := isNil_eq b1
      refine ⟨ad.isNone, fun e => hp (by simpa using e), fun w => ?_⟩
      subst hv
      have hc : a.eval (.const (.slice none 0 0)) = .slice none 0 0 := rfl
      simp [execOp, he, hu, hc, eqGuard, binOp, run_nilEq ht]
  · rename_i t x v y he
    cases hb : (isNil v && (elemOf P t).isSome) with
    | false => rw [hb] at h; cases h
    | true =>
      rw [hb] at h
      obtain ⟨b1, b2⟩ := Bool.and_eq_true_iff.1 hb
      obtain ⟨e, ht⟩ := Option.isSome_iff_exists.1 b2
      simp only [cond_true, Option.map_eq_some_iff, Prod.mk.injEq] at h
      obtain ⟨q, hq, rfl, rfl⟩ := h
      obtain ⟨ad, n, cap, hu, hp⟩ := nilOf_ok hq ox (hop x)
      have hv := isNil_eq b1
      refine ⟨ad.isNone, fun e => hp (by simpa using e), fun w => ?_⟩
      subst hv
      have hc : a.eval (.const (.slice none 0 0)) = .slice none 0 0 := rfl
      simp [execOp, he, hu, hc, eqGuard, binOp, run_nilEq ht]
  · cases h
/-- An operation that is carried out. -/
def aop (P : Program) (τ : TypeId → Option Ty) (cp : CP) (o : Oper) (st : St) (K : St → Prop) : Prop :=
  match callT st.ev o.op with
  | some (f, ss) => bif callable P f && dstOK st o.dst then cp f (ss.map noC) st.ms (fun r m => K (st.set o.dst r m)) else False
  | none => match nilTest P st.ms.mem st.ev o.op with
  | some (pos, p) => bif dstOK st o.dst then ∀ b : Bool, (b = true → p) → K (st.set o.dst (.d (.v (.bool (bif pos then b else !b)))) st.ms) else False
  | none => match eop P τ st.ms.mem st.ev st.ms.nx o with
    | some R => bif dstOK st o.dst then andL R.ps (impL R.fs (K (st.set o.dst R.r (st.ms.upd R)))) else False
    | none => False
/-- Only objects that are new, or none at all, were changed. -/
def onlyNew (n : Nat) : List (Nat × Option Ob) → Bool
  | [] => true
  | (k, _) :: r => Nat.ble n k && onlyNew n r
/-- The updates ahead of the objects that were. -/
def news (m m' : MS) : List (Nat × Option Ob) := m'.ob.take (m'.ob.length - m.ob.length)
/-- An operation under a guard. -/
def aopG (P : Program) (τ : TypeId → Option Ty) (cp : CP) (o : Oper) (d q : Nat) (want : Bool) (st : St) (K : St → Prop) : Prop :=
  match guardG want (look st.sl q) with
  | none => False
  | some G => bif dstOK st (some d) && !(Nat.beq q d) && Nat.blt q st.n then
      match callT (fun x => stripS q want (st.ev x)) o.op with
      | some (f, ss) => match τ o.type with
        | some ty => bif callable P f then
            JOIN [ty] (lam [ty] fun v => K (st.setG d q want G (.d (tv ty v.1)))) fun J => IFB G (cp f (ss.map noC) st.ms fun r m => match r with
              | .d x => match undoT ty x with
                | some y => bif onlyNew st.ms.nx (news st.ms m) && (m.tp == st.ms.tp) then app [ty] J (y, ()) else False
                | none => False
              | _ => False) (app [ty] J (dflt ty, ()))
          else False
        | none => False
      | none => match eop P τ st.ms.mem (fun x => stripS q want (st.ev x)) st.ms.nx o with
        | some R => bif isC0 R && R.r.lowN st.ms.nx then andL (R.ps.map (G = true → ·)) (impL (R.fs.map (G = true → ·)) (K (st.setG d q want G R.r))) else IFB G (andL R.ps (impL R.fs (K (st.set (some d) R.r (st.ms.upd R))))) (K (st.set (some d) .un st.ms))
        | none => False
    else False
end RE
end Go.Proofs.Ytpnmiieohdkenaa
namespace Go.Proofs.Ytpnmiieohdkenaa
open Go.RowKit
set_option linter.unusedVariables false
namespace RE
variable {P : Program}
def Fr (st st' : St) : Prop := st'.n = st.n ∧ (∃ l, st'.sl = l ++ st.sl) ∧ FrM st.ms st'.ms
theorem Fr.refl (st : St) : Fr st st := ⟨rfl, ⟨[], rfl⟩, .refl _⟩
theorem Fr.trans {a b c : St} (h : Fr a b) (k : Fr b c) : Fr a c := by
  obtain ⟨h0, ⟨l, h1⟩, h2⟩ := h
  obtain ⟨k0, ⟨l', k1⟩, k2⟩ := k
  exact ⟨k0.trans h0, ⟨l' ++ l, by rw [k1, h1, List.append_assoc]⟩, h2.trans k2⟩
theorem Fr.set {st : St} {d : Option Nat} {r : SV} {m : MS} (h : FrM st.ms m) : Fr st (st.set d r m) := by
  refine ⟨rfl, ?_, h⟩
  cases d with
  | none => exact ⟨[], rfl⟩
  | some d => exact ⟨[(d, noC r)], rfl⟩
theorem Fr.setG {st : St} {d q : Nat} {want g : Bool} {r : SV} : Fr st (st.setG d q want g r) := ⟨rfl, ⟨[_], rfl⟩, .refl _⟩
theorem FrM.upd (m : MS) (R : ERes) : FrM m (m.upd R) := ⟨⟨R.ob, rfl⟩, id⟩
/-- The step from a state to the next. -/
structure Step (st : St) (a : Act) (w : World) (c : Cx) (st' : St) (a' : Act) (w' : World) (c' : Cx) : Prop where
  rx : RX st' a' w' c'
  tr : TrM st.ms w c st'.ms w' c'
  df : a'.defers = a.defers
  fr : Fr st st'
theorem Step.refl {st : St} {a : Act} {w : World} {c : Cx} (h : RX st a w c) : Step st a w c st a w c := ⟨h, .refl, rfl, .refl _⟩
theorem Step.trans {st st1 st2 : St} {a a1 a2 : Act} {w w1 w2 : World} {c c1 c2 : Cx} (h : Step st a w c st1 a1 w1 c1) (k : Step st1 a1 w1 c1 st2 a2 w2 c2) : Step st a w c st2 a2 w2 c2 :=
  ⟨k.rx, h.tr.trans k.tr, k.df.trans h.df, h.fr.trans k.fr⟩
theorem defers_put (a : Act) (d : Option Nat) (v : Value) : (a.put d v).defers = a.defers := by cases d <;> rfl
/-- One operation, carried out. -/
def OpS (P : Program) (o : Oper) (st : St) (Q : St → Prop) : Prop := ∀ a w c, RX st a w c → ∀ (K : Act → World → Prop) (Qx : Exit → Act → World → Prop), (∀ st' a' w' c', Step st a w c st' a' w' c' → Q st' → K a' w') → o.wp P a w K Qx
theorem noC_args {ss : List SV} {us : List Value} {c : Cx} {w : World} {U : Nat → Prop} (h : ∀ (i : Nat) (s : SV) (u : Value), ss[i]? = some s → us[i]? = some u → SRel c w s u ∧ s.inU U) : ∀ (i : Nat) (s : SV) (u : Value), (ss.map noC)[i]? = some s → us[i]? = some u → SRel c w s u ∧ s.inU U := fun i s u hs hu => by
  rw [List.getElem?_map, Option.map_eq_some_iff] at hs
  obtain ⟨x, hx, rfl⟩ := hs
  obtain ⟨h1, h2⟩ := h i x u hx hu
  exact ⟨noC_rel h1, noC_inU h2⟩
theorem aop_ok {τ : TypeId → Option Ty} {cp : CP} (hcp : CallOK P cp) {o : Oper} {st : St} {K : St → Prop} (h : aop P τ cp o st K) : OpS P o st K := by
  intro a w c hr KK Qx hQ
  unfold aop at h
  split at h
  · rename_i f ss hc
    cases hb : (callable P f && dstOK st o.dst) with
    | false => rw [hb] at h; exact h.elim
    | true =>
      rw [hb] at h
      obtain ⟨b1, b2⟩ := Bool.and_eq_true_iff.1 hb
      obtain ⟨us, hrun, hl, hrel⟩ := callT_run (m := st.ms.mem) hc b1 hr.ev hr.evU
      unfold Oper.wp
      rw [hrun]
      show Calls _ _ _ _ _
      refine (hcp f _ st.ms _ h us w c hr.ox (by simpa using hl) (noC_args hrel)).mono ?_
      rintro e w' ⟨v, r, m', c', rfl, hk, hf, hox, htr, hs, hu⟩
      exact hQ _ _ _ c' ⟨hr.set htr hox b2 hs hu, htr, defers_put _ _ _, .set hf⟩ hk
  · split at h
    · rename_i pos p hn
      cases hb : dstOK st o.dst with
      | false => rw [hb] at h; exact h.elim
      | true =>
        rw [hb] at h
        obtain ⟨b, b1, b2⟩ := nilTest_ok hn hr.ox hr.ev
        unfold Oper.wp
        rw [b2 w]
        exact hQ _ _ _ c ⟨hr.set .refl hr.ox hb (.d _ _ (.v _)) trivial, .refl, defers_put _ _ _, .set (.refl _)⟩ (h b b1)
    split at h
    · rename_i R hR
      cases hb : dstOK st o.dst with
      | false => rw [hb] at h; exact h.elim
      | true =>
        rw [hb] at h
        obtain ⟨h1, h2⟩ := andL_spec (show andL R.ps _ from h)
        refine eop_ok (P := P) hR a w c hr.rels (fun i hi _ hu => by have hu : i < st.ms.nx := hu; omega) h1 KK Qx fun v c' w' hox htr hs hu hf => ?_
        have e1 := upd_obs st.ms R
        have e2 := upd_U st.ms R
        have htr' : TrM st.ms w c (st.ms.upd R) w' c' := by show Tr _ _ _ _ (st.ms.upd R).obs (st.ms.upd R).U _ _; rw [e1, e2]; exact htr
        have hox' : OXM (st.ms.upd R) w' c' := by show OX (st.ms.upd R).obs (st.ms.upd R).U _ _ _; rw [e1, e2]; exact hox
        exact hQ _ _ _ c' ⟨hr.set htr' hox' hb hs (by rw [e2]; exact hu), htr', defers_put _ _ _, .set (.upd _ _)⟩ (impL_spec h2 hf)
    · exact h.elim
/-- Objects that are new may be forgotten. -/
theorem forget {m m' : MS} {w w' : World} {c c' : Cx} (htpe : m'.tp = m.tp) (hf : FrM m m') (ho : onlyNew m.nx (news m m') = true) (hox0 : OXM m w c) (hox : OXM m' w' c') (htr : TrM m w c m' w' c') : OXM m w' c' ∧ TrM m w c m w' c' := by
  obtain ⟨⟨l, hl⟩, htp⟩ := hf
  have hn : news m m' = l := by
    unfold news
    rw [hl, List.length_append, show l.length + m.ob.length - m.ob.length = l.length by omega, List.take_left]
  rw [hn] at ho
  have hobs : m'.obs = ovr m.obs l := by show lookO m'.ob = _; rw [hl, lookO_app]; rfl
  have hold : ∀ i, i < m.nx → m'.obs i = m.obs i := by
    intro i hi
    rw [hobs]
    unfold ovr
    have : ∀ (l : List (Nat × Option Ob)), onlyNew m.nx l = true → lookU l i = none := fun l => by
      induction l with
      | nil => exact fun _ => rfl
      | cons p r ih =>
        intro h
        obtain ⟨k, o⟩ := p
        obtain ⟨h1, h2⟩ := Bool.and_eq_true_iff.1 h
        have h1 := Nat.le_of_ble_eq_true h1
        rw [lookU_cons, if_neg (by omega)]
        exact ih h2
    rw [this l ho]
  have hsub : ∀ id x, m.obs id = some x → m'.obs id = some x := fun id x hx => by
    rw [hold id (hox0.objs id x hx).1]; exact hx
  refine ⟨⟨hox.sb, fun id x hx => ?_, fun id x hx => hox.fb id x (hsub id x hx), fun i j x y hx o1 hy o2 => hox.dj i j x y (hsub i x hx) o1 (hsub j y hy) o2, hox.nT, fun e => hox.tpe (htp e), fun e => hox.tF (htpe.trans e)⟩, ⟨htr.os, htr.tape, htr.output, htr.sz, htr.tK, htr.tN, fun _ h => h, htr.hH, htr.sS, htr.sN, htr.blk, fun b hb => ?_⟩⟩
  · obtain ⟨k1, k2, _⟩ := hox0.objs id x hx
    exact ⟨k1, k2, (hox.objs id x (hsub id x hx)).2.2⟩
  · obtain ⟨id, x, hx, o1, hb⟩ := hb
    exact htr.fp b ⟨id, x, hsub id x hx, o1, hb⟩
theorem evG {q : Nat} {want G : Bool} {st : St} {a : Act} {w : World} {c : Cx} (hr : RX st a w c) {x : Operand} {g : Bool} {y : SV} (hs : st.ev x = .cnd q want g y) (hg : guardG want (look st.sl q) = some G) (hG : G = true) : g = true := by
  cases x with
  | tmp t =>
    have hs : (bif Nat.blt t st.n then look st.sl t else .un) = .cnd q want g y := hs
    cases hbt : Nat.blt t st.n with
    | false => rw [hbt] at hs; cases hs
    | true => rw [hbt] at hs; exact ((hr.cn t q want g y hs).2.2 G hg).trans hG
  | const v => cases hs
  | func f => cases hs
  | global g => cases hs
theorem stripS_rel {q : Nat} {want G : Bool} {st : St} {a : Act} {w : World} {c : Cx} (hr : RX st a w c) (hlt : q < st.n) (hg : guardG want (look st.sl q) = some G) (hG : G = true) : RelsC st.ms.mem (fun x => stripS q want (st.ev x)) a w c := by
  have key : ∀ x, SRel c w (stripS q want (st.ev x)) (a.eval x) ∧ (stripS q want (st.ev x)).inU st.ms.U := fun x => by
    have h1 := hr.ev x
    have h2 := hr.evU x
    generalize hs : st.ev x = s at h1 h2
    unfold stripS
    split
    · rename_i q' w' g y
      cases hb : (Nat.beq q' q && (w' == want)) with
      | false => exact ⟨h1, h2⟩
      | true =>
        obtain ⟨b1, b2⟩ := Bool.and_eq_true_iff.1 hb
        have b1 := beq_eq b1
        have b2 : w' = want := by simpa using b2
        subst b1 b2
        simp only [cond_true]
        refine ⟨noC_rel ((srel_cnd h1).1 ?_), noC_inU h2⟩
        exact evG hr hs hg hG
    · exact ⟨h1, h2⟩
  refine ⟨⟨hr.ox, fun x => (key x).1, fun x => (key x).2⟩, fun x q1 w1 g1 y1 b hx hq => ?_⟩
  have hx' : st.ev x = .cnd q1 w1 g1 y1 := by
    generalize st.ev x = s at hx
    unfold stripS at hx
    split at hx
    · rename_i q' w' g y
      cases hb : (Nat.beq q' q && (w' == want)) with
      | false => rw [hb] at hx; exact hx
      | true => rw [hb] at hx; exact absurd hx noC_ne
    · exact hx
  have hG1 : guardG w1 (st.ev (.tmp q1)) = some (gx w1 b) := by
    generalize hs : st.ev (.tmp q1) = s at hq
    unfold stripS at hq
    split at hq
    · rename_i q' w' g y
      cases hb : (Nat.beq q' q && (w' == want)) with
      | false => rw [hb] at hq; cases hq
      | true =>
        rw [hb] at hq
        obtain ⟨b1, b2⟩ := Bool.and_eq_true_iff.1 hb
        have b1 := beq_eq b1
        have b2 : w' = want := by simpa using b2
        subst b1 b2
        have hg1 : g = true := evG hr hs hg hG
        have hy : y = .d (.v (.bool b)) := by
          simp only [cond_true] at hq
          unfold noC at hq
          split at hq
          · cases hq
          · exact hq
        rw [hy, hg1]; simp [guardG]
    · rw [hq]; rfl
  cases x with
  | tmp t =>
    have hx' : (bif Nat.blt t st.n then look st.sl t else .un) = .cnd q1 w1 g1 y1 := hx'
    have hG1 : guardG w1 (bif Nat.blt q1 st.n then look st.sl q1 else .un) = some (gx w1 b) := hG1
    cases hbt : Nat.blt t st.n with
    | false => rw [hbt] at hx'; cases hx'
    | true =>
      rw [hbt] at hx'
      cases hbq : Nat.blt q1 st.n with
      | false => rw [hbq] at hG1; cases hG1
      | true => rw [hbq] at hG1; exact (hr.cn t q1 w1 g1 y1 hx').2.2 _ hG1
  | const v => cases hx'
  | func f => cases hx'
  | global g => cases hx'
/-- An operation under a guard: carried out where it holds, else nothing is known of its slot. -/
def OpG (P : Program) (o : Oper) (G : Bool) (st : St) (Q : St → Prop) : Prop := ∀ a w c, RX st a w c → ∀ (K : Act → World → Prop) (Qx : Exit → Act → World → Prop), (∀ st' a' w' c', Step st a w c st' a' w' c' → Q st' → K a' w') → if G = true then o.wp P a w K Qx else K (a.put o.dst undef) w
theorem andL_map {G : Bool} (hG : G = true) : ∀ {l : List Prop}, allL (l.map (G = true → ·)) → allL l
  | [], _ => trivial
  | p :: r, h => ⟨h.1 hG, andL_map hG h.2⟩
theorem allL_map {G : Bool} : ∀ {l : List Prop}, (G = true → allL l) → allL (l.map (G = true → ·))
  | [], _ => trivial
  | p :: r, h => ⟨fun e => (h e).1, allL_map fun e => (h e).2⟩
theorem aopG_ok {τ : TypeId → Option Ty} {cp : CP} (hcp : CallOK P cp) {o : Oper} {d q : Nat} {want : Bool} {st : St} {K : St → Prop} (hd : o.dst = some d) (h : aopG P τ cp o d q want st K) : ∃ G, q < st.n ∧ guardG want (look st.sl q) = some G ∧ OpG P o G st K := by
  unfold aopG at h
  split at h
  · exact h.elim
  · rename_i G hG
    cases hb : (dstOK st (some d) && !(Nat.beq q d) && Nat.blt q st.n) with
    | false => rw [hb] at h; exact h.elim
    | true =>
      rw [hb] at h
      simp only [Bool.and_eq_true, Bool.not_eq_true'] at hb
      obtain ⟨⟨b1, b2⟩, b3⟩ := hb
      have hqd : q ≠ d := fun e => by rw [e] at b2; simp at b2
      have hlt : q < st.n := Nat.le_of_ble_eq_true b3
      refine ⟨G, hlt, hG, fun a w c hr KK Qx hQ => ?_⟩
      simp only [cond_true] at h
      split at h
      · rename_i f ss hc
        split at h
        · rename_i ty hty
          cases hcl : callable P f with
          | false => rw [hcl] at h; exact h.elim
          | true =>
            rw [hcl] at h
            obtain ⟨⟨ht, hf⟩⟩ := h
            have hjoin : ∀ y : den ty, app [ty] (lam [ty] fun v => K (st.setG d q want G (.d (tv ty v.1)))) (y, ()) = K (st.setG d q want G (.d (tv ty y))) := fun y => app_lam [ty] _ (y, ())
            cases hGv : G with
            | true =>
              rw [if_pos rfl]
              have h := ht hGv
              have hrel := stripS_rel hr hlt hG hGv
              obtain ⟨us, hrun, hl, hargs⟩ := callT_run (m := st.ms.mem) hc hcl hrel.op hrel.iu
              unfold Oper.wp
              rw [hrun]
              show Calls _ _ _ _ _
              refine (hcp f _ st.ms _ h us w c hr.ox (by simpa using hl) (noC_args hargs)).mono ?_
              rintro e w' ⟨v, r, m', c', rfl, hk, hfr, hox, htr, hs, hu⟩
              split at hk
              · rename_i x
                split at hk
                · rename_i y hy
                  cases hon2 : (onlyNew st.ms.nx (news st.ms m') && (m'.tp == st.ms.tp)) with
                  | false => rw [hon2] at hk; exact hk.elim
                  | true =>
                    rw [hon2] at hk
                    obtain ⟨hon, htp2⟩ := Bool.and_eq_true_iff.1 hon2
                    have htp2 : m'.tp = st.ms.tp := by simpa using htp2
                    simp only [cond_true] at hk
                    rw [hjoin] at hk
                    obtain ⟨ox2, tr2⟩ := forget htp2 hfr hon hr.ox hox htr
                    rw [hd]
                    exact hQ _ _ _ c' ⟨hr.setG tr2 ox2 b1 hqd hG (v := v) (fun _ => .d _ _ (undoT_rd hy (srel_d hs))) (fun e => by rw [hGv] at e; cases e) trivial, tr2, defers_put _ _ _, .setG⟩ hk
                · exact hk.elim
              · exact hk.elim
            | false =>
              rw [if_neg (by decide)]
              have h := hf hGv
              rw [hjoin] at h
              rw [hd]
              exact hQ _ _ _ c ⟨hr.setG .refl hr.ox b1 hqd hG (r := .d (tv ty (dflt ty))) (v := undef) (fun e => by rw [hGv] at e; cases e) (fun _ => rfl) trivial, .refl, defers_put _ _ _, .setG⟩ h
        · exact h.elim
      · split at h
        · rename_i R hR
          cases hc1 : (isC0 R && R.r.lowN st.ms.nx) with
          | false =>
            rw [hc1] at h
            obtain ⟨ht, hf⟩ := (show IFB G _ _ from h)
            cases hGv : G with
            | true =>
              rw [if_pos rfl]
              obtain ⟨h1, h2⟩ := andL_spec (show andL R.ps _ from ht hGv)
              refine eop_ok (P := P) hR a w c (stripS_rel hr hlt hG hGv) (fun i hi _ hu => by have hu : i < st.ms.nx := hu; omega) h1 KK Qx fun v c' w' hox htr hs hu hf => ?_
              have e1 := upd_obs st.ms R
              have e2 := upd_U st.ms R
              have htr' : TrM st.ms w c (st.ms.upd R) w' c' := by show Tr _ _ _ _ (st.ms.upd R).obs (st.ms.upd R).U _ _; rw [e1, e2]; exact htr
              have hox' : OXM (st.ms.upd R) w' c' := by show OX (st.ms.upd R).obs (st.ms.upd R).U _ _ _; rw [e1, e2]; exact hox
              rw [hd]
              exact hQ _ _ _ c' ⟨hr.set htr' hox' b1 hs (by rw [e2]; exact hu), htr', defers_put _ _ _, .set (.upd _ _)⟩ (impL_spec h2 hf)
            | false =>
              rw [if_neg (by decide)]
              rw [hd]
              exact hQ _ _ _ c ⟨hr.set .refl hr.ox b1 (.un _) trivial, .refl, defers_put _ _ _, .set (.refl _)⟩ (hf hGv)
          | true =>
            rw [hc1] at h
            simp only [cond_true] at h
            obtain ⟨hc0, hbl⟩ := Bool.and_eq_true_iff.1 hc1
            obtain ⟨z1, z2⟩ := Bool.and_eq_true_iff.1 hc0
            have z1 : R.ob = [] := by simpa using z1
            have z2 := beq_eq z2
            obtain ⟨h1, h2⟩ := andL_spec h
            cases hGv : G with
            | true =>
              rw [if_pos rfl]
              have hrel := stripS_rel hr hlt hG hGv
              refine eop_ok (P := P) hR a w c hrel (fun i hi hi2 hu => by rw [z2] at hi2; omega) (andL_map hGv h1) KK Qx fun v c' w' hox htr hs hu hf => ?_
              rw [z1, z2] at hox htr
              rw [z2] at hu
              rw [addN_zero] at hox htr hu
              rw [hd]
              exact hQ _ _ _ c' ⟨hr.setG htr hox b1 hqd hG (v := v) (fun _ => hs) (fun e => by rw [hGv] at e; cases e) hu, htr, defers_put _ _ _, .setG⟩ (impL_spec h2 (allL_map fun _ => hf))
            | false =>
              rw [if_neg (by decide)]
              rw [hd]
              have hfs : allL (R.fs.map (G = true → ·)) := allL_map fun e => by rw [hGv] at e; cases e
              exact hQ _ _ _ c ⟨hr.setG .refl hr.ox b1 hqd hG (r := R.r) (v := undef) (fun e => by rw [hGv] at e; cases e) (fun _ => rfl) (SV.lowN_inU _ hbl), .refl, defers_put _ _ _, .setG⟩ (impL_spec h2 hfs)
        · exact h.elim
end RE
end Go.Proofs.Ytpnmiieohdkenaa
namespace Go.Proofs.Ytpnmiieohdkenaa
open Go.RowKit
set_option linter.unusedVariables false
namespace RE
variable {P : Program}
inductive Sh where
  | dat (t : Ty)
  | own (e : TypeId) (t : Ty)
  | bx (id off : Nat)
  | rf (id : Nat)
  | tp
  | un
  | agg (cs : List Sh)
  | tup (cs : List Sh)
mutual
def shT : Sh → List Ty → List Ty
  | .dat t, acc => t :: acc
  | .own _ t, acc => .sl t :: acc
  | .agg cs, acc => shTL cs acc
  | .tup cs, acc => shTL cs acc
  | .bx _ _, acc => acc
  | .rf _, acc => acc
  | .tp, acc => acc
  | .un, acc => acc
def shTL : List Sh → List Ty → List Ty
  | [], acc => acc
  | s :: r, acc => shT s (shTL r acc)
end
abbrev Row := TypeId × Sigma fun t : Ty => List (den t)
mutual
/-- A word of a shape, its parts given; the rows of its own (numbers from k on). -/
def instS : (s : Sh) → (acc : List Ty) → dens (shT s acc) → Nat → SV × List Row × dens acc
  | .dat t, _, v, _ => (.d (tv t v.1), [], v.2)
  | .own e t, _, v, k => (.os k, [(e, ⟨t, v.1⟩)], v.2)
  | .bx id off, _, v, _ => (.bx id off, [], v)
  | .rf id, _, v, _ => (.os id, [], v)
  | .tp, _, v, _ => (.tp, [], v)
  | .un, _, v, _ => (.un, [], v)
  | .agg cs, acc, v, k => match instL cs acc v k with
    | (ss, rs, r) => (mkAgg ss, rs, r)
  | .tup cs, acc, v, k => match instL cs acc v k with
    | (ss, rs, r) => (.tup ss, rs, r)
def instL : (ss : List Sh) → (acc : List Ty) → dens (shTL ss acc) → Nat → List SV × List Row × dens acc
  | [], _, v, _ => ([], [], v)
  | s :: r, acc, v, k => match instS s (shTL r acc) v k with
    | (x, rs, v') => match instL r acc v' (k + rs.length) with
      | (xs, rs', v'') => (x :: xs, rs ++ rs', v'')
end
/-- What a fit finds: the parts' values; the rows that are taken over; those that become stable. -/
structure Got (ts : List Ty) where
  v : dens ts
  own : List (Option Nat)
  fz : List Nat
def tupOf : SV → Option (List SV)
  | .tup ss => some ss
  | _ => none
mutual
def fitS (m : Mem) (n : Nat) : (s : Sh) → (acc : List Ty) → SV → dens acc → Option (Got (shT s acc))
  | .dat t, _, x, r => match dataOf m x with
    | some (d, ids) => match undoT t d with
      | some y => some ⟨(y, r), [], ids⟩
      | none => none
    | none => none
  | .own e t, _, x, r => match x with
    | .os id => match m.ob id with
      | some (.row e' t' l) => bif Nat.beq e e' then match castL t t' l with
          | some l' => some ⟨(l', r), [some id], []⟩
          | none => none
        else none
      | _ => none
    | .d (.v y) => bif isNil y && Nat.ble 1 (size t) then some ⟨(([] : List (den t)), r), [none], []⟩ else none
    | _ => none
  | .bx id off, _, x, r => match x with
    | .bx id' off' => bif Nat.beq id id' && Nat.beq off off' && Nat.blt id n then some ⟨r, [], []⟩ else none
    | _ => none
  | .rf id, _, x, r => match x with
    | .os id' => bif Nat.beq id id' && Nat.blt id n then some ⟨r, [], []⟩ else none
    | _ => none
  | .tp, _, x, r => match x with
    | .tp => some ⟨r, [], []⟩
    | _ => none
  | .un, _, _, r => some ⟨r, [], []⟩
  | .agg cs, acc, x, r => match aggOf x with
    | some ss => fitL m n cs acc ss r
    | none => none
  | .tup cs, acc, x, r => match tupOf x with
    | some ss => fitL m n cs acc ss r
    | none => none
def fitL (m : Mem) (n : Nat) : (ss : List Sh) → (acc : List Ty) → List SV → dens acc → Option (Got (shTL ss acc))
  | [], _, [], r => some ⟨r, [], []⟩
  | s :: ss, acc, x :: xs, r => match fitL m n ss acc xs r with
    | some g => match fitS m n s (shTL ss acc) x g.v with
      | some h => some ⟨h.v, h.own ++ g.own, h.fz ++ g.fz⟩
      | none => none
    | none => none
  | _, _, _, _ => none
end
/-- The handle that a row taken over has. -/
def ownH (H : Nat → Value) : Option Nat → Value
  | some id => H id
  | none => .slice none 0 0
def ownF (F : Nat → Nat → Prop) : Option Nat → Nat → Prop
  | some id => F id
  | none => fun _ => False
/-- Where things are, the new rows under their new numbers. -/
def reCx (c : Cx) (k : Nat) (own : List (Option Nat)) : Cx := ⟨c.S, fun i => if i < k then c.H i else ownH c.H ((own[i - k]?).getD none), fun i => if i < k then c.F i else ownF c.F ((own[i - k]?).getD none), c.T⟩
/-- The rows are those that were found. -/
def RowsOK (m : Mem) (own : List (Option Nat)) (rs : List Row) : Prop := rs.length = own.length ∧ ∀ (j : Nat) (o : Option Nat) (r : Row), own[j]? = some o → rs[j]? = some r → match o with
  | some id => m.ob id = some (.row r.1 r.2.1 r.2.2)
  | none => r.2.2 = [] ∧ 1 ≤ size r.2.1
theorem RowsOK.app {m : Mem} {o1 o2 : List (Option Nat)} {r1 r2 : List Row} (h1 : RowsOK m o1 r1) (h2 : RowsOK m o2 r2) : RowsOK m (o1 ++ o2) (r1 ++ r2) := by
  refine ⟨by simp [h1.1, h2.1], fun j o r ho hr => ?_⟩
  by_cases hj : j < o1.length
  · rw [List.getElem?_append_left hj] at ho
    rw [List.getElem?_append_left (by rw [h1.1]; exact hj)] at hr
    exact h1.2 j o r ho hr
  · rw [List.getElem?_append_right (by omega)] at ho
    rw [List.getElem?_append_right (by rw [h1.1]; omega), h1.1] at hr
    exact h2.2 _ o r ho hr
mutual
theorem SV.inU_all : ∀ (s : SV), s.inU fun _ => True
  | .bx _ _ => trivial
  | .os _ => trivial
  | .sub _ _ _ _ => trivial
  | .op _ _ _ _ => trivial
  | .agg cs => inUL_all cs
  | .tup cs => inUL_all cs
  | .fn _ cs => inUL_all cs
  | .cnd _ _ _ x => SV.inU_all x
  | .d _ => trivial
  | .tp => trivial
  | .un => trivial
  | .ns _ => trivial
  | .np _ _ _ _ => trivial
  | .inn _ _ => trivial
  | .ip _ _ _ _ _ => trivial
theorem inUL_all : ∀ (cs : List SV), inUL (fun _ => True) cs
  | [] => trivial
  | s :: r => ⟨SV.inU_all s, inUL_all r⟩
end
structure Fz (m : Mem) (c c1 : Cx) (w : World) (ids0 : List Nat) : Prop where
  h : OX m.ob m.U m.tp w c
  h' : OX (ovr m.ob (fzU m.ob ids0)) m.U m.tp w c1
  t : Tr m.ob m.U w c (ovr m.ob (fzU m.ob ids0)) m.U w c1
  hH : c1.H = c.H
mutual
/-- A word that fits a shape is, under the new numbers, the shape's word. -/
theorem fitS_ok {m : Mem} {c c1 : Cx} {w : World} {ids0 : List Nat} (F : Fz m c c1 w ids0) {k0 : Nat} {own0 : List (Option Nat)} : ∀ (s : Sh) (acc : List Ty) (x : SV) (r : dens acc) (g : Got (shT s acc)), fitS m k0 s acc x r = some g → (∀ i ∈ g.fz, i ∈ ids0) → ∀ (k : Nat), k0 ≤ k → (∀ (j : Nat) (o : Option Nat), g.own[j]? = some o → own0[k - k0 + j]? = some o) →
    (instS s acc g.v k).2.2 = r ∧ RowsOK m g.own (instS s acc g.v k).2.1 ∧ ((instS s acc g.v k).1.inU fun i => i < k0 ∨ (k ≤ i ∧ i < k + g.own.length)) ∧ ∀ {u : Value}, SRel c w x u → SRel (reCx c1 k0 own0) w (instS s acc g.v k).1 u
  | .dat ty, acc, x, r, g, hg, hz, k, hk, ho => by
    unfold fitS at hg
    split at hg
    · rename_i d ids hd
      split at hg
      · rename_i y hy
        injection hg with hg
        subst hg
        refine ⟨rfl, ⟨rfl, fun j o r ho => by simp at ho⟩, trivial, fun {u} hr => .d _ _ ?_⟩
        exact undoT_rd hy (dataOf_rel F.h F.h' F.t F.hH x hd hz hr)
      · cases hg
    · cases hg
  | .own e ty, acc, x, r, g, hg, hz, k, hk, ho => by
    unfold fitS at hg
    split at hg
    · rename_i id
      split at hg
      · rename_i e' t' l hob
        cases hb : Nat.beq e e' with
        | false => rw [hb] at hg; cases hg
        | true =>
          rw [hb] at hg
          have hb := beq_eq hb
          subst hb
          simp only [cond_true] at hg
          split at hg
          · rename_i l' hl
            obtain ⟨e1, e2⟩ := castL_eq hl
            subst e1
            have e2 := eq_of_heq e2
            subst e2
            injection hg with hg
            subst hg
            refine ⟨rfl, ⟨rfl, fun j o r ho hr => ?_⟩, .inr ⟨Nat.le_refl _, by show k < k + 1; omega⟩, fun {u} hr => ?_⟩
            · cases j with
              | zero =>
                simp at ho
                subst ho
                have hr : [(e, (⟨t', l⟩ : Sigma fun t : Ty => List (den t)))][0]? = some r := hr
                simp at hr
                subst hr
                exact hob
              | succ j => simp at ho
            · rw [srel_os hr, ← F.hH]
              have := SRel.os (c := reCx c1 k0 own0) (w := w) k
              have e : (reCx c1 k0 own0).H k = c1.H id := by
                show (if k < k0 then c1.H k else ownH c1.H ((own0[k - k0]?).getD none)) = _
                have := ho 0 (some id) rfl
                rw [Nat.add_zero] at this
                rw [if_neg (by omega), this]; rfl
              rw [e] at this
              exact this
          · cases hg
      · cases hg
    · rename_i y
      cases hb : (isNil y && Nat.ble 1 (size ty)) with
      | false => rw [hb] at hg; cases hg
      | true =>
        rw [hb] at hg
        obtain ⟨b1, b2⟩ := Bool.and_eq_true_iff.1 hb
        injection hg with hg
        subst hg
        refine ⟨rfl, ⟨rfl, fun j o r ho hr => ?_⟩, .inr ⟨Nat.le_refl _, by show k < k + 1; omega⟩, fun {u} hr => ?_⟩
        · cases j with
          | zero =>
            simp at ho
            subst ho
            have hr : [(e, (⟨ty, []⟩ : Sigma fun t : Ty => List (den t)))][0]? = some r := hr
            simp at hr
            subst hr
            exact ⟨rfl, Nat.le_of_ble_eq_true b2⟩
          | succ j => simp at ho
        · rw [srel_v hr, isNil_eq b1]
          have := SRel.os (c := reCx c1 k0 own0) (w := w) k
          have e : (reCx c1 k0 own0).H k = .slice none 0 0 := by
            show (if k < k0 then c1.H k else ownH c1.H ((own0[k - k0]?).getD none)) = _
            have := ho 0 none rfl
            rw [Nat.add_zero] at this
            rw [if_neg (by omega), this]; rfl
          rw [e] at this
          exact this
    · cases hg
  | .bx id off, acc, x, r, g, hg, hz, k, hk, ho => by
    unfold fitS at hg
    split at hg
    · rename_i id' off'
      cases hb : (Nat.beq id id' && Nat.beq off off' && Nat.blt id k0) with
      | false => rw [hb] at hg; cases hg
      | true =>
        rw [hb] at hg
        simp only [Bool.and_eq_true] at hb
        have b1 := beq_eq hb.1.1
        have b2 := beq_eq hb.1.2
        have b3 : id < k0 := Nat.le_of_ble_eq_true hb.2
        subst b1 b2
        injection hg with hg
        subst hg
        refine ⟨rfl, ⟨rfl, fun j o r ho => by simp at ho⟩, .inl b3, fun {u} hr => ?_⟩
        obtain ⟨b, hb, rfl⟩ := srel_bx hr
        refine .bx id off b ?_
        show (if id < k0 then c1.H id else _) = _
        rw [if_pos b3, F.hH]; exact hb
    · cases hg
  | .rf id, acc, x, r, g, hg, hz, k, hk, ho => by
    unfold fitS at hg
    split at hg
    · rename_i id'
      cases hb : (Nat.beq id id' && Nat.blt id k0) with
      | false => rw [hb] at hg; cases hg
      | true =>
        rw [hb] at hg
        simp only [Bool.and_eq_true] at hb
        have b1 := beq_eq hb.1
        have b3 : id < k0 := Nat.le_of_ble_eq_true hb.2
        subst b1
        injection hg with hg
        subst hg
        refine ⟨rfl, ⟨rfl, fun j o r ho => by simp at ho⟩, .inl b3, fun {u} hr => ?_⟩
        have e1 : (reCx c1 k0 own0).H id = c.H id := by
          show (if id < k0 then c1.H id else _) = _
          rw [if_pos b3, F.hH]
        rw [srel_os hr, ← e1]
        exact .os id
    · cases hg
  | .tp, acc, x, r, g, hg, hz, k, hk, ho => by
    unfold fitS at hg
    split at hg
    · injection hg with hg
      subst hg
      refine ⟨rfl, ⟨rfl, fun j o r ho => by simp at ho⟩, trivial, fun {u} hr => ?_⟩
      obtain ⟨T, hT, rfl⟩ := srel_tp hr
      exact .tp T (F.t.tK T hT)
    · cases hg
  | .un, acc, x, r, g, hg, hz, k, hk, ho => by
    unfold fitS at hg
    injection hg with hg
    subst hg
    exact ⟨rfl, ⟨rfl, fun j o r ho => by simp at ho⟩, trivial, fun {u} _ => .un u⟩
  | .agg cs, acc, x, r, g, hg, hz, k, hk, ho => by
    unfold fitS at hg
    split at hg
    · rename_i ss hs
      obtain ⟨q1, q2, q3, q4, q5⟩ := fitL_ok F cs acc ss r g hg hz k hk ho
      refine ⟨q1, q2, mkAgg_inU q3, fun {u} hr => ?_⟩
      obtain ⟨us, rfl, hl, h1, h2, _⟩ := aggOf_rel hs hr (SV.inU_all x)
      exact srel_mkAgg (by omega) h1 fun i s u hs hu => by
        have hi : i < ss.length := by have := (List.getElem?_eq_some_iff.1 hs).1; omega
        exact q5 i ss[i] s (List.getElem?_eq_getElem hi) hs (h2 i _ u (List.getElem?_eq_getElem hi) hu)
    · cases hg
  | .tup cs, acc, x, r, g, hg, hz, k, hk, ho => by
    unfold fitS at hg
    split at hg
    · rename_i ss hs
      have hx : x = .tup ss := by
        unfold tupOf at hs
        split at hs
        · injection hs with hs; rw [hs]
        · cases hs
      subst hx
      obtain ⟨q1, q2, q3, q4, q5⟩ := fitL_ok F cs acc ss r g hg hz k hk ho
      refine ⟨q1, q2, q3, fun {u} hr => ?_⟩
      cases hr with
      | tup _ us hl h2 =>
        exact .tup _ us (by omega) fun i s u hs hu => by
          have hi : i < ss.length := by have := (List.getElem?_eq_some_iff.1 hs).1; omega
          exact q5 i ss[i] s (List.getElem?_eq_getElem hi) hs (h2 i _ u (List.getElem?_eq_getElem hi) hu)
    · cases hg
theorem fitL_ok {m : Mem} {c c1 : Cx} {w : World} {ids0 : List Nat} (F : Fz m c c1 w ids0) {k0 : Nat} {own0 : List (Option Nat)} : ∀ (ss : List Sh) (acc : List Ty) (xs : List SV) (r : dens acc) (g : Got (shTL ss acc)), fitL m k0 ss acc xs r = some g → (∀ i ∈ g.fz, i ∈ ids0) → ∀ (k : Nat), k0 ≤ k → (∀ (j : Nat) (o : Option Nat), g.own[j]? = some o → own0[k - k0 + j]? = some o) →
    (instL ss acc g.v k).2.2 = r ∧ RowsOK m g.own (instL ss acc g.v k).2.1 ∧ inUL (fun i => i < k0 ∨ (k ≤ i ∧ i < k + g.own.length)) (instL ss acc g.v k).1 ∧ xs.length = (instL ss acc g.v k).1.length ∧ ∀ (i : Nat) (x y : SV), xs[i]? = some x → (instL ss acc g.v k).1[i]? = some y → ∀ {u : Value}, SRel c w x u → SRel (reCx c1 k0 own0) w y u
  | [], acc, [], r, g, hg, hz, k, hk, ho => by
    unfold fitL at hg
    injection hg with hg
    subst hg
    exact ⟨rfl, ⟨rfl, fun j o r ho => by simp at ho⟩, trivial, rfl, fun i x y hx => by simp at hx⟩
  | [], acc, _ :: _, r, g, hg, hz, k, hk, ho => by simp [fitL] at hg
  | _ :: _, acc, [], r, g, hg, hz, k, hk, ho => by simp [fitL] at hg
  | s :: ss, acc, x :: xs, r, g, hg, hz, k, hk, ho => by
    unfold fitL at hg
    split at hg
    · rename_i g1 h1
      split at hg
      · rename_i g2 h2
        injection hg with hg
        subst hg
        obtain ⟨p1, p2, p3, p4⟩ := fitS_ok F s (shTL ss acc) x g1.v g2 h2 (fun i hi => hz i (by simp [hi])) k hk (fun j o hj => ho j o (by
          have hjl := (List.getElem?_eq_some_iff.1 hj).1
          show (g2.own ++ g1.own)[j]? = some o
          rw [List.getElem?_append_left hjl]; exact hj))
        have hl : (instS s (shTL ss acc) g2.v k).2.1.length = g2.own.length := p2.1
        obtain ⟨q1, q2, q3, q4, q5⟩ := fitL_ok F ss acc xs r g1 h1 (fun i hi => hz i (by simp [hi])) (k + g2.own.length) (by omega) (fun j o hj => by
          have := ho (g2.own.length + j) o (by
            show (g2.own ++ g1.own)[g2.own.length + j]? = some o
            rw [List.getElem?_append_right (by omega), show g2.own.length + j - g2.own.length = j by omega]; exact hj)
          rw [show k + g2.own.length - k0 + j = k - k0 + (g2.own.length + j) by omega]; exact this)
        have e : instL (s :: ss) acc g2.v k = ((instS s (shTL ss acc) g2.v k).1 :: (instL ss acc g1.v (k + g2.own.length)).1, (instS s (shTL ss acc) g2.v k).2.1 ++ (instL ss acc g1.v (k + g2.own.length)).2.1, (instL ss acc g1.v (k + g2.own.length)).2.2) := by
          show (match instS s (shTL ss acc) g2.v k with | (x, rs, v') => match instL ss acc v' (k + rs.length) with | (xs, rs', v'') => (x :: xs, rs ++ rs', v'')) = _
          dsimp only
          rw [hl, p1]
        rw [e]
        refine ⟨q1, p2.app q2, ⟨SV.inU_mono (fun i hi => hi.imp id fun hi => ⟨hi.1, by rw [List.length_append]; omega⟩) _ p3, inUL_mono (fun i hi => hi.imp id fun hi => ⟨by omega, by rw [List.length_append]; omega⟩) _ q3⟩, by simp [q4], fun i x' y hx hy u hr => ?_⟩
        cases i with
        | zero => simp at hx hy; subst hx hy; exact p4 hr
        | succ i => simp at hx hy; exact q5 i x' y hx hy hr
      · cases hg
    · cases hg
end
end RE
end Go.Proofs.Ytpnmiieohdkenaa
namespace Go.Proofs.Ytpnmiieohdkenaa
open Go.RowKit
set_option linter.unusedVariables false
namespace RE
variable {P : Program}
structure Shape where
  sl : List (Nat × Sh)
  bx : List (Nat × List Sh)
  kl : List Nat
  ko : List Nat
  rw : List (Nat × TypeId × Ty)
def Shape.all (s : Shape) : List Sh := s.sl.map (·.2) ++ (s.bx.map (fun b => Sh.tup b.2) ++ s.rw.map (fun r => Sh.dat (.sl r.2.2)))
def Shape.tys (s : Shape) : List Ty := shTL s.all []
def rowsOb : Nat → List Row → List (Nat × Option Ob)
  | _, [] => []
  | k, r :: rs => (k, some (.row r.1 r.2.1 r.2.2)) :: rowsOb (k + 1) rs
def zipS : List (Nat × Sh) → List SV → List (Nat × SV)
  | p :: r, x :: xs => (p.1, x) :: zipS r xs
  | _, _ => []
def tupL : SV → List SV
  | .tup cs => cs
  | _ => []
def zipB : List (Nat × List Sh) → List SV → List (Nat × Option Ob)
  | p :: r, x :: xs => (p.1, some (.box (tupL x))) :: zipB r xs
  | _, _ => []
def listOf (t : Ty) : SV → List (den t)
  | .d d => (decL t d).getD []
  | _ => []
/-- A row (or a nest, where the base has one) with other elements. -/
def reOb (b : Option Ob) (e : TypeId) (t : Ty) (l : List (den t)) : Ob := match b with
  | some (.nst e0 _ k e' t' _) => .nst e0 t k e' t' l
  | _ => .row e t l
/-- Rows that were changed where they lie. -/
def zipR (B : Nat → Option Ob) : List (Nat × TypeId × Ty) → List SV → List (Nat × Option Ob)
  | p :: r, x :: xs => (p.1, some (reOb (B p.1) p.2.1 p.2.2 (listOf p.2.2 x))) :: zipR B r xs
  | _, _ => []
/-- The state of a shape over a base. -/
def Shape.inst (s : Shape) (base : St) (v : dens s.tys) : St :=
  ⟨zipS s.sl (instL s.all [] v base.ms.nx).1 ++ (s.kl.map (fun x => (x, SV.un)) ++ base.sl),
   ⟨zipB s.bx ((instL s.all [] v base.ms.nx).1.drop s.sl.length) ++ (zipR base.ms.obs s.rw ((instL s.all [] v base.ms.nx).1.drop (s.sl.length + s.bx.length)) ++ (rowsOb base.ms.nx (instL s.all [] v base.ms.nx).2.1 ++ (s.ko.map (fun x => (x, none)) ++ base.ms.ob))), base.ms.nx + (instL s.all [] v base.ms.nx).2.1.length, base.ms.tp⟩, base.n, [], []⟩
def boxOf (m : Mem) (id : Nat) : SV := match m.ob id with
  | some (.box cs) => .tup cs
  | _ => .un
def rowW (m : Mem) (id : Nat) : SV := match m.ob id with
  | some (.row _ t l) => .d (.sl t l)
  | some (.nst _ t _ _ _ l) => .d (.sl t l)
  | _ => .un
def isRow (m : Mem) (id : Nat) (e : TypeId) (t : Ty) : Bool := match m.ob id with
  | some (.row e' t' _) => Nat.beq e e' && t.beq t'
  | _ => false
def isNst : Option Ob → Bool
  | some (.nst _ _ _ _ _ _) => true
  | _ => false
/-- A row that is a row still, a nest that is a nest still. -/
def isRow2 (b s : Option Ob) (e : TypeId) (t : Ty) : Bool := match s with
  | some (.row e' t' _) => Nat.beq e e' && t.beq t' && !isNst b
  | some (.nst e1 t1 k1 f1 u1 _) => match b with
    | some (.nst e2 t2 k2 f2 u2 _) => t.beq t1 && Nat.beq e1 e2 && Nat.beq k1 k2 && Nat.beq f1 f2 && u1.beq u2
    | _ => false
  | _ => false
theorem isRow2_spec {b s : Option Ob} {e : TypeId} {t : Ty} (h : isRow2 b s e t = true) : ∃ l : List (den t), s = some (reOb b e t l) ∧ ((∃ l', s = some (.row e t l')) ∨ ∃ e1 k f u l', s = some (.nst e1 t k f u l')) ∧ (match s with | some (.row _ t l) => SV.d (.sl t l) | some (.nst _ t _ _ _ l) => .d (.sl t l) | _ => .un) = .d (.sl t l) := by
  unfold isRow2 at h
  split at h
  · rename_i e' t' l
    simp only [Bool.and_eq_true, Bool.not_eq_true'] at h
    obtain ⟨⟨b1, b2⟩, b3⟩ := h
    have b1 := beq_eq b1
    have b2 := Ty.beq_eq b2
    subst b1 b2
    refine ⟨l, ?_, .inl ⟨l, rfl⟩, rfl⟩
    unfold reOb
    split
    · cases b3
    · rfl
  · rename_i e1 t1 k1 f1 u1 l
    split at h
    · rename_i e2 t2 k2 f2 u2 l2
      simp only [Bool.and_eq_true] at h
      obtain ⟨⟨⟨⟨b1, b2⟩, b3⟩, b4⟩, b5⟩ := h
      have b1 := Ty.beq_eq b1
      have b2 := beq_eq b2
      have b3 := beq_eq b3
      have b4 := beq_eq b4
      have b5 := Ty.beq_eq b5
      subst b1 b2 b3 b4 b5
      exact ⟨l, rfl, .inr ⟨e1, k1, f1, u1, l, rfl⟩, rfl⟩
    · cases h
  · cases h
def isBox (m : Mem) (id : Nat) : Bool := match m.ob id with
  | some (.box _) => true
  | _ => false
def memK {α : Type} : List (Nat × α) → Nat → Bool
  | [], _ => false
  | p :: r, x => Nat.beq p.1 x || memK r x
def newsS (base st : St) : List (Nat × SV) := st.sl.take (st.sl.length - base.sl.length)
def oldOK (n : Nat) (ko : List Nat) (id : Nat) : Bool := Nat.ble n id || has ko id
def ownOK (n : Nat) (ko fz : List Nat) : List (Option Nat) → Bool
  | [] => true
  | none :: r => ownOK n ko fz r
  | some id :: r => oldOK n ko id && !(has fz id) && r.all (fun o => match o with
    | some j => !(Nat.beq id j)
    | none => true) && ownOK n ko fz r
def Shape.fit (s : Shape) (base st : St) : Option (dens s.tys) :=
  match fitL st.ms.mem base.ms.nx s.all [] (s.sl.map (fun p => look st.sl p.1) ++ (s.bx.map (fun b => boxOf st.ms.mem b.1) ++ s.rw.map (fun r => rowW st.ms.mem r.1))) () with
  | some g => bif (newsS base st).all (fun p => memK s.sl p.1 || has s.kl p.1) && (news base.ms st.ms).all (fun p => Nat.ble base.ms.nx p.1 || memK s.bx p.1 || has s.ko p.1 || memK s.rw p.1) && g.fz.all (oldOK base.ms.nx s.ko) && ownOK base.ms.nx s.ko g.fz g.own && s.bx.all (fun b => Nat.blt b.1 base.ms.nx && isBox st.ms.mem b.1) && s.rw.all (fun r => Nat.blt r.1 base.ms.nx && !(has s.ko r.1) && isRow2 (base.ms.obs r.1) (st.ms.obs r.1) r.2.1 r.2.2) && base.gs.isEmpty && (st.ms.tp == base.ms.tp) then some g.v else none
  | none => none
def lookK {α : Type} : List (Nat × α) → Nat → Option α
  | [], _ => none
  | p :: r, x => bif Nat.beq p.1 x then some p.2 else lookK r x
theorem lookK_cons {α : Type} (p : Nat × α) (r : List (Nat × α)) (x : Nat) : lookK (p :: r) x = if p.1 = x then some p.2 else lookK r x := by
  show (bif Nat.beq p.1 x then _ else _) = _
  by_cases h : p.1 = x
  · rw [h]; simp
  · rw [beq_ne h, if_neg h]; rfl
theorem look_app : ∀ (l r : List (Nat × SV)) (x : Nat), look (l ++ r) x = (lookK l x).getD (look r x)
  | [], r, x => rfl
  | (k, v) :: l, r, x => by
    rw [List.cons_append, look_cons, lookK_cons]
    by_cases h : k = x
    · rw [if_pos h, if_pos h]; rfl
    · rw [if_neg h, if_neg h]; exact look_app l r x
theorem lookO_app' : ∀ (l r : List (Nat × Option Ob)) (x : Nat), lookO (l ++ r) x = (lookK l x).getD (lookO r x)
  | [], r, x => rfl
  | (k, v) :: l, r, x => by
    rw [List.cons_append, lookO_cons, lookK_cons]
    by_cases h : k = x
    · subst h; rw [if_pos rfl, put_same]; rfl
    · rw [if_neg h, put_ne _ _ (fun e => h e.symm)]; exact lookO_app' l r x
theorem lookK_none {α : Type} : ∀ {l : List (Nat × α)} {x : Nat}, lookK l x = none → memK l x = false
  | [], x, _ => rfl
  | p :: r, x, h => by
    rw [lookK_cons] at h
    split at h
    · cases h
    · rename_i hn
      show (Nat.beq p.1 x || memK r x) = false
      rw [beq_ne hn, lookK_none h]; rfl
theorem lookK_mem {α : Type} : ∀ {l : List (Nat × α)} {x : Nat} {v : α}, lookK l x = some v → (x, v) ∈ l
  | p :: r, x, v, h => by
    rw [lookK_cons] at h
    split at h
    · rename_i e
      injection h with h
      subst e h
      exact List.mem_cons_self
    · exact List.mem_cons_of_mem _ (lookK_mem h)
theorem lookK_un {α : Type} (f : Nat → α) : ∀ (l : List Nat) (x : Nat), lookK (l.map fun y => (y, f y)) x = if has l x = true then some (f x) else none
  | [], x => rfl
  | y :: r, x => by
    rw [List.map_cons, lookK_cons]
    by_cases h : y = x
    · subst h; rw [if_pos rfl, if_pos (has_cons.2 (.inl rfl))]
    · rw [if_neg h, lookK_un f r x]
      by_cases h2 : has r x = true
      · rw [if_pos h2, if_pos (has_cons.2 (.inr h2))]
      · rw [if_neg h2, if_neg (fun e => (has_cons.1 e).elim h h2)]
theorem zipS_some : ∀ {l : List (Nat × Sh)} {xs : List SV} {x : Nat} {v : SV}, lookK (zipS l xs) x = some v → ∃ (i : Nat) (p : Nat × Sh), l[i]? = some p ∧ p.1 = x ∧ xs[i]? = some v
  | [], _, x, v, h => by simp [zipS, lookK] at h
  | p :: r, [], x, v, h => by simp [zipS, lookK] at h
  | p :: r, y :: xs, x, v, h => by
    rw [zipS, lookK_cons] at h
    split at h
    · rename_i e
      injection h with h
      exact ⟨0, p, rfl, e, by rw [← h]; rfl⟩
    · obtain ⟨i, q, h1, h2, h3⟩ := zipS_some h
      exact ⟨i + 1, q, h1, h2, h3⟩
theorem zipS_none : ∀ {l : List (Nat × Sh)} {xs : List SV} {x : Nat}, l.length ≤ xs.length → lookK (zipS l xs) x = none → memK l x = false
  | [], _, x, _, h => rfl
  | p :: r, [], x, hl, h => by simp at hl
  | p :: r, y :: xs, x, hl, h => by
    rw [zipS, lookK_cons] at h
    split at h
    · cases h
    · rename_i e
      show (Nat.beq p.1 x || memK r x) = false
      rw [beq_ne e, zipS_none (by simpa using hl) h]; rfl
theorem zipB_some : ∀ {l : List (Nat × List Sh)} {xs : List SV} {x : Nat} {v : Option Ob}, lookK (zipB l xs) x = some v → ∃ (i : Nat) (p : Nat × List Sh) (y : SV), l[i]? = some p ∧ p.1 = x ∧ xs[i]? = some y ∧ v = some (.box (tupL y))
  | [], _, x, v, h => by simp [zipB, lookK] at h
  | p :: r, [], x, v, h => by simp [zipB, lookK] at h
  | p :: r, y :: xs, x, v, h => by
    rw [zipB, lookK_cons] at h
    split at h
    · rename_i e
      injection h with h
      exact ⟨0, p, y, rfl, e, rfl, h.symm⟩
    · obtain ⟨i, q, y', h1, h2, h3, h4⟩ := zipB_some h
      exact ⟨i + 1, q, y', h1, h2, h3, h4⟩
theorem zipB_none : ∀ {l : List (Nat × List Sh)} {xs : List SV} {x : Nat}, l.length ≤ xs.length → lookK (zipB l xs) x = none → memK l x = false
  | [], _, x, _, h => rfl
  | p :: r, [], x, hl, h => by simp at hl
  | p :: r, y :: xs, x, hl, h => by
    rw [zipB, lookK_cons] at h
    split at h
    · cases h
    · rename_i e
      show (Nat.beq p.1 x || memK r x) = false
      rw [beq_ne e, zipB_none (by simpa using hl) h]; rfl
theorem zipR_some {B : Nat → Option Ob} : ∀ {l : List (Nat × TypeId × Ty)} {xs : List SV} {x : Nat} {v : Option Ob}, lookK (zipR B l xs) x = some v → ∃ (i : Nat) (p : Nat × TypeId × Ty) (y : SV), l[i]? = some p ∧ p.1 = x ∧ xs[i]? = some y ∧ v = some (reOb (B p.1) p.2.1 p.2.2 (listOf p.2.2 y))
  | [], _, x, v, h => by simp [zipR, lookK] at h
  | p :: r, [], x, v, h => by simp [zipR, lookK] at h
  | p :: r, y :: xs, x, v, h => by
    rw [zipR, lookK_cons] at h
    split at h
    · rename_i e
      injection h with h
      exact ⟨0, p, y, rfl, e, rfl, h.symm⟩
    · obtain ⟨i, q, y', h1, h2, h3, h4⟩ := zipR_some h
      exact ⟨i + 1, q, y', h1, h2, h3, h4⟩
theorem zipR_none {B : Nat → Option Ob} : ∀ {l : List (Nat × TypeId × Ty)} {xs : List SV} {x : Nat}, l.length ≤ xs.length → lookK (zipR B l xs) x = none → memK l x = false
  | [], _, x, _, h => rfl
  | p :: r, [], x, hl, h => by simp at hl
  | p :: r, y :: xs, x, hl, h => by
    rw [zipR, lookK_cons] at h
    split at h
    · cases h
    · rename_i e
      show (Nat.beq p.1 x || memK r x) = false
      rw [beq_ne e, zipR_none (by simpa using hl) h]; rfl
theorem Ty.beq_refl : ∀ t : Ty, t.beq t = true
  | .int _ => by simp [Ty.beq]
  | .bool => rfl
  | .str => rfl
  | .sl t => Ty.beq_refl t
  | .st _ => Nat.beq_refl _
mutual
theorem fitS_rest {m : Mem} {n : Nat} : ∀ (s : Sh) (acc : List Ty) (x : SV) (r : dens acc) (g : Got (shT s acc)), fitS m n s acc x r = some g → ∀ k, (instS s acc g.v k).2.2 = r
  | .dat t, acc, x, r, g, hg, k => by
    unfold fitS at hg
    split at hg
    · split at hg
      · injection hg with hg; subst hg; rfl
      · cases hg
    · cases hg
  | .own e t, acc, x, r, g, hg, k => by
    unfold fitS at hg
    split at hg
    · split at hg
      · rename_i e' t' l hl
        cases hb : Nat.beq e e' with
        | false => rw [hb] at hg; cases hg
        | true =>
          rw [hb] at hg
          simp only [cond_true] at hg
          split at hg
          · injection hg with hg; subst hg; rfl
          · cases hg
      · cases hg
    · rename_i y
      cases hb : (isNil y && Nat.ble 1 (size t)) with
      | false => rw [hb] at hg; cases hg
      | true =>
        rw [hb] at hg
        simp only [cond_true] at hg
        injection hg with hg; subst hg; rfl
    · cases hg
  | .bx id off, acc, x, r, g, hg, k => by
    unfold fitS at hg
    split at hg
    · rename_i id' off'
      cases hb : (Nat.beq id id' && Nat.beq off off' && Nat.blt id n) with
      | false => rw [hb] at hg; cases hg
      | true =>
        rw [hb] at hg
        simp only [cond_true] at hg
        injection hg with hg; subst hg; rfl
    · cases hg
  | .rf id, acc, x, r, g, hg, k => by
    unfold fitS at hg
    split at hg
    · rename_i id'
      cases hb : (Nat.beq id id' && Nat.blt id n) with
      | false => rw [hb] at hg; cases hg
      | true =>
        rw [hb] at hg
        simp only [cond_true] at hg
        injection hg with hg; subst hg; rfl
    · cases hg
  | .tp, acc, x, r, g, hg, k => by
    unfold fitS at hg
    split at hg
    · injection hg with hg; subst hg; rfl
    · cases hg
  | .un, acc, x, r, g, hg, k => by
    unfold fitS at hg
    injection hg with hg; subst hg; rfl
  | .agg cs, acc, x, r, g, hg, k => by
    unfold fitS at hg
    split at hg
    · exact fitL_rest cs acc _ r g hg k
    · cases hg
  | .tup cs, acc, x, r, g, hg, k => by
    unfold fitS at hg
    split at hg
    · exact fitL_rest cs acc _ r g hg k
    · cases hg
theorem fitL_rest {m : Mem} {n : Nat} : ∀ (ss : List Sh) (acc : List Ty) (xs : List SV) (r : dens acc) (g : Got (shTL ss acc)), fitL m n ss acc xs r = some g → ∀ k, (instL ss acc g.v k).2.2 = r
  | [], acc, [], r, g, hg, k => by
    unfold fitL at hg
    injection hg with hg; subst hg; rfl
  | [], acc, _ :: _, r, g, hg, k => by simp [fitL] at hg
  | s :: ss, acc, [], r, g, hg, k => by simp [fitL] at hg
  | s :: ss, acc, x :: xs, r, g, hg, k => by
    unfold fitL at hg
    split at hg
    · rename_i g1 h1
      split at hg
      · rename_i g2 h2
        injection hg with hg
        subst hg
        have e1 := fitS_rest s (shTL ss acc) x g1.v g2 h2 k
        show (instL ss acc (instS s (shTL ss acc) g2.v k).2.2 _).2.2 = r
        rw [e1]
        exact fitL_rest ss acc xs r g1 h1 _
      · cases hg
    · cases hg
end
theorem castL_same (t : Ty) (l : List (den t)) : castL t t l = some l := by
  unfold castL
  split
  · rfl
  · rename_i h; exact absurd (Ty.beq_refl t) h
/-- What fits as data is the data. -/
theorem fitL_dat {m : Mem} {n : Nat} : ∀ (ss : List Sh) (acc : List Ty) (xs : List SV) (r : dens acc) (g : Got (shTL ss acc)), fitL m n ss acc xs r = some g → ∀ (i k : Nat) (t : Ty) (l : List (den t)), ss[i]? = some (.dat (.sl t)) → xs[i]? = some (.d (.sl t l)) → (instL ss acc g.v k).1[i]? = some (.d (.sl t l))
  | [], acc, xs, r, g, hg, i, k, t, l, hs, hx => by simp at hs
  | s :: ss, acc, [], r, g, hg, i, k, t, l, hs, hx => by simp at hx
  | s :: ss, acc, x :: xs, r, g, hg, i, k, t, l, hs, hx => by
    unfold fitL at hg
    split at hg
    · rename_i g1 h1
      split at hg
      · rename_i g2 h2
        injection hg with hg
        subst hg
        cases i with
        | zero =>
          simp at hs hx
          subst hs hx
          unfold fitS at h2
          have e1 : dataOf m (.d (.sl t l)) = some (.sl t l, []) := by unfold dataOf; rfl
          simp only [e1] at h2
          have e2 : undoT (.sl t) (.sl t l) = some l := castL_same t l
          simp only [e2] at h2
          injection h2 with h2
          subst h2
          rfl
        | succ i =>
          have hrec := fun k => fitL_dat ss acc xs r g1 h1 i k t l (by simpa using hs) (by simpa using hx)
          have e := (fitS_rest s (shTL ss acc) x g1.v g2 h2 k)
          show (_ :: _)[i + 1]? = _
          rw [List.getElem?_cons_succ]
          show (instL ss acc (instS s (shTL ss acc) g2.v k).2.2 _).1[i]? = _
          rw [e]
          exact hrec _
      · cases hg
    · cases hg
theorem rowsOb_some : ∀ {rs : List Row} {k x : Nat} {v : Option Ob}, lookK (rowsOb k rs) x = some v → ∃ (j : Nat) (r : Row), x = k + j ∧ rs[j]? = some r ∧ v = some (.row r.1 r.2.1 r.2.2)
  | [], k, x, v, h => by simp [rowsOb, lookK] at h
  | r :: rs, k, x, v, h => by
    rw [rowsOb, lookK_cons] at h
    split at h
    · rename_i e
      injection h with h
      exact ⟨0, r, e.symm, rfl, h.symm⟩
    · obtain ⟨j, q, h1, h2, h3⟩ := rowsOb_some h
      exact ⟨j + 1, q, by omega, h2, h3⟩
theorem rowsOb_none : ∀ {rs : List Row} {k x : Nat}, lookK (rowsOb k rs) x = none → x < k ∨ k + rs.length ≤ x
  | [], k, x, _ => by simp; omega
  | r :: rs, k, x, h => by
    rw [rowsOb, lookK_cons] at h
    split at h
    · cases h
    · rename_i e
      rcases rowsOb_none h with q | q
      · left; simp at e; omega
      · right; simp; omega
mutual
theorem instS_noC : ∀ (s : Sh) (acc : List Ty) (v : dens (shT s acc)) (k : Nat) {q : Nat} {wt g : Bool} {y : SV}, (instS s acc v k).1 ≠ .cnd q wt g y
  | .dat t, acc, v, k, _, _, _, _ => fun e => by cases e
  | .own e t, acc, v, k, _, _, _, _ => fun e => by cases e
  | .bx id off, acc, v, k, _, _, _, _ => fun e => by cases e
  | .rf id, acc, v, k, _, _, _, _ => fun e => by cases e
  | .tp, acc, v, k, _, _, _, _ => fun e => by cases e
  | .un, acc, v, k, _, _, _, _ => fun e => by cases e
  | .agg cs, acc, v, k, _, _, _, _ => fun e => by
    have e : mkAgg (instL cs acc v k).1 = .cnd _ _ _ _ := e
    unfold mkAgg at e
    split at e <;> cases e
  | .tup cs, acc, v, k, _, _, _, _ => fun e => by cases e
theorem instL_noC : ∀ (ss : List Sh) (acc : List Ty) (v : dens (shTL ss acc)) (k i : Nat) {q : Nat} {wt g : Bool} {y : SV}, (instL ss acc v k).1[i]? ≠ some (.cnd q wt g y)
  | [], acc, v, k, i, _, _, _, _ => fun e => by simp [instL] at e
  | s :: ss, acc, v, k, i, _, _, _, _ => fun e => by
    cases i with
    | zero => exact instS_noC s (shTL ss acc) v k (by simpa [instL] using e)
    | succ i => exact instL_noC ss acc _ _ i (by simpa [instL] using e)
end
theorem instL_tup : ∀ (ss : List Sh) (acc : List Ty) (v : dens (shTL ss acc)) (k i : Nat) {cs : List Sh} {y : SV}, ss[i]? = some (.tup cs) → (instL ss acc v k).1[i]? = some y → ∃ ys, y = .tup ys
  | [], acc, v, k, i, _, _, h, _ => by simp at h
  | s :: ss, acc, v, k, i, _, _, h, e => by
    cases i with
    | zero =>
      simp at h
      subst h
      exact ⟨_, (by simpa [instL, instS] using e.symm)⟩
    | succ i => exact instL_tup ss acc _ _ i (by simpa using h) (by simpa [instL] using e)
theorem all_has {l : List Nat} {p : Nat → Bool} (h : l.all p = true) {x : Nat} (hx : x ∈ l) : p x = true := List.all_eq_true.1 h x hx
theorem has_mem {l : List Nat} {x : Nat} (h : x ∈ l) : has l x = true := by
  induction l with
  | nil => cases h
  | cons y r ih =>
    rcases List.mem_cons.1 h with e | e
    · exact has_cons.2 (.inl e.symm)
    · exact has_cons.2 (.inr (ih e))
theorem ownOK_spec {n : Nat} {ko fz : List Nat} : ∀ {own : List (Option Nat)}, ownOK n ko fz own = true → (∀ (j id : Nat), own[j]? = some (some id) → oldOK n ko id = true ∧ has fz id = false) ∧ ∀ (i j id : Nat), i ≠ j → own[i]? = some (some id) → own[j]? ≠ some (some id)
  | [], _ => ⟨fun j id h => by simp at h, fun i j id _ h => by simp at h⟩
  | none :: r, h => by
    obtain ⟨h1, h2⟩ := ownOK_spec (own := r) h
    refine ⟨fun j id hj => ?_, fun i j id hne hi hj => ?_⟩
    · cases j with
      | zero => simp at hj
      | succ j => exact h1 j id (by simpa using hj)
    · cases i with
      | zero => simp at hi
      | succ i =>
        cases j with
        | zero => simp at hj
        | succ j => exact h2 i j id (by omega) (by simpa using hi) (by simpa using hj)
  | some id0 :: r, h => by
    unfold ownOK at h
    simp only [Bool.and_eq_true, Bool.not_eq_true'] at h
    obtain ⟨⟨⟨a1, a2⟩, a3⟩, a4⟩ := h
    obtain ⟨h1, h2⟩ := ownOK_spec (own := r) a4
    have hn : ∀ j id, r[j]? = some (some id) → id0 ≠ id := fun j id hj e => by
      have := List.all_eq_true.1 a3 (some id) (List.mem_of_getElem? hj)
      rw [e] at this
      simp at this
    refine ⟨fun j id hj => ?_, fun i j id hne hi hj => ?_⟩
    · cases j with
      | zero => simp at hj; subst hj; exact ⟨a1, a2⟩
      | succ j => exact h1 j id (by simpa using hj)
    · cases i with
      | zero =>
        simp at hi
        subst hi
        cases j with
        | zero => exact hne rfl
        | succ j => exact hn j id0 (by simpa using hj) rfl
      | succ i =>
        cases j with
        | zero => simp at hj; subst hj; exact hn i id0 (by simpa using hi) rfl
        | succ j => exact h2 i j id (by omega) (by simpa using hi) (by simpa using hj)
end RE
end Go.Proofs.Ytpnmiieohdkenaa
namespace Go.Proofs.Ytpnmiieohdkenaa
open Go.RowKit
set_option linter.unusedVariables false
namespace RE
variable {P : Program}
theorem zipS_len : ∀ (l : List (Nat × Sh)) (r : List (Nat × List Sh)), (l.map (·.2) ++ r.map (fun b => Sh.tup b.2)).length = l.length + r.length := by intro l r; simp
theorem Shape.fit_ok {s : Shape} {base st : St} {v : dens s.tys} (hf : s.fit base st = some v) {a0 a : Act} {w0 w : World} {c0 c : Cx} (hb : RX base a0 w0 c0) (hs : Step base a0 w0 c0 st a w c) : ∃ c', Step base a0 w0 c0 (s.inst base v) a w c' := by
  unfold Shape.fit at hf
  split at hf
  rotate_left
  · cases hf
  rename_i g hg
  generalize hck : ((newsS base st).all (fun p => memK s.sl p.1 || has s.kl p.1) && (news base.ms st.ms).all (fun p => Nat.ble base.ms.nx p.1 || memK s.bx p.1 || has s.ko p.1 || memK s.rw p.1) && g.fz.all (oldOK base.ms.nx s.ko) && ownOK base.ms.nx s.ko g.fz g.own && s.bx.all (fun b => Nat.blt b.1 base.ms.nx && isBox st.ms.mem b.1) && s.rw.all (fun r => Nat.blt r.1 base.ms.nx && !(has s.ko r.1) && isRow2 (base.ms.obs r.1) (st.ms.obs r.1) r.2.1 r.2.2) && base.gs.isEmpty && (st.ms.tp == base.ms.tp)) = ck at hf
  cases ck with
  | false => cases hf
  | true =>
    injection hf with hf
    subst hf
    simp only [Bool.and_eq_true] at hck
    obtain ⟨⟨⟨⟨⟨⟨⟨k1, k2⟩, k3⟩, k4⟩, k5⟩, k8⟩, k6⟩, k7⟩ := hck
    have k7 : st.ms.tp = base.ms.tp := by simpa using k7
    have k6 : base.gs = [] := by simpa using k6
    obtain ⟨ow1, ow2⟩ := ownOK_spec k4
    obtain ⟨fr1, ⟨lS, hlS⟩, ⟨lO, hlO⟩, htp⟩ := hs.fr
    have hnS : newsS base st = lS := by
      unfold newsS
      rw [hlS, List.length_append, show lS.length + base.sl.length - base.sl.length = lS.length by omega, List.take_left]
    have hnO : news base.ms st.ms = lO := by
      unfold news
      rw [hlO, List.length_append, show lO.length + base.ms.ob.length - base.ms.ob.length = lO.length by omega, List.take_left]
    rw [hnS] at k1
    rw [hnO] at k2
    -- rows become stable
    obtain ⟨c1, ox1, t1, hH1, hT1⟩ := hs.rx.ox.freezes g.fz
    have F : Fz st.ms.mem c c1 w g.fz := ⟨hs.rx.ox, ox1, t1, hH1⟩
    obtain ⟨_, q2, q3, q4, q5⟩ := fitL_ok F (k0 := base.ms.nx) (own0 := g.own) s.all [] _ () g hg (fun _ h => h) base.ms.nx (Nat.le_refl _) (fun j o h => by rw [Nat.sub_self, Nat.zero_add]; exact h)
    generalize hI : instL s.all [] g.v base.ms.nx = I at q2 q3 q4 q5
    obtain ⟨ys, rs, rest⟩ := I
    simp only at q2 q3 q4 q5
    have hrl : rs.length = g.own.length := q2.1
    have hnxm : base.ms.nx ≤ st.ms.nx := by
      rcases Nat.lt_or_ge st.ms.nx base.ms.nx with hlt | hge
      · have := hs.tr.uU st.ms.nx (show st.ms.nx < base.ms.nx from hlt)
        exact absurd (show st.ms.nx < st.ms.nx from this) (Nat.lt_irrefl _)
      · exact hge
    let nx := base.ms.nx
    let c2 := reCx c1 nx g.own
    have hH2 : ∀ i, i < nx → c2.H i = c1.H i ∧ c2.F i = c1.F i := fun i hi => ⟨if_pos hi, if_pos hi⟩
    have hN2 : ∀ j o, g.own[j]? = some o → c2.H (nx + j) = ownH c1.H o ∧ c2.F (nx + j) = ownF c1.F o := fun j o ho => by
      have e : nx + j - nx = j := by omega
      refine ⟨?_, ?_⟩
      · show (if nx + j < nx then _ else _) = _
        rw [if_neg (by omega), e, ho]; rfl
      · show (if nx + j < nx then _ else _) = _
        rw [if_neg (by omega), e, ho]; rfl
    have T1 : Tr base.ms.obs base.ms.U w0 c0 (ovr st.ms.mem.ob (fzU st.ms.mem.ob g.fz)) st.ms.mem.U w c1 := hs.tr.trans t1
    -- a slot's word of the base, under the new numbers
    have old : ∀ {x : SV} {u : Value}, x.inU base.ms.U → SRel c w x u → SRel c2 w x u := fun hu hr => by
      have h1 := t1.srel hs.rx.ox hr (SV.inU_mono hs.tr.uU _ hu)
      exact SRel.mono (c := c1) (c' := c2) (U := base.ms.U) (fun _ _ h => h) (fun _ _ _ => rfl) (fun _ h => h) (fun i hi => (hH2 i hi).1) h1 hu
    -- the objects
    have hlo : ∀ id, lookO st.ms.ob id = (lookK lO id).getD (lookO base.ms.ob id) := fun id => by rw [hlO]; exact lookO_app' _ _ _
    have hob : ∀ id x, (s.inst base g.v).ms.obs id = some x →
        (∃ i p y cs, s.bx[i]? = some p ∧ p.1 = id ∧ ys[s.sl.length + i]? = some y ∧ x = .box (tupL y) ∧ st.ms.obs id = some (.box cs) ∧ ∀ u, SRel c w (.tup cs) u → SRel c2 w y u) ∨
        (∃ j r o, id = nx + j ∧ rs[j]? = some r ∧ g.own[j]? = some o ∧ x = .row r.1 r.2.1 r.2.2) ∨
        (id < nx ∧ x.inU base.ms.U ∧ st.ms.obs id = some x ∧ has s.ko id = false) := by
      intro id x hx
      have hx : lookO (zipB s.bx ((instL s.all [] g.v base.ms.nx).1.drop s.sl.length) ++ (zipR base.ms.obs s.rw ((instL s.all [] g.v base.ms.nx).1.drop (s.sl.length + s.bx.length)) ++ (rowsOb base.ms.nx (instL s.all [] g.v base.ms.nx).2.1 ++ (s.ko.map (fun x => (x, none)) ++ base.ms.ob)))) id = some x := hx
      rw [hI] at hx
      simp only at hx
      rw [lookO_app'] at hx
      cases hz : lookK (zipB s.bx (ys.drop s.sl.length)) id with
      | some v =>
        rw [hz] at hx
        obtain ⟨i, p, y, h1, h2, h3, h4⟩ := zipB_some hz
        rw [List.getElem?_drop] at h3
        have hx : v = some x := hx
        rw [h4] at hx
        injection hx with hx
        have hxs : (s.sl.map (fun p => look st.sl p.1) ++ (s.bx.map (fun b => boxOf st.ms.mem b.1) ++ s.rw.map (fun r => rowW st.ms.mem r.1)))[s.sl.length + i]? = some (boxOf st.ms.mem p.1) := by
          rw [List.getElem?_append_right (by simp), List.length_map, show s.sl.length + i - s.sl.length = i by omega, List.getElem?_append_left (by simpa using (List.getElem?_eq_some_iff.1 h1).1), List.getElem?_map, h1]; rfl
        have hrel := fun u => @q5 _ _ _ hxs h3 u
        -- the box is a box
        have hbx : ∃ cs, st.ms.obs id = some (.box cs) := by
          have := (Bool.and_eq_true_iff.1 (List.all_eq_true.1 k5 p (List.mem_of_getElem? h1))).2
          rw [h2] at this
          have this : (match st.ms.obs id with | some (.box _) => true | _ => false) = true := this
          split at this
          · rename_i cs hcs; exact ⟨cs, hcs⟩
          · cases this
        obtain ⟨cs, hcs⟩ := hbx
        refine .inl ⟨i, p, y, cs, h1, h2, h3, hx.symm, hcs, fun u hu => hrel u ?_⟩
        have : boxOf st.ms.mem p.1 = .tup cs := by
          unfold boxOf
          rw [h2]
          show (match st.ms.obs id with | some (.box cs) => SV.tup cs | _ => .un) = _
          rw [hcs]
        rw [this]; exact hu
      | none =>
        rw [hz] at hx
        have hbxk : memK s.bx id = false := zipB_none (by
          rw [List.length_drop]
          have : ys.length = s.sl.length + (s.bx.length + s.rw.length) := by rw [← q4]; simp
          omega) hz
        have hx : lookO (zipR base.ms.obs s.rw (ys.drop (s.sl.length + s.bx.length)) ++ (rowsOb base.ms.nx rs ++ (s.ko.map (fun x => (x, none)) ++ base.ms.ob))) id = some x := hx
        rw [lookO_app'] at hx
        cases hzr : lookK (zipR base.ms.obs s.rw (ys.drop (s.sl.length + s.bx.length))) id with
        | some v =>
          rw [hzr] at hx
          obtain ⟨i, p, y, h1, h2, h3, h4⟩ := zipR_some hzr
          rw [List.getElem?_drop] at h3
          have hx : v = some x := hx
          rw [h4] at hx
          injection hx with hx
          have hck := List.all_eq_true.1 k8 p (List.mem_of_getElem? h1)
          simp only [Bool.and_eq_true, Bool.not_eq_true'] at hck
          obtain ⟨⟨c1', c2'⟩, c3'⟩ := hck
          obtain ⟨id0, e0, t0⟩ := p
          simp only at h2 c1' c2' c3' hx h4
          subst h2
          obtain ⟨l, hrow, hkind, hdat⟩ := isRow2_spec c3'
          have hxs : (s.sl.map (fun p => look st.sl p.1) ++ (s.bx.map (fun b => boxOf st.ms.mem b.1) ++ s.rw.map (fun r => rowW st.ms.mem r.1)))[s.sl.length + s.bx.length + i]? = some (.d (.sl t0 l)) := by
            rw [List.getElem?_append_right (by simp; omega), List.length_map, List.getElem?_append_right (by simp; omega), List.length_map, show s.sl.length + s.bx.length + i - s.sl.length - s.bx.length = i by omega, List.getElem?_map, h1]
            exact congrArg some hdat
          have hss : s.all[s.sl.length + s.bx.length + i]? = some (.dat (.sl t0)) := by
            unfold Shape.all
            rw [List.getElem?_append_right (by simp; omega), List.length_map, List.getElem?_append_right (by simp; omega), List.length_map, show s.sl.length + s.bx.length + i - s.sl.length - s.bx.length = i by omega, List.getElem?_map, h1]; rfl
          have hy := fitL_dat s.all [] _ () g hg _ base.ms.nx t0 l hss hxs
          rw [hI] at hy
          have hy : ys[s.sl.length + s.bx.length + i]? = some (.d (.sl t0 l)) := hy
          rw [hy] at h3
          injection h3 with h3
          subst h3
          have hlo2 : listOf t0 (.d (.sl t0 l)) = l := by
            show (castL t0 t0 l).getD [] = l
            rw [castL_same]; rfl
          rw [hlo2] at hx
          subst hx
          refine .inr (.inr ⟨Nat.le_of_ble_eq_true c1', ?_, hrow, c2'⟩)
          rcases hkind with ⟨l', e9⟩ | ⟨_, _, _, _, l', e9⟩
          · rw [hrow] at e9; injection e9 with e9; rw [e9]; trivial
          · rw [hrow] at e9; injection e9 with e9; rw [e9]; trivial
        | none =>
        rw [hzr] at hx
        have hrwk : memK s.rw id = false := zipR_none (by
          rw [List.length_drop]
          have : ys.length = s.sl.length + (s.bx.length + s.rw.length) := by rw [← q4]; simp
          omega) hzr
        have hx : lookO (rowsOb base.ms.nx rs ++ (s.ko.map (fun x => (x, none)) ++ base.ms.ob)) id = some x := hx
        rw [lookO_app'] at hx
        cases hr : lookK (rowsOb base.ms.nx rs) id with
        | some v =>
          rw [hr] at hx
          obtain ⟨j, r, h1, h2, h3⟩ := rowsOb_some hr
          have hx : v = some x := hx
          rw [h3] at hx
          injection hx with hx
          have hj : j < g.own.length := by rw [← hrl]; exact (List.getElem?_eq_some_iff.1 h2).1
          exact .inr (.inl ⟨j, r, g.own[j], h1, h2, List.getElem?_eq_getElem hj, hx.symm⟩)
        | none =>
          rw [hr] at hx
          have hx : lookO (s.ko.map (fun x => (x, none)) ++ base.ms.ob) id = some x := hx
          rw [lookO_app', lookK_un (fun _ => (none : Option Ob))] at hx
          cases hk : has s.ko id with
          | true => rw [hk] at hx; cases hx
          | false =>
            rw [hk] at hx
            have hx : lookO base.ms.ob id = some x := hx
            have hlt : id < nx := (hb.ox.objs id x hx).1
            refine .inr (.inr ⟨hlt, (hb.ox.objs id x hx).2.1, ?_, rfl⟩)
            show lookO st.ms.ob id = some x
            rw [hlo id]
            cases hn : lookK lO id with
            | none => exact hx
            | some v =>
              have := List.all_eq_true.1 k2 (id, v) (lookK_mem hn)
              simp only [Bool.or_eq_true] at this
              rcases this with ((e | e) | e) | e
              · have e := Nat.le_of_ble_eq_true e
                have hlt : id < base.ms.nx := hlt
                omega
              · rw [hbxk] at e; cases e
              · rw [hk] at e; cases e
              · rw [hrwk] at e; cases e
    have hnotfz : ∀ id, id < nx → has s.ko id = false → id ∉ g.fz := fun id hlt hk hm => by
      have := all_has k3 hm
      unfold oldOK at this
      rw [hk, Bool.or_false] at this
      have := Nat.le_of_ble_eq_true this
      omega
    have ob1 : ∀ id x, st.ms.obs id = some x → id ∉ g.fz → ovr st.ms.mem.ob (fzU st.ms.mem.ob g.fz) id = some x := fun id x hx hn => by
      rcases fzU_at st.ms.mem.ob g.fz id with ⟨e, _⟩ | ⟨_, _, _, _, _, e⟩ | ⟨_, _, _, _, _, _, _, _, e⟩
      · exact e.trans hx
      · exact absurd e hn
      · exact absurd e hn
    have obx : ∀ id cs, st.ms.obs id = some (.box cs) → ovr st.ms.mem.ob (fzU st.ms.mem.ob g.fz) id = some (.box cs) := fun id cs hx => by
      rcases fzU_at st.ms.mem.ob g.fz id with ⟨e, _⟩ | ⟨e1, e2, e3, e4, _⟩ | ⟨e1, e2, e3, e5, e6, e7, e4, _⟩
      · exact e.trans hx
      · have : st.ms.obs id = _ := e4
        rw [hx] at this; cases this
      · have : st.ms.obs id = _ := e4
        rw [hx] at this; cases this
    have bxlt : ∀ (i : Nat) (p : Nat × List Sh), s.bx[i]? = some p → p.1 < nx := fun i p hp => by
      have := (Bool.and_eq_true_iff.1 (List.all_eq_true.1 k5 p (List.mem_of_getElem? hp))).1
      exact Nat.le_of_ble_eq_true this
    have tupy : ∀ (i : Nat) (p : Nat × List Sh) (y : SV), s.bx[i]? = some p → ys[s.sl.length + i]? = some y → ∃ zs, y = .tup zs := fun i p y hp hy => by
      have e : s.all[s.sl.length + i]? = some (.tup p.2) := by
        unfold Shape.all
        rw [List.getElem?_append_right (by simp), List.length_map, show s.sl.length + i - s.sl.length = i by omega, List.getElem?_append_left (by simpa using (List.getElem?_eq_some_iff.1 hp).1), List.getElem?_map, hp]; rfl
      exact instL_tup s.all [] g.v base.ms.nx _ e (by rw [hI]; exact hy)
    -- where each object comes from
    have src : ∀ id x, (s.inst base g.v).ms.obs id = some x → x.own = true → (∀ b, c2.F id b → ∃ id' x', ovr st.ms.mem.ob (fzU st.ms.mem.ob g.fz) id' = some x' ∧ x'.own = true ∧ c1.F id' b ∧ ((id' = id ∧ id < nx ∧ (has s.ko id = false ∨ ∃ cs, st.ms.obs id = some (.box cs))) ∨ ∃ j, id = nx + j ∧ g.own[j]? = some (some id'))) := by
      intro id x hx hox b hb2
      rcases hob id x hx with ⟨i, p, y, cs, h1, h2, h3, h4, h5, h6⟩ | ⟨j, r, o, h1, h2, h3, h4⟩ | ⟨h1, h2, h3, h4⟩
      · have hlt : id < nx := h2 ▸ bxlt i p h1
        rw [(hH2 id hlt).2] at hb2
        exact ⟨id, _, obx id cs h5, rfl, hb2, .inl ⟨rfl, hlt, .inr ⟨cs, h5⟩⟩⟩
      · subst h1
        rw [(hN2 j o h3).2] at hb2
        cases o with
        | none => exact hb2.elim
        | some id' =>
          have hrow := q2.2 j (some id') r h3 h2
          have hnf : id' ∉ g.fz := fun hm => by have := (ow1 j id' h3).2; rw [has_mem hm] at this; cases this
          exact ⟨id', _, ob1 id' _ hrow hnf, rfl, hb2, .inr ⟨j, rfl, h3⟩⟩
      · rw [(hH2 id h1).2] at hb2
        exact ⟨id, x, ob1 id x h3 (hnotfz id h1 h4), hox, hb2, .inl ⟨rfl, h1, .inl h4⟩⟩
    have hU2 : ∀ {x : SV}, x.inU (fun i => i < base.ms.nx ∨ base.ms.nx ≤ i ∧ i < base.ms.nx + g.own.length) → x.inU (s.inst base g.v).ms.U := fun {x} hx => by
      refine SV.inU_mono (fun i hi => ?_) x hx
      show i < base.ms.nx + (instL s.all [] g.v base.ms.nx).2.1.length
      rw [hI]
      show i < base.ms.nx + rs.length
      omega
    have hnxi : (s.inst base g.v).ms.nx = base.ms.nx + rs.length := by
      show base.ms.nx + (instL s.all [] g.v base.ms.nx).2.1.length = _
      rw [hI]
    have hUb : ∀ i, base.ms.U i → (s.inst base g.v).ms.U i := fun i hi => by
      show i < (s.inst base g.v).ms.nx
      rw [hnxi]
      have hi : i < base.ms.nx := hi
      omega
    have oxI : OXM (s.inst base g.v).ms w c2 := by
      refine ⟨ox1.sb, fun id x hx => ?_, fun id x hx hox b hb2 => ?_, fun i j x y hx ox hy oy hne b hb2 hb3 => ?_, ox1.nT, fun e => ox1.tpe (htp e), fun e => ox1.tF (k7.trans e)⟩
      · rcases hob id x hx with ⟨i, p, y, cs, h1, h2, h3, h4, h5, h6⟩ | ⟨j, r, o, h1, h2, h3, h4⟩ | ⟨h1, h2, h3, h4⟩
        · have hlt : id < nx := h2 ▸ bxlt i p h1
          obtain ⟨zs, hzs⟩ := tupy i p y h1 h3
          subst hzs h4
          have hyU := inUL_get q3 h3
          refine ⟨hUb id hlt, ?_, ?_⟩
          · exact hU2 (x := .tup zs) hyU
          · obtain ⟨b, arr, t, e1, e2, e3, e4, e5, e6⟩ := (hs.rx.ox.objs id _ h5).2.2
            have hrel := h6 (.tuple arr.toArray) (.tup cs arr e4 e6)
            cases hrel with
            | tup _ us hl hu =>
              refine ⟨b, arr, t, (hH2 id hlt).1.trans (by rw [hH1]; exact e1), fun x => ?_, e3, hl, e5, hu⟩
              rw [(hH2 id hlt).2, (t1.hH id ((hs.rx.ox.objs id _ h5).1)).2]; exact e2 x
        · subst h1 h4
          refine ⟨?_, trivial, ?_⟩
          · show nx + j < (s.inst base g.v).ms.nx
            rw [hnxi]
            have := (List.getElem?_eq_some_iff.1 h2).1
            show base.ms.nx + j < _
            omega
          · show RowAt w c2.S (c2.H (nx + j)) (c2.F (nx + j)) _ _ _
            rw [(hN2 j o h3).1, (hN2 j o h3).2]
            have hrow := q2.2 j o r h3 h2
            cases o with
            | none =>
              obtain ⟨e1, e2⟩ := hrow
              rw [e1]
              exact ⟨e2, .inl ⟨rfl, ⟨none, rfl⟩, fun _ h => h⟩⟩
            | some id' =>
              have hnf : id' ∉ g.fz := fun hm => by have := (ow1 j id' h3).2; rw [has_mem hm] at this; cases this
              exact (ox1.objs id' _ (ob1 id' _ hrow hnf)).2.2
        · have u1 : base.ms.U id := h1
          have u2 := h2
          have h3' := (ox1.objs id x (ob1 id x h3 (hnotfz id h1 h4))).2.2
          exact ⟨hUb id u1, Ob.inU_mono hUb u2, h3'.keep (U := base.ms.U) u2 (fun _ _ h => h) (fun _ _ _ => rfl) (fun _ h => h) (fun i hi => (hH2 i hi).1) (hH2 id h1) (fun _ _ _ => rfl)⟩
      · obtain ⟨id', x', e1, e2, e3, _⟩ := src id x hx hox b hb2
        exact ox1.fb id' x' e1 e2 b e3
      · obtain ⟨i', x', e1, e2, e3, e4⟩ := src i x hx ox b hb2
        obtain ⟨j', y', d1, d2, d3, d4⟩ := src j y hy oy b hb3
        have hij : i' ≠ j' := fun e => by
          subst e
          rcases e4 with ⟨a1, a2, a3⟩ | ⟨q, a1, a2⟩
          · rcases d4 with ⟨b1, b2, b3⟩ | ⟨q', b1, b2⟩
            · exact hne (a1.symm.trans b1)
            · subst a1
              have hrow : ∃ r : Row, st.ms.obs i' = some (.row r.1 r.2.1 r.2.2) := by
                have hql : q' < rs.length := by rw [hrl]; exact (List.getElem?_eq_some_iff.1 b2).1
                exact ⟨rs[q'], q2.2 q' (some i') rs[q'] b2 (List.getElem?_eq_getElem hql)⟩
              obtain ⟨r, hrow⟩ := hrow
              rcases a3 with a3 | ⟨cs, a3⟩
              · have := (ow1 q' i' b2).1
                unfold oldOK at this
                rw [a3, Bool.or_false] at this
                have := Nat.le_of_ble_eq_true this
                omega
              · rw [a3] at hrow; cases hrow
          · rcases d4 with ⟨b1, b2, b3⟩ | ⟨q', b1, b2⟩
            · subst b1
              have hrow : ∃ r : Row, st.ms.obs i' = some (.row r.1 r.2.1 r.2.2) := by
                have hql : q < rs.length := by rw [hrl]; exact (List.getElem?_eq_some_iff.1 a2).1
                exact ⟨rs[q], q2.2 q (some i') rs[q] a2 (List.getElem?_eq_getElem hql)⟩
              obtain ⟨r, hrow⟩ := hrow
              rcases b3 with b3 | ⟨cs, b3⟩
              · have := (ow1 q i' a2).1
                unfold oldOK at this
                rw [b3, Bool.or_false] at this
                have := Nat.le_of_ble_eq_true this
                omega
              · rw [b3] at hrow; cases hrow
            · by_cases hqq : q = q'
              · subst hqq; exact hne (a1.trans b1.symm)
              · exact ow2 q q' i' hqq a2 b2
        exact ox1.dj i' j' x' y' e1 e2 d1 d2 hij b e3 d3
    refine ⟨c2, ⟨oxI, hs.rx.sz.trans fr1, fun x u hx => ?_, fun x => ?_, fun x q wt gg y hx => ?_⟩, ?_, hs.df, rfl, ⟨_, (List.append_assoc _ _ _).symm⟩, ⟨_, by
        show _ ++ (_ ++ (_ ++ (_ ++ base.ms.ob))) = _
        rw [← List.append_assoc, ← List.append_assoc, ← List.append_assoc]⟩, id⟩
    · have hu := hs.rx.sl x u hx
      have hlk : look (s.inst base g.v).sl x = (lookK (zipS s.sl ys) x).getD ((lookK (s.kl.map fun x => (x, SV.un)) x).getD (look base.sl x)) := by
        show look (zipS s.sl (instL s.all [] g.v base.ms.nx).1 ++ (s.kl.map (fun x => (x, SV.un)) ++ base.sl)) x = _
        rw [hI, look_app, look_app]
      rw [hlk]
      cases hz : lookK (zipS s.sl ys) x with
      | some v =>
        obtain ⟨i, p, h1, h2, h3⟩ := zipS_some hz
        have hxs : (s.sl.map (fun p => look st.sl p.1) ++ (s.bx.map (fun b => boxOf st.ms.mem b.1) ++ s.rw.map (fun r => rowW st.ms.mem r.1)))[i]? = some (look st.sl p.1) := by
          rw [List.getElem?_append_left (by simpa using (List.getElem?_eq_some_iff.1 h1).1), List.getElem?_map, h1]; rfl
        rw [h2] at hxs
        exact q5 i _ v hxs h3 hu
      | none =>
        have hsl : memK s.sl x = false := zipS_none (by
          have : ys.length = s.sl.length + (s.bx.length + s.rw.length) := by rw [← q4]; simp
          omega) hz
        show SRel c2 w ((lookK (s.kl.map fun x => (x, SV.un)) x).getD (look base.sl x)) u
        rw [lookK_un (fun _ => SV.un)]
        cases hk : has s.kl x with
        | true => exact .un _
        | false =>
          show SRel c2 w (look base.sl x) u
          refine old (hb.us x) ?_
          rw [hlS, look_app] at hu
          cases hn : lookK lS x with
          | none => rw [hn] at hu; exact hu
          | some v =>
            have := List.all_eq_true.1 k1 (x, v) (lookK_mem hn)
            simp only [Bool.or_eq_true] at this
            rcases this with e | e
            · rw [hsl] at e; cases e
            · rw [hk] at e; cases e
    · have hlk : look (s.inst base g.v).sl x = (lookK (zipS s.sl ys) x).getD ((lookK (s.kl.map fun x => (x, SV.un)) x).getD (look base.sl x)) := by
        show look (zipS s.sl (instL s.all [] g.v base.ms.nx).1 ++ (s.kl.map (fun x => (x, SV.un)) ++ base.sl)) x = _
        rw [hI, look_app, look_app]
      rw [hlk]
      cases hz : lookK (zipS s.sl ys) x with
      | some v =>
        obtain ⟨i, p, h1, h2, h3⟩ := zipS_some hz
        exact hU2 (inUL_get q3 h3)
      | none =>
        show ((lookK (s.kl.map fun x => (x, SV.un)) x).getD (look base.sl x)).inU _
        rw [lookK_un (fun _ => SV.un)]
        cases hk : has s.kl x with
        | true => trivial
        | false => exact SV.inU_mono hUb _ (hb.us x)
    · have hlk : look (s.inst base g.v).sl x = (lookK (zipS s.sl ys) x).getD ((lookK (s.kl.map fun x => (x, SV.un)) x).getD (look base.sl x)) := by
        show look (zipS s.sl (instL s.all [] g.v base.ms.nx).1 ++ (s.kl.map (fun x => (x, SV.un)) ++ base.sl)) x = _
        rw [hI, look_app, look_app]
      rw [hlk] at hx
      cases hz : lookK (zipS s.sl ys) x with
      | some v =>
        rw [hz] at hx
        obtain ⟨i, p, h1, h2, h3⟩ := zipS_some hz
        have hx : v = .cnd q wt gg y := hx
        rw [hx] at h3
        exact absurd (by rw [hI]; exact h3) (instL_noC s.all [] g.v base.ms.nx i)
      | none =>
        rw [hz] at hx
        have hx : (lookK (s.kl.map fun x => (x, SV.un)) x).getD (look base.sl x) = .cnd q wt gg y := hx
        rw [lookK_un (fun _ => SV.un)] at hx
        cases hk : has s.kl x with
        | true => rw [hk] at hx; cases hx
        | false =>
          rw [hk] at hx
          have := (hb.cn x q wt gg y hx).1
          rw [k6] at this; cases this
    · refine ⟨T1.os, T1.tape, T1.output, T1.sz, T1.tK, T1.tN, hUb, fun i hi => ?_, T1.sS, T1.sN, T1.blk, fun b hb2 => ?_⟩
      · have hi : i < nx := hi
        exact ⟨(hH2 i hi).1.trans (T1.hH i hi).1, (hH2 i hi).2.trans (T1.hH i hi).2⟩
      · obtain ⟨id, x, hx, hox, hb3⟩ := hb2
        obtain ⟨id', x', e1, e2, e3, _⟩ := src id x hx hox b hb3
        exact T1.fp b ⟨id', x', e1, e2, e3⟩
end RE
end Go.Proofs.Ytpnmiieohdkenaa
namespace Go.Proofs.Ytpnmiieohdkenaa
open Go.RowKit
set_option linter.unusedVariables false
namespace RE
variable {P : Program}
/-- At the end of a region nothing is known of what was under a guard. -/
def St.endR (st : St) : St := ⟨st.gd.map (fun d => (d, SV.un)) ++ st.sl, st.ms, st.n, [], []⟩
theorem RX.endR {st : St} {a : Act} {w : World} {c : Cx} (h : RX st a w c) : Step st a w c st.endR a w c := by
  have hl : ∀ x, look st.endR.sl x = if has st.gd x = true then .un else look st.sl x := fun x => by
    show look (st.gd.map (fun d => (d, SV.un)) ++ st.sl) x = _
    rw [look_app, lookK_un (fun _ => SV.un)]
    by_cases hx : has st.gd x = true
    · rw [if_pos hx, if_pos hx]; rfl
    · rw [if_neg hx, if_neg hx]; rfl
  refine ⟨⟨h.ox, h.sz, fun x u hu => ?_, fun x => ?_, fun x q wt g y hx => ?_⟩, .refl, rfl, rfl, ⟨_, rfl⟩, .refl _⟩
  · rw [hl]
    split
    · exact .un u
    · exact h.sl x u hu
  · rw [hl]
    split
    · trivial
    · exact h.us x
  · rw [hl] at hx
    split at hx
    · cases hx
    · rename_i hn; exact absurd (h.cn x q wt g y hx).2.1 hn
/-- Operations, in turn; the number says which. -/
def aops (P : Program) (τ : TypeId → Option Ty) (cp : Nat → CP) (all : Array Oper) : Nat → List Oper → St → (St → Prop) → Prop
  | _, [], st, K => K st.endR
  | i, o :: r, st, K => match o.guard with
    | none => aop P τ (cp i) o st fun st' => aops P τ cp all (i + 1) r st' K
    | some (j, want) => match (all[j]?).bind (·.dst), o.dst with
      | some q, some d => aopG P τ (cp i) o d q want st fun st' => aops P τ cp all (i + 1) r st' K
      | _, _ => False
theorem aops_ok {τ : TypeId → Option Ty} {cp : Nat → CP} (hcp : ∀ i, CallOK P (cp i)) {all : Array Oper} : ∀ (ops : List Oper) (i : Nat) (st : St) (K : St → Prop), aops P τ cp all i ops st K →
    ∀ a w c, RX st a w c → ∀ Qx : Exit → Act → World → Prop, (∀ st' a' w' c', Step st a w c st' a' w' c' → K st' → Qx .normal a' w') → wpList P all Qx ops a w
  | [], i, st, K, h, a, w, c, hr, Qx, hQ => hQ _ a w c hr.endR h
  | o :: r, i, st, K, h, a, w, c, hr, Qx, hQ => by
    unfold aops at h
    split at h
    · rename_i hg
      refine wpList_plain hg fun KK hK => ?_
      exact aop_ok (hcp i) h a w c hr KK Qx fun st' a' w' c' hs hq => hK _ _ (aops_ok hcp r (i + 1) st' K hq a' w' c' hs.rx Qx fun st2 a2 w2 c2 hs2 k => hQ _ _ _ _ (hs.trans hs2) k)
    · rename_i j want hg
      split at h
      · rename_i q d hq hd
        obtain ⟨G, h1, h2, h3⟩ := aopG_ok (hcp i) hd h
        refine wpList_step fun KK hK => ?_
        rw [wanted_of hg hq h1 hr h2]
        exact h3 a w c hr KK Qx fun st' a' w' c' hs hq => hK _ _ (aops_ok hcp r (i + 1) st' K hq a' w' c' hs.rx Qx fun st2 a2 w2 c2 hs2 k => hQ _ _ _ _ (hs.trans hs2) k)
      · exact h.elim
/-! ### code -/
def AC (P : Program) (x : Code) (st : St) (Q : Exit → St → Prop) : Prop :=
  ∀ a w c, RX st a w c → x.wp P (fun e a' w' => ∃ st' c', Step st a w c st' a' w' c' ∧ Q e st') a w
def thenQ (K : St → Prop) (Q : Exit → St → Prop) : Exit → St → Prop
  | .normal, st => K st
  | e, st => Q e st
def blockQ (id : Nat) (Q : Exit → St → Prop) : Exit → St → Prop
  | .exit i, st => bif Nat.beq i id then Q .normal st else Q (.exit i) st
  | e, st => Q e st
theorem AC.seq {x y : Code} {st : St} {Q : Exit → St → Prop} (h : AC P x st (thenQ (fun st' => AC P y st' Q) Q)) : AC P (.seq x y) st Q := by
  intro a w c hr
  refine wp_seq (wp_mono (h a w c hr) ?_)
  rintro e a' w' ⟨st', c', h1, h2⟩
  cases e with
  | normal =>
    refine wp_mono (h2 a' w' c' h1.rx) ?_
    rintro e a2 w2 ⟨st2, c2, k1, k2⟩
    exact ⟨st2, c2, h1.trans k1, k2⟩
  | _ => exact ⟨st', c', h1, h2⟩
theorem AC.block {id : Nat} {x : Code} {st : St} {Q : Exit → St → Prop} (h : AC P x st (blockQ id Q)) : AC P (.block id x) st Q := by
  intro a w c hr
  refine wp_block (wp_mono (h a w c hr) ?_)
  rintro e a' w' ⟨st', c', h1, h2⟩
  cases e with
  | exit i =>
    have h2' : bif Nat.beq i id then Q .normal st' else Q (.exit i) st' := h2
    show if i = id then _ else _
    by_cases hi : i = id
    · subst hi
      rw [if_pos rfl]
      simp only [Nat.beq_refl, cond_true] at h2'
      exact ⟨st', c', h1, h2'⟩
    · rw [if_neg hi]
      rw [beq_ne hi] at h2'
      exact ⟨st', c', h1, h2'⟩
  | _ => exact ⟨st', c', h1, h2⟩
theorem AC.mono {x : Code} {st : St} {Q Q' : Exit → St → Prop} (h : AC P x st Q) (hq : ∀ e st', Q e st' → Q' e st') : AC P x st Q' := by
  intro a w c hr
  refine wp_mono (h a w c hr) ?_
  rintro e a' w' ⟨st', c', h1, h2⟩
  exact ⟨st', c', h1, hq e st' h2⟩
/-- A shape where ways meet. -/
theorem AC.join {x y : Code} {st : St} {Q : Exit → St → Prop} {s : Shape} (J : dens s.tys → Prop) (h1 : AC P x st (thenQ (fun st' => ∃ v, s.fit st st' = some v ∧ J v) Q)) (h2 : ∀ v, J v → AC P y (s.inst st v) Q) : AC P (.seq x y) st Q := by
  intro a w c hr
  refine wp_seq (wp_mono (h1 a w c hr) ?_)
  rintro e a' w' ⟨st', c', k1, k2⟩
  cases e with
  | normal =>
    obtain ⟨v, hv, hJ⟩ := k2
    obtain ⟨c2, k3⟩ := s.fit_ok hv hr k1
    refine wp_mono (h2 v hJ a' w' c2 k3.rx) ?_
    rintro e a2 w2 ⟨st2, c3, q1, q2⟩
    exact ⟨st2, c3, k3.trans q1, q2⟩
  | _ => exact ⟨st', c', k1, k2⟩
theorem AC.loop {x : Code} {st : St} {Q : Exit → St → Prop} {s : Shape} (I : dens s.tys → Prop) (μ : dens s.tys → Nat) {v0 : dens s.tys} (hv0 : s.fit st st = some v0) (hI : I v0)
    (h : ∀ v, I v → AC P x (s.inst st v) (thenQ (fun st' => ∃ v', s.fit st st' = some v' ∧ I v' ∧ μ v' < μ v) Q)) : AC P (.loop x) st Q := by
  intro a0 w0 c0 hr0
  have key : ∀ n v, μ v < n → I v → ∀ a w c, Step st a0 w0 c0 (s.inst st v) a w c → Code.rounds P x (fun e a' w' => ∃ st' c', Step st a0 w0 c0 st' a' w' c' ∧ Q e st') n a w := by
    intro n
    induction n with
    | zero => intro v hn; omega
    | succ n ih =>
      intro v hn hi a w c hs
      refine wp_mono (h v hi a w c hs.rx) ?_
      rintro e a' w' ⟨st', c', h1, h2⟩
      cases e with
      | normal =>
        obtain ⟨v', hv', hi', hlt⟩ := h2
        obtain ⟨c2, k3⟩ := s.fit_ok hv' hr0 (hs.trans h1)
        exact ih v' (by omega) hi' a' w' c2 k3
      | _ => exact ⟨st', c', hs.trans h1, h2⟩
  obtain ⟨c1, h1⟩ := s.fit_ok hv0 hr0 (Step.refl hr0)
  exact wp_loop_rounds (μ v0 + 1) (key _ v0 (Nat.lt_succ_self _) hI a0 w0 c1 h1)
def firstR : Code → Option Nat
  | .region id _ _ => some id
  | .seq x y => match firstR x with
    | some i => some i
    | none => firstR y
  | .cond _ x y => match firstR x with
    | some i => some i
    | none => firstR y
  | .block _ x => firstR x
  | .loop x => firstR x
  | .scope x => firstR x
  | _ => none
abbrev RG := Nat → Array Oper → Bool → St → (St → Prop) → Prop
/-- Code, carried out. -/
def aeval (rg : RG) (jn : Nat → Option Shape) : Code → St → (Exit → St → Prop) → Prop
  | .skip, st, K => K .normal st
  | .label _, st, K => K .normal st
  | .exit i, st, K => K (.exit i) st
  | .ret, st, K => K .ret st
  | .region id ops dr, st, K => match (bif dr then jn (1000000 + id) else none) with
    | none => rg id ops dr st (K .normal)
    | some s => JOIN s.tys (lam s.tys fun v => K .normal (s.inst st v)) fun J => rg id ops dr st fun st' => match s.fit st st' with
        | some v => app s.tys J v
        | none => False
  | .seq x y, st, K => match (match firstR y with | some i => jn (2 * i) | none => none) with
    | none => aeval rg jn x st (thenQ (fun st' => aeval rg jn y st' K) K)
    | some s => JOIN s.tys (lam s.tys fun v => aeval rg jn y (s.inst st v) K) fun J => aeval rg jn x st (thenQ (fun st' => match s.fit st st' with
        | some v => app s.tys J v
        | none => False) K)
  | .cond q x y, st, K => match st.ev q with
    | .d (.v (.bool b)) => IFB b (aeval rg jn x st K) (aeval rg jn y st K)
    | _ => False
  | .block i x, st, K => aeval rg jn x st (blockQ i K)
  | .loop x, st, K => match (match firstR x with | some i => jn (2 * i + 1) | none => none) with
    | none => False
    | some s => match s.fit st st with
      | some v0 => LOOP s.tys (fun rec => lam s.tys fun v => aeval rg jn x (s.inst st v) (thenQ (fun st' => match s.fit st st' with
          | some v' => app s.tys rec v'
          | none => False) K)) v0
      | none => False
  | _, _, _ => False
def RegOK (P : Program) (rg : RG) : Prop := ∀ id ops dr st K, rg id ops dr st K → AC P (.region id ops dr) st fun e st' => e = .normal ∧ K st'
theorem aeval_ok {rg : RG} {jn : Nat → Option Shape} (hrg : RegOK P rg) : ∀ (x : Code) (st : St) (K : Exit → St → Prop), aeval rg jn x st K → AC P x st K := by
  intro x
  induction x with
  | skip => exact fun st K h a w c hr => wp_skip ⟨st, c, .refl hr, h⟩
  | label l => exact fun st K h a w c hr => wp_label ⟨st, c, .refl hr, h⟩
  | exit i => exact fun st K h a w c hr => wp_exit ⟨st, c, .refl hr, h⟩
  | ret => exact fun st K h a w c hr => wp_ret ⟨st, c, .refl hr, h⟩
  | region id ops dr =>
    intro st K h
    unfold aeval at h
    split at h
    · exact (hrg id ops dr st _ h).mono fun e st' ⟨he, hk⟩ => by subst he; exact hk
    · rename_i s _
      obtain ⟨h⟩ := h
      intro a w c hr
      refine wp_mono (hrg id ops dr st _ h a w c hr) ?_
      rintro e a' w' ⟨st', c', k1, rfl, hk⟩
      split at hk
      · rename_i v hv
        rw [app_lam] at hk
        obtain ⟨c2, k3⟩ := s.fit_ok hv hr k1
        exact ⟨_, c2, k3, hk⟩
      · exact hk.elim
  | seq x y ihx ihy =>
    intro st K h
    unfold aeval at h
    split at h
    · refine AC.seq ((ihx st _ h).mono fun e st' hk => ?_)
      cases e with
      | normal => exact ihy st' K hk
      | _ => exact hk
    · rename_i s _
      obtain ⟨h⟩ := h
      refine AC.join (s := s) (fun v => aeval rg jn y (s.inst st v) K) ((ihx st _ h).mono fun e st' hk => ?_) fun v hv => ihy _ K hv
      cases e with
      | normal =>
        have hk : (match s.fit st st' with | some v => app s.tys (lam s.tys fun v => aeval rg jn y (s.inst st v) K) v | none => False) := hk
        split at hk
        · rename_i v hv
          rw [app_lam] at hk
          exact ⟨v, hv, hk⟩
        · exact hk.elim
      | _ => exact hk
  | cond q x y ihx ihy =>
    intro st K h
    unfold aeval at h
    split at h
    · rename_i b hb
      intro a w c hr
      have hv := hr.ev q
      rw [hb] at hv
      exact wp_cond_split (srel_v hv) (fun e => ihx st K (h.t e) a w c hr) (fun e => ihy st K (h.f e) a w c hr)
    · exact h.elim
  | block i x ih =>
    intro st K h
    exact AC.block (ih st _ h)
  | loop x ih =>
    intro st K h
    unfold aeval at h
    split at h
    · exact h.elim
    · rename_i s _
      split at h
      · rename_i v0 hv0
        obtain ⟨I, μ, h1, h2⟩ := h.h
        refine AC.loop (s := s) I μ hv0 h1 fun v hv => ?_
        have hk := h2 v hv
        rw [app_lam] at hk
        refine (ih _ _ hk).mono fun e st' hq => ?_
        cases e with
        | normal =>
          have hq : (match s.fit st st' with | some v' => app s.tys (lam s.tys fun y => I y ∧ μ y < μ v) v' | none => False) := hq
          split at hq
          · rename_i v' hv'
            rw [app_lam] at hq
            exact ⟨v', hv', hq⟩
          · exact hq.elim
        | _ => exact hq
      · exact h.elim
  | rangeFunc f ps a b iha ihb => exact fun st K h => h.elim
  | scope x ih => exact fun st K h => h.elim
  | goto l => exact fun st K h => h.elim
  | refuse y => exact fun st K h => h.elim
end RE
end Go.Proofs.Ytpnmiieohdkenaa
namespace Go.Proofs.Ytpnmiieohdkenaa
open Go.RowKit
set_option linter.unusedVariables false
namespace RE
variable {P : Program}
/-- A result, read off the state. -/
def resV (P : Program) (st : St) : ResultVar → Option SV
  | .tmp t => some (st.ev (.tmp t))
  | .cell x t => pLoad P st.ms.mem t (st.ev (.tmp x))
def resL (P : Program) (st : St) : List ResultVar → Option (List SV)
  | [] => some []
  | r :: rs => match resV P st r, resL P st rs with
    | some x, some xs => some (x :: xs)
    | _, _ => none
def resS (P : Program) (st : St) (rs : List ResultVar) : Option SV := match resL P st rs with
  | some [x] => some x
  | some xs => some (.tup xs)
  | none => none
def gotV (P : Program) (a : Act) (w : World) (v : Value) : ResultVar → Prop
  | .tmp t => a.tmps.getD t undef = v
  | .cell x t => ∃ ad, a.tmps.getD x undef = .pointer (some ad) ∧ (loadVar t ad).run P w = .ok v w
theorem resV_ok {st : St} {rv : ResultVar} {s : SV} (h : resV P st rv = some s) {a : Act} {w : World} {c : Cx} (hr : RX st a w c) : ∃ v, gotV P a w v rv ∧ SRel c w s v ∧ s.inU st.ms.U := by
  cases rv with
  | tmp t =>
    injection h with h
    subst h
    exact ⟨_, rfl, hr.ev (.tmp t), hr.evU (.tmp t)⟩
  | cell x t =>
    have h : pLoad P st.ms.mem t (st.ev (.tmp x)) = some s := h
    obtain ⟨v, h1, h2, h3⟩ := pLoad_run (P := P) h hr.ox (hr.ev (.tmp x)) (hr.evU (.tmp x))
    have hp : ∃ ad, a.eval (.tmp x) = .pointer (some ad) := by
      have hv := hr.ev (.tmp x)
      generalize a.eval (.tmp x) = av at hv ⊢
      unfold pLoad at h
      split at h
      · rename_i cs e; rw [e] at hv; cases srel_d hv; exact ⟨_, rfl⟩
      · rename_i id off e; rw [e] at hv; obtain ⟨b, _, hb⟩ := srel_bx hv; exact ⟨_, hb⟩
      · rename_i id z sz j e; rw [e] at hv; obtain ⟨g, n, cap, _, hb, _⟩ := srel_op hv; exact ⟨_, hb⟩
      · rename_i id z sz j e; rw [e] at hv; obtain ⟨g, n, cap, vs, _, hb, _⟩ := srel_np hv; exact ⟨_, hb⟩
      · rename_i id i z sz j e; rw [e] at hv; obtain ⟨v, vs, g, n, cap, _, _, _, hb, _⟩ := srel_ip hv; exact ⟨_, hb⟩
      · cases h
    obtain ⟨ad, hp⟩ := hp
    refine ⟨v, ⟨ad, hp, ?_⟩, h2, h3⟩
    rw [hp] at h1
    simpa [Instr.loadAt, Instr.sureAddr] using h1
theorem mapM_ok {α : Type} (f : α → Sem Value) (w : World) : ∀ (l : List α) (vs : List Value), l.length = vs.length → (∀ (i : Nat) (x : α) (v : Value), l[i]? = some x → vs[i]? = some v → (f x).run P w = .ok v w) → (l.mapM f).run P w = .ok vs w
  | [], [], _, _ => by simp
  | [], _ :: _, h, _ => by simp at h
  | _ :: _, [], h, _ => by simp at h
  | x :: l, v :: vs, h, k => by
    have h1 := k 0 x v rfl rfl
    have h2 := mapM_ok f w l vs (by simpa using h) (fun i x v hx hv => k (i + 1) x v hx hv)
    simp [List.mapM_cons, h1, h2]
theorem resL_ok {st : St} : ∀ {rs : List ResultVar} {ss : List SV}, resL P st rs = some ss → ∀ {a : Act} {w : World} {c : Cx}, RX st a w c → ∃ vs : List Value, rs.length = vs.length ∧ vs.length = ss.length ∧ (∀ (i : Nat) (r : ResultVar) (v : Value), rs[i]? = some r → vs[i]? = some v → gotV P a w v r) ∧ (∀ (i : Nat) (s : SV) (v : Value), ss[i]? = some s → vs[i]? = some v → SRel c w s v) ∧ inUL st.ms.U ss
  | [], ss, h, a, w, c, hr => by
    simp only [resL, Option.some.injEq] at h
    subst h
    exact ⟨[], rfl, rfl, fun i r v h => by simp at h, fun i s v h => by simp at h, trivial⟩
  | r :: rs, ss, h, a, w, c, hr => by
    unfold resL at h
    split at h
    · rename_i x xs h1 h2
      injection h with h
      subst h
      obtain ⟨v, g1, g2, g3⟩ := resV_ok h1 hr
      obtain ⟨vs, k1, k2, k3, k4, k5⟩ := resL_ok h2 hr
      refine ⟨v :: vs, by simp [k1], by simp [k2], fun i r' v' hr' hv' => ?_, fun i s v' hs hv' => ?_, ⟨g3, k5⟩⟩
      · cases i with
        | zero => simp at hr' hv'; subst hr' hv'; exact g1
        | succ i => exact k3 i r' v' (by simpa using hr') (by simpa using hv')
      · cases i with
        | zero => simp at hs hv'; subst hs hv'; exact g2
        | succ i => exact k4 i s v' (by simpa using hs) (by simpa using hv')
    · cases h
theorem resS_ok {st : St} {fn : Func} {s : SV} (h : resS P st fn.results.toList = some s) {a : Act} {w : World} {c : Cx} (hr : RX st a w c) : ∃ v, (results fn a.tmps).run P w = .ok v w ∧ SRel c w s v ∧ s.inU st.ms.U := by
  have main : ∀ {ss : List SV}, resL P st fn.results.toList = some ss → ∃ vs : List Value, (results fn a.tmps).run P w = .ok (if h : vs.toArray.size = 1 then vs.toArray[0] else .tuple vs.toArray) w ∧ vs.length = ss.length ∧ (∀ (i : Nat) (s : SV) (v : Value), ss[i]? = some s → vs[i]? = some v → SRel c w s v) ∧ inUL st.ms.U ss := by
    intro ss hss
    obtain ⟨vs, k1, k2, k3, k4, k5⟩ := resL_ok hss hr
    refine ⟨vs, ?_, k2, k4, k5⟩
    have e : fn.results = fn.results.toList.toArray := by simp
    unfold results
    rw [e, List.mapM_toArray]
    simp only [Sem.run_bind, Sem.run_map]
    rw [mapM_ok (P := P) _ w _ vs k1 (fun i r v hr hv => by
      have hg := k3 i r v hr hv
      cases r with
      | tmp t => have hg : a.tmps.getD t undef = v := hg; simpa using hg
      | cell x t =>
        obtain ⟨ad, e1, e2⟩ := hg
        simp only [e1]
        simp [asAddr, e2])]
    simp
  unfold resS at h
  split at h
  · rename_i x hss
    injection h with h
    subst h
    obtain ⟨vs, k1, k2, k3, k4⟩ := main hss
    match vs, k2 with
    | [v], _ => exact ⟨v, by simpa using k1, k3 0 _ v rfl rfl, k4.1⟩
  · rename_i xs hn hss
    injection h with h
    subst h
    obtain ⟨vs, k1, k2, k3, k4⟩ := main hss
    have hne : ¬ vs.toArray.size = 1 := fun e => by
      have e : vs.length = 1 := by simpa using e
      rw [k2] at e
      match xs, e with
      | [x], _ => exact hn x rfl
    rw [dif_neg hne] at k1
    exact ⟨_, k1, .tup _ vs k2 k3, k4⟩
  · cases h
def enumS : Nat → List SV → List (Nat × SV)
  | _, [] => []
  | k, s :: r => (k, s) :: enumS (k + 1) r
theorem look_enumS : ∀ (l : List SV) (k x : Nat), look (enumS k l) x = if k ≤ x then (l[x - k]?).getD .un else .un
  | [], k, x => by simp [enumS, look]
  | s :: r, k, x => by
    rw [enumS, look_cons]
    by_cases h : k = x
    · subst h; rw [if_pos rfl, if_pos (Nat.le_refl _), Nat.sub_self]; rfl
    · rw [if_neg h, look_enumS r (k + 1) x]
      by_cases h2 : k + 1 ≤ x
      · rw [if_pos h2, if_pos (by omega), show x - k = (x - (k + 1)) + 1 by omega, List.getElem?_cons_succ]
      · rw [if_neg h2, if_neg (by omega)]
/-- A frame that begins. -/
def entry (ss : List SV) (m : MS) (n : Nat) : St := ⟨enumS 0 (ss.map noC), m, n, [], []⟩
theorem entry_rx {ss : List SV} {m : MS} {n : Nat} {us : List Value} {w : World} {c : Cx} (hox : OXM m w c) (hl : us.length = ss.length) (hn : ss.length ≤ n) (hr : ∀ (i : Nat) (s : SV) (u : Value), ss[i]? = some s → us[i]? = some u → SRel c w s u ∧ s.inU m.U) :
    RX (entry ss m n) { tmps := us.toArray ++ Array.replicate (n - us.toArray.size) undef, defers := [] } w c := by
  have hlk : ∀ x, look (entry ss m n).sl x = ((ss.map noC)[x]?).getD .un := fun x => by
    show look (enumS 0 (ss.map noC)) x = _
    rw [look_enumS, if_pos (Nat.zero_le _), Nat.sub_zero]
  refine ⟨hox, ?_, fun x u hx => ?_, fun x => ?_, fun x q wt g y hx => ?_⟩
  · simp only [Array.size_append, List.size_toArray, Array.size_replicate]
    show us.length + (n - us.length) = n
    omega
  · rw [hlk]
    cases hs : (ss.map noC)[x]? with
    | none => exact .un u
    | some s =>
      rw [List.getElem?_map, Option.map_eq_some_iff] at hs
      obtain ⟨s0, hs0, rfl⟩ := hs
      have hxl := (List.getElem?_eq_some_iff.1 hs0).1
      have hu : us[x]? = some u := by
        have hx : (us.toArray ++ Array.replicate (n - us.toArray.size) undef)[x]? = some u := hx
        rw [Array.getElem?_append_left (by simp; omega)] at hx
        simpa using hx
      exact noC_rel (hr x s0 u hs0 hu).1
  · rw [hlk]
    cases hs : (ss.map noC)[x]? with
    | none => trivial
    | some s =>
      rw [List.getElem?_map, Option.map_eq_some_iff] at hs
      obtain ⟨s0, hs0, rfl⟩ := hs
      have hxl := (List.getElem?_eq_some_iff.1 hs0).1
      exact noC_inU (hr x s0 us[x] hs0 (List.getElem?_eq_getElem (by omega))).2
  · rw [hlk] at hx
    cases hs : (ss.map noC)[x]? with
    | none => rw [hs] at hx; cases hx
    | some s =>
      rw [hs] at hx
      have hx : s = .cnd q wt g y := hx
      rw [List.getElem?_map, Option.map_eq_some_iff] at hs
      obtain ⟨s0, hs0, rfl⟩ := hs
      exact absurd hx noC_ne
/-- A front part of a row of one's own, given back: from then on a row of its own. -/
def isZ : Int → Bool
  | .ofNat 0 => true
  | _ => false
theorem isZ_eq {a : Int} (h : isZ a = true) : a = 0 := by
  unfold isZ at h
  split at h
  · rfl
  · cases h
def trunc (r : SV) (m : MS) : SV × MS := match r with
  | .sub id sz a b => match m.obs id with
    | some (.row e ty l) => bif isZ a && Nat.beq sz (size ty) then (.os m.nx, ⟨(m.nx, some (.row e ty (l.take b.toNat))) :: (id, none) :: m.ob, m.nx + 1, m.tp⟩) else (r, m)
    | _ => (r, m)
  | _ => (r, m)
theorem trunc_ok {r : SV} {m : MS} {w : World} {c : Cx} {v : Value} (hox : OXM m w c) (hs : SRel c w r v) (hu : r.inU m.U) :
    ∃ c', OXM (trunc r m).2 w c' ∧ TrM m w c (trunc r m).2 w c' ∧ SRel c' w (trunc r m).1 v ∧ (trunc r m).1.inU (trunc r m).2.U ∧ FrM m (trunc r m).2 := by
  have triv : ∃ c', OXM m w c' ∧ TrM m w c m w c' ∧ SRel c' w r v ∧ r.inU m.U ∧ FrM m m := ⟨c, hox, .refl, hs, hu, .refl _⟩
  unfold trunc
  split
  · rename_i id sz a b
    split
    · rename_i e ty l hob
      cases hb : (isZ a && Nat.beq sz (size ty)) with
      | false => exact triv
      | true =>
        obtain ⟨b1, b2⟩ := Bool.and_eq_true_iff.1 hb
        have b1 := isZ_eq b1
        have b2 := beq_eq b2
        subst b1 b2
        obtain ⟨ad, n, cap, hH, hv, hab1, hab2, hab3⟩ := srel_sub hs
        have hid : id < m.nx := hu
        have hne : id ≠ m.nx := by omega
        have eob : lookO ((m.nx, some (.row e ty (l.take b.toNat))) :: (id, none) :: m.ob) = put (put m.obs id none) m.nx (some (.row e ty (l.take b.toNat))) := by
          rw [lookO_cons, lookO_cons]; rfl
        have e0 : (if cap = 0 then ad else ad.map (·.add 0)) = ad := by split <;> cases ad <;> simp [Addr.add]
        rw [subV_len, Int.toNat_zero, Nat.zero_mul, Nat.sub_zero, Nat.sub_zero, e0] at hv
        obtain ⟨_, _, hrow⟩ := hox.objs id _ hob
        have hrow' : RowAt w c.S v (c.F id) e ty (l.take b.toNat) := by
          obtain ⟨h0, ⟨e1, ⟨ad', e2⟩, e3⟩ | ⟨g, cap', cur, e2, e3, e4, e5, e6, e7, e8⟩⟩ := hrow
          · rw [hH] at e2
            injection e2 with q1 q2 q3
            subst q1 q2 q3
            refine ⟨h0, .inl ⟨by rw [e1]; simp, ⟨ad, ?_⟩, e3⟩⟩
            rw [hv]; congr 1; omega
          · rw [hH] at e2
            injection e2 with q1 q2 q3
            subst q1 q2 q3
            have hl : (l.take b.toNat).length = b.toNat := by rw [List.length_take]; omega
            refine ⟨h0, .inr ⟨g, cap, cur, by rw [hv, hl], e3, e4, by rw [hl]; omega, e6, e7, fun i x hx j d hd => e8 i x ?_ j d hd⟩⟩
            rw [List.getElem?_take] at hx
            split at hx
            · exact hx
            · cases hx
        have main := hox.upd (c' := ⟨c.S, put c.H m.nx v, put c.F m.nx (c.F id), c.T⟩) (w' := w) (ob' := put (put m.obs id none) m.nx (some (.row e ty (l.take b.toNat)))) (U' := fun i => i < m.nx + 1) m.nx (.row e ty (l.take b.toNat)) (fun i => i ≠ id ∧ i ≠ m.nx)
          (fun i (hi : i < m.nx) => (by omega : i < m.nx + 1)) (Nat.lt_succ_self _) (put_same _ _ _) (fun i y hi e1 => by
            rw [put_ne _ _ e1] at hi
            by_cases e2 : i = id
            · subst e2; rw [put_same] at hi; cases hi
            · rw [put_ne _ _ e2] at hi; exact ⟨⟨e2, e1⟩, hi⟩) (fun e1 => e1.2 rfl) (fun i (hi : i < m.nx) => ⟨put_ne _ _ (by omega), put_ne _ _ (by omega)⟩) (fun _ _ h => h) (fun _ _ h => .inl h) (fun b o hb => hox.sb b o hb)
          rfl rfl rfl rfl (Nat.le_refl _) (fun _ _ _ => rfl) (by
            show RowAt w c.S (put c.H m.nx v m.nx) (put c.F m.nx (c.F id) m.nx) e ty (l.take b.toNat)
            rw [put_same, put_same]; exact hrow') trivial (fun _ k hk => by
            have hk : put c.F m.nx (c.F id) m.nx k := hk
            rw [put_same] at hk
            exact .inl ⟨id, _, hob, rfl, fun q => q.1 rfl, hk⟩) (fun _ k hk => by
            have hk : put c.F m.nx (c.F id) m.nx k := hk
            rw [put_same] at hk
            exact ⟨(hox.fb id _ hob rfl k hk).1, (hox.fb id _ hob rfl k hk).2.1⟩)
        refine ⟨⟨c.S, put c.H m.nx v, put c.F m.nx (c.F id), c.T⟩, ?_, ?_, ?_, Nat.lt_succ_self _, ⟨⟨[_, _], rfl⟩, fun h => h⟩⟩
        · show OX (lookO _) _ _ _ _
          rw [cond_true, eob]; exact main.1
        · show Tr _ _ _ _ (lookO _) _ _ _
          rw [cond_true, eob]; exact main.2
        · have := SRel.os (c := (⟨c.S, put c.H m.nx v, put c.F m.nx (c.F id), c.T⟩ : Cx)) (w := w) m.nx
          have e1 : put c.H m.nx v m.nx = v := put_same _ _ _
          rw [show (⟨c.S, put c.H m.nx v, put c.F m.nx (c.F id), c.T⟩ : Cx).H m.nx = v from e1] at this
          exact this
    · exact triv
  · exact triv
def kT (k : SV → MS → Prop) (r : SV) (m : MS) : Prop := k (trunc r m).1 (trunc r m).2
/-- How a callee ends. -/
def retK (P : Program) (rs : List ResultVar) (k : SV → MS → Prop) : Exit → St → Prop
  | .normal, st => match resS P st rs with
    | some r => kT k r st.ms
    | none => False
  | .ret, st => match resS P st rs with
    | some r => kT k r st.ms
    | none => False
  | _, _ => False
/-! ### a deferred call -/
/-- Pure operations that ask for nothing. -/
def purL (P : Program) : List Oper → St → Option St
  | [], st => some st
  | o :: r, st => match o.guard, pop P st.ms.mem st.ev o with
    | none, some R => bif dstOK st o.dst && R.ps.isEmpty then purL P r (st.set o.dst R.r st.ms) else none
    | _, _ => none
theorem purL_ok {all : Array Oper} {Q : Exit → Act → World → Prop} {od : Oper} : ∀ {ops : List Oper} {st st' : St}, purL P ops st = some st' → ∀ {a : Act} {w : World} {c : Cx}, RX st a w c → (∀ a', Step st a w c st' a' w c → wpList P all Q [od] a' w) → wpList P all Q (ops ++ [od]) a w
  | [], st, st', h, a, w, c, hr, hq => by
    simp only [purL, Option.some.injEq] at h
    subst h
    exact hq a (.refl hr)
  | o :: r, st, st', h, a, w, c, hr, hq => by
    unfold purL at h
    split at h
    · rename_i R hg hR
      cases hb : (dstOK st o.dst && R.ps.isEmpty) with
      | false => rw [hb] at h; cases h
      | true =>
        rw [hb] at h
        obtain ⟨b1, b2⟩ := Bool.and_eq_true_iff.1 hb
        have b2 : R.ps = [] := by simpa using b2
        obtain ⟨v, h1, h2, h3, h4⟩ := pop_run (P := P) hR hr.rels (by rw [b2]; trivial)
        refine wpList_plain hg fun K hK => ?_
        have hs : Step st a w c (st.set o.dst R.r st.ms) (a.put o.dst v) w c := ⟨hr.set .refl hr.ox b1 h2 h3, .refl, defers_put a o.dst v, Fr.set (.refl _)⟩
        have := hK (a.put o.dst v) w (purL_ok h hs.rx fun a' hs' => hq a' (hs.trans hs'))
        unfold Oper.wp
        rw [h1]
        exact this
    · cases h
def deferOf (od : Oper) : Option (Operand × Array Operand) := match od.guard, od.op, od.dst with
  | none, .defer ⟨.value v, args, _⟩, none => some (v, args)
  | _, _, _ => none
def deferParts : Code → Option (Code × Array Oper × List Oper × Oper × Code)
  | .seq x (.seq (.region _ ops false) y) => match ops.toList.reverse with
    | od :: pre => match deferOf od with
      | some _ => some (x, ops, pre.reverse, od, y)
      | none => none
    | [] => none
  | _ => none
theorem deferParts_spec {c x y : Code} {ops : Array Oper} {pre : List Oper} {od : Oper} (h : deferParts c = some (x, ops, pre, od, y)) : ∃ id, c = .seq x (.seq (.region id ops false) y) ∧ ops.toList = pre ++ [od] := by
  unfold deferParts at h
  split at h
  · rename_i x' id ops' y'
    split at h
    · rename_i od' pre' hrev
      split at h
      · injection h with h
        injection h with h1 h
        injection h with h2 h
        injection h with h3 h
        injection h with h4 h5
        subst h1 h2 h3 h4 h5
        refine ⟨id, rfl, ?_⟩
        have := congrArg List.reverse hrev
        simpa using this
      · cases h
    · cases h
  · cases h
/-- How a callee with a deferred call (function fg, arguments ss) ends. -/
def defK (P : Program) (rg : RG) (fn fg : Func) (cg : Code) (ss : List SV) (k : SV → MS → Prop) (st3 : St) : Prop :=
  aeval rg (fun _ => none) cg (entry ss st3.ms fg.ntmps) fun e st4 => match e with
    | .normal => match resS P st4 fg.results.toList, resS P (st3.set none .un st4.ms) fn.results.toList with
      | some _, some r => kT k r st4.ms
      | _, _ => False
    | .ret => match resS P st4 fg.results.toList, resS P (st3.set none .un st4.ms) fn.results.toList with
      | some _, some r => kT k r st4.ms
      | _, _ => False
    | _ => False
/-- A body, whole. -/
def bodyK (P : Program) (rg : RG) (jn : Nat → Option Shape) (fn : Func) (c : Code) (st0 : St) (k : SV → MS → Prop) : Prop :=
  match deferParts c with
  | none => aeval rg jn c st0 (retK P fn.results.toList k)
  | some (x, ops, pre, od, y) => aeval rg jn x st0 fun e st1 => match e with
    | .normal => match purL P pre st1, deferOf od with
      | some st2, some (v, args) => match fnOf (st2.ev v) with
        | some (g, cs) => match P.funcs[g]? with
          | some fg => match fg.body with
            | some cg => bif Nat.ble (args.toList.map st2.ev ++ cs).length fg.ntmps && callable P g then aeval rg jn y st2 fun e st3 => match e with
                | .normal => defK P rg fn fg cg (args.toList.map st2.ev ++ cs) k st3
                | .ret => defK P rg fn fg cg (args.toList.map st2.ev ++ cs) k st3
                | _ => False
              else False
            | none => False
          | none => False
        | none => False
      | _, _ => False
    | _ => False
/-- A call in place. -/
def inline (P : Program) (rg : RG) (jn : Nat → Option Shape) (f : FuncId) (ss : List SV) (m : MS) (k : SV → MS → Prop) : Prop :=
  match P.funcs[f]? with
  | some fn => match fn.body with
    | some c => bif Nat.ble ss.length fn.ntmps then match jn 0 with
        | none => bodyK P rg jn fn c (entry ss m fn.ntmps) k
        | some s => JOIN s.tys (lam s.tys fun v => k (look (s.inst ⟨[], m, 1, [], []⟩ v).sl 0) (s.inst ⟨[], m, 1, [], []⟩ v).ms) fun J => bodyK P rg jn fn c (entry ss m fn.ntmps) fun r m' => match s.fit ⟨[], m, 1, [], []⟩ ⟨[(0, noC r)], m', 1, [], []⟩ with
            | some v => app s.tys J v
            | none => False
      else False
    | none => False
  | none => False
theorem resS_fin {st : St} {fn : Func} {r : SV} (hres : resS P st fn.results.toList = some r) {a : Act} {w w0 : World} {c c0 : Cx} {m : MS} (hr : RX st a w c) (htr : TrM m w0 c0 st.ms w c) (hfr : FrM m st.ms) {k : SV → MS → Prop} (hk : kT k r st.ms) :
    ∃ v, (results fn a.tmps).run P w = .ok v w ∧ ∃ v' r m' c', Ending.returned v = .returned v' ∧ k r m' ∧ FrM m m' ∧ OXM m' w c' ∧ TrM m w0 c0 m' w c' ∧ SRel c' w r v' ∧ r.inU m'.U := by
  obtain ⟨v, h1, h2, h3⟩ := resS_ok hres hr
  obtain ⟨c', k1, k2, k3, k4, k5⟩ := trunc_ok hr.ox h2 h3
  exact ⟨v, h1, v, _, _, c', rfl, hk, hfr.trans k5, k1, htr.trans k2, k3, k4⟩
theorem inline_ok {rg : RG} {jn : Nat → Option Shape} (hrg : RegOK P rg) : CallOK P (inline P rg jn) := by
  intro f ss m k h us w c hox hl hr
  unfold inline at h
  split at h
  · rename_i fn hf
    split at h
    · rename_i body hb
      cases hn : Nat.ble ss.length fn.ntmps with
      | false => rw [hn] at h; exact h.elim
      | true =>
        rw [hn] at h
        have hn := Nat.le_of_ble_eq_true hn
        have main : ∀ (k' : SV → MS → Prop), bodyK P rg jn fn body (entry ss m fn.ntmps) k' → Calls P f us.toArray w fun e w' => ∃ v r m' c', e = .returned v ∧ k' r m' ∧ FrM m m' ∧ OXM m' w' c' ∧ TrM m w c m' w' c' ∧ SRel c' w' r v ∧ r.inU m'.U := by
          intro k' h
          unfold bodyK at h
          split at h
          · refine calls_of_wp hf hb (wp_mono (aeval_ok hrg body _ _ h _ w c (entry_rx hox hl hn hr)) ?_)
            rintro e a' w' ⟨st', c', hs, hq⟩
            have fin : (match resS P st' fn.results.toList with | some r => kT k' r st'.ms | none => False) → a'.defers = [] ∧ ∃ v, (results fn a'.tmps).run P w' = .ok v w' ∧ ∃ v' r m' c', Ending.returned v = .returned v' ∧ k' r m' ∧ FrM m m' ∧ OXM m' w' c' ∧ TrM m w c m' w' c' ∧ SRel c' w' r v' ∧ r.inU m'.U := by
              intro hq
              split at hq
              · rename_i r hres
                exact ⟨hs.df, resS_fin hres hs.rx hs.tr hs.fr.2.2 hq⟩
              · exact hq.elim
            cases e with
            | normal => exact fin hq
            | ret => exact fin hq
            | _ => exact hq.elim
          · rename_i x ops pre od y hdp
            obtain ⟨id, hbody, hops⟩ := deferParts_spec hdp
            have hA := h
            clear h
            have hb' := hb
            rw [hbody] at hb'
            refine calls_of_wp_defers hf hb' (wp_seq (wp_mono (aeval_ok hrg x _ _ hA _ w c (entry_rx hox hl hn hr)) ?_))
            rintro e a1 w1 ⟨st1, c1, hs1, hq⟩
            cases e with
            | normal =>
              simp only at hq
              split at hq
              · rename_i st2 v args hpu hdo
                split at hq
                · rename_i g cs hfn
                  split at hq
                  · rename_i fg hfg
                    split at hq
                    · rename_i cg hcg
                      cases hb2 : (Nat.ble (args.toList.map st2.ev ++ cs).length fg.ntmps && callable P g) with
                      | false => rw [hb2] at hq; exact hq.elim
                      | true =>
                        rw [hb2] at hq
                        simp only [cond_true] at hq
                        obtain ⟨b1, b2⟩ := Bool.and_eq_true_iff.1 hb2
                        have b1 := Nat.le_of_ble_eq_true b1
                        refine wp_seq (wp_region_list ?_)
                        rw [hops]
                        refine purL_ok hpu hs1.rx fun a2 hs2 => ?_
                        unfold deferOf at hdo
                        split at hdo
                        · rename_i v' args' tys hgd hop hdst
                          injection hdo with hdo
                          injection hdo with q1 q2
                          subst q1 q2
                          obtain ⟨us2, hu2, hl2, hr2⟩ := fnOf_rel hfn (hs2.rx.ev v') (hs2.rx.evU v')
                          refine wpList_plain hgd fun K hK => ?_
                          have hrun : (execOp a2.eval od).run P w1 = .ok (.defer ⟨.fn (.func g) us2.toArray, args'.map a2.eval⟩) w1 := by
                            simp [execOp, hop, resolve, hu2, Deferred.ofValue]
                          have hd0 : a2.defers = [] := hs2.df.trans hs1.df
                          unfold Oper.wp
                          rw [hrun, Oper.upon_defer, hdst]
                          refine hK _ _ (wpList_nil ?_)
                          obtain ⟨a3, ha3⟩ : ∃ a3, a3 = Act.put { a2 with defers := ⟨.fn (.func g) us2.toArray, args'.map a2.eval⟩ :: a2.defers } none undef := ⟨_, rfl⟩
                          have e3t : a3.tmps = a2.tmps := by rw [ha3]; rfl
                          have e3d : a3.defers = [⟨.fn (.func g) us2.toArray, args'.map a2.eval⟩] := by rw [ha3]; show _ :: a2.defers = _; rw [hd0]
                          rw [← ha3]
                          have hrx3 : RX st2 a3 w1 c1 := ⟨hs2.rx.ox, by rw [e3t]; exact hs2.rx.sz, fun x u hx => hs2.rx.sl x u (by rw [← e3t]; exact hx), hs2.rx.us, hs2.rx.cn⟩
                          show y.wp P _ a3 w1
                          refine wp_mono (aeval_ok hrg y _ _ hq a3 w1 c1 hrx3) ?_
                          rintro e a4 w4 ⟨st3, c3, hs3, hq⟩
                          have fin : defK P rg fn fg cg (args'.toList.map st2.ev ++ cs) k' st3 → Leaves P fn a4.tmps (fun e w' => ∃ v r m' c', e = .returned v ∧ k' r m' ∧ FrM m m' ∧ OXM m' w' c' ∧ TrM m w c m' w' c' ∧ SRel c' w' r v ∧ r.inU m'.U) a4.defers .returning w4 := by
                            intro hq
                            rw [hs3.df, e3d]
                            refine leaves_cons (f := g) (args := args'.map a2.eval ++ us2.toArray) (by intro h; cases h) (by simp [invoke, run_call b2]) ?_
                            have hargs : ∀ (i : Nat) (s : SV) (u : Value), (args'.toList.map st2.ev ++ cs)[i]? = some s → (args'.toList.map a2.eval ++ us2)[i]? = some u → SRel c3 w4 s u ∧ s.inU st3.ms.U := fun i s u hi hu => by
                              have base : SRel c1 w1 s u ∧ s.inU st2.ms.U := by
                                by_cases hil : i < args'.toList.length
                                · rw [List.getElem?_append_left (by simpa using hil)] at hi hu
                                  rw [List.getElem?_map, Option.map_eq_some_iff] at hi hu
                                  obtain ⟨z, hz, rfl⟩ := hi
                                  obtain ⟨z', hz', rfl⟩ := hu
                                  rw [hz] at hz'
                                  injection hz' with hz'
                                  subst hz'
                                  exact ⟨hs2.rx.ev z, hs2.rx.evU z⟩
                                · rw [List.getElem?_append_right (by simpa using hil)] at hi hu
                                  simp only [List.length_map] at hi hu
                                  exact hr2 _ s u hi hu
                              exact ⟨hs3.tr.srel hrx3.ox base.1 base.2, SV.inU_mono hs3.tr.uU _ base.2⟩
                            have ent := entry_rx (us := args'.toList.map a2.eval ++ us2) hs3.rx.ox (by simp [hl2]) b1 hargs
                            have e5 : (args'.toList.map a2.eval ++ us2).toArray = args'.map a2.eval ++ us2.toArray := by apply Array.ext'; simp
                            rw [e5] at ent
                            refine CallsD.mono (callsD_of_wp (R := fun e w5 => ∃ v c5 st5, e = .returned v ∧ OXM st5 w5 c5 ∧ TrM st3.ms w4 c3 st5 w5 c5 ∧ FrM st3.ms st5 ∧ ∃ r, resS P (st3.set none .un st5) fn.results.toList = some r ∧ kT k' r st5) hfg hcg (wp_mono (aeval_ok hrg cg _ _ hq _ w4 c3 ent) ?_)) ?_
                            · rintro e a5 w5 ⟨st4, c4, hs4, hq4⟩
                              have fin4 : (match resS P st4 fg.results.toList, resS P (st3.set none .un st4.ms) fn.results.toList with | some _, some r => kT k' r st4.ms | _, _ => False) → a5.defers = [] ∧ ∃ v, (results fg a5.tmps).run P w5 = .ok v w5 ∧ ∃ v' c5 st5, Ending.returned v = .returned v' ∧ OXM st5 w5 c5 ∧ TrM st3.ms w4 c3 st5 w5 c5 ∧ FrM st3.ms st5 ∧ ∃ r, resS P (st3.set none .un st5) fn.results.toList = some r ∧ kT k' r st5 := by
                                intro hq4
                                split at hq4
                                · rename_i r4 r h4 h5
                                  obtain ⟨v4, g1, g2, g3⟩ := resS_ok h4 hs4.rx
                                  exact ⟨hs4.df, v4, g1, v4, c4, st4.ms, rfl, hs4.rx.ox, hs4.tr, hs4.fr.2.2, r, h5, hq4⟩
                                · exact hq4.elim
                              cases e with
                              | normal => exact fin4 hq4
                              | ret => exact fin4 hq4
                              | _ => exact hq4.elim
                            · rintro e u' w5 ⟨rfl, v5, c5, st5, rfl, k1, k2, k3, r, k4, k5⟩
                              have hrx : RX (st3.set none .un st5) (a4.put none undef) w5 c5 := hs3.rx.set k2 k1 (d := none) rfl (.un _) trivial
                              exact resS_fin (m := m) (w0 := w) (c0 := c) k4 hrx (((hs1.tr.trans hs2.tr).trans hs3.tr).trans k2) (((hs1.fr.2.2.trans hs2.fr.2.2).trans hs3.fr.2.2).trans k3) k5
                          cases e with
                          | normal => exact fin hq
                          | ret => exact fin hq
                          | _ => exact hq.elim
                        · cases hdo
                    · exact hq.elim
                  · exact hq.elim
                · exact hq.elim
              · exact hq.elim
            | _ => exact hq.elim
        simp only [cond_true] at h
        split at h
        · exact main k h
        · rename_i s _
          obtain ⟨h⟩ := h
          refine (main _ h).mono ?_
          rintro e w' ⟨v, r, m', c', rfl, hq, hfr, hox', htr, hs, hu⟩
          split at hq
          · rename_i y hy
            rw [app_lam] at hq
            have hb0 : RX ⟨[], m, 1, [], []⟩ { tmps := #[undef], defers := [] } w c := ⟨hox, rfl, fun x u _ => .un u, fun x => trivial, fun x q wt g y hx => by cases hx⟩
            have hst : Step ⟨[], m, 1, [], []⟩ { tmps := #[undef], defers := [] } w c ⟨[(0, noC r)], m', 1, [], []⟩ { tmps := #[v], defers := [] } w' c' := by
              refine ⟨⟨hox', rfl, fun x u hx => ?_, fun x => ?_, fun x q wt g y hx => ?_⟩, htr, rfl, rfl, ⟨[(0, noC r)], rfl⟩, hfr⟩
              · show SRel c' w' (look [(0, noC r)] x) u
                rw [look_cons]
                split
                · rename_i e
                  subst e
                  have : v = u := by simpa using hx
                  subst this
                  exact noC_rel hs
                · exact .un u
              · show (look [(0, noC r)] x).inU _
                rw [look_cons]
                split
                · exact noC_inU hu
                · trivial
              · have hx : look [(0, noC r)] x = .cnd q wt g y := hx
                rw [look_cons] at hx
                split at hx
                · exact absurd hx noC_ne
                · cases hx
            obtain ⟨c2, h2⟩ := s.fit_ok hy hb0 hst
            exact ⟨v, _, _, c2, rfl, hq, h2.fr.2.2, h2.rx.ox, h2.tr, h2.rx.sl 0 v rfl, h2.rx.us 0⟩
          · exact hq.elim
    · exact h.elim
  · exact h.elim
end RE
end Go.Proofs.Ytpnmiieohdkenaa
namespace Go.Proofs.Ytpnmiieohdkenaa
open Go.RowKit
set_option linter.unusedVariables false
namespace RE
variable {P : Program}
mutual
/-- Data that no memory stands behind. -/
def D.flat : D → Bool
  | .v _ => true
  | .agg cs => flatL cs
  | .tup cs => flatL cs
  | _ => false
def flatL : List D → Bool
  | [] => true
  | x :: r => x.flat && flatL r
end
theorem flatL_get : ∀ {cs : List D}, flatL cs = true → ∀ {i : Nat} {c : D}, cs[i]? = some c → c.flat = true
  | [], _, i, c, h => by simp at h
  | x :: r, hf, i, c, h => by
    simp only [flatL, Bool.and_eq_true] at hf
    cases i with
    | zero => simp at h; subst h; exact hf.1
    | succ i => simp at h; exact flatL_get hf.2 h
theorem Rd.flat {S S' : Cells} {w w' : World} {x : D} {u : Value} (h : Rd S w x u) : x.flat = true → Rd S' w' x u := by
  induction h with
  | v x => exact fun _ => .v x
  | fn f cs us hl h ih => exact fun hf => by simp [D.flat] at hf
  | agg cs us hl h1 h ih => exact fun hf => .agg cs us hl h1 fun i c u hc hu => ih i c u hc hu (flatL_get (by simpa [D.flat] using hf) hc)
  | tup cs us hl h ih => exact fun hf => .tup cs us hl fun i c u hc hu => ih i c u hc hu (flatL_get (by simpa [D.flat] using hf) hc)
  | sl => exact fun hf => by simp [D.flat] at hf
  | p => exact fun hf => by simp [D.flat] at hf
def flatA : Ty → Bool
  | .sl _ => false
  | .st _ => false
  | _ => true
def flatT : Ty → Bool
  | .st s => (flds s).all flatA
  | t => flatA t
theorem encA_flat : ∀ {t : Ty} {x : den t}, flatA t = true → (encA t x).flat = true
  | .int _, _, _ => rfl
  | .bool, _, _ => rfl
  | .str, _, _ => rfl
  | .sl _, _, h => by cases h
  | .st _, _, h => by cases h
theorem encs_flat : ∀ {ts : List Ty} {x : dens ts}, ts.all flatA = true → flatL (encs ts x) = true
  | [], _, _ => rfl
  | t :: ts, x, h => by
    obtain ⟨h1, h2⟩ := Bool.and_eq_true_iff.1 (show (flatA t && ts.all flatA) = true by simpa using h)
    show (_ && _) = true
    rw [encA_flat h1, encs_flat h2]; rfl
theorem tv_flat : ∀ {t : Ty} {x : den t}, flatT t = true → (tv t x).flat = true
  | .st s, x, h => encs_flat (ts := flds s) h
  | .int _, _, _ => rfl
  | .bool, _, _ => rfl
  | .str, _, _ => rfl
  | .sl _, _, h => by cases h
theorem enc_flat : ∀ {t : Ty} {x : den t}, flatT t = true → flatL (enc t x) = true
  | .st s, x, h => encs_flat (ts := flds s) h
  | .int _, _, _ => rfl
  | .bool, _, _ => rfl
  | .str, _, _ => rfl
  | .sl _, _, h => by cases h
mutual
def shFlat : Sh → Bool
  | .dat t => flatT t
  | .own _ t => flatT t
  | .agg cs => shFlatL cs
  | .tup cs => shFlatL cs
  | .un => true
  | _ => false
def shFlatL : List Sh → Bool
  | [] => true
  | s :: r => shFlat s && shFlatL r
end
mutual
/-- A result's shape names no object of the caller's. -/
def shPure : Sh → Bool
  | .dat _ => true
  | .own _ _ => true
  | .agg cs => shPureL cs
  | .tup cs => shPureL cs
  | .un => true
  | _ => false
def shPureL : List Sh → Bool
  | [] => true
  | s :: r => shPure s && shPureL r
end
mutual
theorem instS_rows : ∀ (s : Sh) (acc : List Ty) (v : dens (shT s acc)) (k k' : Nat), (instS s acc v k).2 = (instS s acc v k').2
  | .dat t, acc, v, k, k' => rfl
  | .own e t, acc, v, k, k' => rfl
  | .bx id off, acc, v, k, k' => rfl
  | .rf id, acc, v, k, k' => rfl
  | .tp, acc, v, k, k' => rfl
  | .un, acc, v, k, k' => rfl
  | .agg cs, acc, v, k, k' => instL_rows cs acc v k k'
  | .tup cs, acc, v, k, k' => instL_rows cs acc v k k'
theorem instL_rows : ∀ (ss : List Sh) (acc : List Ty) (v : dens (shTL ss acc)) (k k' : Nat), (instL ss acc v k).2 = (instL ss acc v k').2
  | [], acc, v, k, k' => rfl
  | s :: ss, acc, v, k, k' => by
    have h1 := instS_rows s (shTL ss acc) v k k'
    have hA : ∀ k, (instL (s :: ss) acc v k).2 = ((instS s (shTL ss acc) v k).2.1 ++ (instL ss acc (instS s (shTL ss acc) v k).2.2 (k + (instS s (shTL ss acc) v k).2.1.length)).2.1, (instL ss acc (instS s (shTL ss acc) v k).2.2 (k + (instS s (shTL ss acc) v k).2.1.length)).2.2) := fun _ => rfl
    rw [hA, hA, h1, instL_rows ss acc _ (k + (instS s (shTL ss acc) v k').2.1.length) (k' + (instS s (shTL ss acc) v k').2.1.length)]
end
mutual
theorem instS_shift {c c2 : Cx} {w : World} {n : Nat} {al : Bool} (hS : al = true → ∀ b o, c.S b o → c2.S b o) (hH : ∀ i, c2.H (n + i) = c.H i) : ∀ (s : Sh) (acc : List Ty) (v : dens (shT s acc)) (k : Nat), shPure s = true → (al || shFlat s) = true → ∀ {u : Value}, SRel c w (instS s acc v k).1 u → SRel c2 w (instS s acc v (n + k)).1 u
  | .dat t, acc, v, k, _, hf, u, hr => by
    refine .d _ _ ?_
    have hr := srel_d hr
    cases al with
    | true => exact hr.mono (hS rfl) (fun _ _ _ => rfl)
    | false => exact hr.flat (tv_flat (show flatT t = true from by simpa [shFlat] using hf))
  | .own e t, acc, v, k, _, hf, u, hr => by
    rw [srel_os hr, ← hH]
    exact .os _
  | .bx id off, acc, v, k, hp, _, u, hr => by cases hp
  | .rf id, acc, v, k, hp, _, u, hr => by cases hp
  | .tp, acc, v, k, hp, _, u, hr => by cases hp
  | .un, acc, v, k, _, _, u, hr => .un u
  | .agg cs, acc, v, k, hp, hf, u, hr => by
    have hr : SRel c w (mkAgg (instL cs acc v k).1) u := hr
    obtain ⟨us, rfl, hl, h1, h2, _⟩ : ∃ us : List Value, u = .agg us.toArray ∧ us.length = (instL cs acc v k).1.length ∧ (∀ u ∈ us, u.oneCell' = true) ∧ (∀ (i : Nat) (s : SV) (u : Value), (instL cs acc v k).1[i]? = some s → us[i]? = some u → SRel c w s u) ∧ True := by
      unfold mkAgg at hr
      split at hr
      · rename_i ds hd
        have hd := dOf_spec hd
        cases srel_d hr with
        | agg _ us hl h1 h2 =>
          refine ⟨us, rfl, by rw [hd]; simp [hl], h1, fun i s u hs hu => ?_, trivial⟩
          rw [hd, List.getElem?_map, Option.map_eq_some_iff] at hs
          obtain ⟨x, hx, rfl⟩ := hs
          exact .d _ _ (h2 i x u hx hu)
      · obtain ⟨us, e1, e2, e3, e4⟩ := srel_agg hr
        exact ⟨us, e1, e2, e3, e4, trivial⟩
    obtain ⟨k1, k2⟩ := instL_shift hS hH cs acc v k hp hf
    show SRel c2 w (mkAgg (instL cs acc v (n + k)).1) _
    exact srel_mkAgg (by omega) h1 fun i s u hs hu => by
      have hi : i < (instL cs acc v k).1.length := by have := (List.getElem?_eq_some_iff.1 hu).1; omega
      exact k2 i _ s (List.getElem?_eq_getElem hi) hs (h2 i _ u (List.getElem?_eq_getElem hi) hu)
  | .tup cs, acc, v, k, hp, hf, u, hr => by
    have hr : SRel c w (.tup (instL cs acc v k).1) u := hr
    obtain ⟨k1, k2⟩ := instL_shift hS hH cs acc v k hp hf
    cases hr with
    | tup _ us hl h2 =>
      show SRel c2 w (.tup (instL cs acc v (n + k)).1) _
      exact .tup _ us (by omega) fun i s u hs hu => by
        have hi : i < (instL cs acc v k).1.length := by have := (List.getElem?_eq_some_iff.1 hu).1; omega
        exact k2 i _ s (List.getElem?_eq_getElem hi) hs (h2 i _ u (List.getElem?_eq_getElem hi) hu)
theorem instL_shift {c c2 : Cx} {w : World} {n : Nat} {al : Bool} (hS : al = true → ∀ b o, c.S b o → c2.S b o) (hH : ∀ i, c2.H (n + i) = c.H i) : ∀ (ss : List Sh) (acc : List Ty) (v : dens (shTL ss acc)) (k : Nat), shPureL ss = true → (al || shFlatL ss) = true → (instL ss acc v k).1.length = (instL ss acc v (n + k)).1.length ∧ ∀ (i : Nat) (x y : SV), (instL ss acc v k).1[i]? = some x → (instL ss acc v (n + k)).1[i]? = some y → ∀ {u : Value}, SRel c w x u → SRel c2 w y u
  | [], acc, v, k, _, _ => ⟨rfl, fun i x y h => by simp [instL] at h⟩
  | s :: ss, acc, v, k, hp, hf => by
    obtain ⟨p1, p2⟩ := Bool.and_eq_true_iff.1 (show (shPure s && shPureL ss) = true from hp)
    have f12 : (al || shFlat s) = true ∧ (al || shFlatL ss) = true := by
      cases al with
      | true => exact ⟨rfl, rfl⟩
      | false =>
        have hf : (shFlat s && shFlatL ss) = true := by simpa [shFlatL] using hf
        obtain ⟨a1, a2⟩ := Bool.and_eq_true_iff.1 hf
        exact ⟨by simpa using a1, by simpa using a2⟩
    have e := instS_rows s (shTL ss acc) v k (n + k)
    have e1 : (instS s (shTL ss acc) v k).2.1 = (instS s (shTL ss acc) v (n + k)).2.1 := by rw [e]
    have e2 : (instS s (shTL ss acc) v k).2.2 = (instS s (shTL ss acc) v (n + k)).2.2 := by rw [e]
    obtain ⟨q1, q2⟩ := instL_shift hS hH ss acc (instS s (shTL ss acc) v k).2.2 (k + (instS s (shTL ss acc) v k).2.1.length) p2 f12.2
    have hA : (instL (s :: ss) acc v k).1 = (instS s (shTL ss acc) v k).1 :: (instL ss acc (instS s (shTL ss acc) v k).2.2 (k + (instS s (shTL ss acc) v k).2.1.length)).1 := rfl
    have hB : (instL (s :: ss) acc v (n + k)).1 = (instS s (shTL ss acc) v (n + k)).1 :: (instL ss acc (instS s (shTL ss acc) v k).2.2 (n + (k + (instS s (shTL ss acc) v k).2.1.length))).1 := by
      show _ :: (instL ss acc (instS s (shTL ss acc) v (n + k)).2.2 (n + k + (instS s (shTL ss acc) v (n + k)).2.1.length)).1 = _
      rw [← e2, ← e1, Nat.add_assoc]
    rw [hA, hB]
    refine ⟨by simp [q1], fun i x y hx hy u hr => ?_⟩
    cases i with
    | zero => simp at hx hy; subst hx hy; exact instS_shift hS hH s (shTL ss acc) v k p1 f12.1 hr
    | succ i => simp at hx hy; exact q2 i x y hx hy hr
end
mutual
theorem instS_inU {n : Nat} : ∀ (s : Sh) (acc : List Ty) (v : dens (shT s acc)) (k : Nat), shPure s = true → (instS s acc v k).1.inU fun i => k ≤ i ∧ i < k + (instS s acc v k).2.1.length
  | .dat t, acc, v, k, _ => trivial
  | .own e t, acc, v, k, _ => ⟨Nat.le_refl _, by show k < k + 1; omega⟩
  | .bx id off, acc, v, k, hp => by cases hp
  | .rf id, acc, v, k, hp => by cases hp
  | .tp, acc, v, k, hp => by cases hp
  | .un, acc, v, k, _ => trivial
  | .agg cs, acc, v, k, hp => mkAgg_inU (instL_inU (n := n) cs acc v k hp)
  | .tup cs, acc, v, k, hp => instL_inU (n := n) cs acc v k hp
theorem instL_inU {n : Nat} : ∀ (ss : List Sh) (acc : List Ty) (v : dens (shTL ss acc)) (k : Nat), shPureL ss = true → inUL (fun i => k ≤ i ∧ i < k + (instL ss acc v k).2.1.length) (instL ss acc v k).1
  | [], acc, v, k, _ => trivial
  | s :: ss, acc, v, k, hp => by
    obtain ⟨p1, p2⟩ := Bool.and_eq_true_iff.1 (show (shPure s && shPureL ss) = true from hp)
    have h1 := instS_inU (n := n) s (shTL ss acc) v k p1
    have h2 := instL_inU (n := n) ss acc (instS s (shTL ss acc) v k).2.2 (k + (instS s (shTL ss acc) v k).2.1.length) p2
    have e : (instL (s :: ss) acc v k).2.1.length = (instS s (shTL ss acc) v k).2.1.length + (instL ss acc (instS s (shTL ss acc) v k).2.2 (k + (instS s (shTL ss acc) v k).2.1.length)).2.1.length := by
      show ((instS s (shTL ss acc) v k).2.1 ++ _).length = _
      rw [List.length_append]
    rw [e]
    exact ⟨SV.inU_mono (fun i hi => by omega) _ h1, inUL_mono (fun i hi => by omega) _ h2⟩
end
/-- A contract: of the arguments, what must hold so that a statement of the results holds behind the call. -/
structure Spec where
  f : FuncId
  tp : Bool
  al : Bool
  ts : List Ty
  rs : Sh
  pt : dens ts → (dens (shT rs []) → Prop) → Prop
def tvs : (ts : List Ty) → dens ts → List D
  | [], _ => []
  | t :: ts, x => tv t x.1 :: tvs ts x.2
def undoL : (ts : List Ty) → List D → Option (dens ts)
  | [], [] => some ()
  | t :: ts, d :: ds => match undoT t d, undoL ts ds with
    | some x, some r => some (x, r)
    | _, _ => none
  | _, _ => none
theorem undoL_rd : ∀ {ts : List Ty} {ds : List D} {x : dens ts}, undoL ts ds = some x → ds.length = ts.length ∧ ∀ (i : Nat) (c d : D), (tvs ts x)[i]? = some c → ds[i]? = some d → ∀ {S : Cells} {w : World} {u : Value}, Rd S w d u → Rd S w c u
  | [], [], x, _ => ⟨rfl, fun i c d h => by simp [tvs] at h⟩
  | [], _ :: _, x, h => by simp [undoL] at h
  | _ :: _, [], x, h => by simp [undoL] at h
  | t :: ts, d :: ds, x, h => by
    unfold undoL at h
    split at h
    · rename_i y r h1 h2
      injection h with h
      subst h
      obtain ⟨k1, k2⟩ := undoL_rd h2
      refine ⟨by simp [k1], fun i c d' hc hd S w u hr => ?_⟩
      cases i with
      | zero => simp [tvs] at hc hd; subst hc hd; exact undoT_rd h1 hr
      | succ i => simp [tvs] at hc hd; exact k2 i c d' hc hd hr
    · cases h
theorem tvs_len : ∀ (ts : List Ty) (x : dens ts), (tvs ts x).length = ts.length
  | [], _ => rfl
  | t :: ts, x => by simp [tvs, tvs_len ts x.2]
def MS.add (m : MS) (rows : List Row) : MS := ⟨rowsOb m.nx rows ++ m.ob, m.nx + rows.length, m.tp⟩
def tpArg : Option Nat → List Value → List Value
  | some t, us => .pointer (some ⟨t, 0, none⟩) :: us
  | none, us => us
def TapeC (tp : Bool) (w : World) (S : Cells) (T : Option Nat) : Prop := match tp with
  | true => ∃ t, T = some t ∧ TapeS w t S ∧ ∀ k, ¬ S t k
  | false => T = none
def cx0 (S : Cells) (T : Option Nat) : Cx := ⟨S, fun _ => undef, fun _ _ => False, T⟩
def SpecOK (P : Program) (s : Spec) : Prop := ∀ x post, s.pt x post → ∀ w (S : Cells) (T : Option Nat) (us : List Value), (∀ b o, S b o → b < w.heap.size) → TapeC s.tp w S T → us.length = s.ts.length →
  (∀ (i : Nat) (d : D) (u : Value), (tvs s.ts x)[i]? = some d → us[i]? = some u → Rd S w d u) →
  Calls P s.f (tpArg T us).toArray w fun e w' => ∃ v y c', e = .returned v ∧ post y ∧ OXM (MS.add ⟨[], 0, s.tp⟩ (instS s.rs [] y 0).2.1) w' c' ∧ TrM ⟨[], 0, s.tp⟩ w (cx0 S T) (MS.add ⟨[], 0, s.tp⟩ (instS s.rs [] y 0).2.1) w' c' ∧ SRel c' w' (instS s.rs [] y 0).1 v
end RE
end Go.Proofs.Ytpnmiieohdkenaa
namespace Go.Proofs.Ytpnmiieohdkenaa
open Go.RowKit
set_option linter.unusedVariables false
namespace RE
variable {P : Program}
/-- All cells that a callee may read. -/
def lentS (ob : Obs) (c : Cx) : Cells := fun b o => c.S b o ∨ FP ob c b
theorem rows_obs (m : MS) (rows : List Row) (id : Nat) (x : Ob) (h : (m.add rows).obs id = some x) : (∃ j r, id = m.nx + j ∧ rows[j]? = some r ∧ x = .row r.1 r.2.1 r.2.2) ∨ m.obs id = some x := by
  have h : lookO (rowsOb m.nx rows ++ m.ob) id = some x := h
  rw [lookO_app'] at h
  cases hr : lookK (rowsOb m.nx rows) id with
  | some v =>
    rw [hr] at h
    obtain ⟨j, r, h1, h2, h3⟩ := rowsOb_some hr
    have h : v = some x := h
    rw [h3] at h
    injection h with h
    exact .inl ⟨j, r, h1, h2, h.symm⟩
  | none => rw [hr] at h; exact .inr h
theorem lookK_rows : ∀ (rows : List Row) (k j : Nat) (r : Row), rows[j]? = some r → lookK (rowsOb k rows) (k + j) = some (some (.row r.1 r.2.1 r.2.2))
  | [], k, j, r, h => by simp at h
  | q :: rows, k, 0, r, h => by
    simp at h
    subst h
    rw [rowsOb, lookK_cons, if_pos (by simp)]
  | q :: rows, k, j + 1, r, h => by
    rw [rowsOb, lookK_cons, if_neg (by simp), show k + (j + 1) = k + 1 + j by omega]
    exact lookK_rows rows (k + 1) j r (by simpa using h)
/-- Behind a call: the callee's rows are the caller's. -/
theorem call_back {m : MS} {w w' : World} {c c' : Cx} {rows : List Row} {S0 : Cells} {T0 : Option Nat} {tp al : Bool} (hox : OXM m w c) (hT : (tp = true ∧ al = true ∧ T0 = c.T) ∨ T0 = none) (hS0 : al = true → ∀ b o, S0 b o → c.S b o)
    (hflat : al = true ∨ ∀ r ∈ rows, flatT r.2.1 = true) (hox' : OXM (MS.add ⟨[], 0, tp⟩ rows) w' c') (ht : TrM ⟨[], 0, tp⟩ w (cx0 S0 T0) (MS.add ⟨[], 0, tp⟩ rows) w' c') (htpm : tp = true → T0 = c.T) :
    ∃ c2, OXM (m.add rows) w' c2 ∧ TrM m w c (m.add rows) w' c2 ∧ (∀ i, c2.H (m.nx + i) = c'.H i) ∧ (al = true → ∀ b o, c'.S b o → c2.S b o) := by
  have hnoFP : ∀ b, ¬ FP (MS.obs ⟨[], 0, tp⟩) (cx0 S0 T0) b := fun b ⟨id, x, h, _⟩ => by cases h
  have hfpnew : ∀ j r b, rows[j]? = some r → c'.F j b → w.heap.size ≤ b := fun j r b hr hb => by
    have : (MS.add ⟨[], 0, tp⟩ rows).obs j = some (.row r.1 r.2.1 r.2.2) := by
      show lookO (rowsOb 0 rows ++ []) j = _
      rw [lookO_app']
      have := lookK_rows rows 0 j r hr
      rw [Nat.zero_add] at this
      rw [this]; rfl
    rcases ht.fp b ⟨j, _, this, rfl, hb⟩ with e | e
    · exact absurd e (hnoFP b)
    · exact e
  have hrow : ∀ j r, rows[j]? = some r → (MS.add ⟨[], 0, tp⟩ rows).obs j = some (.row r.1 r.2.1 r.2.2) := fun j r hr => by
    show lookO (rowsOb 0 rows ++ []) j = _
    rw [lookO_app']
    have := lookK_rows rows 0 j r hr
    rw [Nat.zero_add] at this
    rw [this]; rfl
  -- blocks of the caller's stay, but for the tape's
  have hblk : ∀ b, b < w.heap.size → (tp = true → c.T ≠ some b) → w'.heap[b]? = w.heap[b]? := fun b hb hTb => by
    refine ht.blk b hb (hnoFP b) ?_
    show T0 ≠ some b
    rcases hT with ⟨e1, _, e2⟩ | e
    · rw [e2]; exact hTb e1
    · rw [e]; exact fun h => by cases h
  have hcell : ∀ b o, c.S b o → w'.cell? ⟨b, o, none⟩ = w.cell? ⟨b, o, none⟩ := fun b o hs => World.cell?_of_block (hblk b (hox.sb b o hs) fun _ e => (hox.nT b e).2 o hs)
  let c2 : Cx := ⟨fun b o => c.S b o ∨ (c'.S b o ∧ w.heap.size ≤ b), fun i => if i < m.nx then c.H i else c'.H (i - m.nx), fun i => if i < m.nx then c.F i else c'.F (i - m.nx), c.T⟩
  have h2o : ∀ i, i < m.nx → c2.H i = c.H i ∧ c2.F i = c.F i := fun i hi => ⟨if_pos hi, if_pos hi⟩
  have h2n : ∀ i, c2.H (m.nx + i) = c'.H i ∧ c2.F (m.nx + i) = c'.F i := fun i => by
    refine ⟨?_, ?_⟩
    · show (if m.nx + i < m.nx then _ else _) = _
      rw [if_neg (by omega), show m.nx + i - m.nx = i by omega]
    · show (if m.nx + i < m.nx then _ else _) = _
      rw [if_neg (by omega), show m.nx + i - m.nx = i by omega]
  have hSal : al = true → ∀ b o, c'.S b o → c2.S b o := fun ha b o hb => by
    rcases ht.sN b o hb with e | e | e
    · exact .inl (hS0 ha b o e)
    · exact absurd e (hnoFP b)
    · exact .inr ⟨hb, e⟩
  have hS2 : ∀ b o, c2.S b o → c.S b o ∨ w.heap.size ≤ b := fun b o hb => hb.imp id (·.2)
  refine ⟨c2, ⟨fun b o hb => ?_, fun id x hx => ?_, fun id x hx hox2 b hb => ?_, fun i j x y hx ox2 hy oy2 hne b hb hb' => ?_, fun T hTs => ?_, fun htp => ?_, hox.tF⟩, ⟨ht.os, ht.tape, ht.output, ht.sz, fun _ h => h, fun _ h => .inl h, fun i hi => ?_, fun i hi => h2o i hi, fun _ _ h => .inl h, fun b o hb => ?_, fun b hb hf hTb => ?_, fun b hb => ?_⟩, fun i => (h2n i).1, hSal⟩
  · rcases hb with hb | ⟨hb, _⟩
    · exact Nat.lt_of_lt_of_le (hox.sb b o hb) ht.sz
    · exact hox'.sb b o hb
  · rcases rows_obs m rows id x hx with ⟨j, r, rfl, hr, rfl⟩ | hx
    · refine ⟨?_, trivial, ?_⟩
      · show m.nx + j < m.nx + rows.length
        have := (List.getElem?_eq_some_iff.1 hr).1; omega
      · show RowAt w' c2.S (c2.H (m.nx + j)) (c2.F (m.nx + j)) _ _ _
        rw [(h2n j).1, (h2n j).2]
        obtain ⟨h0, h | ⟨g, cap, cur, hv, hF, hg, q1, q2, q3, q4⟩⟩ := (hox'.objs j _ (hrow j r hr)).2.2
        · exact ⟨h0, .inl h⟩
        · refine ⟨h0, .inr ⟨g, cap, cur, hv, hF, hg, q1, q2, q3, fun i x hi jj d hd => ?_⟩⟩
          obtain ⟨u, u1, u2, u3⟩ := q4 i x hi jj d hd
          refine ⟨u, u1, u2, ?_⟩
          rcases hflat with ha | hf
          · exact u3.mono (hSal ha) (fun _ _ _ => rfl)
          · exact u3.flat (flatL_get (enc_flat (hf r (List.mem_of_getElem? hr))) hd)
    · obtain ⟨u1, u2, u3⟩ := hox.objs id x hx
      have hid : id < m.nx := u1
      refine ⟨?_, Ob.inU_mono (fun i hi => ?_) u2, u3.keep (U := m.U) u2 (fun _ _ h => .inl h) hcell (fun _ h => h) (fun i hi => (h2o i hi).1) (h2o id hid) fun ho b hb => ?_⟩
      · show id < m.nx + rows.length; omega
      · have hi : i < m.nx := hi
        show i < m.nx + rows.length; omega
      · obtain ⟨p1, p2, p3⟩ := hox.fb id x hx ho b hb
        exact hblk b p1 fun _ => p3
  · rcases rows_obs m rows id x hx with ⟨j, r, rfl, hr, rfl⟩ | hx
    · rw [(h2n j).2] at hb
      have hnew := hfpnew j r b hr hb
      obtain ⟨p1, p2, p3⟩ := hox'.fb j _ (hrow j r hr) rfl b hb
      refine ⟨p1, fun k hk => ?_, fun e => ?_⟩
      · rcases hk with hk | ⟨hk, _⟩
        · have := hox.sb b k hk; omega
        · exact p2 k hk
      · have := (hox.nT b e).1; omega
    · rw [(h2o id (hox.objs id x hx).1).2] at hb
      obtain ⟨p1, p2, p3⟩ := hox.fb id x hx hox2 b hb
      refine ⟨Nat.lt_of_lt_of_le p1 ht.sz, fun k hk => ?_, p3⟩
      rcases hS2 b k hk with e | e
      · exact p2 k e
      · omega
  · rcases rows_obs m rows i x hx with ⟨p, r, rfl, hr, rfl⟩ | hx
    · rw [(h2n p).2] at hb
      have hnew := hfpnew p r b hr hb
      rcases rows_obs m rows j y hy with ⟨q, r', rfl, hr', rfl⟩ | hy
      · rw [(h2n q).2] at hb'
        exact hox'.dj p q _ _ (hrow p r hr) rfl (hrow q r' hr') rfl (fun e => hne (by rw [e])) b hb hb'
      · rw [(h2o j (hox.objs j y hy).1).2] at hb'
        have := (hox.fb j y hy oy2 b hb').1; omega
    · rw [(h2o i (hox.objs i x hx).1).2] at hb
      have hlt := (hox.fb i x hx ox2 b hb).1
      rcases rows_obs m rows j y hy with ⟨q, r', rfl, hr', rfl⟩ | hy
      · rw [(h2n q).2] at hb'
        have := hfpnew q r' b hr' hb'; omega
      · rw [(h2o j (hox.objs j y hy).1).2] at hb'
        exact hox.dj i j x y hx ox2 hy oy2 hne b hb hb'
  · obtain ⟨p1, p2⟩ := hox.nT T hTs
    refine ⟨Nat.lt_of_lt_of_le p1 ht.sz, fun k hk => ?_⟩
    rcases hS2 T k hk with e | e
    · exact p2 k e
    · omega
  · obtain ⟨T, hTs, hta⟩ := hox.tpe htp
    refine ⟨T, hTs, ?_⟩
    cases htt : tp with
    | true =>
      rcases hT with ⟨_, ha, e2⟩ | e
      · obtain ⟨T', hT', hta'⟩ := hox'.tpe htt
        have : c'.T = some T := ht.tK T (by show T0 = some T; rw [e2]; exact hTs)
        rw [this] at hT'
        injection hT' with hT'
        subst hT'
        exact hta'.mono (hSal ha) (fun _ _ _ => rfl) rfl
      · have := htpm htt
        rw [e, hTs] at this
        cases this
    | false => exact hta.mono (fun _ _ h => .inl h) hcell (hblk T hta.lt fun e => by rw [htt] at e; cases e)
  · have hi : i < m.nx := hi
    show i < m.nx + rows.length; omega
  · rcases hb with hb | ⟨_, hb⟩
    · exact .inl hb
    · exact .inr (.inr hb)
  · exact hblk b hb fun _ => hTb
  · obtain ⟨id, x, hx, ho, hb⟩ := hb
    rcases rows_obs m rows id x hx with ⟨j, r, rfl, hr, rfl⟩ | hx
    · rw [(h2n j).2] at hb
      exact .inr (hfpnew j r b hr hb)
    · rw [(h2o id (hox.objs id x hx).1).2] at hb
      exact .inl ⟨id, x, hx, ho, hb⟩
mutual
/-- A word as a callee may read it. -/
def viewOf (m : Mem) : SV → Option D
  | .d x => some x
  | .os id => match rowOf m id with
    | some ⟨t, l⟩ => some (.sl t l)
    | none => none
  | .sub id sz a b => match rowOf m id with
    | some ⟨t, l⟩ => bif Nat.beq sz (size t) then some (.sl t (sub l a b)) else none
    | none => none
  | .ns id => match m.ob id with
    | some (.nst _ t _ _ _ l) => some (.sl t l)
    | some (.nfr t l) => some (.sl t l)
    | _ => none
  | .agg cs => match viewL m cs with
    | some ds => some (.agg ds)
    | none => none
  | .fn f cs => match viewL m cs with
    | some ds => some (.fn f ds)
    | none => none
  | _ => none
def viewL (m : Mem) : List SV → Option (List D)
  | [] => some []
  | s :: r => match viewOf m s, viewL m r with
    | some d, some ds => some (d :: ds)
    | _, _ => none
end
theorem row_view {m : Mem} {w : World} {c : Cx} (ox : OX m.ob m.U m.tp w c) {id : Nat} {t : Ty} {l : List (den t)} (h : rowOf m id = some ⟨t, l⟩) : Rd (lentS m.ob c) w (.sl t l) (c.H id) := by
  unfold rowOf at h
  split at h
  · rename_i e t' l' hr
    injection h with h
    cases h
    obtain ⟨h0, ⟨hl, ⟨ad, hv⟩, _⟩ | ⟨g, cap, cur, hv, hF, hg, h1, h2, h3, h4⟩⟩ := (ox.objs id _ hr).2.2
    · subst hl
      rw [hv]; exact Rd.nil _ _ _ (Nat.zero_le _)
    · rw [hv]
      obtain ⟨f, f1, f2⟩ := rowCells (w := w) (S := c.S) (l := l) (g := g) (fun i x hi j d hd => by
        obtain ⟨u, u1, u2, u3⟩ := h4 i x hi j d hd
        exact ⟨u, by rw [cell_row hg]; exact u1, u2, u3⟩)
      exact Rd.sl t l _ cap g 0 f h1 h2 (.inr rfl) (fun i hi j hj => ⟨.inr ⟨id, _, hr, rfl, (hF g).2 rfl⟩, by rw [Nat.zero_add]; exact f1 i hi j hj⟩) (fun i x j d hi hd => (f2 i x j d hi hd).mono (fun _ _ h => .inl h) (fun _ _ _ => rfl))
  · rename_i t' l' hr
    injection h with h
    cases h
    exact ((ox.objs id _ hr).2.2.1).mono (fun _ _ h => .inl h) (fun _ _ _ => rfl)
  · cases h
mutual
theorem viewOf_rel {m : Mem} {c : Cx} {w : World} (ox : OX m.ob m.U m.tp w c) : ∀ (s : SV) {x : D}, viewOf m s = some x → ∀ {u : Value}, SRel c w s u → Rd (lentS m.ob c) w x u
  | .d y, x, hd, u, hr => by
    simp only [viewOf, Option.some.injEq] at hd
    rw [← hd]; exact (srel_d hr).mono (fun _ _ h => .inl h) (fun _ _ _ => rfl)
  | .os id, x, hd, u, hr => by
    unfold viewOf at hd
    split at hd
    · rename_i t l hrow
      injection hd with hd
      subst hd
      rw [srel_os hr]; exact row_view ox hrow
    · cases hd
  | .sub id sz a b, x, hd, u, hr => by
    unfold viewOf at hd
    split at hd
    · rename_i t l hrow
      cases hb : Nat.beq sz (size t) with
      | false => rw [hb] at hd; cases hd
      | true =>
        rw [hb] at hd
        have hb := beq_eq hb
        subst hb
        injection hd with hd
        subst hd
        obtain ⟨ad, n, cap, hv, rfl, hab⟩ := srel_sub hr
        have hrd := row_view ox hrow
        rw [hv] at hrd
        have hn : n = l.length := by
          obtain ⟨_, _, _, _, _, e, _⟩ := hrd.slInv
          injection e
        subst hn
        exact hrd.sub hab
    · cases hd
  | .ns id, x, hd, u, hr => by
    unfold viewOf at hd
    obtain ⟨vs0, hH0⟩ := srel_ns hr
    have fin : ∀ {t : Ty} {l : List (den t)} {v : Value} {vs : List Value}, c.H id = .tuple (List.toArray (v :: vs)) → Rd (lentS m.ob c) w (.sl t l) v → Rd (lentS m.ob c) w (.sl t l) u := fun h1 h2 => by
      rw [hH0] at h1
      injection h1 with h1
      have h1 := congrArg Array.toList h1
      simp only [List.cons.injEq] at h1
      rw [h1.1]; exact h2
    split at hd
    · rename_i e t k e' t' l hob
      injection hd with hd
      subst hd
      have hn : NstAt w c.S (c.H id) (c.F id) e t k e' t' l := (ox.objs id _ hob).2.2
      obtain ⟨v, vs, h1, h2⟩ := hn.rd (S' := lentS m.ob c) (fun _ _ h => .inl h) fun b hb o => .inr ⟨id, _, hob, rfl, hb⟩
      exact fin h1 h2
    · rename_i t l hob
      injection hd with hd
      subst hd
      obtain ⟨v, vs, h1, h2⟩ := (ox.objs id _ hob).2.2
      exact fin h1 (h2.mono (fun _ _ h => .inl h) (fun _ _ _ => rfl))
    · cases hd
  | .agg cs, x, hd, u, hr => by
    unfold viewOf at hd
    split at hd
    · rename_i ds hl
      injection hd with hd
      subst hd
      obtain ⟨us, rfl, h1, h2, h3⟩ := srel_agg hr
      obtain ⟨k1, k2⟩ := viewL_rel ox cs hl
      exact Rd.agg ds us (by omega) h2 fun i d u hd hu => by
        have hil : i < cs.length := by have := (List.getElem?_eq_some_iff.1 hd).1; omega
        exact k2 i cs[i] d (List.getElem?_eq_getElem hil) hd (h3 i cs[i] u (List.getElem?_eq_getElem hil) hu)
    · cases hd
  | .fn f cs, x, hd, u, hr => by
    unfold viewOf at hd
    split at hd
    · rename_i ds hl
      injection hd with hd
      subst hd
      obtain ⟨k1, k2⟩ := viewL_rel ox cs hl
      cases hr with
      | fn _ _ us h1 h3 =>
        exact Rd.fn f ds us (by omega) fun i d u hd hu => by
          have hil : i < cs.length := by have := (List.getElem?_eq_some_iff.1 hd).1; omega
          exact k2 i cs[i] d (List.getElem?_eq_getElem hil) hd (h3 i cs[i] u (List.getElem?_eq_getElem hil) hu)
    · cases hd
  | .bx _ _, _, hd, _, _ | .op _ _ _ _, _, hd, _, _ | .tup _, _, hd, _, _ | .cnd _ _ _ _, _, hd, _, _ | .tp, _, hd, _, _ | .un, _, hd, _, _ | .np _ _ _ _, _, hd, _, _ | .inn _ _, _, hd, _, _ | .ip _ _ _ _ _, _, hd, _, _ => by simp [viewOf] at hd
theorem viewL_rel {m : Mem} {c : Cx} {w : World} (ox : OX m.ob m.U m.tp w c) : ∀ (ss : List SV) {ds : List D}, viewL m ss = some ds → ss.length = ds.length ∧ ∀ (i : Nat) (s : SV) (d : D), ss[i]? = some s → ds[i]? = some d → ∀ {u : Value}, SRel c w s u → Rd (lentS m.ob c) w d u
  | [], ds, hd => by
    simp only [viewL, Option.some.injEq] at hd
    rw [← hd]
    exact ⟨rfl, fun i s d h => by simp at h⟩
  | s :: r, ds, hd => by
    unfold viewL at hd
    split at hd
    · rename_i d ds' h1 h2
      injection hd with hd
      subst hd
      obtain ⟨k1, k2⟩ := viewL_rel ox r h2
      refine ⟨by simp [k1], fun i s' d' hs hd u hr => ?_⟩
      cases i with
      | zero => simp at hs hd; subst hs hd; exact viewOf_rel ox s h1 hr
      | succ i => simp at hs hd; exact k2 i s' d' hs hd hr
    · cases hd
end
/-- The tape, if it is an argument; the others. -/
def tapeArg (tp mtp : Bool) (ss : List SV) : Option (List SV) := match tp with
  | true => match ss with
    | .tp :: r => bif mtp then some r else none
    | _ => none
  | false => some ss
/-- A call by contract. -/
def byCon (s : Spec) (ss : List SV) (m : MS) (k : SV → MS → Prop) : Prop :=
  match tapeArg s.tp m.tp ss with
  | none => False
  | some ss => bif s.al then match dataL m.mem ss with
      | some (ds, ids) => match undoL s.ts ds with
        | some x => bif shPure s.rs then s.pt x fun y => k (instS s.rs [] y m.nx).1 (MS.add ⟨fzU m.obs ids ++ m.ob, m.nx, m.tp⟩ (instS s.rs [] y 0).2.1) else False
        | none => False
      | none => False
    else match viewL m.mem ss with
      | some ds => match undoL s.ts ds with
        | some x => bif shPure s.rs && shFlat s.rs && !s.tp then s.pt x fun y => k (instS s.rs [] y m.nx).1 (m.add (instS s.rs [] y 0).2.1) else False
        | none => False
      | none => False
end RE
end Go.Proofs.Ytpnmiieohdkenaa
namespace Go.Proofs.Ytpnmiieohdkenaa
open Go.RowKit
set_option linter.unusedVariables false
namespace RE
variable {P : Program}
mutual
theorem instS_flat : ∀ (s : Sh) (acc : List Ty) (v : dens (shT s acc)) (k : Nat), shFlat s = true → ∀ r ∈ (instS s acc v k).2.1, flatT r.2.1 = true
  | .dat t, acc, v, k, _ => fun r h => by cases h
  | .own e t, acc, v, k, hf => fun r h => by
    have h : r ∈ [((e, ⟨t, v.1⟩) : Row)] := h
    simp at h
    subst h
    exact hf
  | .bx id off, acc, v, k, _ => fun r h => by cases h
  | .rf id, acc, v, k, _ => fun r h => by cases h
  | .tp, acc, v, k, _ => fun r h => by cases h
  | .un, acc, v, k, _ => fun r h => by cases h
  | .agg cs, acc, v, k, hf => instL_flat cs acc v k hf
  | .tup cs, acc, v, k, hf => instL_flat cs acc v k hf
theorem instL_flat : ∀ (ss : List Sh) (acc : List Ty) (v : dens (shTL ss acc)) (k : Nat), shFlatL ss = true → ∀ r ∈ (instL ss acc v k).2.1, flatT r.2.1 = true
  | [], acc, v, k, _ => fun r h => by cases h
  | s :: ss, acc, v, k, hf => fun r h => by
    obtain ⟨p1, p2⟩ := Bool.and_eq_true_iff.1 (show (shFlat s && shFlatL ss) = true from hf)
    have h : r ∈ (instS s (shTL ss acc) v k).2.1 ++ (instL ss acc (instS s (shTL ss acc) v k).2.2 (k + (instS s (shTL ss acc) v k).2.1.length)).2.1 := h
    rcases List.mem_append.1 h with h | h
    · exact instS_flat s (shTL ss acc) v k p1 r h
    · exact instL_flat ss acc _ _ p2 r h
end
theorem byCon_ok {s : Spec} (hs : SpecOK P s) {ss : List SV} {m : MS} {k : SV → MS → Prop} (h : byCon s ss m k) {us : List Value} {w : World} {c : Cx} (hox : OXM m w c) (hl : us.length = ss.length) (hr : ∀ (i : Nat) (x : SV) (u : Value), ss[i]? = some x → us[i]? = some u → SRel c w x u ∧ x.inU m.U) :
    Calls P s.f us.toArray w fun e w' => ∃ v r m' c', e = .returned v ∧ k r m' ∧ FrM m m' ∧ OXM m' w' c' ∧ TrM m w c m' w' c' ∧ SRel c' w' r v ∧ r.inU m'.U := by
  unfold byCon at h
  split at h
  · exact h.elim
  · rename_i ss' hta
    -- the tape, and the others
    have harg : ∃ (us' : List Value) (T0 : Option Nat), us = tpArg T0 us' ∧ us'.length = ss'.length ∧ (∀ (i : Nat) (x : SV) (u : Value), ss'[i]? = some x → us'[i]? = some u → SRel c w x u ∧ x.inU m.U) ∧ ((s.tp = true ∧ T0 = c.T ∧ m.tp = true ∧ ∃ t, c.T = some t) ∨ (s.tp = false ∧ T0 = none)) := by
      cases htp : s.tp with
      | false =>
        rw [htp] at hta
        injection hta with hta
        subst hta
        exact ⟨us, none, rfl, hl, hr, .inr ⟨rfl, rfl⟩⟩
      | true =>
        rw [htp] at hta
        unfold tapeArg at hta
        split at hta
        · split at hta
          · rename_i r
            cases hm : m.tp with
            | false => rw [hm] at hta; cases hta
            | true =>
              rw [hm] at hta
              injection hta with hta
              subst hta
              match us, hl, hr with
              | u :: us', hl, hr =>
                obtain ⟨T, hT, rfl⟩ := srel_tp (hr 0 .tp u rfl rfl).1
                exact ⟨us', some T, rfl, by simpa using hl, fun i x u hx hu => hr (i + 1) x u hx hu, .inl ⟨rfl, hT.symm, rfl, T, hT⟩⟩
          · cases hta
        · rename_i he; cases he
    obtain ⟨us', T0, rfl, hl', hr', hT⟩ := harg
    have hTC : ∀ S : Cells, (∀ b o, c.S b o → S b o) → (s.tp = true → S = c.S) → TapeC s.tp w S T0 := fun S hS hSe => by
      rcases hT with ⟨e1, e2, e3, t, e4⟩ | ⟨e1, e2⟩
      · rw [e1]
        obtain ⟨T, h1, h2⟩ := hox.tpe e3
        refine ⟨T, e2.trans h1, ?_, ?_⟩
        · rw [hSe e1]; exact h2
        · rw [hSe e1]; exact (hox.nT T h1).2
      · rw [e1]; exact e2
    cases hal : s.al with
    | true =>
      rw [hal] at h
      simp only [cond_true] at h
      split at h
      · rename_i ds ids hd
        split at h
        · rename_i x hx
          cases hp : shPure s.rs with
          | false => rw [hp] at h; exact h.elim
          | true =>
            rw [hp] at h
            simp only [cond_true] at h
            obtain ⟨c1, ox1, t1, hH1, hT1⟩ := hox.freezes ids
            have ob1 : MS.obs ⟨fzU m.obs ids ++ m.ob, m.nx, m.tp⟩ = ovr m.obs (fzU m.obs ids) := lookO_app _ _
            have ox1' : OXM ⟨fzU m.obs ids ++ m.ob, m.nx, m.tp⟩ w c1 := by show OX (MS.obs _) _ _ _ _; rw [ob1]; exact ox1
            have t1' : TrM m w c ⟨fzU m.obs ids ++ m.ob, m.nx, m.tp⟩ w c1 := by show Tr _ _ _ _ (MS.obs ⟨_, _, _⟩) _ _ _; rw [ob1]; exact t1
            obtain ⟨d1, d2⟩ := dataL_rel (m := m.mem) hox ox1 t1 hH1 ss' hd (fun _ h => h)
            obtain ⟨x1, x2⟩ := undoL_rd hx
            have hTC' : TapeC s.tp w c1.S T0 := by
              rcases hT with ⟨e1, e2, e3, t, e4⟩ | ⟨e1, e2⟩
              · rw [e1]
                obtain ⟨T, h1, h2⟩ := ox1'.tpe e3
                exact ⟨T, e2.trans (by rw [← hT1]; exact h1), h2, (ox1'.nT T h1).2⟩
              · rw [e1]; exact e2
            refine (hs x _ h w c1.S T0 us' ox1.sb hTC' (by omega) (fun i d u hdi hu => ?_)).mono ?_
            · have hi : i < ds.length := by have := (List.getElem?_eq_some_iff.1 hdi).1; rw [tvs_len] at this; omega
              have his : i < ss'.length := by omega
              exact x2 i d ds[i] hdi (List.getElem?_eq_getElem hi) (d2 i ss'[i] ds[i] (List.getElem?_eq_getElem his) (List.getElem?_eq_getElem hi) (hr' i _ u (List.getElem?_eq_getElem his) hu).1)
            · rintro e w' ⟨v, y, c', rfl, hy, oxr, tr, hsr⟩
              have hTT : (s.tp = true ∧ true = true ∧ T0 = c1.T) ∨ T0 = none := by
                rcases hT with ⟨e1, e2, _⟩ | ⟨_, e2⟩
                · exact .inl ⟨e1, rfl, by rw [hT1]; exact e2⟩
                · exact .inr e2
              obtain ⟨c2, b1, b2, b3, b4⟩ := call_back (al := true) ox1' hTT (fun _ _ _ h => h) (.inl rfl) oxr tr (fun e => by
                rcases hT with ⟨_, e2, _⟩ | ⟨e2, _⟩
                · rw [hT1]; exact e2
                · rw [e] at e2; cases e2)
              have hsh := instS_shift (c := c') (c2 := c2) (w := w') (n := m.nx) (al := true) (fun _ => b4 rfl) b3 s.rs [] y 0 hp rfl hsr
              refine ⟨v, _, _, c2, rfl, hy, ⟨⟨_, by show rowsOb _ _ ++ (fzU m.obs ids ++ m.ob) = _; rw [← List.append_assoc]⟩, id⟩, b1, t1'.trans b2, by rw [Nat.add_zero] at hsh; exact hsh, ?_⟩
              refine SV.inU_mono (fun i hi => ?_) _ (instS_inU (n := 0) s.rs [] y m.nx hp)
              show i < m.nx + _
              rw [instS_rows s.rs [] y m.nx 0] at hi
              exact hi.2
        · exact h.elim
      · exact h.elim
    | false =>
      rw [hal] at h
      simp only [cond_false] at h
      split at h
      · rename_i ds hd
        split at h
        · rename_i x hx
          cases hp : (shPure s.rs && shFlat s.rs && !s.tp) with
          | false => rw [hp] at h; exact h.elim
          | true =>
            rw [hp] at h
            simp only [cond_true] at h
            simp only [Bool.and_eq_true, Bool.not_eq_true'] at hp
            obtain ⟨⟨p1, p2⟩, p3⟩ := hp
            have hT0 : T0 = none := by
              rcases hT with ⟨e1, _⟩ | ⟨_, e2⟩
              · rw [p3] at e1; cases e1
              · exact e2
            obtain ⟨d1, d2⟩ := viewL_rel (m := m.mem) hox ss' hd
            obtain ⟨x1, x2⟩ := undoL_rd hx
            refine (hs x _ h w (lentS m.obs c) T0 us' (fun b o hb => ?_) (by rw [p3]; exact hT0) (by omega) (fun i d u hdi hu => ?_)).mono ?_
            · rcases hb with hb | ⟨id, y, hy, ho, hb⟩
              · exact hox.sb b o hb
              · exact (hox.fb id y hy ho b hb).1
            · have hi : i < ds.length := by have := (List.getElem?_eq_some_iff.1 hdi).1; rw [tvs_len] at this; omega
              have his : i < ss'.length := by omega
              exact x2 i d ds[i] hdi (List.getElem?_eq_getElem hi) (d2 i ss'[i] ds[i] (List.getElem?_eq_getElem his) (List.getElem?_eq_getElem hi) (hr' i _ u (List.getElem?_eq_getElem his) hu).1)
            · rintro e w' ⟨v, y, c', rfl, hy, oxr, tr, hsr⟩
              obtain ⟨c2, b1, b2, b3, b4⟩ := call_back (al := false) hox (.inr hT0) (fun e => by cases e) (.inr (instS_flat s.rs [] y 0 p2)) oxr tr (fun e => by rw [p3] at e; cases e)
              have hsh := instS_shift (c := c') (c2 := c2) (w := w') (n := m.nx) (al := false) (fun e => by cases e) b3 s.rs [] y 0 p1 (by simpa using p2) hsr
              refine ⟨v, _, _, c2, rfl, hy, ⟨⟨_, rfl⟩, id⟩, b1, b2, by rw [Nat.add_zero] at hsh; exact hsh, ?_⟩
              refine SV.inU_mono (fun i hi => ?_) _ (instS_inU (n := 0) s.rs [] y m.nx p1)
              show i < m.nx + _
              rw [instS_rows s.rs [] y m.nx 0] at hi
              exact hi.2
        · exact h.elim
      · exact h.elim
/-- The contracts at hand. -/
inductive SpecsOK (P : Program) : List Spec → Prop
  | nil : SpecsOK P []
  | cons {s : Spec} {l : List Spec} (h : SpecOK P s) (t : SpecsOK P l) : SpecsOK P (s :: l)
def findS : List Spec → FuncId → Option Spec
  | [], _ => none
  | s :: r, f => bif Nat.beq s.f f then some s else findS r f
theorem findS_ok : ∀ {l : List Spec}, SpecsOK P l → ∀ {f : FuncId} {s : Spec}, findS l f = some s → SpecOK P s ∧ s.f = f
  | [], _, f, s, h => by cases h
  | q :: r, .cons hq ht, f, s, h => by
    unfold findS at h
    cases hb : Nat.beq q.f f with
    | false => rw [hb] at h; exact findS_ok ht h
    | true =>
      rw [hb] at h
      injection h with h
      subst h
      exact ⟨hq, beq_eq hb⟩
/-- What a walk needs: the program's types as types of data; contracts; the shapes of joins, loops and calls, by the frame's word and the place in it. -/
structure Ctx where
  τ : TypeId → Option Ty
  sp : List Spec
  jn : Nat → Nat → Option Shape
/-- The word of a callee's frame. -/
def subK (fk id i : Nat) : Nat := (fk * 1021 + id) * 1021 + i + 1
abbrev DR := Nat → (Nat → CP) → Array Oper → St → (St → Prop) → Prop
/-- Calls: by contract, or walked in place, as deep as n. -/
def callF (P : Program) (C : Ctx) (dr : DR) : Nat → Nat → CP
  | 0, _ => fun _ _ _ _ => False
  | n + 1, fk => fun f ss m k => match findS C.sp f with
    | some s => byCon s ss m k
    | none => inline P (fun id ops d st K => bif d then dr id (fun i => callF P C dr n (subK fk id i)) ops st K else aops P C.τ (fun i => callF P C dr n (subK fk id i)) ops 0 ops.toList st K) (C.jn fk) f ss m k
def DrOK (P : Program) (dr : DR) : Prop := ∀ id cp ops st K, (∀ i, CallOK P (cp i)) → dr id cp ops st K → AC P (.region id ops true) st fun e st' => e = .normal ∧ K st'
theorem reg_ok {τ : TypeId → Option Ty} {dr : DR} (hdr : DrOK P dr) {cp : Nat → Nat → CP} (hcp : ∀ id i, CallOK P (cp id i)) : RegOK P (fun id ops d st K => bif d then dr id (cp id) ops st K else aops P τ (cp id) ops 0 ops.toList st K) := by
  intro id ops d st K h
  cases d with
  | true => exact hdr id (cp id) ops st K (hcp id) h
  | false =>
    have h : aops P τ (cp id) ops 0 ops.toList st K := h
    intro a w c hr
    exact wp_region_list (aops_ok (hcp id) ops.toList 0 st K h a w c hr _ fun st' a' w' c' hs hk => ⟨st', c', hs, rfl, hk⟩)
theorem callF_ok {C : Ctx} {dr : DR} (hsp : SpecsOK P C.sp) (hdr : DrOK P dr) : ∀ (n fk : Nat), CallOK P (callF P C dr n fk)
  | 0, fk => fun f ss m k h => h.elim
  | n + 1, fk => by
    intro f ss m k h us w c hox hl hr
    unfold callF at h
    split at h
    · rename_i s hs
      obtain ⟨h1, h2⟩ := findS_ok hsp hs
      rw [← h2]
      exact byCon_ok h1 h hox hl hr
    · exact inline_ok (reg_ok hdr fun id i => callF_ok hsp hdr n (subK fk id i)) f ss m k h us w c hox hl hr
end RE
end Go.Proofs.Ytpnmiieohdkenaa
namespace Go.Proofs.Ytpnmiieohdkenaa
open Go.RowKit
set_option linter.unusedVariables false
namespace RE
variable {P : Program}
def regF (P : Program) (C : Ctx) (dr : DR) (n fk : Nat) : RG := fun id ops d st K => bif d then dr id (fun i => callF P C dr n (subK fk id i)) ops st K else aops P C.τ (fun i => callF P C dr n (subK fk id i)) ops 0 ops.toList st K
theorem regF_ok {C : Ctx} {dr : DR} (hsp : SpecsOK P C.sp) (hdr : DrOK P dr) (n fk : Nat) : RegOK P (regF P C dr n fk) := reg_ok hdr fun id i => callF_ok hsp hdr n (subK fk id i)
def baseOf (tp : Bool) : St := ⟨[], ⟨[], 0, tp⟩, 1, [], []⟩
def shOf (rs : Sh) : Shape := ⟨[(0, rs)], [], [], [], []⟩
def argsOf (tp : Bool) (ds : List D) : List SV := bif tp then .tp :: ds.map SV.d else ds.map SV.d
def fitR (rs : Sh) (tp : Bool) (r : SV) (m : MS) (post : dens (shT rs []) → Prop) : Prop := match (shOf rs).fit (baseOf tp) ⟨[(0, noC r)], m, 1, [], []⟩ with
  | some y => post y
  | none => False
/-- A function, walked: of its arguments, what must hold so that 'post' holds of its result. -/
def walk (P : Program) (C : Ctx) (dr : DR) (n fk : Nat) (f : FuncId) (tp : Bool) (ds : List D) (rs : Sh) (post : dens (shT rs []) → Prop) : Prop :=
  inline P (regF P C dr n fk) (C.jn fk) f (argsOf tp ds) ⟨[], 0, tp⟩ fun r m => fitR rs tp r m post
theorem ox_base {tp : Bool} {w : World} {S : Cells} {T : Option Nat} (h1 : ∀ b o, S b o → b < w.heap.size) (h2 : TapeC tp w S T) : OXM ⟨[], 0, tp⟩ w (cx0 S T) := by
  refine ⟨h1, fun id x hx => (by cases hx), fun id x hx => (by cases hx), fun i j x y hx => (by cases hx), fun T' hT => ?_, fun htp => ?_, fun htp => ?_⟩
  · cases tp with
    | true =>
      obtain ⟨t, e, ht, hn⟩ := h2
      have hT : T = some T' := hT
      rw [e] at hT
      injection hT with hT
      subst hT
      exact ⟨ht.lt, hn⟩
    | false =>
      have h2 : T = none := h2
      have hT : T = some T' := hT
      rw [h2] at hT
      cases hT
  · cases tp with
    | true =>
      obtain ⟨t, e, ht, hn⟩ := h2
      exact ⟨t, e, ht⟩
    | false => cases htp
  · cases tp with
    | true => cases htp
    | false => exact h2
/-- The same, by whatever rule of calls. -/
def walkG (cp : CP) (f : FuncId) (tp : Bool) (ds : List D) (rs : Sh) (post : dens (shT rs []) → Prop) : Prop :=
  cp f (argsOf tp ds) ⟨[], 0, tp⟩ fun r m => fitR rs tp r m post
theorem walkG_ok {cp : CP} (hcp : CallOK P cp) {f : FuncId} {tp : Bool} {ds : List D} {rs : Sh} {post : dens (shT rs []) → Prop} (h : walkG cp f tp ds rs post)
    {w : World} {S : Cells} {T : Option Nat} {us : List Value} (h1 : ∀ b o, S b o → b < w.heap.size) (h2 : TapeC tp w S T) (h3 : us.length = ds.length) (h4 : ∀ (i : Nat) (d : D) (u : Value), ds[i]? = some d → us[i]? = some u → Rd S w d u) :
    Calls P f (tpArg T us).toArray w fun e w' => ∃ v y c', e = .returned v ∧ post y ∧ OXM (MS.add ⟨[], 0, tp⟩ (instS rs [] y 0).2.1) w' c' ∧ TrM ⟨[], 0, tp⟩ w (cx0 S T) (MS.add ⟨[], 0, tp⟩ (instS rs [] y 0).2.1) w' c' ∧ SRel c' w' (instS rs [] y 0).1 v := by
  have hox := ox_base h1 h2
  have hargs : (tpArg T us).length = (argsOf tp ds).length ∧ ∀ (i : Nat) (s : SV) (u : Value), (argsOf tp ds)[i]? = some s → (tpArg T us)[i]? = some u → SRel (cx0 S T) w s u ∧ s.inU (MS.U ⟨[], 0, tp⟩) := by
    have hd : ∀ (i : Nat) (s : SV) (u : Value), (ds.map SV.d)[i]? = some s → us[i]? = some u → SRel (cx0 S T) w s u ∧ s.inU (MS.U ⟨[], 0, tp⟩) := fun i s u hs hu => by
      rw [List.getElem?_map, Option.map_eq_some_iff] at hs
      obtain ⟨d, hd, rfl⟩ := hs
      exact ⟨.d _ _ (h4 i d u hd hu), trivial⟩
    cases tp with
    | true =>
      obtain ⟨t, e, ht, hn⟩ := h2
      subst e
      refine ⟨by simp [tpArg, argsOf, h3], fun i s u hs hu => ?_⟩
      cases i with
      | zero =>
        simp [tpArg, argsOf] at hs hu
        subst hs hu
        exact ⟨.tp t rfl, trivial⟩
      | succ i => exact hd i s u (by simpa [argsOf] using hs) (by simpa [tpArg] using hu)
    | false =>
      have h2 : T = none := h2
      subst h2
      exact ⟨by simp [tpArg, argsOf, h3], hd⟩
  refine (hcp f _ _ _ h _ w _ hox hargs.1 hargs.2).mono ?_
  rintro e w' ⟨v, r, m', c', rfl, hq, hfr, hox', htr, hs, hu⟩
  unfold fitR at hq
  split at hq
  · rename_i y hy
    have hb0 : RX (baseOf tp) { tmps := #[undef], defers := [] } w (cx0 S T) := ⟨hox, rfl, fun x u _ => .un u, fun x => trivial, fun x q wt g y hx => by cases hx⟩
    have hst : Step (baseOf tp) { tmps := #[undef], defers := [] } w (cx0 S T) ⟨[(0, noC r)], m', 1, [], []⟩ { tmps := #[v], defers := [] } w' c' := by
      refine ⟨⟨hox', rfl, fun x u hx => ?_, fun x => ?_, fun x q wt g y hx => ?_⟩, htr, rfl, rfl, ⟨[(0, noC r)], rfl⟩, hfr⟩
      · show SRel c' w' (look [(0, noC r)] x) u
        rw [look_cons]
        split
        · rename_i e
          subst e
          have : v = u := by simpa using hx
          subst this
          exact noC_rel hs
        · exact .un u
      · show (look [(0, noC r)] x).inU _
        rw [look_cons]
        split
        · exact noC_inU hu
        · trivial
      · have hx : look [(0, noC r)] x = .cnd q wt g y := hx
        rw [look_cons] at hx
        split at hx
        · exact absurd hx noC_ne
        · cases hx
    obtain ⟨c2, k⟩ := Shape.fit_ok hy hb0 hst
    have e : ((shOf rs).inst (baseOf tp) y).ms = MS.add ⟨[], 0, tp⟩ (instS rs [] y 0).2.1 := by
      show MS.mk _ _ _ = MS.mk _ _ _
      have e1 : (instL (shOf rs).all [] y 0).2.1 = (instS rs [] y 0).2.1 := List.append_nil _
      show MS.mk ([] ++ ([] ++ (rowsOb 0 (instL (shOf rs).all [] y 0).2.1 ++ ([] ++ [])))) (0 + (instL (shOf rs).all [] y 0).2.1.length) tp = _
      rw [e1]; rfl
    refine ⟨v, y, c2, rfl, hq, ?_, ?_, k.rx.sl 0 v rfl⟩
    · have := k.rx.ox; rw [e] at this; exact this
    · have := k.tr; rw [e] at this; exact this
  · exact hq.elim
theorem walk_ok {C : Ctx} {dr : DR} (hsp : SpecsOK P C.sp) (hdr : DrOK P dr) {n fk : Nat} {f : FuncId} {tp : Bool} {ds : List D} {rs : Sh} {post : dens (shT rs []) → Prop} (h : walk P C dr n fk f tp ds rs post)
    {w : World} {S : Cells} {T : Option Nat} {us : List Value} (h1 : ∀ b o, S b o → b < w.heap.size) (h2 : TapeC tp w S T) (h3 : us.length = ds.length) (h4 : ∀ (i : Nat) (d : D) (u : Value), ds[i]? = some d → us[i]? = some u → Rd S w d u) :
    Calls P f (tpArg T us).toArray w fun e w' => ∃ v y c', e = .returned v ∧ post y ∧ OXM (MS.add ⟨[], 0, tp⟩ (instS rs [] y 0).2.1) w' c' ∧ TrM ⟨[], 0, tp⟩ w (cx0 S T) (MS.add ⟨[], 0, tp⟩ (instS rs [] y 0).2.1) w' c' ∧ SRel c' w' (instS rs [] y 0).1 v :=
  walkG_ok (inline_ok (regF_ok hsp hdr n fk)) h h1 h2 h3 h4
theorem SpecOK.of_walkG {cp : CP} (hcp : CallOK P cp) {s : Spec} (h : ∀ x post, s.pt x post → walkG cp s.f s.tp (tvs s.ts x) s.rs post) : SpecOK P s :=
  fun x post hp w S T us h1 h2 h3 h4 => walkG_ok hcp (h x post hp) h1 h2 (by rw [h3, tvs_len]) h4
theorem SpecOK.of_walk {C : Ctx} {dr : DR} (hsp : SpecsOK P C.sp) (hdr : DrOK P dr) {n fk : Nat} {s : Spec} (h : ∀ x post, s.pt x post → walk P C dr n fk s.f s.tp (tvs s.ts x) s.rs post) : SpecOK P s :=
  fun x post hp w S T us h1 h2 h3 h4 => walk_ok hsp hdr (h x post hp) h1 h2 (by rw [h3, tvs_len]) h4
def lookJ : List (Nat × Nat × Shape) → Nat → Nat → Option Shape
  | [], _, _ => none
  | (a, b, s) :: r, x, y => bif Nat.beq a x && Nat.beq b y then some s else lookJ r x y
/-- No drawn regions. -/
def noDr : DR := fun _ _ _ _ _ => False
theorem noDr_ok : DrOK P noDr := fun _ _ _ _ _ _ h => h.elim
end RE
end Go.Proofs.Ytpnmiieohdkenaa
