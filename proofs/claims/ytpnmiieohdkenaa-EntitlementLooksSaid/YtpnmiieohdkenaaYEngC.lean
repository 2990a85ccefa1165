/-
  The engine: regions whose order is drawn; what may be done ahead of the others.
-/
import Derived.Test.YtpnmiieohdkenaaYEngB
import Derived.OrdersHeld
import Derived.RegionTactic
import Derived.ChangeArms
import Derived.ChangeSlices
namespace Go.Proofs.Ytpnmiieohdkenaa
open Go.RowKit
set_option linter.unusedVariables false
namespace RE
section
variable {P : Program} {ops : Array Oper} {Q : Exit → Act → World → Prop} {md : Region.Mode} {S : Nat → World → Prop} {B : Nat → Nat → Bool}
/-- Any order from here on; behind each of B's operations S holds. -/
def wpT (P : Program) (md : Region.Mode) (ops : Array Oper) (Q : Exit → Act → World → Prop) (S : Nat → World → Prop) (B : Nat → Nat → Bool) : Nat → Array Bool → Act → World → Prop
  | 0, L, a, w => Region.ready md ops L = [] ∧ Q .normal a w
  | n + 1, L, a, w => (Region.ready md ops L = [] → Q .normal a w) ∧ ∀ i ∈ Region.ready md ops L, wpOp P ops Q i (fun a' w' => (∀ p, B i p = true → S p w → S p w') ∧ wpT P md ops Q S B n (L.setIfInBounds i true) a' w') a w
theorem wpAny_of_T : ∀ (n : Nat) (L : Array Bool) (a : Act) (w : World), wpT P md ops Q S B n L a w → wpAny P md ops Q n L a w
  | 0, _, _, _, h => h
  | n + 1, _, _, _, h => ⟨h.1, fun i hi => wpOp_mono (fun a' w' h' => wpAny_of_T n _ a' w' h'.2) (h.2 i hi)⟩
/-- Operation j waits for operation i, perhaps by way of others. -/
def waitsT (md : Region.Mode) (ops : Array Oper) : Nat → Nat → Nat → Bool
  | 0, _, _ => false
  | n + 1, j, i => match ops[j]? with
    | some o => o.after.any fun e => Region.binds md e && (e.on == i || waitsT md ops n e.on i)
    | none => false
theorem waits_one {j i : Nat} {oj : Oper} (hj : ops[j]? = some oj) (h : waitsT md ops 1 j i = false) : ∀ e ∈ oj.after, Region.binds md e = true → e.on ≠ i := fun e he hb heq => by
  unfold waitsT at h
  rw [hj] at h
  simp only [waitsT, Bool.or_false] at h
  rw [Array.any_eq_false] at h
  obtain ⟨k, hk, rfl⟩ := Array.getElem_of_mem he
  exact h k hk (by simp [hb, heq])
def Closed (md : Region.Mode) (ops : Array Oper) (L : Array Bool) : Prop := ∀ k ok, ops[k]? = some ok → L.getD k true = true → ∀ e ∈ ok.after, Region.binds md e = true → L.getD e.on true = true
theorem Closed.waits {L : Array Bool} (hc : Closed md ops L) {i : Nat} : ∀ (n j : Nat), (∀ oj, ops[j]? = some oj → ∀ e ∈ oj.after, Region.binds md e = true → L.getD e.on true = true) → waitsT md ops n j i = true → L.getD i true = true
  | 0, j, _, h => by cases h
  | n + 1, j, hj, h => by
    unfold waitsT at h
    split at h
    · rename_i o ho
      rw [Array.any_eq_true] at h
      obtain ⟨x, hx, hb⟩ := h
      obtain ⟨b1, b2⟩ := Bool.and_eq_true_iff.1 hb
      have h1 := hj o ho _ (Array.getElem_mem hx) b1
      rcases Bool.or_eq_true_iff.1 b2 with b2 | b2
      · have e : (o.after[x]).on = i := by simpa using b2
        rw [← e]; exact h1
      · exact Closed.waits hc n _ (fun oj hoj e he hbe => hc _ oj hoj h1 e he hbe) b2
    · cases h
theorem getD_true_set {L : Array Bool} {i k : Nat} (h : L.getD k true = true) : (L.setIfInBounds i true).getD k true = true := by
  by_cases e : i = k
  · subst e
    rcases Nat.lt_or_ge i L.size with h' | h'
    · simp [h']
    · simp []
  · rw [getD_set_ne true e]; exact h
theorem ready_deps {L : Array Bool} {i : Nat} (h : i ∈ Region.ready md ops L) {oi : Oper} (ho : ops[i]? = some oi) : ∀ e ∈ oi.after, Region.binds md e = true → L.getD e.on true = true := fun e he hb => by
  obtain ⟨_, o', ho', hall⟩ := mem_ready.1 h
  rw [ho] at ho'
  cases ho'
  have h1 := hall e he hb
  rcases Nat.lt_or_ge e.on L.size with h' | h'
  · simp [h'] at h1 ⊢; exact h1
  · simp [Array.getElem?_eq_none h']
theorem Closed.set {L : Array Bool} (hc : Closed md ops L) {i : Nat} (hi : i ∈ Region.ready md ops L) : Closed md ops (L.setIfInBounds i true) := fun k ok hk hL e he hb => by
  by_cases hki : i = k
  · subst hki; exact getD_true_set (ready_deps hi hk e he hb)
  · rw [getD_set_ne true hki] at hL
    exact getD_true_set (hc k ok hk hL e he hb)
theorem Closed.start : Closed md ops (Array.replicate ops.size false) := fun k ok hk hL => by
  obtain ⟨h, _⟩ := Array.getElem?_eq_some_iff.1 hk
  simp [h] at hL
theorem ready_not {L : Array Bool} {i : Nat} (h : i ∈ Region.ready md ops L) : L.getD i true = false := (mem_ready.1 h).1
theorem wpT_first {i : Nat} {oi : Oper} {v : Value} {S' : World → Prop} (hi : ops[i]? = some oi) (hsel : ∀ (j : Nat) (o : Oper) cs b, ops[j]? = some o → o.op ≠ .select cs b)
    (hQ : ∀ c a w, Q (.panic c) (a.put oi.dst v) w → Q (.panic c) a w) :
    ∀ (n : Nat) (L : Array Bool) (a : Act) (w : World),
      (∀ j oj, ops[j]? = some oj → j ≠ i → L.getD j true = false → (∀ n, waitsT md ops n j i = false) → oi.apart ops oj = true ∧ ∀ w w', S' w → (∀ p, B j p = true → S p w → S p w') → S' w') →
      Closed md ops L → i ∈ Region.ready md ops L → YieldsIf P ops S' oi v a → S' w →
      wpT P md ops Q S B n (L.setIfInBounds i true) (a.put oi.dst v) w → wpT P md ops Q S B (n + 1) L a w := by
  intro n
  induction n with
  | zero =>
    intro L a w hfree hcl hr hy hS H
    refine ⟨fun h => (by rw [h] at hr; cases hr), fun j hj => ?_⟩
    by_cases hji : j = i
    · subst hji; exact hy.wpOp hi hS ⟨fun _ _ h => h, H⟩
    · have := ready_mono hj hji
      rw [H.1] at this
      cases this
  | succ n ih =>
    intro L a w hfree hcl hr hy hS H
    refine ⟨fun h => (by rw [h] at hr; cases hr), fun j hj => ?_⟩
    by_cases hji : j = i
    · subst hji; exact hy.wpOp hi hS ⟨fun _ _ h => h, H⟩
    · have h1 := H.2 j (ready_mono hj hji)
      obtain ⟨hjun, oj, hoj, hall⟩ := mem_ready.1 hj
      have hnot : ∀ n, waitsT md ops n j i = false := fun n => by
        cases hw : waitsT md ops n j i with
        | false => rfl
        | true =>
          have := hcl.waits n j (fun o' ho' e he hb => ready_deps hj ho' e he hb) hw
          rw [ready_not hr] at this
          cases this
      obtain ⟨hap, hst⟩ := hfree j oj hoj hji hjun hnot
      have h2 := wpOp_putIf hoj hap (fun cs b => hsel i oi cs b hi) (fun cs b => hsel j oj cs b hoj) hQ hy h1
      have hfree' : ∀ k ok, ops[k]? = some ok → k ≠ i → (L.setIfInBounds j true).getD k true = false →
          (∀ n, waitsT md ops n k i = false) → oi.apart ops ok = true ∧ ∀ w w', S' w → (∀ p, B k p = true → S p w → S p w') → S' w' := fun k ok hk hki hun hno => by
        refine hfree k ok hk hki ?_ hno
        by_cases hjk : j = k
        · subst hjk; exact hjun
        · rw [getD_set_ne true hjk] at hun; exact hun
      refine wpOp_mono (fun a' w' h3 => ⟨h3.2.1, ih (L.setIfInBounds j true) a' w' hfree' (hcl.set hj) (ready_mono hr (Ne.symm hji)) h3.1 (hst w w' hS h3.2.1) ?_⟩) h2
      rw [Array.setIfInBounds_comm _ _ hji]
      exact h3.2.2
end
end RE
end Go.Proofs.Ytpnmiieohdkenaa
namespace Go.Proofs.Ytpnmiieohdkenaa
open Go.RowKit
set_option linter.unusedVariables false
namespace RE
variable {P : Program}
/-- What it yields, it yields in every world, and leaves the world as it is. -/
def WF (P : Program) {α : Type} (s : Sem α) : Prop := ∀ w v w1, s.run P w = .ok v w1 → w1 = w ∧ ∀ w', s.run P w' = .ok v w'
theorem WF.pure {α : Type} (x : α) : WF P (Pure.pure x : Sem α) := fun w v w1 h => by
  simp only [Sem.run_pure, Result.ok.injEq] at h
  obtain ⟨rfl, rfl⟩ := h
  exact ⟨rfl, fun w' => rfl⟩
theorem WF.halt {α : Type} (x : Halt) : WF P (.halt x : Sem α) := fun w v w1 h => by simp at h
theorem WF.bind {α β : Type} {x : Sem α} {f : α → Sem β} (hx : WF P x) (hf : ∀ a, WF P (f a)) : WF P (x >>= f) := fun w v w1 h => by
  rw [Sem.run_bind] at h
  cases hr : x.run P w with
  | ok y w2 =>
    rw [hr] at h
    obtain ⟨rfl, h2⟩ := hx w y w2 hr
    obtain ⟨rfl, h4⟩ := hf y w2 v w1 h
    refine ⟨rfl, fun w' => ?_⟩
    rw [Sem.run_bind, h2 w']
    exact h4 w'
  | halt y w2 => rw [hr] at h; cases h
theorem WF.map {α β : Type} {x : Sem α} {f : α → β} (hx : WF P x) : WF P (f <$> x) := fun w v w1 h => by
  rw [Sem.run_map] at h
  cases hr : x.run P w with
  | ok y w2 =>
    rw [hr] at h
    obtain ⟨rfl, h2⟩ := hx w y w2 hr
    simp only [Result.andThen_ok, Result.ok.injEq] at h
    obtain ⟨rfl, rfl⟩ := h
    refine ⟨rfl, fun w' => ?_⟩
    rw [Sem.run_map, h2 w']; rfl
  | halt y w2 => rw [hr] at h; cases h
theorem WF.program : WF P program := fun w v w1 h => by
  simp only [run_program, Result.ok.injEq] at h
  obtain ⟨rfl, rfl⟩ := h
  exact ⟨rfl, fun w' => rfl⟩
theorem WF.ite {α : Type} {c : Prop} [Decidable c] {x y : Sem α} (hx : WF P x) (hy : WF P y) : WF P (if c then x else y) := by split <;> assumption
theorem WF.never {α : Type} {x : Sem α} (h : ∀ w v w1, x.run P w ≠ .ok v w1) : WF P x := fun w v w1 e => absurd e (h w v w1)
theorem WF.stuck {α : Type} (s : String) : WF P (stuck s : Sem α) := .halt _
theorem WF.unsupported {α : Type} (s : Unsupported) : WF P (unsupported s : Sem α) := .halt _
theorem WF.typeInfo (t : TypeId) : WF P (typeInfo t) := WF.bind .program fun p => by split <;> first | exact .pure _ | exact .stuck _
theorem WF.underlying (t : TypeId) : WF P (underlying t) := WF.bind .program fun p => by split <;> first | exact .pure _ | exact .stuck _
theorem WF.sizeOf (t : TypeId) : WF P (sizeOf t) := WF.bind (.typeInfo t) fun _ => .pure _
theorem WF.zeroValue (t : TypeId) : WF P (zeroValue t) := WF.bind (.typeInfo t) fun _ => by split <;> first | exact .pure _ | exact .unsupported _
theorem WF.asBool (v : Value) : WF P (asBool v) := by unfold Go.asBool; split <;> first | exact .pure _ | exact .stuck _
theorem WF.asIntOf (v : Value) : WF P (asIntOf v) := by unfold Go.asIntOf; split <;> first | exact .pure _ | exact .stuck _ | exact .unsupported _
theorem WF.sureAddr (v : Value) : WF P (Instr.sureAddr v) := by unfold Instr.sureAddr; split <;> first | exact .pure _ | exact .stuck _
theorem WF.extract (v : Value) (i : Nat) : WF P (Instr.extract v i) := by unfold Instr.extract; (repeat' split) <;> first | exact .pure _ | exact .stuck _
theorem boundsRun_never {α : Type} (x y : Int) (s : Bool) (c : BoundsCode) : ∀ w (v : α) w1, (runtimePanic (.bounds x y s c) : Sem α).run P w ≠ .ok v w1 := fun w v w1 => by
  unfold runtimePanic
  simp [goPanic]
theorem boundsPanic_never {α : Type} (k : IntKind) (x y : Int) (c : BoundsCode) : ∀ w (v : α) w1, (boundsPanic k x y c : Sem α).run P w ≠ .ok v w1 := fun w v w1 h => by
  unfold boundsPanic at h
  simp only [] at h
  split at h
  · rw [Sem.run_bind] at h
    generalize ((fun x => x == 1) <$> choose (.extern "runtime.boundsError.signed" 2) : Sem Bool).run P w = r at h
    cases r with
    | ok b w2 => exact boundsRun_never _ _ _ _ _ _ _ h
    | halt _ _ => cases h
  · rw [Sem.run_bind] at h
    exact boundsRun_never _ _ _ _ _ _ _ h
theorem WF.bounds {α : Type} (k : IntKind) (x y : Int) (c : BoundsCode) : WF P (boundsPanic k x y c : Sem α) := .never (boundsPanic_never k x y c)
theorem run_fieldAt {s f k : Nat} (h : fldOff P s f = some k) (v : Value) (w : World) : (Instr.fieldAt s v f).run P w = match v with | .pointer (some a) => .ok (.pointer (some (a.add k))) w | _ => .halt (.stuck "an address expected (no nilCheck in front?)") w := by
  obtain ⟨fs, fd, i, hu', hf, hk, hi, hz⟩ := fldOff_spec h
  unfold Instr.fieldAt
  simp only [Sem.run_bind, run_underlying hu', Result.andThen_ok, hf]
  unfold Instr.sureAddr
  subst hk
  split <;> simp_all [fieldPlace, Go.sizeOf, Go.typeInfo]
theorem WF.fieldAt {s f k : Nat} (h : fldOff P s f = some k) (v : Value) : WF P (Instr.fieldAt s v f) := by
  intro w r w1 e
  rw [run_fieldAt h] at e
  split at e
  · injection e with e1 e2
    subst e1 e2
    exact ⟨rfl, fun w' => by rw [run_fieldAt h]⟩
  · cases e
theorem WF.indexAt (t : TypeId) (u v : Value) : WF P (Instr.indexAt t u v) := by
  unfold Instr.indexAt
  refine WF.bind (.asIntOf _) fun x => ?_
  repeat' first | exact WF.pure _ | exact WF.stuck _ | exact WF.unsupported _ | exact WF.bounds _ _ _ _ | exact WF.underlying _ | exact WF.sureAddr _ | exact WF.sizeOf _ | refine WF.bind ?_ fun _ => ?_ | split | (show WF P (Bind.bind _ _)) | (dsimp only)
theorem nilRun_never {α : Type} : ∀ w (v : α) w1, (runtimePanic .nilDeref : Sem α).run P w ≠ .ok v w1 := fun w v w1 => by
  unfold runtimePanic
  simp [goPanic]
theorem WF.asAddr (v : Value) : WF P (asAddr v) := by
  unfold Go.asAddr
  split
  · exact .pure _
  · exact .never nilRun_never
  · exact .stuck _
theorem WF.sliceAt (t : TypeId) (x : Value) (lo hi : Option Value) : WF P (Instr.sliceAt t x lo hi none) := by
  unfold Instr.sliceAt Instr.slice Instr.sliceBounds Instr.sliceBound
  refine WF.bind (.underlying _) fun u => ?_
  repeat' first | exact WF.pure _ | exact WF.stuck _ | exact WF.unsupported _ | exact WF.bounds _ _ _ _ | exact WF.underlying _ | exact WF.sureAddr _ | exact WF.sizeOf _ | exact WF.asIntOf _ | exact WF.asAddr _ | refine WF.bind ?_ fun _ => ?_ | split | (show WF P (Bind.bind _ _)) | (dsimp only)
/-- Which operations do not look. -/
def wfree (P : Program) (o : Oper) : Bool := match o.op with
  | .move _ => true
  | .assign _ => true
  | .pick _ _ _ => true
  | .extract _ _ => true
  | .fieldAddr s _ f => (fldOff P s f).isSome
  | .indexAddr _ _ _ => true
  | .slice _ _ _ _ none => true
  | _ => false
def valS (s : Sem Value) : Sem Next := s >>= fun x => Pure.pure (.value x)
theorem wfree_ok {o : Oper} (h : wfree P o = true) (ev : Operand → Value) : ∃ s, execOp ev o = valS s ∧ WF P s := by
  unfold wfree at h
  split at h <;> rename_i he
  · exact ⟨Pure.pure _, by simp only [execOp, he]; rfl, .pure _⟩
  · exact ⟨Pure.pure _, by simp only [execOp, he]; rfl, .pure _⟩
  · rename_i q x y
    exact ⟨do Pure.pure (if ← asBool (ev q) then ev x else ev y), by simp only [execOp, he, valS]; simp, WF.bind (.asBool _) fun b => .pure _⟩
  · exact ⟨_, by simp only [execOp, he]; rfl, .extract _ _⟩
  · obtain ⟨k, hk⟩ := Option.isSome_iff_exists.1 h
    exact ⟨_, by simp only [execOp, he]; rfl, .fieldAt hk _⟩
  · exact ⟨_, by simp only [execOp, he]; rfl, .indexAt _ _ _⟩
  · exact ⟨_, by simp only [execOp, he]; rfl, .sliceAt _ _ _ _⟩
  · cases h
/-! ### loads -/
theorem cell_block {w w' : World} {a : Addr} (h : w'.heap[a.block]? = w.heap[a.block]?) : w'.cell? a = w.cell? a := by
  unfold World.cell?
  rw [h]
theorem add_block (a : Addr) (i : Nat) : (a.add i).block = a.block := by unfold Addr.add; split <;> rfl
/-- Where the cells are the call's, what is read is what the block holds. -/
def CellsIn (w : World) (a : Addr) (n : Nat) : Prop := ∀ j, j < n → ∃ v, w.cell? (a.add j) = some v
theorem load_block {w w' : World} {a : Addr} (h : w'.heap[a.block]? = w.heap[a.block]?) {x : Value} (hx : w.cell? a = some x) : (load a).run P w = .ok x w ∧ (load a).run P w' = .ok x w' := by
  have h2 := cell_block h
  simp [hx, h2]
theorem cellsFrom_block {a : Addr} {w w' : World} (h : w'.heap[a.block]? = w.heap[a.block]?) : ∀ (n i : Nat) (acc : Array Value), (∀ j, j < n → ∃ v, w.cell? (a.add (i + j)) = some v) → ∃ vs, (loadCellsFrom a i n acc).run P w = .ok vs w ∧ (loadCellsFrom a i n acc).run P w' = .ok vs w'
  | 0, i, acc, _ => ⟨acc, rfl, rfl⟩
  | n + 1, i, acc, hc => by
    obtain ⟨v, hv⟩ := hc 0 (by omega)
    rw [Nat.add_zero] at hv
    have hb : w'.heap[(a.add i).block]? = w.heap[(a.add i).block]? := by rw [add_block]; exact h
    obtain ⟨h1, h2⟩ := load_block (P := P) hb hv
    obtain ⟨vs, k1, k2⟩ := cellsFrom_block h n (i + 1) (acc.push v) fun j hj => by
      have := hc (j + 1) (by omega)
      rw [show i + 1 + j = i + (j + 1) by omega]; exact this
    refine ⟨vs, ?_, ?_⟩
    · unfold loadCellsFrom; rw [Sem.run_bind, h1]; exact k1
    · unfold loadCellsFrom; rw [Sem.run_bind, h2]; exact k2
end RE
end Go.Proofs.Ytpnmiieohdkenaa
namespace Go.Proofs.Ytpnmiieohdkenaa
open Go.RowKit
set_option linter.unusedVariables false
namespace RE
variable {P : Program}
/-- The cells of block b are the same. -/
def CB (w w' : World) (b : Nat) : Prop := ∀ o, w'.cell? ⟨b, o, none⟩ = w.cell? ⟨b, o, none⟩
theorem pCells_blk {t : TypeId} {cs : List SV} {r : SV} (h : pCells P t cs = some r) {w : World} {b o : Nat} {us : List Value} (hl : us.length = cs.length) (hc : ∀ j u, us[j]? = some u → w.cell? ⟨b, o + j, none⟩ = some u) :
    ∃ v, ∀ w' : World, CB w w' b → (Instr.loadAt t (.pointer (some ⟨b, o, none⟩))).run P w' = .ok v w' := by
  have hc' : ∀ w' : World, CB w w' b → ∀ j u, us[j]? = some u → w'.cell? ⟨b, o + j, none⟩ = some u := fun w' hw j u hj => by
    rw [hw (o + j)]; exact hc j u hj
  unfold pCells at h
  cases ho : oneTy P t with
  | true =>
    rw [ho] at h
    simp only [cond_true] at h
    have h0 : 0 < us.length := by rw [hl]; exact (List.getElem?_eq_some_iff.1 h).1
    exact ⟨us[0], fun w' hw => run_load_one ho (by simpa using hc' w' hw 0 us[0] (List.getElem?_eq_getElem h0))⟩
  | false =>
    rw [ho] at h
    simp only [cond_false] at h
    cases hb : (rowTy P t && hasTy P t && Nat.ble (tsz P t) cs.length) with
    | false => rw [hb] at h; cases h
    | true =>
      rw [hb] at h
      simp only [cond_true, Option.some.injEq] at h
      simp only [Bool.and_eq_true] at hb
      obtain ⟨⟨k1, k2⟩, k3⟩ := hb
      have k3 := Nat.le_of_ble_eq_true k3
      refine ⟨.agg (us.take (tsz P t)).toArray, fun w' hw => run_load_agg k1 k2 (by rw [List.length_take]; omega) (fun j u hj => ?_)⟩
      rw [List.getElem?_take] at hj
      split at hj
      · exact hc' w' hw j u hj
      · cases hj
/-- A load that reads what is stable, or an object that is set aside. -/
def okLoad (ob : Obs) (pr : List Nat) : SV → Bool
  | .d (.p cs) => !cs.isEmpty
  | .bx id _ => has pr id
  | .op id _ _ _ => match ob id with
    | some (.row _ _ _) => has pr id
    | some (.fro t _) => Nat.ble 1 (size t)
    | _ => false
  | .np id _ _ _ => has pr id
  | .ip id _ _ _ _ => has pr id
  | _ => false
def Keeps (c : Cx) (ob : Obs) (pr : List Nat) (b : Nat) : Prop := (∃ o, c.S b o) ∨ ∃ id x, has pr id = true ∧ ob id = some x ∧ x.own = true ∧ c.F id b
theorem pLoad_blk {m : Mem} {t : TypeId} {s r : SV} (h : pLoad P m t s = some r) {c : Cx} {w : World} {u : Value} (ox : OX m.ob m.U m.tp w c) (hs : SRel c w s u) {pr : List Nat} (hk : okLoad m.ob pr s = true) :
    ∃ v b, Keeps c m.ob pr b ∧ ∀ w' : World, CB w w' b → (Instr.loadAt t u).run P w' = .ok v w' := by
  unfold pLoad at h
  split at h
  · rename_i cs
    have hrd := srel_d hs
    cases hrd with
    | p _ b off f h1 h2 =>
      obtain ⟨v, hv⟩ := pCells_blk (w := w) (b := b) (o := off) h (us := (List.range cs.length).map f) (by simp) (fun j u hj => by
        have hjl : j < cs.length := by have := (List.getElem?_eq_some_iff.1 hj).1; simpa using this
        simp [hjl] at hj; subst hj; exact (h1 j hjl).2.1)
      have h0 : 0 < cs.length := by
        cases cs with
        | nil => simp [okLoad] at hk
        | cons _ _ => simp
      exact ⟨v, b, .inl ⟨_, (h1 0 h0).1⟩, hv⟩
  · rename_i id off
    split at h
    · rename_i cs hob
      obtain ⟨b, hb, rfl⟩ := srel_bx hs
      obtain ⟨_, hU, b', arr, t', h1, h2, h3, h4, h5, h6⟩ := ox.objs id _ hob
      rw [h1] at hb
      injection hb with hb
      injection hb with hb
      injection hb with hb
      subst hb
      obtain ⟨v, hv⟩ := pCells_blk (w := w) (b := b') (o := off) h (us := arr.drop off) (by simp [h4]) (fun j u hj => by
        rw [List.getElem?_drop] at hj
        rw [cell_row h3]; simpa using hj)
      exact ⟨v, b', .inr ⟨id, _, hk, hob, rfl, (h2 b').2 rfl⟩, hv⟩
    · cases h
  · rename_i id z sz j
    split at h
    · rename_i ty l hrow
      cases hb : (Nat.beq sz (size ty) && Nat.ble j sz) with
      | false => rw [hb] at h; cases h
      | true =>
        rw [hb] at h
        simp only [cond_true] at h
        obtain ⟨k1, k2⟩ := Bool.and_eq_true_iff.1 hb
        have k1 := beq_eq k1
        subst k1
        obtain ⟨g, n, cap, hH, rfl, hz⟩ := srel_op hs
        obtain ⟨ad, cap', hv, hc, hm, hcell⟩ := rowOf_rel ox hrow
        rw [hH] at hv
        injection hv with e1 e2 e3
        subst e1 e2 e3
        obtain ⟨g', hg', hcc⟩ := hcell z.toNat _ (ix_get (l := l) (i := z) ⟨hz.1, hz.2⟩)
        injection hg' with hg'
        injection hg' with hg'
        subst hg'
        obtain ⟨us, u1, u2, u3, u4⟩ := load_cells (c := c) (w := w) (g := ⟨g, 0, none⟩) (off := z.toNat * size ty + j) (cs := (enc ty (ix l z)).drop j) rfl (fun j' d hd => by
          rw [List.getElem?_drop] at hd
          have := hcc _ d hd
          rw [← Nat.add_assoc] at this
          rw [addr_add, Nat.zero_add]; exact this)
        obtain ⟨v, hv⟩ := pCells_blk (w := w) (b := g) (o := z.toNat * size ty + j) h (us := us) (by simp [u1]) (fun j' u hj' => by
          have := u2 j' u hj'
          simpa using this)
        refine ⟨v, g, ?_, hv⟩
        unfold rowOf at hrow
        split at hrow
        · rename_i e t' l' hob
          injection hrow with hrow
          cases hrow
          have hk : (match m.ob id with | some (.row _ _ _) => has pr id | some (.fro t _) => Nat.ble 1 (size t) | _ => false) = true := hk
          rw [hob] at hk
          obtain ⟨h0, h | ⟨g2, cap2, cur, hv2, hF, _⟩⟩ := (ox.objs id _ hob).2.2
          · obtain ⟨hl, ⟨ad, hv3⟩, _⟩ := h
            subst hl
            simp at hz; omega
          · rw [hH] at hv2
            injection hv2 with e1 _ _
            injection e1 with e1
            injection e1 with e1
            subst e1
            exact .inr ⟨id, _, hk, hob, rfl, (hF g).2 rfl⟩
        · rename_i t' l' hob
          injection hrow with hrow
          cases hrow
          have hk : (match m.ob id with | some (.row _ _ _) => has pr id | some (.fro t _) => Nat.ble 1 (size t) | _ => false) = true := hk
          rw [hob] at hk
          have hsz : 0 < size ty := Nat.le_of_ble_eq_true hk
          obtain ⟨ad, cap2, b, off, f, e0, _, _, ha, q1, q2⟩ := ((ox.objs id _ hob).2.2.1).slInv
          rw [hH] at e0
          injection e0 with e1 _ _
          rcases ha with ha | ha
          · rw [ha] at hz; simp at hz; omega
          · rw [ha] at e1
            injection e1 with e1
            injection e1 with e1 e2
            subst e1
            exact .inl ⟨_, (q1 0 (by obtain ⟨z1, z2⟩ := hz; omega) 0 hsz).1⟩
        · cases hrow
    · cases h
  · rename_i id z sz j
    split at h
    · rename_i ty k t' l hn
      cases hb : (Nat.beq sz (size ty) && Nat.ble j sz) with
      | false => rw [hb] at h; cases h
      | true =>
        rw [hb] at h
        simp only [cond_true] at h
        have k1 := beq_eq (Bool.and_eq_true_iff.1 hb).1
        subst k1
        obtain ⟨b, o, us, rfl, hF, u1, u2, u3, u4⟩ := np_cells ox hn hs
        obtain ⟨v, hv⟩ := pCells_blk (w := w) (b := b) (o := o) h (us := us) u1 u2
        have hob : ∃ e f, m.ob id = some (.nst e ty k f t' l) := by
          unfold nstOf at hn
          split at hn
          · rename_i hr; injection hn with hn; cases hn; exact ⟨_, _, hr⟩
          · cases hn
        obtain ⟨e, f, hob⟩ := hob
        exact ⟨v, b, .inr ⟨id, _, hk, hob, rfl, hF⟩, hv⟩
    · cases h
  · rename_i id i z sz j
    split at h
    · rename_i ty k t' l hn
      cases hb : (Nat.beq sz (size t') && Nat.ble j sz) with
      | false => rw [hb] at h; cases h
      | true =>
        rw [hb] at h
        simp only [cond_true] at h
        have k1 := beq_eq (Bool.and_eq_true_iff.1 hb).1
        subst k1
        obtain ⟨b, o, us, rfl, hF, u1, u2, u3, u4⟩ := ip_cells ox hn hs
        obtain ⟨v, hv⟩ := pCells_blk (w := w) (b := b) (o := o) h (us := us) u1 u2
        have hob : ∃ e f, m.ob id = some (.nst e ty k f t' l) := by
          unfold nstOf at hn
          split at hn
          · rename_i hr; injection hn with hn; cases hn; exact ⟨_, _, hr⟩
          · cases hn
        obtain ⟨e, f, hob⟩ := hob
        exact ⟨v, b, .inr ⟨id, _, hk, hob, rfl, hF⟩, hv⟩
    · cases h
  · cases h
end RE
end Go.Proofs.Ytpnmiieohdkenaa
namespace Go.Proofs.Ytpnmiieohdkenaa
open Go.RowKit
set_option linter.unusedVariables false
namespace RE
variable {P : Program}
def m0 : Mem := ⟨fun _ => none, fun _ => False, false⟩
def flatS : SV → SV
  | .d x => bif x.flat then .d x else .un
  | _ => .un
def Looks (c : Cx) (ob : Obs) (pr : List Nat) (w w' : World) : Prop := ∀ b, Keeps c ob pr b → CB w w' b
/-- May it be done ahead? What must hold besides; does it look at the world? -/
def flK (P : Program) (m : Mem) (pr : List Nat) (ρ : Operand → SV) (o : Oper) : Option (List Prop × Bool) :=
  bif wfree P o then some ([], false) else match o.op with
    | .load _ x => bif okLoad m.ob pr (ρ x) then some ([], true) else none
    | .nilCheck x => bif isPtr (ρ x) then some ([], false) else none
    | _ => match pop P m0 (fun x => flatS (ρ x)) o with
      | some R => match R.r with
        | .d (.v _) => some (R.ps, false)
        | _ => none
      | none => none
theorem ox0 (w : World) : OX m0.ob m0.U m0.tp w (cx0 (fun _ _ => False) none) :=
  ⟨fun _ _ h => h.elim, fun id x hx => (by cases hx), fun id x hx => (by cases hx), fun i j x y hx => (by cases hx), fun T h => (by cases h), fun h => (by cases h), fun _ => rfl⟩
theorem rels0 {ρ : Operand → SV} {a : Act} {w : World} {c : Cx} (hr : ∀ x, SRel c w (ρ x) (a.eval x)) (w' : World) : RelsC m0 (fun x => flatS (ρ x)) a w' (cx0 (fun _ _ => False) none) := by
  refine ⟨⟨ox0 w', fun x => ?_, fun x => ?_⟩, fun x q1 w1 g1 y1 b hx hq => ?_⟩
  · have h := hr x
    generalize ρ x = s at h
    unfold flatS
    split
    · rename_i d
      cases hf : d.flat with
      | false => exact .un _
      | true => exact .d _ _ ((srel_d h).flat hf)
    · exact .un _
  · generalize ρ x = s
    unfold flatS
    split
    · rename_i d
      cases d.flat <;> exact trivial
    · exact trivial
  · exfalso
    generalize ρ x = s at hx
    unfold flatS at hx
    split at hx
    · rename_i d
      cases hd : d.flat with
      | false => rw [hd] at hx; cases hx
      | true => rw [hd] at hx; cases hx
    · cases hx
theorem flK_ok {m : Mem} {pr : List Nat} {ρ : Operand → SV} {o : Oper} {ps : List Prop} {lk : Bool} (h : flK P m pr ρ o = some (ps, lk)) {R : PRes} (hp : popS P m ρ o = some R) {a : Act} {w : World} {c : Cx} (hr : RelsC m ρ a w c) (h1 : allL ps) (h2 : allL R.ps) :
    ∃ v, SRel c w R.r v ∧ R.r.inU m.U ∧ allL R.fs ∧ ∀ w', (lk = true → Looks c m.ob pr w w') → (execOp a.eval o).run P w' = .ok (.value v) w' := by
  obtain ⟨v, k1, k2, k3, k4⟩ := popS_run hp hr h2
  unfold flK at h
  cases hw : wfree P o with
  | true =>
    obtain ⟨s, e1, e2⟩ := wfree_ok hw a.eval
    refine ⟨v, k2, k3, k4, fun w' _ => ?_⟩
    rw [e1] at k1 ⊢
    have hv : WF P (valS s) := WF.bind e2 fun _ => .pure _
    exact (hv w _ _ k1).2 w'
  | false =>
    rw [hw] at h
    simp only [cond_false] at h
    split at h
    · rename_i t x he
      cases hk : okLoad m.ob pr (ρ x) with
      | false => rw [hk] at h; cases h
      | true =>
        rw [hk] at h
        simp only [cond_true, Option.some.injEq, Prod.mk.injEq] at h
        obtain ⟨rfl, rfl⟩ := h
        have hpl : pLoad P m t (ρ x) = some R.r := by
          have hp := popS_pop hp (fun t x lo hi e => by rw [he] at e; cases e)
          unfold pop at hp
          rw [he] at hp
          have hp : liftS (pLoad P m t (ρ x)) = some R := hp
          unfold liftS at hp
          split at hp
          · rename_i r hr'
            injection hp with hp
            rw [hr', ← hp]
          · cases hp
        obtain ⟨v', b, b1, b2⟩ := pLoad_blk hpl hr.ox (hr.op x) hk
        have hrun : ∀ w', CB w w' b → (execOp a.eval o).run P w' = .ok (.value v') w' := fun w' hw' => by
          simp [execOp, he, b2 w' hw']
        have : v = v' := by
          have := hrun w fun _ => rfl
          rw [k1] at this
          injection this with this
          injection this
        subst this
        exact ⟨v, k2, k3, k4, fun w' hl => hrun w' (hl rfl b b1)⟩
    · rename_i x he
      cases hk : isPtr (ρ x) with
      | false => rw [hk] at h; cases h
      | true =>
        rw [hk] at h
        simp only [cond_true, Option.some.injEq, Prod.mk.injEq] at h
        obtain ⟨rfl, rfl⟩ := h
        obtain ⟨ad, had⟩ := isPtr_rel hk (hr.op x)
        have hrun : ∀ w', (execOp a.eval o).run P w' = .ok (.value (a.eval x)) w' := fun w' => by simp [execOp, he, had]
        have : v = a.eval x := by
          have := hrun w
          rw [k1] at this
          injection this with this
          injection this
        subst this
        exact ⟨_, k2, k3, k4, fun w' _ => hrun w'⟩
    · split at h
      · rename_i R' hR'
        split at h
        · rename_i x hx
          simp only [Option.some.injEq, Prod.mk.injEq] at h
          obtain ⟨rfl, rfl⟩ := h
          have key : ∀ w', (execOp a.eval o).run P w' = .ok (.value x) w' := fun w' => by
            obtain ⟨v', q1, q2, _, _⟩ := pop_run hR' (rels0 hr.op w') h1
            rw [hx] at q2
            rw [← srel_v q2]; exact q1
          have : v = x := by
            have := key w
            rw [k1] at this
            injection this with this
            injection this
          subst this
          exact ⟨v, k2, k3, k4, fun w' _ => key w'⟩
        · cases h
      · cases h
/-- An operation that is done ahead. -/
def fstep (P : Program) (pr : List Nat) (all : Array Oper) (o : Oper) (st : St) : Option (Bool × ((St → Prop) → Prop)) :=
  match o.guard with
  | none => match popS P st.ms.mem st.ev o, flK P st.ms.mem pr st.ev o with
    | some R, some (ps, lk) => bif dstOK st o.dst then some (lk, fun K => andL ps (andL R.ps (impL R.fs (K (st.set o.dst R.r st.ms))))) else none
    | _, _ => none
  | some (j, want) => match (all[j]?).bind (·.dst), o.dst with
    | some q, some d => match guardG want (look st.sl q) with
      | some G => bif dstOK st (some d) && !(Nat.beq q d) && Nat.blt q st.n then match popS P st.ms.mem (fun x => stripS q want (st.ev x)) o, flK P st.ms.mem pr (fun x => stripS q want (st.ev x)) o with
          | some R, some (ps, lk) => bif R.r.lowN st.ms.nx then some (lk, fun K => andL (ps.map (G = true → ·)) (andL (R.ps.map (G = true → ·)) (impL (R.fs.map (G = true → ·)) (K (st.setG d q want G R.r))))) else none
          | _, _ => none
        else none
      | none => none
    | _, _ => none
theorem fstep_ok {pr : List Nat} {all : Array Oper} {o : Oper} {st : St} {lk : Bool} {T : (St → Prop) → Prop} (h : fstep P pr all o st = some (lk, T)) {K : St → Prop} (hT : T K) {a : Act} {w : World} {c : Cx} (hr : RX st a w c) :
    ∃ v st', YieldsIf P all (fun w' => lk = true → Looks c st.ms.obs pr w w') o v a ∧ RX st' (a.put o.dst v) w c ∧ st'.ms = st.ms ∧ Fr st st' ∧ K st' := by
  unfold fstep at h
  split at h
  · rename_i hg
    split at h
    · rename_i R ps lk' hp hf
      cases hd : dstOK st o.dst with
      | false => rw [hd] at h; cases h
      | true =>
        rw [hd] at h
        simp only [cond_true, Option.some.injEq, Prod.mk.injEq] at h
        obtain ⟨rfl, rfl⟩ := h
        obtain ⟨t1, hT⟩ := andL_spec hT
        obtain ⟨t2, hT⟩ := andL_spec hT
        obtain ⟨v, k1, k2, k3, k4⟩ := flK_ok hf hp hr.rels t1 t2
        exact ⟨v, _, .inl ⟨by simp [Region.wanted, hg], k4⟩, hr.set .refl hr.ox hd k1 k2, by cases o.dst <;> rfl, .set (.refl _), impL_spec hT k3⟩
    · cases h
  · rename_i j want hg
    split at h
    · rename_i q d hq hdst
      split at h
      · rename_i G hG
        cases hb : (dstOK st (some d) && !(Nat.beq q d) && Nat.blt q st.n) with
        | false => rw [hb] at h; cases h
        | true =>
          rw [hb] at h
          simp only [Bool.and_eq_true, Bool.not_eq_true'] at hb
          obtain ⟨⟨b1, b2⟩, b3⟩ := hb
          have hqd : q ≠ d := fun e => by rw [e] at b2; simp at b2
          have hlt : q < st.n := Nat.le_of_ble_eq_true b3
          simp only [cond_true] at h
          split at h
          · rename_i R ps lk' hp hf
            cases hl : R.r.lowN st.ms.nx with
            | false => rw [hl] at h; cases h
            | true =>
              rw [hl] at h
              simp only [cond_true, Option.some.injEq, Prod.mk.injEq] at h
              obtain ⟨rfl, rfl⟩ := h
              obtain ⟨t1, hT⟩ := andL_spec hT
              obtain ⟨t2, hT⟩ := andL_spec hT
              have hwt : Region.wanted o (yielded all a.tmps) = G := wanted_of hg hq hlt hr hG
              rw [hdst]
              cases hGv : G with
              | true =>
                obtain ⟨v, k1, k2, k3, k4⟩ := flK_ok hf hp (stripS_rel hr hlt hG hGv) (andL_map hGv t1) (andL_map hGv t2)
                refine ⟨v, st.setG d q want true R.r, .inl ⟨by rw [hwt, hGv], k4⟩, hr.setG .refl hr.ox b1 hqd (by rw [hG, hGv]) (fun _ => k1) (fun e => by cases e) k2, rfl, .setG, ?_⟩
                have := impL_spec hT (allL_map fun _ => k3)
                rw [hGv] at this; exact this
              | false =>
                refine ⟨undef, st.setG d q want false R.r, .inr ⟨by rw [hwt, hGv], rfl⟩, hr.setG .refl hr.ox b1 hqd (by rw [hG, hGv]) (fun e => by cases e) (fun _ => rfl) (SV.lowN_inU _ hl), rfl, .setG, ?_⟩
                have := impL_spec hT (allL_map fun e => by rw [hGv] at e; cases e)
                rw [hGv] at this; exact this
          · cases h
      · cases h
    · cases h
end RE
end Go.Proofs.Ytpnmiieohdkenaa
namespace Go.Proofs.Ytpnmiieohdkenaa
open Go.RowKit
set_option linter.unusedVariables false
namespace RE
variable {P : Program}
def banL (pr : List Nat) : List (Nat × Option Ob) := pr.map fun i => (i, none)
def MS.ban (pr : List Nat) (m : MS) : MS := ⟨banL pr ++ m.ob, m.nx, m.tp⟩
def St.ban (pr : List Nat) (st : St) : St := ⟨st.sl, st.ms.ban pr, st.n, st.gs, st.gd⟩
def unban (pr : List Nat) (st st1 : St) : Option St :=
  bif (news (st.ms.ban pr) st1.ms).all (fun p => !(has pr p.1)) then some ⟨st1.sl, ⟨news (st.ms.ban pr) st1.ms ++ st.ms.ob, st1.ms.nx, st1.ms.tp⟩, st1.n, st1.gs, st1.gd⟩ else none
theorem lookK_ban (pr : List Nat) (x : Nat) : lookK (banL pr) x = if has pr x = true then some none else none := lookK_un (fun _ => (none : Option Ob)) pr x
theorem obs_ban (pr : List Nat) (m : MS) (x : Nat) : (m.ban pr).obs x = if has pr x = true then none else m.obs x := by
  show lookO (banL pr ++ m.ob) x = _
  rw [lookO_app', lookK_ban]
  split <;> rfl
theorem ban_sub (pr : List Nat) (m : MS) : ∀ id x, (m.ban pr).obs id = some x → m.obs id = some x := fun id x h => by
  rw [obs_ban] at h
  split at h
  · cases h
  · exact h
theorem RX.ban {st : St} {a : Act} {w : World} {c : Cx} (h : RX st a w c) (pr : List Nat) : RX (st.ban pr) a w c :=
  ⟨OX.sub h.ox (ban_sub pr st.ms), h.sz, h.sl, h.us, h.cn⟩
theorem lookK_all {α : Type} {l : List (Nat × α)} {p : Nat → Bool} (h : l.all (fun q => p q.1) = true) {x : Nat} {v : α} (hx : lookK l x = some v) : p x = true := List.all_eq_true.1 h _ (lookK_mem hx)
/-- A step with some objects set aside is a step. -/
theorem unban_ok {pr : List Nat} {st st1 st2 : St} {a a' : Act} {w w' : World} {c c' : Cx} (hu : unban pr st st1 = some st2) (hr : RX st a w c) (hs : Step (st.ban pr) a w c st1 a' w' c') : Step st a w c st2 a' w' c' ∧ TrM (st.ms.ban pr) w c (st2.ms.ban pr) w' c' := by
  unfold unban at hu
  cases hb : (news (st.ms.ban pr) st1.ms).all (fun p => !(has pr p.1)) with
  | false => rw [hb] at hu; cases hu
  | true =>
    rw [hb] at hu
    simp only [cond_true, Option.some.injEq] at hu
    subst hu
    obtain ⟨hn, ⟨l', hl'⟩, ⟨⟨l, hl⟩, htp⟩⟩ := hs.fr
    have hl : st1.ms.ob = l ++ (st.ms.ban pr).ob := hl
    have hnews : news (st.ms.ban pr) st1.ms = l := by
      unfold news
      rw [hl, List.length_append, show l.length + (st.ms.ban pr).ob.length - (st.ms.ban pr).ob.length = l.length by omega, List.take_left]
    rw [hnews] at hb ⊢
    have hno : ∀ x v, lookK l x = some v → has pr x = false := fun x v hx => by
      have := lookK_all (p := fun x => !(has pr x)) hb hx
      simpa using this
    have e1 : ∀ x, st1.ms.obs x = (lookK l x).getD ((st.ms.ban pr).obs x) := fun x => by
      show lookO st1.ms.ob x = _
      rw [hl]
      exact lookO_app' _ _ x
    have e2 : ∀ x, (MS.obs ⟨l ++ st.ms.ob, st1.ms.nx, st1.ms.tp⟩) x = (lookK l x).getD (st.ms.obs x) := fun x => lookO_app' _ _ x
    have e3 : MS.obs ⟨l ++ st.ms.ob, st1.ms.nx, st1.ms.tp⟩ = over st1.ms.obs (st.ms.ban pr).obs st.ms.obs := by
      funext x
      rw [e2]
      unfold over
      rw [e1, obs_ban]
      cases hk : lookK l x with
      | some v =>
        have := hno x v hk
        simp only [Option.getD_some, this]
        cases v with
        | some y => rfl
        | none =>
          simp only [Bool.false_eq_true, if_false]
          cases st.ms.obs x <;> rfl
      | none =>
        simp only [Option.getD_none]
        cases hp : has pr x with
        | true => simp
        | false =>
          simp only [Bool.false_eq_true, if_false]
          cases st.ms.obs x <;> rfl
    have e4 : (MS.ban pr ⟨l ++ st.ms.ob, st1.ms.nx, st1.ms.tp⟩).obs = st1.ms.obs := by
      funext x
      rw [obs_ban, e2, e1, obs_ban]
      cases hk : lookK l x with
      | some v => simp [hno x v hk]
      | none => cases hp : has pr x <;> simp
    obtain ⟨q1, q2⟩ := OX.lift hr.ox (ban_sub pr st.ms) hs.tr hs.rx.ox
    refine ⟨⟨⟨?_, hs.rx.sz, hs.rx.sl, hs.rx.us, hs.rx.cn⟩, ?_, hs.df, ⟨hn, ⟨l', hl'⟩, ⟨⟨l, rfl⟩, htp⟩⟩⟩, ?_⟩
    · show OX (MS.obs _) _ _ _ _
      rw [e3]; exact q1
    · show Tr _ _ _ _ (MS.obs _) _ _ _
      rw [e3]; exact q2
    · show Tr _ _ _ _ (MS.obs _) _ _ _
      rw [e4]; exact hs.tr
/-- One operation, with its guard. -/
def aop1 (P : Program) (τ : TypeId → Option Ty) (cp : CP) (all : Array Oper) (o : Oper) (st : St) (K : St → Prop) : Prop := match o.guard with
  | none => aop P τ cp o st K
  | some (j, want) => match (all[j]?).bind (·.dst), o.dst with
    | some q, some d => aopG P τ cp o d q want st K
    | _, _ => False
theorem aop1_ok {τ : TypeId → Option Ty} {cp : CP} (hcp : CallOK P cp) {all : Array Oper} {i : Nat} {o : Oper} (ho : all[i]? = some o) {st : St} {K : St → Prop} (h : aop1 P τ cp all o st K) {a : Act} {w : World} {c : Cx} (hr : RX st a w c) {KK : Act → World → Prop} {Qx : Exit → Act → World → Prop}
    (hQ : ∀ st' a' w' c', Step st a w c st' a' w' c' → K st' → KK a' w') : wpOp P all Qx i KK a w := by
  unfold aop1 at h
  split at h
  · rename_i hg
    refine wpOp_step ho fun K' hK => ?_
    rw [if_pos (by simp [Region.wanted, hg])]
    exact aop_ok hcp h a w c hr K' Qx fun st' a' w' c' hs hq => hK _ _ (hQ _ _ _ _ hs hq)
  · rename_i j want hg
    split at h
    · rename_i q d hq hd
      obtain ⟨G, h1, h2, h3⟩ := aopG_ok hcp hd h
      refine wpOp_step ho fun K' hK => ?_
      rw [wanted_of hg hq h1 hr h2]
      exact h3 a w c hr K' Qx fun st' a' w' c' hs hq => hK _ _ (hQ _ _ _ _ hs hq)
    · exact h.elim
def enumO (all : Array Oper) : List (Nat × Oper) := (List.range all.size).filterMap fun i => (all[i]?).map fun o => (i, o)
def isLoad (o : Oper) : Bool := match o.op with
  | .load _ _ => true
  | _ => false
/-- What it does it does without a change of the world. -/
def KWd (P : Program) {α : Type} (s : Sem α) : Prop := ∀ w v w1, s.run P w = .ok v w1 → w1 = w
theorem WF.kw {α : Type} {s : Sem α} (h : WF P s) : KWd P s := fun w v w1 e => (h w v w1 e).1
theorem KWd.bind {α β : Type} {x : Sem α} {f : α → Sem β} (hx : KWd P x) (hf : ∀ a, KWd P (f a)) : KWd P (x >>= f) := fun w v w1 h => by
  rw [Sem.run_bind] at h
  cases hr : x.run P w with
  | ok y w2 =>
    rw [hr] at h
    have e := hx w y w2 hr
    subst e
    exact hf y _ v w1 h
  | halt y w2 => rw [hr] at h; cases h
theorem KWd.load (a : Addr) : KWd P (load a) := fun w v w1 h => by
  simp only [Go.load, Sem.run] at h
  cases hc : w.cell? a with
  | none =>
    rw [hc] at h
    dsimp only at h
    split at h
    · injection h with _ h; exact h.symm
    · cases h
  | some x =>
    rw [hc] at h
    dsimp only at h
    injection h with _ h
    exact h.symm
theorem KWd.cells (a : Addr) : ∀ (n i : Nat) (acc : Array Value), KWd P (loadCellsFrom a i n acc)
  | 0, i, acc => (WF.pure acc).kw
  | n + 1, i, acc => by
    unfold loadCellsFrom
    exact KWd.bind (.load _) fun x => KWd.cells a n (i + 1) _
theorem KWd.loadAt (t : TypeId) (u : Value) : KWd P (Instr.loadAt t u) := by
  unfold Instr.loadAt
  refine KWd.bind (WF.sureAddr u).kw fun a => ?_
  unfold loadVar
  refine KWd.bind ?_ fun b => ?_
  · unfold isAgg
    refine KWd.bind (WF.underlying t).kw fun d => ?_
    repeat' first | exact (WF.pure _).kw | split
  · split
    · refine KWd.bind (WF.sizeOf t).kw fun n => ?_
      refine KWd.bind (KWd.cells _ _ _ _) fun vs => (WF.pure _).kw
    · exact KWd.load _
theorem load_upon {o : Oper} (hl : isLoad o = true) {all : Array Oper} {i : Nat} (ho : all[i]? = some o) {Qx : Exit → Act → World → Prop} {KK : Act → World → Prop} {a : Act} {w : World} (h : wpOp P all Qx i (fun a' w' => w' = w → KK a' w') a w) : wpOp P all Qx i KK a w := by
  unfold wpOp at h ⊢
  rw [ho] at h ⊢
  dsimp only at h ⊢
  split at h
  · rename_i hw
    rw [if_pos hw]
    refine h.imp (fun h => ?_) id
    unfold Oper.wp at h ⊢
    unfold isLoad at hl
    split at hl
    · rename_i t x hop
      have e : execOp a.eval o = (Instr.loadAt t (a.eval x) >>= fun v => Pure.pure (.value v)) := by simp only [execOp, hop]
      rw [e] at h ⊢
      have hk : KWd P (Instr.loadAt t (a.eval x) >>= fun v => (Pure.pure (.value v) : Sem Next)) := KWd.bind (.loadAt _ _) fun v => (WF.pure _).kw
      rw [Sem.run_bind] at h ⊢
      have hk2 := KWd.loadAt (P := P) t (a.eval x) w
      cases hr : (Instr.loadAt t (a.eval x)).run P w with
      | ok v w1 =>
        rw [hr] at h
        have e1 := hk2 v w1 hr
        subst e1
        exact h rfl
      | halt y w1 =>
        rw [hr] at h
        cases y <;> exact h
    · cases hl
  · rename_i hw
    rw [if_neg hw]
    exact h rfl
/-- Operation j may come up ahead of load p. -/
def befQ (all : Array Oper) (j p : Nat) : Bool := match all[j]?, all[p]? with
  | some oj, some op => isLoad op && !(Nat.beq p j) && !(waitsT .any all 6 j p) && !(waitsT .any all 6 p j)
  | _, _ => false
theorem befQ_of {all : Array Oper} {i j : Nat} {oi oj : Oper} (hi : all[i]? = some oi) (hj : all[j]? = some oj) (hl : isLoad oi = true) (hne : j ≠ i) (hno : waitsT .any all 6 j i = false) (hno2 : waitsT .any all 6 i j = false) : befQ all j i = true := by
  unfold befQ
  rw [hi, hj]
  simp only [hl, hno, hno2, Bool.true_and, Bool.and_eq_true, Bool.not_eq_true', Bool.not_false, and_true]
  exact beq_ne (fun e => hne e.symm)
def prB (all : Array Oper) (prL : Nat → List Nat) (j : Nat) : List Nat → List Nat
  | [] => []
  | p :: r => bif befQ all j p then prL p ++ prB all prL j r else prB all prL j r
theorem has_app {l r : List Nat} {x : Nat} : has (l ++ r) x = (has l x || has r x) := by
  induction l with
  | nil => rfl
  | cons y l ih =>
    show (Nat.beq y x || has (l ++ r) x) = ((Nat.beq y x || has l x) || has r x)
    rw [ih, Bool.or_assoc]
theorem prB_of {all : Array Oper} {prL : Nat → List Nat} {j p id : Nat} (hb : befQ all j p = true) (hi : has (prL p) id = true) : ∀ {l : List Nat}, p ∈ l → has (prB all prL j l) id = true
  | q :: l, h => by
    unfold prB
    rcases List.mem_cons.1 h with rfl | h
    · rw [hb, cond_true, has_app, hi]; rfl
    · have ih := prB_of hb hi h
      cases befQ all j q with
      | true => rw [cond_true, has_app, ih, Bool.or_true]
      | false => exact ih
def prJ (all : Array Oper) (prL : Nat → List Nat) (j : Nat) : List Nat := prB all prL j (List.range all.size)
theorem prJ_of {all : Array Oper} {prL : Nat → List Nat} {j p id : Nat} (hb : befQ all j p = true) (hi : has (prL p) id = true) : has (prJ all prL j) id = true := by
  refine prB_of hb hi (List.mem_range.2 ?_)
  unfold befQ at hb
  split at hb
  · rename_i op _ hp
    exact (Array.getElem?_eq_some_iff.1 hp).1
  · cases hb
def ownAt (ob : Obs) : List Nat → Bool
  | [] => true
  | id :: r => (match ob id with
    | some x => x.own
    | none => false) && ownAt ob r
theorem ownAt_spec {ob : Obs} : ∀ {l : List Nat}, ownAt ob l = true → ∀ {id : Nat}, has l id = true → ∃ x, ob id = some x ∧ x.own = true
  | k :: r, h, id, hi => by
    obtain ⟨h1, h2⟩ := Bool.and_eq_true_iff.1 h
    rcases has_cons.1 hi with rfl | hi
    · split at h1
      · rename_i x hx; exact ⟨x, hx, h1⟩
      · cases h1
    · exact ownAt_spec h2 hi
def isBx : SV → Bool
  | .bx _ _ => true
  | _ => false
/-- A box of pointers alone. -/
def rigid (ob : Obs) (id : Nat) : Bool := match ob id with
  | some (.box cs) => cs.all isBx
  | _ => false
def softL (ob : Obs) : List Nat → List Nat
  | [] => []
  | id :: r => bif rigid ob id then softL ob r else id :: softL ob r
theorem softL_has {ob : Obs} : ∀ {l : List Nat} {id : Nat}, has l id = true → rigid ob id = false → has (softL ob l) id = true
  | k :: r, id, h, hr => by
    unfold softL
    rcases has_cons.1 h with rfl | h
    · rw [hr, cond_false]; exact has_cons.2 (.inl rfl)
    · have ih := softL_has h hr
      cases rigid ob k with
      | true => exact ih
      | false => exact has_cons.2 (.inr ih)
theorem rigid_cells {st st2 : St} {a a1 : Act} {w w1 : World} {c c1 : Cx} {id : Nat} (hg : rigid st.ms.obs id = true) (hr : RX st a w c) (hs : Step st a w c st2 a1 w1 c1) (he : st2.ms.obs id = st.ms.obs id) {b : Nat} (hF : c.F id b) : CB w w1 b := by
  unfold rigid at hg
  split at hg
  · rename_i cs hob
    obtain ⟨hU, hiU, b0, arr, t, h1, h2, h3, h4, h5, h6⟩ := hr.ox.objs id _ hob
    obtain ⟨_, _, b1, arr1, t1, g1, g2, g3, g4, g5, g6⟩ := hs.rx.ox.objs id _ (he.trans hob)
    have e := (hs.tr.hH id hU).1
    rw [e, h1] at g1
    injection g1 with g1
    injection g1 with g1
    injection g1 with g1
    subst g1
    have hb := (h2 b).1 hF
    subst hb
    have hl : arr1 = arr := List.ext_getElem? fun j => by
      rcases Nat.lt_or_ge j cs.length with hj | hj
      · have hcs := List.getElem?_eq_getElem hj
        have ha := List.getElem?_eq_getElem (h4 ▸ hj : j < arr.length)
        have ha1 := List.getElem?_eq_getElem (g4 ▸ hj : j < arr1.length)
        have r := h6 j _ _ hcs ha
        have r1 := g6 j _ _ hcs ha1
        have hbx := List.all_eq_true.1 hg _ (List.getElem_mem hj)
        have hin := inUL_get hiU hcs
        rw [ha, ha1]
        generalize cs[j] = s at r r1 hbx hin
        cases s with
        | bx k off =>
          obtain ⟨p, q1, q2⟩ := srel_bx r
          obtain ⟨p1, q3, q4⟩ := srel_bx r1
          have e' := (hs.tr.hH k hin).1
          rw [e', q1] at q3
          injection q3 with q3
          injection q3 with q3
          injection q3 with q3
          subst q3
          rw [q2, q4]
        | _ => cases hbx
      · rw [List.getElem?_eq_none (by omega), List.getElem?_eq_none (by omega)]
    subst hl
    exact fun o => by rw [cell_row h3, cell_row g3]
  · cases hg
theorem news_obs {m m' : MS} (hx : FrM m m') {id : Nat} {l : List Nat} (hn : (news m m').all (fun p => !(has l p.1)) = true) (hi : has l id = true) : m'.obs id = m.obs id := by
  obtain ⟨⟨k, hk⟩, _⟩ := hx
  have e : news m m' = k := by
    unfold news
    rw [hk, List.length_append, show k.length + m.ob.length - m.ob.length = k.length by omega, List.take_left]
  rw [e] at hn
  show lookO m'.ob id = lookO m.ob id
  rw [hk, lookO_app']
  cases hq : lookK k id with
  | none => rfl
  | some v =>
    have := lookK_all (p := fun x => !(has l x)) hn hq
    simp [hi] at this
abbrev FS := Oper → St → Option (Bool × ((St → Prop) → Prop))
abbrev AO := Nat → Oper → St → (St → Prop) → Prop
/-- What an operation must leave alone: of a load, nothing. -/
def prX (all : Array Oper) (prL : Nat → List Nat) (o : Oper) (j : Nat) : List Nat := bif isLoad o then [] else prJ all prL j
def pickF (fs : Nat → FS) (all : Array Oper) (L : Array Bool) (fr : Bool) (st : St) : List Nat → Option (Nat × Oper × ((St → Prop) → Prop))
  | [] => none
  | i :: r => match all[i]? with
    | some o => match (bif Region.free .any all L i then fs i o st else none) with
      | some (lk, T) => bif !lk || (fr && isLoad o) then some (i, o, T) else pickF fs all L fr st r
      | none => pickF fs all L fr st r
    | none => pickF fs all L fr st r
def conjL : List Nat → (Nat → Prop) → Prop
  | [], _ => True
  | [i], f => f i
  | i :: r, f => f i ∧ conjL r f
theorem conjL_get : ∀ {l : List Nat} {f : Nat → Prop}, conjL l f → ∀ i ∈ l, f i
  | [], _, _, i, h => by cases h
  | [j], f, hf, i, h => by rw [List.mem_singleton.1 h]; exact hf
  | j :: k :: r, f, hf, i, h => by
    rcases List.mem_cons.1 h with rfl | h
    · exact hf.1
    · exact conjL_get hf.2 i h
/-- A region whose order is drawn: what may be done ahead is done ahead; of the rest, every order. -/
def deval (fs : Nat → FS) (ao : AO) (all : Array Oper) (prL : Nat → List Nat) : Nat → Array Bool → Bool → St → (St → Prop) → Prop
  | 0, L, fr, st, K => match Region.ready .any all L with
    | [] => K st.endR
    | _ => False
  | n + 1, L, fr, st, K => match Region.ready .any all L with
    | [] => K st.endR
    | rs => match pickF fs all L fr st rs with
      | some (i, o, T) => T fun st' => deval fs ao all prL n (L.setIfInBounds i true) fr st' K
      | none => conjL rs fun i => match all[i]? with
        | some o => bif ownAt st.ms.obs (prX all prL o i) then ao i o (st.ban (softL st.ms.obs (prX all prL o i))) fun st1 => match unban (softL st.ms.obs (prX all prL o i)) st st1 with
            | some st' => bif (news st.ms st'.ms).all (fun p => !(has (prX all prL o i) p.1)) then deval fs ao all prL n (L.setIfInBounds i true) false st' K else False
            | none => False
          else False
        | none => False
theorem pickF_spec {fs : Nat → FS} {all : Array Oper} {L : Array Bool} {fr : Bool} {st : St} : ∀ {rs : List Nat} {i : Nat} {o : Oper} {T : (St → Prop) → Prop}, pickF fs all L fr st rs = some (i, o, T) → i ∈ rs ∧ all[i]? = some o ∧ Region.free .any all L i = true ∧ ∃ lk, fs i o st = some (lk, T) ∧ (lk = true → fr = true ∧ isLoad o = true)
  | [], i, o, T, h => by cases h
  | k :: r, i, o, T, h => by
    have tail : pickF fs all L fr st r = some (i, o, T) → i ∈ k :: r ∧ all[i]? = some o ∧ Region.free .any all L i = true ∧ ∃ lk, fs i o st = some (lk, T) ∧ (lk = true → fr = true ∧ isLoad o = true) := fun h => by
      obtain ⟨h1, h2⟩ := pickF_spec h
      exact ⟨List.mem_cons_of_mem _ h1, h2⟩
    unfold pickF at h
    split at h
    · rename_i o' ho
      split at h
      · rename_i lk T' hf
        cases hb : (!lk || (fr && isLoad o')) with
        | false => rw [hb] at h; exact tail h
        | true =>
          rw [hb] at h
          simp only [cond_true, Option.some.injEq, Prod.mk.injEq] at h
          obtain ⟨rfl, rfl, rfl⟩ := h
          cases hfr : Region.free .any all L k with
          | false => rw [hfr] at hf; cases hf
          | true =>
            rw [hfr] at hf
            refine ⟨List.mem_cons_self, ho, rfl, lk, hf, fun e => ?_⟩
            rw [e] at hb
            simpa using hb
      · exact tail h
    · exact tail h
theorem yields_weak {ops : Array Oper} {S S' : World → Prop} {o : Oper} {v : Value} {a : Act} (h : YieldsIf P ops S o v a) (k : ∀ w, S' w → S w) : YieldsIf P ops S' o v a := h.imp (fun ⟨h1, h2⟩ => ⟨h1, fun w hw => h2 w (k w hw)⟩) id
def FSOK (P : Program) (all : Array Oper) (prL : Nat → List Nat) (fs : Nat → FS) : Prop := ∀ {i : Nat} {o : Oper} {st : St} {lk : Bool} {T : (St → Prop) → Prop}, fs i o st = some (lk, T) → ∀ {K : St → Prop}, T K → ∀ {a : Act} {w : World} {c : Cx}, RX st a w c →
    ∃ v st', YieldsIf P all (fun w' => lk = true → Looks c st.ms.obs (prL i) w w') o v a ∧ RX st' (a.put o.dst v) w c ∧ st'.ms = st.ms ∧ Fr st st' ∧ K st'
def AOOK (P : Program) (all : Array Oper) (ao : AO) : Prop := ∀ {i : Nat} {o : Oper}, all[i]? = some o → ∀ {st : St} {K : St → Prop}, ao i o st K → ∀ {a : Act} {w : World} {c : Cx}, RX st a w c → ∀ {KK : Act → World → Prop} {Qx : Exit → Act → World → Prop},
    (∀ st' a' w' c', Step st a w c st' a' w' c' → K st' → KK a' w') → wpOp P all Qx i KK a w
theorem deval_ok {fs : Nat → FS} {ao : AO} {all : Array Oper} {prL : Nat → List Nat} (hfs : FSOK P all prL fs) (hao : AOOK P all ao) (hns : Region.noSelect all = true) {st0 : St} {a0 : Act} {w0 : World} {c0 : Cx} (h0 : RX st0 a0 w0 c0) :
    ∀ (n : Nat) (L : Array Bool) (fr : Bool) (st : St) (K : St → Prop), Closed .any all L → deval fs ao all prL n L fr st K → ∀ a w c, RX st a w c → (fr = true → w = w0 ∧ c = c0 ∧ st.ms = st0.ms) → TrM st0.ms w0 c0 st.ms w c →
    ∀ Qx : Exit → Act → World → Prop, (∀ ch a w, ¬ Qx (.panic ch) a w) → (∀ st' a' w' c', Step st a w c st' a' w' c' → K st' → Qx .normal a' w') → wpT P .any all Qx (fun p w' => Looks c0 st0.ms.obs (prL p) w0 w') (befQ all) n L a w := by
  intro n
  induction n with
  | zero =>
    intro L fr st K hcl h a w c hr hfr hT Qx hnp hQ
    unfold deval at h
    split at h
    · rename_i hrd; exact ⟨hrd, hQ _ _ _ _ hr.endR h⟩
    · exact h.elim
  | succ n ih =>
    intro L fr st K hcl h a w c hr hfr hT Qx hnp hQ
    unfold deval at h
    split at h
    · rename_i hrd; exact ⟨fun _ => hQ _ _ _ _ hr.endR h, fun i hi => by rw [hrd] at hi; cases hi⟩
    · rename_i hne
      split at h
      · rename_i i o T hp
        obtain ⟨p1, p2, p3, lk, p4, p5⟩ := pickF_spec hp
        obtain ⟨v, st', q1, q2, q3, q4, q5⟩ := hfs p4 h hr
        refine wpT_first (S' := fun w' => lk = true → Looks c0 st0.ms.obs (prL i) w0 w') p2 (Region.noSelect_spec hns) (fun ch a w hh => absurd hh (hnp _ _ _)) n L a w (fun j oj hj hji hun hno => ⟨Region.free_spec p2 p3 j oj hj hji hun (waits_one hj (hno 1)), fun w1 w2 h1 h2 e => h2 i (befQ_of p2 hj (p5 e).2 hji (hno 6) (by
          cases hw : waitsT .any all 6 i j with
          | false => rfl
          | true =>
            have := hcl.waits 6 i (fun o' ho' e' he' hb' => ready_deps p1 ho' e' he' hb') hw
            rw [hun] at this; cases this)) (h1 e)⟩) hcl p1 (yields_weak q1 fun w' hw' e => ?_) (fun e => ?_) ?_
        · obtain ⟨e1, e2, e3⟩ := hfr (p5 e).1
          rw [e1, e2, e3]
          exact hw' e
        · obtain ⟨e1, _⟩ := hfr (p5 e).1
          rw [e1]
          exact fun b _ _ => rfl
        · refine ih _ _ _ _ (hcl.set p1) q5 _ w c q2 (fun e => ?_) ?_ Qx hnp fun st2 a2 w2 c2 hs hk => hQ _ _ _ _ (Step.trans ⟨q2, ?_, defers_put _ _ _, q4⟩ hs) hk
          · obtain ⟨e1, e2, e3⟩ := hfr e
            exact ⟨e1, e2, q3.trans e3⟩
          · rw [q3]; exact hT
          · rw [q3]; exact .refl
      · refine ⟨fun e => absurd e hne, fun i hi => ?_⟩
        have h := conjL_get h i hi
        split at h
        · rename_i o ho
          cases hld : isLoad o with
          | true =>
            have hX : prX all prL o i = [] := by unfold prX; rw [hld]; rfl
            rw [hX] at h
            simp only [ownAt, cond_true] at h
            refine load_upon hld ho (hao ho h (hr.ban _) fun st1 a1 w1 c1 hs hq hww => ?_)
            split at hq
            · rename_i st2 hu
              obtain ⟨u1, u2⟩ := unban_ok hu hr hs
              cases hN : (news st.ms st2.ms).all (fun p => !(has [] p.1)) with
              | false => rw [hN] at hq; exact hq.elim
              | true =>
              rw [hN] at hq
              simp only [cond_true] at hq
              refine ⟨fun p hp hS b hb o' => ?_, ih _ _ _ _ (hcl.set hi) hq a1 w1 c1 u1.rx (fun e => by cases e) (hT.trans u1.tr) Qx hnp fun st3 a3 w3 c3 hs3 hk3 => hQ _ _ _ _ (u1.trans hs3) hk3⟩
              rw [hww]
              exact hS b hb o'
            · exact hq.elim
          | false =>
          have hX : prX all prL o i = prJ all prL i := by unfold prX; rw [hld]; rfl
          rw [hX] at h
          cases hB : ownAt st.ms.obs (prJ all prL i) with
          | false => rw [hB] at h; exact h.elim
          | true =>
            rw [hB] at h
            simp only [cond_true] at h
            refine hao ho h (hr.ban _) fun st1 a1 w1 c1 hs hq => ?_
            split at hq
            · rename_i st2 hu
              obtain ⟨u1, u2⟩ := unban_ok hu hr hs
              cases hN : (news st.ms st2.ms).all (fun p => !(has (prJ all prL i) p.1)) with
              | false => rw [hN] at hq; exact hq.elim
              | true =>
              rw [hN] at hq
              simp only [cond_true] at hq
              refine ⟨fun p hp hS b hb o => ?_, ih _ _ _ _ (hcl.set hi) hq a1 w1 c1 u1.rx (fun e => by cases e) (hT.trans u1.tr) Qx hnp fun st3 a3 w3 c3 hs3 hk3 => hQ _ _ _ _ (u1.trans hs3) hk3⟩
              refine Eq.trans ?_ (hS b hb o)
              have hsub := ban_sub (softL st.ms.obs (prJ all prL i)) st.ms
              rcases hb with ⟨o', hS0⟩ | ⟨id, x, hpi, hx, hxo, hF⟩
              · have hcS := hT.sS b o' hS0
                exact cell_block (a := ⟨b, o, none⟩) (u2.blk b (hr.ox.sb b o' hcS) (fun ⟨j, y, hy, oy, hj⟩ => (hr.ox.fb j y (hsub j y hy) oy b hj).2.1 o' hcS) fun e => (hr.ox.nT b e).2 o' hcS)
              · have hidU := (h0.ox.objs id x hx).1
                have hban := prJ_of (all := all) (prL := prL) hp hpi
                obtain ⟨x', hx', hxo'⟩ := ownAt_spec hB hban
                have hF' : c.F id b := by rw [(hT.hH id hidU).2]; exact hF
                cases hrg : rigid st.ms.obs id with
                | true => exact rigid_cells hrg hr u1 (news_obs u1.fr.2.2 hN hban) hF' o
                | false =>
                have hban := softL_has (ob := st.ms.obs) hban hrg
                obtain ⟨k1, k2, k3⟩ := hr.ox.fb id x' hx' hxo' b hF'
                refine cell_block (a := ⟨b, o, none⟩) (u2.blk b k1 (fun ⟨j, y, hy, oy, hj⟩ => ?_) k3)
                have hne : id ≠ j := fun e => by
                  subst e
                  have hy : (st.ms.ban (softL st.ms.obs (prJ all prL i))).obs id = some y := hy
                  rw [obs_ban, hban] at hy
                  cases hy
                exact hr.ox.dj id j x' y hx' hxo' (hsub j y hy) oy hne b hF' hj
            · exact hq.elim
        · exact h.elim
/-- Objects that the region's loads read. -/
def scanQ (P : Program) (m : MS) (n : Nat) : List Oper → Nat → List (Nat × SV) → List (Nat × Nat)
  | [], _, _ => []
  | o :: r, i, sl =>
    let ρ : Operand → SV := fun x => noC (St.ev ⟨sl, m, n, [], []⟩ x)
    let v := match popS P m.mem ρ o with
      | some R => R.r
      | none => .un
    let rest := scanQ P m n r (i + 1) (match o.dst with | some d => (d, v) :: sl | none => sl)
    match o.op with
    | .load _ x => match ρ x with
      | .bx id _ => (i, id) :: rest
      | .op id _ _ _ => match m.obs id with
        | some (.row _ _ _) => (i, id) :: rest
        | _ => rest
      | .np id _ _ _ => (i, id) :: rest
      | .ip id _ _ _ _ => (i, id) :: rest
      | _ => rest
    | _ => rest
def prOf : List (Nat × Nat) → Nat → List Nat
  | [], _ => []
  | (p, id) :: r, i => bif Nat.beq p i then id :: prOf r i else prOf r i
def drawR (P : Program) (τ : TypeId → Option Ty) : DR := fun id cp ops st K =>
  bif P.follows .mixedOrders && Region.noSelect ops then deval (fun i => fstep P (prOf (scanQ P st.ms st.n ops.toList 0 st.sl) i) ops) (fun i o => aop1 P τ (cp i) ops o) ops (prOf (scanQ P st.ms st.n ops.toList 0 st.sl)) ops.size (Array.replicate ops.size false) true st K else False
/-- A draw more. -/
theorem RX.drew {st : St} {a : Act} {w : World} {c : Cx} (h : RX st a w c) : RX st a { w with drawn := w.drawn + 1 } c ∧ TrM st.ms w c st.ms { w with drawn := w.drawn + 1 } c := by
  have t : Tr (fun _ => none) st.ms.U w c (fun _ => none) st.ms.U { w with drawn := w.drawn + 1 } c :=
    ⟨rfl, rfl, rfl, Nat.le_refl _, fun _ h => h, fun _ h => .inl h, fun _ h => h, fun _ _ => ⟨rfl, rfl⟩, fun _ _ h => h, fun _ _ h => .inl h, fun _ _ _ _ => rfl, fun _ h => .inl h⟩
  have h' : OX (fun _ => none) st.ms.U st.ms.tp { w with drawn := w.drawn + 1 } c :=
    ⟨h.ox.sb, fun id x hx => (by cases hx), fun id x hx => (by cases hx), fun i j x y hx => (by cases hx), h.ox.nT, fun e => by
      obtain ⟨T, h1, h2⟩ := h.ox.tpe e
      exact ⟨T, h1, h2.mono (fun _ _ h => h) (fun _ _ _ => rfl) rfl⟩, h.ox.tF⟩
  obtain ⟨q1, q2⟩ := OX.lift (ob := fun _ => none) (ob' := fun _ => none) h.ox (fun id x hx => by cases hx) t h'
  have e : over (fun _ => none) (fun _ => none) st.ms.obs = st.ms.obs := by funext x; rfl
  rw [e] at q1 q2
  exact ⟨⟨q1, h.sz, fun x u hu => q2.srel h.ox (h.sl x u hu) (h.us x), h.us, h.cn⟩, q2⟩
theorem drawR_ok (τ : TypeId → Option Ty) : DrOK P (drawR P τ) := by
  intro id cp ops st K hcp h a w c hr
  unfold drawR at h
  cases hb : (P.follows .mixedOrders && Region.noSelect ops) with
  | false => rw [hb] at h; exact h.elim
  | true =>
    rw [hb] at h
    obtain ⟨b1, b2⟩ := Bool.and_eq_true_iff.1 hb
    obtain ⟨hr1, t1⟩ := hr.drew
    let Qx : Exit → Act → World → Prop := fun e a' w' => e = .normal ∧ ∃ st' c', Step st a w c st' a' w' c' ∧ K st'
    refine wp_mono (Q := Qx) ?_ (fun e a' w' ⟨he, st', c', k1, k2⟩ => ⟨st', c', k1, he, k2⟩)
    refine wp_region_any b1 (wpAny_of_T _ _ _ _ (deval_ok (fs := fun i => fstep P (prOf (scanQ P st.ms st.n ops.toList 0 st.sl) i) ops) (ao := fun i o => aop1 P τ (cp i) ops o) (prL := prOf (scanQ P st.ms st.n ops.toList 0 st.sl)) (fun h _ hT _ _ _ hr => fstep_ok h hT hr) (fun ho _ _ h _ _ _ hr _ _ hQ => aop1_ok (hcp _) ho h hr hQ) b2 hr1 _ _ _ _ _ .start h _ _ _ hr1 (fun _ => ⟨rfl, rfl, rfl⟩) .refl Qx (fun ch a w hh => by cases hh.1) fun st' a' w' c' hs hk => ⟨rfl, st', c', Step.trans ⟨hr1, t1, rfl, .refl _⟩ hs, hk⟩))
end RE
end Go.Proofs.Ytpnmiieohdkenaa
namespace Go.Proofs.Ytpnmiieohdkenaa
open Go.RowKit
set_option linter.unusedVariables false
namespace RE
variable {P : Program}
theorem nilTest_x {m : Mem} {ρ : Operand → SV} {op : BinOp} {t ty : TypeId} {x y : Operand} {pos : Bool} {p : Prop} (h : nilTest P m ρ (.binOp op t x y ty) = some (pos, p)) : nilOf m (ρ x) = some p := by
  unfold nilTest at h
  split at h
  · rename_i t' x' v ty' e
    injection e with e1 e2 e3 e4 e5
    subst e3
    cases hb : (isNil v && (elemOf P t').isSome) with
    | false => rw [hb] at h; cases h
    | true =>
      rw [hb] at h
      simp only [cond_true, Option.map_eq_some_iff, Prod.mk.injEq] at h
      obtain ⟨q, hq, _, rfl⟩ := h
      exact hq
  · rename_i t' x' v ty' e
    injection e with e1 e2 e3 e4 e5
    subst e3
    cases hb : (isNil v && (elemOf P t').isSome) with
    | false => rw [hb] at h; cases h
    | true =>
      rw [hb] at h
      simp only [cond_true, Option.map_eq_some_iff, Prod.mk.injEq] at h
      obtain ⟨q, hq, _, rfl⟩ := h
      exact hq
  · cases h
/-- A choice that is known. -/
def pickC (P : Program) (st : St) (o : Oper) : Option SV := match o.op with
  | .pick q x y => match st.ev q with
    | .d (.v (.bool true)) => some (st.ev x)
    | .d (.v (.bool false)) => some (st.ev y)
    | _ => none
  | .binOp _ _ x _ _ => match nilTest P st.ms.mem st.ev o.op with
    | some (pos, _) => match st.ev x with
      | .d (.sl _ (_ :: _)) => some (.d (.v (.bool (!pos))))
      | _ => none
    | none => none
  | _ => none
theorem pickC_ok {st : St} {o : Oper} {r : SV} (h : pickC P st o = some r) {a : Act} {w : World} {c : Cx} (hr : RX st a w c) : ∃ v, SRel c w r v ∧ r.inU st.ms.U ∧ ∀ w', (execOp a.eval o).run P w' = .ok (.value v) w' := by
  unfold pickC at h
  split at h
  · rename_i q x y he
    split at h
    · rename_i hq
      injection h with h
      subst h
      have hv := hr.ev q
      rw [hq] at hv
      have hv := srel_v hv
      exact ⟨_, hr.ev x, hr.evU x, fun w' => by simp [execOp, he, hv, asBool]⟩
    · rename_i hq
      injection h with h
      subst h
      have hv := hr.ev q
      rw [hq] at hv
      have hv := srel_v hv
      exact ⟨_, hr.ev y, hr.evU y, fun w' => by simp [execOp, he, hv, asBool]⟩
    · cases h
  · rename_i op t x y ty he
    split at h
    · rename_i pos p hn
      split at h
      · rename_i ty' z l hx
        injection h with h
        subst h
        obtain ⟨b, b1, b2⟩ := nilTest_ok hn hr.ox hr.ev
        have hp : p → False := by
          rw [he] at hn
          have := nilTest_x hn
          rw [hx] at this
          have this : some (z :: l = []) = some p := this
          injection this with this
          rw [← this]
          exact fun e => by cases e
        have hb : b = false := by
          cases b with
          | false => rfl
          | true => exact (hp (b1 rfl)).elim
        subst hb
        refine ⟨_, .d _ _ (.v _), trivial, fun w' => (b2 w').trans ?_⟩
        cases pos <;> rfl
      · cases h
    · cases h
  · cases h
def aopK (P : Program) (τ : TypeId → Option Ty) (cp : CP) (o : Oper) (st : St) (K : St → Prop) : Prop := match pickC P st o with
  | some r => bif dstOK st o.dst then K (st.set o.dst r st.ms) else False
  | none => aop P τ cp o st K
theorem aopK_ok {τ : TypeId → Option Ty} {cp : CP} (hcp : CallOK P cp) {o : Oper} {st : St} {K : St → Prop} (h : aopK P τ cp o st K) : OpS P o st K := by
  unfold aopK at h
  split at h
  · rename_i r hp
    cases hd : dstOK st o.dst with
    | false => rw [hd] at h; exact h.elim
    | true =>
      rw [hd] at h
      intro a w c hr KK Qx hQ
      obtain ⟨v, k1, k2, k3⟩ := pickC_ok (P := P) hp hr
      unfold Oper.wp
      rw [k3]
      exact hQ _ _ _ c ⟨hr.set .refl hr.ox hd k1 k2, .refl, defers_put _ _ _, .set (.refl _)⟩ h
  · exact aop_ok hcp h
def fstepK (P : Program) (pr : List Nat) (all : Array Oper) (o : Oper) (st : St) : Option (Bool × ((St → Prop) → Prop)) := match pickC P st o with
  | some r => bif dstOK st o.dst then some (false, fun K => K (st.set o.dst r st.ms)) else none
  | none => fstep P pr all ⟨o.dst, o.op, o.type, o.pos, o.after, none⟩ st
theorem fstepK_ok {pr : List Nat} {all : Array Oper} {o : Oper} {st : St} {lk : Bool} {T : (St → Prop) → Prop} (h : fstepK P pr all o st = some (lk, T)) {K : St → Prop} (hT : T K) {a : Act} {w : World} {c : Cx} (hr : RX st a w c) (hw : Region.wanted o (yielded all a.tmps) = true) :
    ∃ v st', YieldsIf P all (fun w' => lk = true → Looks c st.ms.obs pr w w') o v a ∧ RX st' (a.put o.dst v) w c ∧ st'.ms = st.ms ∧ Fr st st' ∧ K st' := by
  unfold fstepK at h
  split at h
  · rename_i r hp
    cases hd : dstOK st o.dst with
    | false => rw [hd] at h; cases h
    | true =>
      rw [hd] at h
      simp only [cond_true, Option.some.injEq, Prod.mk.injEq] at h
      obtain ⟨rfl, rfl⟩ := h
      obtain ⟨v, k1, k2, k3⟩ := pickC_ok (P := P) hp hr
      exact ⟨v, _, .inl ⟨hw, fun w' _ => k3 w'⟩, hr.set .refl hr.ox hd k1 k2, by cases o.dst <;> rfl, .set (.refl _), hT⟩
  · obtain ⟨v, st', q1, q2, q3, q4, q5⟩ := fstep_ok h hT hr
    refine ⟨v, st', ?_, q2, q3, q4, q5⟩
    rcases q1 with ⟨_, k⟩ | ⟨k, _⟩
    · exact .inl ⟨hw, k⟩
    · simp [Region.wanted] at k
def aopC (P : Program) (τ : TypeId → Option Ty) (cp : CP) (all : Array Oper) (o : Oper) (st : St) (K : St → Prop) : Prop := match o.guard with
  | none => aopK P τ cp o st K
  | some (j, want) => match (all[j]?).bind (·.dst) with
    | some q => bif Nat.blt q st.n then match guardG want (look st.sl q) with
        | some true => aopK P τ cp o st K
        | some false => bif dstOK st o.dst then K (st.set o.dst .un st.ms) else False
        | none => False
      else False
    | none => False
theorem aopC_core {τ : TypeId → Option Ty} {cp : CP} (hcp : CallOK P cp) {all : Array Oper} {o : Oper} {st : St} {K : St → Prop} (h : aopC P τ cp all o st K) {a : Act} {w : World} {c : Cx} (hr : RX st a w c) {KK : Act → World → Prop} {Qx : Exit → Act → World → Prop}
    (hQ : ∀ st' a' w' c', Step st a w c st' a' w' c' → K st' → KK a' w') : if Region.wanted o (yielded all a.tmps) = true then o.wp P a w KK Qx else KK (a.put o.dst undef) w := by
  unfold aopC at h
  split at h
  · rename_i hg
    rw [if_pos (by simp [Region.wanted, hg])]
    exact aopK_ok hcp h a w c hr KK Qx hQ
  · rename_i j want hg
    split at h
    · rename_i q hq
      cases hb : Nat.blt q st.n with
      | false => rw [hb] at h; exact h.elim
      | true =>
        rw [hb] at h
        have hlt : q < st.n := Nat.le_of_ble_eq_true hb
        simp only [cond_true] at h
        split at h
        · rename_i hG
          rw [wanted_of hg hq hlt hr hG, if_pos rfl]
          exact aopK_ok hcp h a w c hr KK Qx hQ
        · rename_i hG
          rw [wanted_of hg hq hlt hr hG, if_neg (by decide)]
          cases hd : dstOK st o.dst with
          | false => rw [hd] at h; exact h.elim
          | true =>
            rw [hd] at h
            exact hQ _ _ _ c ⟨hr.set .refl hr.ox hd (.un _) trivial, .refl, defers_put _ _ _, .set (.refl _)⟩ h
        · exact h.elim
    · exact h.elim
def aopsC (P : Program) (τ : TypeId → Option Ty) (cp : Nat → CP) (all : Array Oper) : Nat → List Oper → St → (St → Prop) → Prop
  | _, [], st, K => K st.endR
  | i, o :: r, st, K => aopC P τ (cp i) all o st fun st' => aopsC P τ cp all (i + 1) r st' K
theorem aopsC_ok {τ : TypeId → Option Ty} {cp : Nat → CP} (hcp : ∀ i, CallOK P (cp i)) {all : Array Oper} : ∀ (ops : List Oper) (i : Nat) (st : St) (K : St → Prop), aopsC P τ cp all i ops st K →
    ∀ a w c, RX st a w c → ∀ Qx : Exit → Act → World → Prop, (∀ st' a' w' c', Step st a w c st' a' w' c' → K st' → Qx .normal a' w') → wpList P all Qx ops a w
  | [], i, st, K, h, a, w, c, hr, Qx, hQ => hQ _ a w c hr.endR h
  | o :: r, i, st, K, h, a, w, c, hr, Qx, hQ => by
    refine wpList_step fun KK hK => ?_
    exact aopC_core (hcp i) (show aopC P τ (cp i) all o st _ from h) hr fun st' a' w' c' hs hq => hK _ _ (aopsC_ok hcp r (i + 1) st' K hq a' w' c' hs.rx Qx fun st2 a2 w2 c2 hs2 k => hQ _ _ _ _ (hs.trans hs2) k)
def fstepC (P : Program) (pr : List Nat) (all : Array Oper) (o : Oper) (st : St) : Option (Bool × ((St → Prop) → Prop)) :=
  match o.guard with
  | none => fstepK P pr all o st
  | some (j, want) => match (all[j]?).bind (·.dst) with
    | some q => bif Nat.blt q st.n then match guardG want (look st.sl q) with
        | some true => fstepK P pr all o st
        | some false => bif dstOK st o.dst then some (false, fun K => K (st.set o.dst .un st.ms)) else none
        | none => none
      else none
    | none => none
theorem fstepC_ok {pr : List Nat} {all : Array Oper} : FSOK P all (fun _ => pr) (fun _ => fstepC P pr all) := by
  intro i0 o st lk T h K hT a w c hr
  have h : fstepC P pr all o st = some (lk, T) := h
  unfold fstepC at h
  split at h
  · rename_i hg
    exact fstepK_ok h hT hr (by simp [Region.wanted, hg])
  · rename_i j want hg
    split at h
    · rename_i q hq
      cases hb : Nat.blt q st.n with
      | false => rw [hb] at h; cases h
      | true =>
        rw [hb] at h
        have hlt : q < st.n := Nat.le_of_ble_eq_true hb
        simp only [cond_true] at h
        split at h
        · rename_i hG
          exact fstepK_ok h hT hr (wanted_of hg hq hlt hr hG)
        · rename_i hG
          cases hd : dstOK st o.dst with
          | false => rw [hd] at h; cases h
          | true =>
            rw [hd] at h
            simp only [cond_true, Option.some.injEq, Prod.mk.injEq] at h
            obtain ⟨rfl, rfl⟩ := h
            exact ⟨undef, _, .inr ⟨wanted_of hg hq hlt hr hG, rfl⟩, hr.set .refl hr.ox hd (.un _) trivial, by cases o.dst <;> rfl, .set (.refl _), hT⟩
        · cases h
    · cases h
def drawC (P : Program) (τ : TypeId → Option Ty) : DR := fun id cp ops st K =>
  bif P.follows .mixedOrders && Region.noSelect ops then deval (fun i => fstepC P (prOf (scanQ P st.ms st.n ops.toList 0 st.sl) i) ops) (fun i o => aopC P τ (cp i) ops o) ops (prOf (scanQ P st.ms st.n ops.toList 0 st.sl)) ops.size (Array.replicate ops.size false) true st K else False
theorem drawC_ok (τ : TypeId → Option Ty) : DrOK P (drawC P τ) := by
  intro id cp ops st K hcp h a w c hr
  unfold drawC at h
  cases hb : (P.follows .mixedOrders && Region.noSelect ops) with
  | false => rw [hb] at h; exact h.elim
  | true =>
    rw [hb] at h
    obtain ⟨b1, b2⟩ := Bool.and_eq_true_iff.1 hb
    obtain ⟨hr1, t1⟩ := hr.drew
    let Qx : Exit → Act → World → Prop := fun e a' w' => e = .normal ∧ ∃ st' c', Step st a w c st' a' w' c' ∧ K st'
    refine wp_mono (Q := Qx) ?_ (fun e a' w' ⟨he, st', c', k1, k2⟩ => ⟨st', c', k1, he, k2⟩)
    refine wp_region_any b1 (wpAny_of_T _ _ _ _ (deval_ok (fs := fun i => fstepC P (prOf (scanQ P st.ms st.n ops.toList 0 st.sl) i) ops) (ao := fun i o => aopC P τ (cp i) ops o) (prL := prOf (scanQ P st.ms st.n ops.toList 0 st.sl)) (fun {i} {o} {st} {lk} {T} h {K} hT {a} {w} {c} hr => fstepC_ok (pr := prOf (scanQ P _ _ ops.toList 0 _) i) (i := 0) h hT hr) (fun ho _ _ h _ _ _ hr _ _ hQ => wpOp_step ho fun K' hK => aopC_core (hcp _) h hr fun st' a' w' c' hs hq => hK _ _ (hQ _ _ _ _ hs hq)) b2 hr1 _ _ _ _ _ .start h _ _ _ hr1 (fun _ => ⟨rfl, rfl, rfl⟩) .refl Qx (fun ch a w hh => by cases hh.1) fun st' a' w' c' hs hk => ⟨rfl, st', c', Step.trans ⟨hr1, t1, rfl, .refl _⟩ hs, hk⟩))
def unroll (f : St → (Exit → St → Prop) → Prop) : Nat → St → (Exit → St → Prop) → Prop
  | 0, _, _ => False
  | n + 1, st, K => f st (thenQ (fun st' => unroll f n st' K) K)
/-- Code of whose data all is known, carried out. -/
def ceval (rg : RG) (N : Nat) : Code → St → (Exit → St → Prop) → Prop
  | .skip, st, K => K .normal st
  | .label _, st, K => K .normal st
  | .exit i, st, K => K (.exit i) st
  | .ret, st, K => K .ret st
  | .region id ops dr, st, K => rg id ops dr st (K .normal)
  | .seq x y, st, K => ceval rg N x st (thenQ (fun st' => ceval rg N y st' K) K)
  | .cond q x y, st, K => match st.ev q with
    | .d (.v (.bool true)) => ceval rg N x st K
    | .d (.v (.bool false)) => ceval rg N y st K
    | _ => False
  | .block i x, st, K => ceval rg N x st (blockQ i K)
  | .loop x, st, K => unroll (ceval rg N x) N st K
  | _, _, _ => False
theorem ceval_ok {rg : RG} (hrg : RegOK P rg) {N : Nat} : ∀ (x : Code) (st : St) (K : Exit → St → Prop), ceval rg N x st K → AC P x st K := by
  intro x
  induction x with
  | skip => exact fun st K h a w c hr => wp_skip ⟨st, c, .refl hr, h⟩
  | label l => exact fun st K h a w c hr => wp_label ⟨st, c, .refl hr, h⟩
  | exit i => exact fun st K h a w c hr => wp_exit ⟨st, c, .refl hr, h⟩
  | ret => exact fun st K h a w c hr => wp_ret ⟨st, c, .refl hr, h⟩
  | region id ops dr => exact fun st K h => (hrg id ops dr st _ h).mono fun e st' ⟨he, hk⟩ => by subst he; exact hk
  | seq x y ihx ihy =>
    intro st K h
    refine AC.seq ((ihx st _ (show ceval rg N x st _ from h)).mono fun e st' hk => ?_)
    cases e with
    | normal => exact ihy st' K hk
    | _ => exact hk
  | cond q x y ihx ihy =>
    intro st K h
    unfold ceval at h
    split at h
    · rename_i hb
      intro a w c hr
      have hv := hr.ev q
      rw [hb] at hv
      exact wp_cond_split (srel_v hv) (fun _ => ihx st K h a w c hr) (fun e => by cases e)
    · rename_i hb
      intro a w c hr
      have hv := hr.ev q
      rw [hb] at hv
      exact wp_cond_split (srel_v hv) (fun e => by cases e) (fun _ => ihy st K h a w c hr)
    · exact h.elim
  | block i x ih => exact fun st K h => AC.block (ih st _ h)
  | loop x ih =>
    intro st K h
    have h : unroll (ceval rg N x) N st K := h
    intro a0 w0 c0 hr0
    have key : ∀ n st a w c, unroll (ceval rg N x) n st K → ∀ st0 a0 w0 c0, Step st0 a0 w0 c0 st a w c → Code.rounds P x (fun e a' w' => ∃ st' c', Step st0 a0 w0 c0 st' a' w' c' ∧ K e st') n a w := by
      intro n
      induction n with
      | zero => intro st a w c hu; exact hu.elim
      | succ n ihn =>
        intro st a w c hu st0 a0 w0 c0 hs
        refine wp_mono (ih st _ (show ceval rg N x st _ from hu) a w c hs.rx) ?_
        rintro e a' w' ⟨st', c', h1, h2⟩
        cases e with
        | normal => exact ihn st' a' w' c' h2 st0 a0 w0 c0 (hs.trans h1)
        | _ => exact ⟨st', c', hs.trans h1, h2⟩
    exact wp_loop_rounds N (key N st a0 w0 c0 h st a0 w0 c0 (Step.refl hr0))
  | rangeFunc f ps a b iha ihb => exact fun st K h => h.elim
  | scope x ih => exact fun st K h => h.elim
  | goto l => exact fun st K h => h.elim
  | refuse y => exact fun st K h => h.elim
/-- A call in place, of whose data all is known. -/
def cinline (P : Program) (rg : RG) (N : Nat) (f : FuncId) (ss : List SV) (m : MS) (k : SV → MS → Prop) : Prop :=
  match P.funcs[f]? with
  | some fn => match fn.body with
    | some c => bif Nat.ble ss.length fn.ntmps then ceval rg N c (entry ss m fn.ntmps) (retK P fn.results.toList k) else False
    | none => False
  | none => False
theorem cinline_ok {rg : RG} (hrg : RegOK P rg) {N : Nat} : CallOK P (cinline P rg N) := by
  intro f ss m k h us w c hox hl hr
  unfold cinline at h
  split at h
  · rename_i fn hf
    split at h
    · rename_i body hb
      cases hn : Nat.ble ss.length fn.ntmps with
      | false => rw [hn] at h; exact h.elim
      | true =>
        rw [hn] at h
        have hn := Nat.le_of_ble_eq_true hn
        refine calls_of_wp hf hb (wp_mono (ceval_ok hrg body _ _ h _ w c (entry_rx hox hl hn hr)) ?_)
        rintro e a' w' ⟨st', c', hs, hq⟩
        have fin : (match resS P st' fn.results.toList with | some r => kT k r st'.ms | none => False) → a'.defers = [] ∧ ∃ v, (results fn a'.tmps).run P w' = .ok v w' ∧ ∃ v' r m' c', Ending.returned v = .returned v' ∧ k r m' ∧ FrM m m' ∧ OXM m' w' c' ∧ TrM m w c m' w' c' ∧ SRel c' w' r v' ∧ r.inU m'.U := by
          intro hq
          split at hq
          · rename_i r hres
            exact ⟨hs.df, resS_fin hres hs.rx hs.tr hs.fr.2.2 hq⟩
          · exact hq.elim
        cases e with
        | normal => exact fin hq
        | ret => exact fin hq
        | _ => exact hq.elim
    · exact h.elim
  · exact h.elim
/-- Calls: by contract, or walked in place with all data known, as deep as n. -/
def callC (P : Program) (C : Ctx) (N : Nat) : Nat → CP
  | 0 => fun _ _ _ _ => False
  | n + 1 => fun f ss m k => match findS C.sp f with
    | some s => byCon s ss m k
    | none => cinline P (fun id ops d st K => bif d then drawC P C.τ id (fun _ => callC P C N n) ops st K else aopsC P C.τ (fun _ => callC P C N n) ops 0 ops.toList st K) N f ss m k
theorem regC_ok {C : Ctx} {cp : Nat → CP} (hcp : ∀ i, CallOK P (cp i)) : RegOK P (fun id ops d st K => bif d then drawC P C.τ id cp ops st K else aopsC P C.τ cp ops 0 ops.toList st K) := by
  intro id ops d st K h
  cases d with
  | true => exact drawC_ok C.τ id cp ops st K hcp h
  | false =>
    have h : aopsC P C.τ cp ops 0 ops.toList st K := h
    intro a w c hr
    exact wp_region_list (aopsC_ok hcp ops.toList 0 st K h a w c hr _ fun st' a' w' c' hs hk => ⟨st', c', hs, rfl, hk⟩)
theorem callC_ok {C : Ctx} {N : Nat} (hsp : SpecsOK P C.sp) : ∀ n, CallOK P (callC P C N n)
  | 0 => fun f ss m k h => h.elim
  | n + 1 => by
    intro f ss m k h us w c hox hl hr
    unfold callC at h
    split at h
    · rename_i s hs
      obtain ⟨h1, h2⟩ := findS_ok hsp hs
      rw [← h2]
      exact byCon_ok h1 h hox hl hr
    · exact cinline_ok (regC_ok fun _ => callC_ok hsp n) f ss m k h us w c hox hl hr
end RE
end Go.Proofs.Ytpnmiieohdkenaa
namespace Go.Proofs.Ytpnmiieohdkenaa
open Go.RowKit
set_option linter.unusedVariables false
namespace RE
variable {P : Program}
def goneL : List (Option Nat) → List (Nat × Option Ob)
  | [] => []
  | some id :: r => (id, none) :: goneL r
  | none :: r => goneL r
def Gone (own : List (Option Nat)) (id : Nat) : Prop := ∃ j : Nat, own[j]? = some (some id)
theorem goneL_look : ∀ {own : List (Option Nat)} {id : Nat} {v : Option Ob}, lookK (goneL own) id = some v → v = none ∧ Gone own id
  | [], id, v, h => by simp [goneL, lookK] at h
  | some k :: r, id, v, h => by
    rw [goneL, lookK_cons] at h
    split at h
    · rename_i e
      injection h with h
      have e : k = id := e
      subst e
      exact ⟨h.symm, 0, rfl⟩
    · obtain ⟨h1, j, h2⟩ := goneL_look h
      exact ⟨h1, j + 1, h2⟩
  | none :: r, id, v, h => by
    obtain ⟨h1, j, h2⟩ := goneL_look (own := r) h
    exact ⟨h1, j + 1, h2⟩
theorem goneL_none : ∀ {own : List (Option Nat)} {id : Nat}, lookK (goneL own) id = none → ¬ Gone own id
  | [], id, h, ⟨j, hj⟩ => by simp at hj
  | some k :: r, id, h, ⟨j, hj⟩ => by
    rw [goneL, lookK_cons] at h
    split at h
    · cases h
    · rename_i e
      cases j with
      | zero => simp at hj; exact e hj
      | succ j => exact goneL_none h ⟨j, hj⟩
  | none :: r, id, h, ⟨j, hj⟩ => by
    cases j with
    | zero => simp at hj
    | succ j => exact goneL_none (own := r) h ⟨j, hj⟩
def MS.take (m : MS) (own : List (Option Nat)) (rows : List Row) : MS := ⟨rowsOb m.nx rows ++ (goneL own ++ m.ob), m.nx + rows.length, m.tp⟩
theorem take_obs (m : MS) (own : List (Option Nat)) (rows : List Row) (id : Nat) (x : Ob) (h : (m.take own rows).obs id = some x) : (∃ j r, id = m.nx + j ∧ rows[j]? = some r ∧ x = .row r.1 r.2.1 r.2.2) ∨ (¬ Gone own id ∧ m.obs id = some x) := by
  have h : lookO (rowsOb m.nx rows ++ (goneL own ++ m.ob)) id = some x := h
  rw [lookO_app'] at h
  cases hz : lookK (rowsOb m.nx rows) id with
  | some v =>
    rw [hz] at h
    obtain ⟨j, r, h1, h2, h3⟩ := rowsOb_some hz
    have h : v = some x := h
    rw [h3] at h
    injection h with h
    exact .inl ⟨j, r, h1, h2, h.symm⟩
  | none =>
    rw [hz] at h
    have h : lookO (goneL own ++ m.ob) id = some x := h
    rw [lookO_app'] at h
    cases hy : lookK (goneL own) id with
    | some v =>
      rw [hy] at h
      have h : v = some x := h
      rw [(goneL_look hy).1] at h
      cases h
    | none =>
      rw [hy] at h
      exact .inr ⟨goneL_none hy, h⟩
theorem call_back2 {m : MS} {w w' : World} {c c0 c' : Cx} {own : List (Option Nat)} {rows : List Row} {n : Nat} {ob0 obR : Obs} {U0 UR : Nat → Prop} (hox : OXM m w c)
    (hrow : ∀ id, Gone own id → ∃ e t l, m.obs id = some (.row e t l)) (hfp : ∀ b, FP ob0 c0 b → ∃ id, Gone own id ∧ c.F id b) (hS : c0.S = c.S) (hT0 : c0.T = none)
    (hox' : OX obR UR false w' c') (ht : Tr ob0 U0 w c0 obR UR w' c') (hR : ∀ (j : Nat) (r : Row), rows[j]? = some r → obR (n + j) = some (.row r.1 r.2.1 r.2.2)) :
    ∃ c2, OXM (m.take own rows) w' c2 ∧ TrM m w c (m.take own rows) w' c2 ∧ (∀ i, c2.H (m.nx + i) = c'.H (n + i)) ∧ c2.S = c'.S := by
  have hgF : ∀ id b, Gone own id → c.F id b → b < w.heap.size ∧ (∀ k, ¬ c.S b k) ∧ c.T ≠ some b := fun id b hg hb => by
    obtain ⟨e, t, l, h⟩ := hrow id hg
    exact hox.fb id _ h rfl b hb
  have hoth : ∀ i y b, m.obs i = some y → y.own = true → ¬ Gone own i → c.F i b → ¬ FP ob0 c0 b := fun i y b hi oi hg hb hf => by
    obtain ⟨id, hg', hb'⟩ := hfp b hf
    obtain ⟨e, t, l, h⟩ := hrow id hg'
    exact hox.dj i id y _ hi oi h rfl (fun e => hg (e ▸ hg')) b hb hb'
  have hblk : ∀ b, b < w.heap.size → ¬ FP ob0 c0 b → w'.heap[b]? = w.heap[b]? := fun b hb hf => ht.blk b hb hf (by rw [hT0]; exact fun h => by cases h)
  have hSnF : ∀ b o, c.S b o → ¬ FP ob0 c0 b := fun b o hs hf => by
    obtain ⟨id, hg, hb⟩ := hfp b hf
    exact (hgF id b hg hb).2.1 o hs
  have hcell : ∀ b o, c.S b o → w'.cell? ⟨b, o, none⟩ = w.cell? ⟨b, o, none⟩ := fun b o hs => World.cell?_of_block (hblk b (hox.sb b o hs) (hSnF b o hs))
  have hsS : ∀ b o, c.S b o → c'.S b o := fun b o hs => ht.sS b o (by rw [hS]; exact hs)
  have hsN : ∀ b o, c'.S b o → c.S b o ∨ FP ob0 c0 b ∨ w.heap.size ≤ b := fun b o hs => by
    have := ht.sN b o hs
    rwa [hS] at this
  have hTn : ∀ T, c.T = some T → ¬ FP ob0 c0 T := fun T hT hf => by
    obtain ⟨id, hg, hb⟩ := hfp T hf
    exact (hgF id T hg hb).2.2 hT
  have hnew : ∀ j r b, rows[j]? = some r → c'.F (n + j) b → FP ob0 c0 b ∨ w.heap.size ≤ b := fun j r b hr hb => ht.fp b ⟨n + j, _, hR j r hr, rfl, hb⟩
  let c2 : Cx := ⟨c'.S, fun i => if i < m.nx then c.H i else c'.H (n + (i - m.nx)), fun i => if i < m.nx then c.F i else c'.F (n + (i - m.nx)), c.T⟩
  have h2o : ∀ i, i < m.nx → c2.H i = c.H i ∧ c2.F i = c.F i := fun i hi => ⟨if_pos hi, if_pos hi⟩
  have h2n : ∀ i, c2.H (m.nx + i) = c'.H (n + i) ∧ c2.F (m.nx + i) = c'.F (n + i) := fun i => by
    refine ⟨?_, ?_⟩
    · show (if m.nx + i < m.nx then _ else _) = _
      rw [if_neg (by omega), show m.nx + i - m.nx = i by omega]
    · show (if m.nx + i < m.nx then _ else _) = _
      rw [if_neg (by omega), show m.nx + i - m.nx = i by omega]
  refine ⟨c2, ⟨fun b o hb => hox'.sb b o hb, fun id x hx => ?_, fun id x hx hox2 b hb => ?_, fun i j x y hx ox2 hy oy2 hne b hb hb' => ?_, fun T hTs => ?_, fun htp => ?_, hox.tF⟩, ⟨ht.os, ht.tape, ht.output, ht.sz, fun _ h => h, fun _ h => .inl h, fun i hi => ?_, fun i hi => h2o i hi, hsS, fun b o hb => ?_, fun b hb hf hTb => ?_, fun b hb => ?_⟩, fun i => (h2n i).1, rfl⟩
  · rcases take_obs m own rows id x hx with ⟨j, r, rfl, hr, rfl⟩ | ⟨hg, hx⟩
    · refine ⟨?_, trivial, ?_⟩
      · show m.nx + j < m.nx + rows.length
        have := (List.getElem?_eq_some_iff.1 hr).1; omega
      · show RowAt w' c'.S (c2.H (m.nx + j)) (c2.F (m.nx + j)) _ _ _
        rw [(h2n j).1, (h2n j).2]
        exact (hox'.objs (n + j) _ (hR j r hr)).2.2
    · obtain ⟨u1, u2, u3⟩ := hox.objs id x hx
      have hid : id < m.nx := u1
      refine ⟨?_, Ob.inU_mono (fun i hi => ?_) u2, u3.keep (U := m.U) u2 hsS hcell (fun _ h => h) (fun i hi => (h2o i hi).1) (h2o id hid) fun ho b hb => ?_⟩
      · show id < m.nx + rows.length; omega
      · have hi : i < m.nx := hi
        show i < m.nx + rows.length; omega
      · exact hblk b (hox.fb id x hx ho b hb).1 (hoth id x b hx ho hg hb)
  · rcases take_obs m own rows id x hx with ⟨j, r, rfl, hr, rfl⟩ | ⟨hg, hx⟩
    · rw [(h2n j).2] at hb
      obtain ⟨p1, p2, p3⟩ := hox'.fb (n + j) _ (hR j r hr) rfl b hb
      refine ⟨p1, p2, fun e => ?_⟩
      rcases hnew j r b hr hb with q | q
      · exact hTn b e q
      · have := (hox.nT b e).1; omega
    · rw [(h2o id (hox.objs id x hx).1).2] at hb
      obtain ⟨p1, p2, p3⟩ := hox.fb id x hx hox2 b hb
      refine ⟨Nat.lt_of_lt_of_le p1 ht.sz, fun k hk => ?_, p3⟩
      rcases hsN b k hk with e | e | e
      · exact p2 k e
      · exact hoth id x b hx hox2 hg hb e
      · omega
  · rcases take_obs m own rows i x hx with ⟨p, r, rfl, hr, rfl⟩ | ⟨hg, hx⟩
    · rw [(h2n p).2] at hb
      rcases take_obs m own rows j y hy with ⟨q, r', rfl, hr', rfl⟩ | ⟨hg', hy⟩
      · rw [(h2n q).2] at hb'
        exact hox'.dj (n + p) (n + q) _ _ (hR p r hr) rfl (hR q r' hr') rfl (fun e => hne (by omega)) b hb hb'
      · rw [(h2o j (hox.objs j y hy).1).2] at hb'
        rcases hnew p r b hr hb with e | e
        · exact hoth j y b hy oy2 hg' hb' e
        · have := (hox.fb j y hy oy2 b hb').1; omega
    · rw [(h2o i (hox.objs i x hx).1).2] at hb
      rcases take_obs m own rows j y hy with ⟨q, r', rfl, hr', rfl⟩ | ⟨hg', hy⟩
      · rw [(h2n q).2] at hb'
        rcases hnew q r' b hr' hb' with e | e
        · exact hoth i x b hx ox2 hg hb e
        · have := (hox.fb i x hx ox2 b hb).1; omega
      · rw [(h2o j (hox.objs j y hy).1).2] at hb'
        exact hox.dj i j x y hx ox2 hy oy2 hne b hb hb'
  · obtain ⟨p1, p2⟩ := hox.nT T hTs
    refine ⟨Nat.lt_of_lt_of_le p1 ht.sz, fun k hk => ?_⟩
    rcases hsN T k hk with e | e | e
    · exact p2 k e
    · exact hTn T hTs e
    · omega
  · obtain ⟨T, hTs, hta⟩ := hox.tpe htp
    exact ⟨T, hTs, hta.mono hsS hcell (hblk T hta.lt (hTn T hTs))⟩
  · have hi : i < m.nx := hi
    show i < m.nx + rows.length; omega
  · rcases hsN b o hb with e | e | e
    · exact .inl e
    · obtain ⟨id, hg, hb'⟩ := hfp b e
      obtain ⟨e1, t, l, h⟩ := hrow id hg
      exact .inr (.inl ⟨id, _, h, rfl, hb'⟩)
    · exact .inr (.inr e)
  · refine hblk b hb fun hf' => ?_
    obtain ⟨id, hg, hb'⟩ := hfp b hf'
    obtain ⟨e1, t, l, h⟩ := hrow id hg
    exact hf ⟨id, _, h, rfl, hb'⟩
  · obtain ⟨id, x, hx, ho, hb⟩ := hb
    rcases take_obs m own rows id x hx with ⟨j, r, rfl, hr, rfl⟩ | ⟨hg, hx⟩
    · rw [(h2n j).2] at hb
      rcases hnew j r b hr hb with e | e
      · obtain ⟨id, hg, hb'⟩ := hfp b e
        obtain ⟨e1, t, l, h⟩ := hrow id hg
        exact .inl ⟨id, _, h, rfl, hb'⟩
      · exact .inr e
    · rw [(h2o id (hox.objs id x hx).1).2] at hb
      exact .inl ⟨id, x, hx, ho, hb⟩
mutual
theorem instS_move {c c2 : Cx} {w : World} {n n1 : Nat} {al : Bool} (hS : al = true → ∀ b o, c.S b o → c2.S b o) (hH : ∀ i, c2.H (n + i) = c.H (n1 + i)) : ∀ (s : Sh) (acc : List Ty) (v : dens (shT s acc)) (k : Nat), shPure s = true → (al || shFlat s) = true → ∀ {u : Value}, SRel c w (instS s acc v (n1 + k)).1 u → SRel c2 w (instS s acc v (n + k)).1 u
  | .dat t, acc, v, k, _, hf, u, hr => by
    refine .d _ _ ?_
    have hr := srel_d hr
    cases al with
    | true => exact hr.mono (hS rfl) (fun _ _ _ => rfl)
    | false => exact hr.flat (tv_flat (show flatT t = true from by simpa [shFlat] using hf))
  | .own e t, acc, v, k, _, hf, u, hr => by
    rw [srel_os hr, ← hH]
    exact .os _
  | .bx id off, acc, v, k, hp, _, u, hr => by cases hp
  | .rf id, acc, v, k, hp, _, u, hr => by cases hp
  | .tp, acc, v, k, hp, _, u, hr => by cases hp
  | .un, acc, v, k, _, _, u, hr => .un u
  | .agg cs, acc, v, k, hp, hf, u, hr => by
    have hr : SRel c w (mkAgg (instL cs acc v (n1 + k)).1) u := hr
    obtain ⟨us, rfl, hl, h1, h2, _⟩ : ∃ us : List Value, u = .agg us.toArray ∧ us.length = (instL cs acc v (n1 + k)).1.length ∧ (∀ u ∈ us, u.oneCell' = true) ∧ (∀ (i : Nat) (s : SV) (u : Value), (instL cs acc v (n1 + k)).1[i]? = some s → us[i]? = some u → SRel c w s u) ∧ True := by
      unfold mkAgg at hr
      split at hr
      · rename_i ds hd
        have hd := dOf_spec hd
        cases srel_d hr with
        | agg _ us hl h1 h2 =>
          refine ⟨us, rfl, by rw [hd]; simp [hl], h1, fun i s u hs hu => ?_, trivial⟩
          rw [hd, List.getElem?_map, Option.map_eq_some_iff] at hs
          obtain ⟨x, hx, rfl⟩ := hs
          exact .d _ _ (h2 i x u hx hu)
      · obtain ⟨us, e1, e2, e3, e4⟩ := srel_agg hr
        exact ⟨us, e1, e2, e3, e4, trivial⟩
    obtain ⟨k1, k2⟩ := instL_move hS hH cs acc v k hp hf
    show SRel c2 w (mkAgg (instL cs acc v (n + k)).1) _
    exact srel_mkAgg (by omega) h1 fun i s u hs hu => by
      have hi : i < (instL cs acc v (n1 + k)).1.length := by have := (List.getElem?_eq_some_iff.1 hu).1; omega
      exact k2 i _ s (List.getElem?_eq_getElem hi) hs (h2 i _ u (List.getElem?_eq_getElem hi) hu)
  | .tup cs, acc, v, k, hp, hf, u, hr => by
    have hr : SRel c w (.tup (instL cs acc v (n1 + k)).1) u := hr
    obtain ⟨k1, k2⟩ := instL_move hS hH cs acc v k hp hf
    cases hr with
    | tup _ us hl h2 =>
      show SRel c2 w (.tup (instL cs acc v (n + k)).1) _
      exact .tup _ us (by omega) fun i s u hs hu => by
        have hi : i < (instL cs acc v (n1 + k)).1.length := by have := (List.getElem?_eq_some_iff.1 hu).1; omega
        exact k2 i _ s (List.getElem?_eq_getElem hi) hs (h2 i _ u (List.getElem?_eq_getElem hi) hu)
theorem instL_move {c c2 : Cx} {w : World} {n n1 : Nat} {al : Bool} (hS : al = true → ∀ b o, c.S b o → c2.S b o) (hH : ∀ i, c2.H (n + i) = c.H (n1 + i)) : ∀ (ss : List Sh) (acc : List Ty) (v : dens (shTL ss acc)) (k : Nat), shPureL ss = true → (al || shFlatL ss) = true → (instL ss acc v (n1 + k)).1.length = (instL ss acc v (n + k)).1.length ∧ ∀ (i : Nat) (x y : SV), (instL ss acc v (n1 + k)).1[i]? = some x → (instL ss acc v (n + k)).1[i]? = some y → ∀ {u : Value}, SRel c w x u → SRel c2 w y u
  | [], acc, v, k, _, _ => ⟨rfl, fun i x y h => by simp [instL] at h⟩
  | s :: ss, acc, v, k, hp, hf => by
    obtain ⟨p1, p2⟩ := Bool.and_eq_true_iff.1 (show (shPure s && shPureL ss) = true from hp)
    have f12 : (al || shFlat s) = true ∧ (al || shFlatL ss) = true := by
      cases al with
      | true => exact ⟨rfl, rfl⟩
      | false =>
        have hf : (shFlat s && shFlatL ss) = true := by simpa [shFlatL] using hf
        obtain ⟨a1, a2⟩ := Bool.and_eq_true_iff.1 hf
        exact ⟨by simpa using a1, by simpa using a2⟩
    have e := instS_rows s (shTL ss acc) v k (n + k)
    have e1 : (instS s (shTL ss acc) v k).2.1 = (instS s (shTL ss acc) v (n + k)).2.1 := by rw [e]
    have e2 : (instS s (shTL ss acc) v k).2.2 = (instS s (shTL ss acc) v (n + k)).2.2 := by rw [e]
    have e' := instS_rows s (shTL ss acc) v k (n1 + k)
    have e1' : (instS s (shTL ss acc) v k).2.1 = (instS s (shTL ss acc) v (n1 + k)).2.1 := by rw [e']
    have e2' : (instS s (shTL ss acc) v k).2.2 = (instS s (shTL ss acc) v (n1 + k)).2.2 := by rw [e']
    obtain ⟨q1, q2⟩ := instL_move hS hH ss acc (instS s (shTL ss acc) v k).2.2 (k + (instS s (shTL ss acc) v k).2.1.length) p2 f12.2
    have hA : (instL (s :: ss) acc v (n1 + k)).1 = (instS s (shTL ss acc) v (n1 + k)).1 :: (instL ss acc (instS s (shTL ss acc) v k).2.2 (n1 + (k + (instS s (shTL ss acc) v k).2.1.length))).1 := by
      show _ :: (instL ss acc (instS s (shTL ss acc) v (n1 + k)).2.2 (n1 + k + (instS s (shTL ss acc) v (n1 + k)).2.1.length)).1 = _
      rw [← e2', ← e1', Nat.add_assoc]
    have hB : (instL (s :: ss) acc v (n + k)).1 = (instS s (shTL ss acc) v (n + k)).1 :: (instL ss acc (instS s (shTL ss acc) v k).2.2 (n + (k + (instS s (shTL ss acc) v k).2.1.length))).1 := by
      show _ :: (instL ss acc (instS s (shTL ss acc) v (n + k)).2.2 (n + k + (instS s (shTL ss acc) v (n + k)).2.1.length)).1 = _
      rw [← e2, ← e1, Nat.add_assoc]
    rw [hA, hB]
    refine ⟨by simp [q1], fun i x y hx hy u hr => ?_⟩
    cases i with
    | zero => simp at hx hy; subst hx hy; exact instS_move hS hH s (shTL ss acc) v k p1 f12.1 hr
    | succ i => simp at hx hy; exact q2 i x y hx hy hr
end

/-! ### contracts -/
structure Spec2 where
  f : FuncId
  as : List Sh
  rs : Sh
  pt : dens (shTL as []) → (dens (shT rs []) → Prop) → Prop
def mem2 (as : List Sh) (x : dens (shTL as [])) : MS := ⟨rowsOb 0 (instL as [] x 0).2.1, (instL as [] x 0).2.1.length, false⟩
/-- What a call under such a contract brings about: n rows were taken over. -/
def Spec2OK (P : Program) (s : Spec2) : Prop := ∀ x post, s.pt x post → ∀ (us : List Value) w c, OXM (mem2 s.as x) w c → us.length = (instL s.as [] x 0).1.length →
  (∀ (i : Nat) (d : SV) (u : Value), (instL s.as [] x 0).1[i]? = some d → us[i]? = some u → SRel c w d u ∧ d.inU (mem2 s.as x).U) →
  Calls P s.f us.toArray w fun e w' => ∃ v y c' obR UR, e = .returned v ∧ post y ∧ OX obR UR false w' c' ∧ Tr (mem2 s.as x).obs (mem2 s.as x).U w c obR UR w' c' ∧ SRel c' w' (instS s.rs [] y (mem2 s.as x).nx).1 v ∧ ∀ (j : Nat) (r : Row), (instS s.rs [] y 0).2.1[j]? = some r → obR ((mem2 s.as x).nx + j) = some (.row r.1 r.2.1 r.2.2)
def ownIds : List (Option Nat) → List Nat
  | [] => []
  | some id :: r => id :: ownIds r
  | none :: r => ownIds r
def distinctO : List Nat → Bool
  | [] => true
  | x :: r => !(has r x) && distinctO r
theorem ownIds_mem : ∀ {own : List (Option Nat)} {j id : Nat}, own[j]? = some (some id) → has (ownIds own) id = true
  | [], j, id, h => by simp at h
  | some k :: r, 0, id, h => by
    simp at h
    subst h
    exact has_cons.2 (.inl rfl)
  | some k :: r, j + 1, id, h => has_cons.2 (.inr (ownIds_mem (own := r) (by simpa using h)))
  | none :: r, 0, id, h => by simp at h
  | none :: r, j + 1, id, h => ownIds_mem (own := r) (by simpa using h)
theorem distinct_own : ∀ {own : List (Option Nat)}, distinctO (ownIds own) = true → ∀ (i j id : Nat), i ≠ j → own[i]? = some (some id) → own[j]? ≠ some (some id)
  | [], _, i, j, id, _, h => by simp at h
  | none :: r, hd, i, j, id, hne, hi => by
    cases i with
    | zero => simp at hi
    | succ i => cases j with
      | zero => simp
      | succ j => exact distinct_own (own := r) hd i j id (by omega) (by simpa using hi)
  | some k :: r, hd, i, j, id, hne, hi => by
    obtain ⟨h1, h2⟩ := Bool.and_eq_true_iff.1 hd
    have h1 : has (ownIds r) k = false := by simpa using h1
    cases i with
    | zero =>
      simp at hi
      subst hi
      cases j with
      | zero => exact absurd rfl hne
      | succ j =>
        intro h
        have := ownIds_mem (own := r) (j := j) (id := k) (by simpa using h)
        rw [h1] at this; cases this
    | succ i => cases j with
      | zero =>
        intro h
        simp at h
        subst h
        have := ownIds_mem (own := r) (j := i) (id := k) (by simpa using hi)
        rw [h1] at this; cases this
      | succ j => exact distinct_own (own := r) h2 i j id (by omega) (by simpa using hi)
/-- A call by such a contract. -/
def byCon2 (s : Spec2) (ss : List SV) (m : MS) (k : SV → MS → Prop) : Prop :=
  match fitL m.mem 0 s.as [] ss () with
  | some g => bif g.fz.isEmpty && shPureL s.as && shPure s.rs && distinctO (ownIds g.own) then s.pt g.v fun y => k (instS s.rs [] y m.nx).1 (m.take g.own (instS s.rs [] y 0).2.1) else False
  | none => False
theorem byCon2_ok {s : Spec2} (hs : Spec2OK P s) {ss : List SV} {m : MS} {k : SV → MS → Prop} (h : byCon2 s ss m k) {us : List Value} {w : World} {c : Cx} (hox : OXM m w c) (hl : us.length = ss.length) (hr : ∀ (i : Nat) (x : SV) (u : Value), ss[i]? = some x → us[i]? = some u → SRel c w x u ∧ x.inU m.U) :
    Calls P s.f us.toArray w fun e w' => ∃ v r m' c', e = .returned v ∧ k r m' ∧ FrM m m' ∧ OXM m' w' c' ∧ TrM m w c m' w' c' ∧ SRel c' w' r v ∧ r.inU m'.U := by
  unfold byCon2 at h
  split at h
  · rename_i g hg
    cases hb : (g.fz.isEmpty && shPureL s.as && shPure s.rs && distinctO (ownIds g.own)) with
    | false => rw [hb] at h; exact h.elim
    | true =>
      rw [hb] at h
      simp only [cond_true] at h
      simp only [Bool.and_eq_true] at hb
      obtain ⟨⟨⟨b1, b2⟩, b3⟩, b4⟩ := hb
      have b1 : g.fz = [] := by simpa using b1
      have hF : Fz m.mem c c w [] := ⟨hox, by show OX (ovr _ []) _ _ _ _; rw [ovr_nil]; exact hox, by show Tr _ _ _ _ (ovr _ []) _ _ _; rw [ovr_nil]; exact .refl, rfl⟩
      obtain ⟨_, q2, q3, q4, q5⟩ := fitL_ok hF (k0 := 0) (own0 := g.own) s.as [] ss () g hg (fun i hi => by rw [b1] at hi; cases hi) 0 (Nat.le_refl _) (fun j o h => by simpa using h)
      obtain ⟨cM, hcM⟩ : ∃ cM, cM = reCx c 0 g.own := ⟨_, rfl⟩
      obtain ⟨c0, hc0⟩ : ∃ c0 : Cx, c0 = ⟨cM.S, cM.H, cM.F, none⟩ := ⟨_, rfl⟩
      rw [← hcM] at q5
      have hcS : c0.S = c.S := by rw [hc0, hcM]; rfl
      have hcH : ∀ i : Nat, c0.H i = ownH c.H ((g.own[i]?).getD none) := fun i => by
        rw [hc0, hcM]
        show (if i < 0 then c.H i else ownH c.H ((g.own[i - 0]?).getD none)) = _
        rw [if_neg (by omega), Nat.sub_zero]
      have hcF : ∀ i : Nat, c0.F i = ownF c.F ((g.own[i]?).getD none) := fun i => by
        rw [hc0, hcM]
        show (if i < 0 then c.F i else ownF c.F ((g.own[i - 0]?).getD none)) = _
        rw [if_neg (by omega), Nat.sub_zero]
      have hrl : (instL s.as [] g.v 0).2.1.length = g.own.length := q2.1
      have hob0 : ∀ id x, (mem2 s.as g.v).obs id = some x → ∃ r o, (instL s.as [] g.v 0).2.1[id]? = some r ∧ g.own[id]? = some o ∧ x = .row r.1 r.2.1 r.2.2 := fun id x hx => by
        have hx : lookO (rowsOb 0 (instL s.as [] g.v 0).2.1) id = some x := hx
        rw [← List.append_nil (rowsOb 0 _), lookO_app'] at hx
        cases hz : lookK (rowsOb 0 (instL s.as [] g.v 0).2.1) id with
        | some v =>
          rw [hz] at hx
          obtain ⟨j, r, h1, h2, h3⟩ := rowsOb_some hz
          have hx : v = some x := hx
          rw [h3] at hx
          injection hx with hx
          rw [Nat.zero_add] at h1
          subst h1
          have hlt := (List.getElem?_eq_some_iff.1 h2).1
          exact ⟨r, _, h2, List.getElem?_eq_getElem (by omega), hx.symm⟩
        | none => rw [hz] at hx; cases hx
      have hgone : ∀ id, Gone g.own id → ∃ e t l, m.obs id = some (.row e t l) := fun id ⟨j, hj⟩ => by
        have hlt := (List.getElem?_eq_some_iff.1 hj).1
        have := q2.2 j _ (instL s.as [] g.v 0).2.1[j] hj (List.getElem?_eq_getElem (by omega))
        exact ⟨_, _, _, this⟩
      have hfp0 : ∀ id x b, (mem2 s.as g.v).obs id = some x → c0.F id b → ∃ k, g.own[id]? = some (some k) ∧ c.F k b := fun id x b hx hb => by
        obtain ⟨r, o, h1, h2, h3⟩ := hob0 id x hx
        rw [hcF, h2] at hb
        cases o with
        | none => exact hb.elim
        | some k => exact ⟨k, h2, hb⟩
      have hfp : ∀ b, FP (mem2 s.as g.v).obs c0 b → ∃ id, Gone g.own id ∧ c.F id b := fun b ⟨id, x, hx, ho, hb⟩ => by
        obtain ⟨k, h1, h2⟩ := hfp0 id x b hx hb
        exact ⟨k, ⟨id, h1⟩, h2⟩
      have hox0 : OXM (mem2 s.as g.v) w c0 := by
        refine ⟨fun b o hb => hox.sb b o (by rw [← hcS]; exact hb), fun id x hx => ?_, fun id x hx ho b hb => ?_, fun i j x y hx ox hy oy hne b hb hb' => ?_, fun T hT => ?_, fun htp => (by cases htp), fun _ => by rw [hc0]⟩
        · obtain ⟨r, o, h1, h2, rfl⟩ := hob0 id x hx
          refine ⟨?_, trivial, ?_⟩
          · show id < (instL s.as [] g.v 0).2.1.length
            exact (List.getElem?_eq_some_iff.1 h1).1
          · show RowAt w c0.S (c0.H id) (c0.F id) _ _ _
            rw [hcS, hcH, hcF, h2]
            have := q2.2 id o r h2 h1
            cases o with
            | none =>
              obtain ⟨e1, e2⟩ := this
              exact ⟨e2, .inl ⟨e1, ⟨none, rfl⟩, fun b hb => hb⟩⟩
            | some k => exact (hox.objs k _ this).2.2
        · obtain ⟨k, h1, h2⟩ := hfp0 id x b hx hb
          obtain ⟨e, t, l, h⟩ := hgone k ⟨id, h1⟩
          obtain ⟨p1, p2, _⟩ := hox.fb k _ h rfl b h2
          exact ⟨p1, by rw [hcS]; exact p2, by rw [hc0]; exact fun h => by cases h⟩
        · obtain ⟨k, h1, h2⟩ := hfp0 i x b hx hb
          obtain ⟨k', h1', h2'⟩ := hfp0 j y b hy hb'
          obtain ⟨e, t, l, h⟩ := hgone k ⟨i, h1⟩
          obtain ⟨e', t', l', h'⟩ := hgone k' ⟨j, h1'⟩
          refine hox.dj k k' _ _ h rfl h' rfl (fun e => ?_) b h2 h2'
          subst e
          exact distinct_own b4 i j k hne h1 h1'
        · rw [hc0] at hT; cases hT
      have hsh := instL_shift (c := cM) (c2 := c0) (w := w) (n := 0) (al := true) (fun _ b o hb => by rw [hc0]; exact hb) (fun i => by rw [hc0, Nat.zero_add]) s.as [] g.v 0 b2 rfl
      rw [Nat.zero_add] at hsh
      refine (hs g.v _ h us w c0 hox0 (by omega) (fun i d u hd hu => ?_)).mono ?_
      · have hi : i < ss.length := by rw [← hl]; exact (List.getElem?_eq_some_iff.1 hu).1
        have hrel := q5 i ss[i] d (List.getElem?_eq_getElem hi) hd (hr i _ u (List.getElem?_eq_getElem hi) hu).1
        refine ⟨hsh.2 i d d hd hd hrel, ?_⟩
        refine SV.inU_mono (fun j hj => ?_) _ (inUL_get q3 hd)
        show j < (instL s.as [] g.v 0).2.1.length
        rcases hj with hj | hj
        · omega
        · omega
      · rintro e w' ⟨v, y, c', obR, UR, rfl, hy, oxr, tr, hsr, hR⟩
        obtain ⟨c2, k1, k2, k3, k4⟩ := call_back2 (own := g.own) (rows := (instS s.rs [] y 0).2.1) hox hgone hfp hcS (by rw [hc0]) oxr tr hR
        -- the result under the caller's numbers
        have e1 := instS_rows s.rs [] y (mem2 s.as g.v).nx 0
        obtain ⟨cZ, hcZ⟩ : ∃ cZ : Cx, cZ = ⟨c'.S, fun i => c'.H ((mem2 s.as g.v).nx + i), c'.F, c'.T⟩ := ⟨_, rfl⟩
        have hz : SRel cZ w' (instS s.rs [] y 0).1 v := by
          have := instS_move (c := c') (c2 := cZ) (w := w') (n := 0) (n1 := (mem2 s.as g.v).nx) (al := true) (fun _ b o hb => by rw [hcZ]; exact hb) (fun i => by rw [hcZ, Nat.zero_add]) s.rs [] y 0 b3 rfl (by rw [Nat.add_zero]; exact hsr)
          exact this
        have hsh2 := instS_shift (c := cZ) (c2 := c2) (w := w') (n := m.nx) (al := true) (fun _ b o hb => by rw [k4]; rw [hcZ] at hb; exact hb) (fun i => by rw [k3, hcZ]) s.rs [] y 0 b3 rfl hz
        rw [Nat.add_zero] at hsh2
        refine ⟨v, _, _, c2, rfl, hy, ⟨⟨rowsOb m.nx _ ++ goneL g.own, by show rowsOb _ _ ++ (goneL _ ++ m.ob) = _; rw [List.append_assoc]⟩, fun h => h⟩, k1, k2, hsh2, ?_⟩
        refine SV.inU_mono (fun i hi => ?_) _ (instS_inU (n := 0) s.rs [] y m.nx b3)
        show i < m.nx + _
        rw [instS_rows s.rs [] y m.nx 0] at hi
        exact hi.2
  · exact h.elim
/-! ### walks with such contracts -/
inductive Specs2OK (P : Program) : List Spec2 → Prop
  | nil : Specs2OK P []
  | cons {s : Spec2} {l : List Spec2} (h : Spec2OK P s) (t : Specs2OK P l) : Specs2OK P (s :: l)
def findS2 : List Spec2 → FuncId → Option Spec2
  | [], _ => none
  | s :: r, f => bif Nat.beq s.f f then some s else findS2 r f
theorem findS2_ok : ∀ {l : List Spec2}, Specs2OK P l → ∀ {f : FuncId} {s : Spec2}, findS2 l f = some s → Spec2OK P s ∧ s.f = f
  | [], _, f, s, h => by cases h
  | q :: r, .cons hq ht, f, s, h => by
    unfold findS2 at h
    cases hb : Nat.beq q.f f with
    | false => rw [hb] at h; exact findS2_ok ht h
    | true =>
      rw [hb] at h
      injection h with h
      subst h
      exact ⟨hq, beq_eq hb⟩
def callF2 (P : Program) (C : Ctx) (L2 : List Spec2) (dr : DR) : Nat → Nat → CP
  | 0, _ => fun _ _ _ _ => False
  | n + 1, fk => fun f ss m k => match findS2 L2 f with
    | some s => byCon2 s ss m k
    | none => match findS C.sp f with
      | some s => byCon s ss m k
      | none => inline P (fun id ops d st K => bif d then dr id (fun i => callF2 P C L2 dr n (subK fk id i)) ops st K else aops P C.τ (fun i => callF2 P C L2 dr n (subK fk id i)) ops 0 ops.toList st K) (C.jn fk) f ss m k
theorem callF2_ok {C : Ctx} {L2 : List Spec2} {dr : DR} (hsp : SpecsOK P C.sp) (hsp2 : Specs2OK P L2) (hdr : DrOK P dr) : ∀ (n fk : Nat), CallOK P (callF2 P C L2 dr n fk)
  | 0, fk => fun f ss m k h => h.elim
  | n + 1, fk => by
    intro f ss m k h us w c hox hl hr
    unfold callF2 at h
    split at h
    · rename_i s hs
      obtain ⟨h1, h2⟩ := findS2_ok hsp2 hs
      subst h2
      exact byCon2_ok h1 h hox hl hr
    · split at h
      · rename_i s hs
        obtain ⟨h1, h2⟩ := findS_ok hsp hs
        subst h2
        exact byCon_ok h1 h hox hl hr
      · exact inline_ok (reg_ok hdr fun id i => callF2_ok hsp hsp2 hdr n (subK fk id i)) f ss m k h us w c hox hl hr
def shOf2 (rs : Sh) (n : Nat) : Shape := ⟨[(0, rs)], [], [], List.range n, []⟩
def fitR2 (rs : Sh) (m0 : MS) (r : SV) (m : MS) (post : dens (shT rs []) → Prop) : Prop := match (shOf2 rs m0.nx).fit ⟨[], m0, 1, [], []⟩ ⟨[(0, noC r)], m, 1, [], []⟩ with
  | some y => post y
  | none => False
def walk2 (P : Program) (C : Ctx) (L2 : List Spec2) (dr : DR) (n fk : Nat) (s : Spec2) (x : dens (shTL s.as [])) (post : dens (shT s.rs []) → Prop) : Prop :=
  callF2 P C L2 dr n fk s.f (instL s.as [] x 0).1 (mem2 s.as x) fun r m => fitR2 s.rs (mem2 s.as x) r m post
structure HoldW (p : Prop) : Prop where
  h : p
theorem HoldW.of {W p : Prop} (e : W = p) (h : W) : HoldW p := ⟨by rw [← e]; exact h⟩
theorem Spec2OK.of_walk2 {C : Ctx} {L2 : List Spec2} {dr : DR} (hsp : SpecsOK P C.sp) (hsp2 : Specs2OK P L2) (hdr : DrOK P dr) {n fk : Nat} {s : Spec2} (h : ∀ x post, s.pt x post → HoldW (walk2 P C L2 dr n fk s x post)) : Spec2OK P s := by
  intro x post hp us w c hox hl hr
  refine ((callF2_ok hsp hsp2 hdr n fk) _ _ _ _ (h x post hp).h us w c hox hl hr).mono ?_
  rintro e w' ⟨v, r, m', c', rfl, hq, hfr, hox', htr, hs, hu⟩
  unfold fitR2 at hq
  split at hq
  · rename_i y hy
    have hb0 : RX ⟨[], mem2 s.as x, 1, [], []⟩ { tmps := #[undef], defers := [] } w c := ⟨hox, rfl, fun x u _ => .un u, fun x => trivial, fun x q wt g y hx => by cases hx⟩
    have hst : Step ⟨[], mem2 s.as x, 1, [], []⟩ { tmps := #[undef], defers := [] } w c ⟨[(0, noC r)], m', 1, [], []⟩ { tmps := #[v], defers := [] } w' c' := by
      refine ⟨⟨hox', rfl, fun x u hx => ?_, fun x => ?_, fun x q wt g y hx => ?_⟩, htr, rfl, rfl, ⟨[(0, noC r)], rfl⟩, hfr⟩
      · show SRel c' w' (look [(0, noC r)] x) u
        rw [look_cons]
        split
        · rename_i e
          subst e
          have : v = u := by simpa using hx
          subst this
          exact noC_rel hs
        · exact .un u
      · show (look [(0, noC r)] x).inU _
        rw [look_cons]
        split
        · exact noC_inU hu
        · trivial
      · have hx : look [(0, noC r)] x = .cnd q wt g y := hx
        rw [look_cons] at hx
        split at hx
        · exact absurd hx noC_ne
        · cases hx
    obtain ⟨c2, k⟩ := Shape.fit_ok hy hb0 hst
    have htp : (m'.tp == (mem2 s.as x).tp) = true := by
      unfold Shape.fit at hy
      split at hy
      · generalize hck : (_ && (m'.tp == (mem2 s.as x).tp)) = ck at hy
        cases ck with
        | false => cases hy
        | true => exact (Bool.and_eq_true_iff.1 hck).2
      · cases hy
    refine ⟨v, y, c2, _, _, rfl, hq, k.rx.ox, k.tr, k.rx.sl 0 v rfl, fun j r hr => ?_⟩
    show lookO ([] ++ ([] ++ (rowsOb (mem2 s.as x).nx (instL (shOf2 s.rs (mem2 s.as x).nx).all [] y (mem2 s.as x).nx).2.1 ++ _))) _ = _
    have e1 : (instL (shOf2 s.rs (mem2 s.as x).nx).all [] y (mem2 s.as x).nx).2.1 = (instS s.rs [] y (mem2 s.as x).nx).2.1 := List.append_nil _
    rw [List.nil_append, List.nil_append, e1, lookO_app']
    have e2 := instS_rows s.rs [] y (mem2 s.as x).nx 0
    rw [e2, lookK_rows _ _ j r hr]
    rfl
  · exact hq.elim
theorem SpecOK.of_walkG2 {C : Ctx} {L2 : List Spec2} {dr : DR} (hsp : SpecsOK P C.sp) (hsp2 : Specs2OK P L2) (hdr : DrOK P dr) {n fk : Nat} {s : Spec} (h : ∀ x post, s.pt x post → HoldW (walkG (callF2 P C L2 dr n fk) s.f s.tp (tvs s.ts x) s.rs post)) : SpecOK P s :=
  SpecOK.of_walkG (callF2_ok hsp hsp2 hdr n fk) fun x post hp => (h x post hp).h
end RE
end Go.Proofs.Ytpnmiieohdkenaa
namespace Go.Proofs.Ytpnmiieohdkenaa
open Go.RowKit
set_option linter.unusedVariables false
namespace RE
variable {P : Program}
/-- What the new box in slot d holds. -/
def meetV (d : Nat) (t : Ty) (base st : St) (dst : List Nat) : Option (den t) := match look st.sl d with
  | .bx id off => match st.ms.obs id with
    | some (.box cs) => match dOf cs with
      | some ds => match dec t ds with
        | some v => bif (newsS base st).all (fun p => has dst p.1) && (news base.ms st.ms).all (fun p => Nat.ble base.ms.nx p.1) && base.gs.isEmpty && (st.ms.tp == base.ms.tp) && Nat.ble base.ms.nx id && Nat.beq off 0 then some v else none
        | none => none
      | none => none
    | _ => none
  | _ => none
def meetSt (d : Nat) (t : Ty) (base : St) (dst : List Nat) (v : den t) : St := ⟨(d, .bx base.ms.nx 0) :: (dst.map (fun x => (x, SV.un)) ++ base.sl), ⟨(base.ms.nx, some (.box ((enc t v).map SV.d))) :: base.ms.ob, base.ms.nx + 1, base.ms.tp⟩, base.n, [], []⟩
theorem dS_inU {U : Nat → Prop} : ∀ (l : List D), inUL U (l.map SV.d)
  | [] => trivial
  | _ :: l => ⟨trivial, dS_inU l⟩
theorem meet_ok {d : Nat} {t : Ty} {base st : St} {dst : List Nat} {v : den t} (hf : meetV d t base st dst = some v) {a0 a : Act} {w0 w : World} {c0 c : Cx} (hb : RX base a0 w0 c0) (hs : Step base a0 w0 c0 st a w c) : ∃ c', Step base a0 w0 c0 (meetSt d t base dst v) a w c' := by
  unfold meetV at hf
  split at hf
  rotate_left
  · cases hf
  rename_i id off hlk
  split at hf
  rotate_left
  · cases hf
  rename_i cs hcs
  split at hf
  rotate_left
  · cases hf
  rename_i ds hds
  split at hf
  rotate_left
  · cases hf
  rename_i v' hv
  generalize hck : ((newsS base st).all (fun p => has dst p.1) && (news base.ms st.ms).all (fun p => Nat.ble base.ms.nx p.1) && base.gs.isEmpty && (st.ms.tp == base.ms.tp) && Nat.ble base.ms.nx id && Nat.beq off 0) = ck at hf
  cases ck with
  | false => cases hf
  | true =>
    injection hf with hf
    subst hf
    simp only [Bool.and_eq_true] at hck
    obtain ⟨⟨⟨⟨⟨k1, k2⟩, k3⟩, k4⟩, k5⟩, k6⟩ := hck
    have k3 : base.gs = [] := by simpa using k3
    have k4 : st.ms.tp = base.ms.tp := by simpa using k4
    have k5 : base.ms.nx ≤ id := Nat.le_of_ble_eq_true k5
    have k6 := beq_eq k6
    subst k6
    have hds := dOf_spec hds
    subst hds
    obtain ⟨fr1, ⟨lS, hlS⟩, ⟨lO, hlO⟩, htp⟩ := hs.fr
    have hnS : newsS base st = lS := by
      unfold newsS
      rw [hlS, List.length_append, show lS.length + base.sl.length - base.sl.length = lS.length by omega, List.take_left]
    have hnO : news base.ms st.ms = lO := by
      unfold news
      rw [hlO, List.length_append, show lO.length + base.ms.ob.length - base.ms.ob.length = lO.length by omega, List.take_left]
    rw [hnS] at k1
    rw [hnO] at k2
    let nx := base.ms.nx
    let c2 : Cx := ⟨c.S, fun i => if i = nx then c.H id else c.H i, fun i => if i = nx then c.F id else c.F i, c.T⟩
    have h2o : ∀ i, i < nx → c2.H i = c.H i ∧ c2.F i = c.F i := fun i hi => ⟨if_neg (by omega), if_neg (by omega)⟩
    have h2n : c2.H nx = c.H id ∧ c2.F nx = c.F id := ⟨if_pos rfl, if_pos rfl⟩
    obtain ⟨hidU, hidI, hidA⟩ := hs.rx.ox.objs id _ hcs
    have hold : ∀ x y, base.ms.obs x = some y → x < nx ∧ st.ms.obs x = some y := fun x y hx => by
      have hlt : x < nx := (hb.ox.objs x y hx).1
      refine ⟨hlt, ?_⟩
      show lookO st.ms.ob x = some y
      rw [hlO, lookO_app']
      cases hn : lookK lO x with
      | none => exact hx
      | some z =>
        have := List.all_eq_true.1 k2 (x, z) (lookK_mem hn)
        have := Nat.le_of_ble_eq_true this
        have hlt : x < base.ms.nx := hlt
        have this : base.ms.nx ≤ x := this
        omega
    have hobs : ∀ x y, (meetSt d t base dst v').ms.obs x = some y → (x = nx ∧ y = .box ((enc t v').map SV.d)) ∨ (x < nx ∧ base.ms.obs x = some y ∧ st.ms.obs x = some y) := fun x y hx => by
      have hx : lookO ((base.ms.nx, some (.box ((enc t v').map SV.d))) :: base.ms.ob) x = some y := hx
      rw [lookO_cons] at hx
      by_cases e : x = base.ms.nx
      · subst e
        rw [put_same] at hx
        injection hx with hx
        exact .inl ⟨rfl, hx.symm⟩
      · rw [put_ne _ _ e] at hx
        obtain ⟨q1, q2⟩ := hold x y hx
        exact .inr ⟨q1, hx, q2⟩
    have hUb : ∀ i, base.ms.U i → (meetSt d t base dst v').ms.U i := fun i hi => Nat.lt_succ_of_lt hi
    have old : ∀ {x : SV} {u : Value}, x.inU base.ms.U → SRel c w x u → SRel c2 w x u := fun hu hr =>
      SRel.mono (c := c) (c' := c2) (U := base.ms.U) (fun _ _ h => h) (fun _ _ _ => rfl) (fun _ h => h) (fun i hi => (h2o i hi).1) hr hu
    obtain ⟨dl, drd⟩ := dec_rd hv
    have oxI : OXM (meetSt d t base dst v').ms w c2 := by
      refine ⟨hs.rx.ox.sb, fun x y hx => ?_, fun x y hx hy b hb2 => ?_, fun i j x y hx ox hy oy hne b hb2 hb3 => ?_, hs.rx.ox.nT, fun e => hs.rx.ox.tpe (k4.trans e), fun e => hs.rx.ox.tF (k4.trans e)⟩
      · rcases hobs x y hx with ⟨rfl, rfl⟩ | ⟨q1, q2, q3⟩
        · refine ⟨Nat.lt_succ_self _, dS_inU _, ?_⟩
          obtain ⟨b, arr, tt, e1, e2, e3, e4, e5, e6⟩ := hidA
          refine ⟨b, arr, tt, h2n.1.trans e1, fun x => by rw [h2n.2]; exact e2 x, e3, ?_, e5, fun j s u hjs hju => ?_⟩
          · rw [e4, List.length_map, List.length_map, dl, enc_len]
          · rw [List.getElem?_map, Option.map_eq_some_iff] at hjs
            obtain ⟨q, hq, rfl⟩ := hjs
            have hjl : j < ds.length := by
              have := (List.getElem?_eq_some_iff.1 hju).1
              rw [e4, List.length_map] at this; exact this
            have := e6 j (.d ds[j]) u (by rw [List.getElem?_map, List.getElem?_eq_getElem hjl]; rfl) hju
            exact .d _ _ (drd j q ds[j] hq (List.getElem?_eq_getElem hjl) (S := c.S) (srel_d (c := c) this))
        · obtain ⟨u1, u2, u3⟩ := hs.rx.ox.objs x y q3
          have u4 := (hb.ox.objs x y q2).2.1
          exact ⟨hUb x q1, Ob.inU_mono hUb u4, u3.keep (U := base.ms.U) u4 (fun _ _ h => h) (fun _ _ _ => rfl) (fun _ h => h) (fun i hi => (h2o i hi).1) (h2o x q1) (fun _ _ _ => rfl)⟩
      · rcases hobs x y hx with ⟨rfl, rfl⟩ | ⟨q1, q2, q3⟩
        · rw [h2n.2] at hb2
          exact hs.rx.ox.fb id _ hcs rfl b hb2
        · rw [(h2o x q1).2] at hb2
          exact hs.rx.ox.fb x y q3 hy b hb2
      · rcases hobs i x hx with ⟨rfl, rfl⟩ | ⟨q1, q2, q3⟩
        · rcases hobs j y hy with ⟨rfl, rfl⟩ | ⟨p1, p2, p3⟩
          · exact hne rfl
          · rw [h2n.2] at hb2
            rw [(h2o j p1).2] at hb3
            exact hs.rx.ox.dj id j _ _ hcs rfl p3 oy (by omega) b hb2 hb3
        · rw [(h2o i q1).2] at hb2
          rcases hobs j y hy with ⟨rfl, rfl⟩ | ⟨p1, p2, p3⟩
          · rw [h2n.2] at hb3
            exact hs.rx.ox.dj i id _ _ q3 ox hcs rfl (by omega) b hb2 hb3
          · rw [(h2o j p1).2] at hb3
            exact hs.rx.ox.dj i j _ _ q3 ox p3 oy hne b hb2 hb3
    have hlook : ∀ x, look (meetSt d t base dst v').sl x = if d = x then .bx base.ms.nx 0 else (if has dst x = true then .un else look base.sl x) := fun x => by
      show look ((d, SV.bx base.ms.nx 0) :: (dst.map (fun x => (x, SV.un)) ++ base.sl)) x = _
      rw [look_cons, look_app, lookK_un (fun _ => SV.un)]
      by_cases h1 : d = x
      · rw [if_pos h1, if_pos h1]
      · rw [if_neg h1, if_neg h1]
        by_cases h2 : has dst x = true
        · rw [if_pos h2, if_pos h2]; rfl
        · rw [if_neg h2, if_neg h2]; rfl
    refine ⟨c2, ⟨oxI, hs.rx.sz.trans fr1, fun x u hx => ?_, fun x => ?_, fun x q wt gg y hx => ?_⟩, ?_, hs.df, rfl, ⟨(d, SV.bx base.ms.nx 0) :: dst.map (fun x => (x, SV.un)), rfl⟩, ⟨[(base.ms.nx, some (.box ((enc t v').map SV.d)))], rfl⟩, fun h => h⟩
    · have hu := hs.rx.sl x u hx
      rw [hlook]
      split
      · rename_i e
        subst e
        rw [hlk] at hu
        obtain ⟨b, e1, rfl⟩ := srel_bx hu
        exact .bx _ _ b (h2n.1.trans e1)
      · split
        · exact .un _
        · rename_i hn
          refine old (hb.us x) ?_
          rw [hlS, look_app] at hu
          cases hz : lookK lS x with
          | none => rw [hz] at hu; exact hu
          | some z => exact absurd (List.all_eq_true.1 k1 (x, z) (lookK_mem hz)) hn
    · rw [hlook]
      split
      · exact Nat.lt_succ_self _
      · split
        · trivial
        · exact SV.inU_mono hUb _ (hb.us x)
    · rw [hlook] at hx
      split at hx
      · cases hx
      · split at hx
        · cases hx
        · have := (hb.cn x q wt gg y hx).1
          rw [k3] at this; cases this
    · refine ⟨hs.tr.os, hs.tr.tape, hs.tr.output, hs.tr.sz, hs.tr.tK, hs.tr.tN, hUb, fun i hi => ?_, hs.tr.sS, hs.tr.sN, hs.tr.blk, fun b hb2 => ?_⟩
      · exact ⟨(h2o i hi).1.trans (hs.tr.hH i hi).1, (h2o i hi).2.trans (hs.tr.hH i hi).2⟩
      · obtain ⟨x, y, hx, hy, hb3⟩ := hb2
        rcases hobs x y hx with ⟨rfl, rfl⟩ | ⟨q1, q2, q3⟩
        · rw [h2n.2] at hb3
          exact hs.tr.fp b ⟨id, _, hcs, rfl, hb3⟩
        · rw [(h2o x q1).2] at hb3
          exact hs.tr.fp b ⟨x, y, q3, hy, hb3⟩
def lookM : List (Nat × (Nat × Ty)) → Nat → Option (Nat × Ty)
  | [], _ => none
  | p :: r, x => bif Nat.beq p.1 x then some p.2 else lookM r x
def dstL (ops : Array Oper) : List Nat := ops.toList.filterMap (·.dst)
def drawM (P : Program) (τ : TypeId → Option Ty) (mt : Nat → Option (Nat × Ty)) : DR := fun id cp ops st K => match mt id with
  | none => drawR P τ id cp ops st K
  | some (d, t) => JOIN [t] (lam [t] fun v => K (meetSt d t st (dstL ops) v.1)) fun J => drawR P τ id cp ops st fun st' => match meetV d t st st' (dstL ops) with
    | some v => app [t] J (v, ())
    | none => False
theorem drawM_ok (τ : TypeId → Option Ty) (mt : Nat → Option (Nat × Ty)) : DrOK P (drawM P τ mt) := by
  intro id cp ops st K hcp h
  unfold drawM at h
  split at h
  · exact drawR_ok τ id cp ops st K hcp h
  · rename_i d t _
    obtain ⟨h⟩ := h
    intro a w c hr
    refine wp_mono (drawR_ok τ id cp ops st _ hcp h a w c hr) ?_
    rintro e a' w' ⟨st', c', k1, rfl, hk⟩
    split at hk
    · rename_i v hv
      obtain ⟨c2, k3⟩ := meet_ok hv hr k1
      exact ⟨_, c2, k3, rfl, hk⟩
    · exact hk.elim
end RE
end Go.Proofs.Ytpnmiieohdkenaa
namespace Go.Proofs.Ytpnmiieohdkenaa
open Go.RowKit
set_option linter.unusedVariables false
namespace RE
variable {P : Program}
/-- What the function that makes a tape does. -/
def NewOK (P : Program) (fN : FuncId) : Prop := ∀ (l : List Int) (w : World) (S : Cells) (u : Value), (∀ b o, S b o → b < w.heap.size) → Rd S w (.sl (.int .i64) l) u →
  Calls P fN #[u] w fun e w' => ∃ T, e = .returned (.pointer (some ⟨T, 0, none⟩)) ∧ w.heap.size ≤ T ∧ TapeS w' T S ∧ Below w.heap.size w w'
def intL : D → Option (List Int)
  | .sl t l => castL (.int .i64) t l
  | _ => none
theorem intL_rd : ∀ {x : D} {l : List Int}, intL x = some l → ∀ {S : Cells} {w : World} {u : Value}, Rd S w x u → Rd S w (.sl (.int .i64) l) u
  | .sl t l', l, h, S, w, u, hr => castL_rd (t := .int .i64) (l' := l) h hr
def newC (fN : FuncId) (cp : CP) : CP := fun f ss m k => bif Nat.beq f fN then (match ss with
  | [.d x] => match intL x with
    | some _ => bif m.tp then False else k .tp ⟨m.ob, m.nx, true⟩
    | none => False
  | _ => False) else cp f ss m k
theorem newC_ok {fN : FuncId} (hN : NewOK P fN) {cp : CP} (hcp : CallOK P cp) : CallOK P (newC fN cp) := by
  intro f ss m k h us w c hox hl hr
  unfold newC at h
  cases hb : Nat.beq f fN with
  | false => rw [hb] at h; exact hcp f ss m k h us w c hox hl hr
  | true =>
    rw [hb] at h
    simp only [cond_true] at h
    have hb := beq_eq hb
    subst hb
    split at h
    rotate_left
    · exact h.elim
    rename_i x
    split at h
    rotate_left
    · exact h.elim
    rename_i l hx
    cases htp : m.tp with
    | true => rw [htp] at h; exact h.elim
    | false =>
    rw [htp] at h
    simp only [cond_false] at h
    match us, hl with
    | [u], _ =>
    have hu := srel_d (hr 0 _ u rfl rfl).1
    have hu : Rd c.S w (.sl (.int .i64) l) u := intL_rd hx hu
    have hTn := hox.tF htp
    refine (hN l w c.S u hox.sb hu).mono ?_
    rintro e w' ⟨T, rfl, hT, htS, hB⟩
    let c2 : Cx := ⟨c.S, c.H, c.F, some T⟩
    have hcell : ∀ b o, c.S b o → w'.cell? ⟨b, o, none⟩ = w.cell? ⟨b, o, none⟩ := fun b o hs => World.cell?_of_block (hB.block b (hox.sb b o hs))
    refine ⟨_, .tp, _, c2, rfl, h, ⟨⟨[], rfl⟩, fun _ => rfl⟩, ⟨fun b o hs => Nat.lt_of_lt_of_le (hox.sb b o hs) hB.size, fun id y hy => ?_, fun id y hy ho b hb => ?_, fun i j y z hy oy hz oz hne b hb => hox.dj i j y z hy oy hz oz hne b hb, fun T' hT' => ?_, fun _ => ⟨T, rfl, htS⟩, fun e => (by cases e)⟩, ⟨hB.os, hB.tape, hB.output, hB.size, fun T' hT' => ?_, fun T' hT' => ?_, fun _ h => h, fun _ _ => ⟨rfl, rfl⟩, fun _ _ h => h, fun _ _ h => .inl h, fun b hb _ _ => hB.block b hb, fun _ h => .inl h⟩, .tp T rfl, trivial⟩
    · obtain ⟨u1, u2, u3⟩ := hox.objs id y hy
      exact ⟨u1, u2, u3.keep (U := m.U) u2 (fun _ _ h => h) hcell (fun T' hT' => by rw [hTn] at hT'; cases hT') (fun _ _ => rfl) ⟨rfl, rfl⟩ fun ho b hb => hB.block b (hox.fb id y hy ho b hb).1⟩
    · obtain ⟨u1, u2, u3⟩ := hox.fb id y hy ho b hb
      refine ⟨Nat.lt_of_lt_of_le u1 hB.size, u2, fun e => ?_⟩
      have e : some T = some b := e
      injection e with e
      omega
    · have e : some T = some T' := hT'
      injection e with e
      subst e
      exact ⟨htS.lt, fun k hk => by have := hox.sb T k hk; omega⟩
    · rw [hTn] at hT'; cases hT'
    · have e : some T = some T' := hT'
      injection e with e
      subst e
      exact .inr hT
/-- Calls of a law: the one that makes the tape, the others. -/
def callN (P : Program) (fN : FuncId) (C : Ctx) (L2 : List Spec2) (dr : DR) (n fk : Nat) : CP := fun f ss m k =>
  inline P (fun id ops d st K => bif d then dr id (fun i => newC fN (callF2 P C L2 dr n (subK fk id i))) ops st K else aops P C.τ (fun i => newC fN (callF2 P C L2 dr n (subK fk id i))) ops 0 ops.toList st K) (C.jn fk) f ss m k
theorem callN_ok {fN : FuncId} (hN : NewOK P fN) {C : Ctx} {L2 : List Spec2} {dr : DR} (hsp : SpecsOK P C.sp) (hsp2 : Specs2OK P L2) (hdr : DrOK P dr) (n fk : Nat) : CallOK P (callN P fN C L2 dr n fk) :=
  fun f ss m k h us w c hox hl hr => inline_ok (reg_ok hdr fun id i => newC_ok hN (callF2_ok hsp hsp2 hdr n (subK fk id i))) f ss m k h us w c hox hl hr
/-- What is to be shown of a law. -/
def lawG (cp : CP) (f : FuncId) (ds : List D) (post : Bool → Prop) : Prop := cp f (ds.map SV.d) ⟨[], 0, false⟩ fun r _ => match r with
  | .d (.v (.bool b)) => post b
  | _ => False
theorem lawG_ok {cp : CP} (hcp : CallOK P cp) {f : FuncId} {ds : List D} {post : Bool → Prop} (h : lawG cp f ds post) {w : World} {S : Cells} {us : List Value} (h1 : ∀ b o, S b o → b < w.heap.size) (h3 : us.length = ds.length)
    (h4 : ∀ (i : Nat) (d : D) (u : Value), ds[i]? = some d → us[i]? = some u → Rd S w d u) :
    Calls P f us.toArray w fun e w' => (∃ b, e = .returned (.bool b) ∧ post b) ∧ Below w.heap.size w w' := by
  have hox := ox_base (tp := false) (T := none) h1 rfl
  refine (hcp f _ _ _ h us w (cx0 S none) hox (by simp [h3]) fun i s u hs hu => ?_).mono ?_
  · rw [List.getElem?_map, Option.map_eq_some_iff] at hs
    obtain ⟨d, hd, rfl⟩ := hs
    exact ⟨.d _ _ (h4 i d u hd hu), trivial⟩
  · rintro e w' ⟨v, r, m', c', rfl, hq, hfr, hox', htr, hs, hu⟩
    have hB : Below w.heap.size w w' := ⟨htr.os, htr.tape, htr.output, htr.sz, fun b hb => htr.blk b hb (fun ⟨id, x, hx, _⟩ => by cases hx) (fun e => by cases e)⟩
    refine ⟨?_, hB⟩
    split at hq
    · rename_i b
      exact ⟨b, by rw [srel_v hs], hq⟩
    · exact hq.elim
end RE
end Go.Proofs.Ytpnmiieohdkenaa
namespace Go.Proofs.Ytpnmiieohdkenaa
open Go.RowKit
set_option linter.unusedVariables false
namespace RE
variable {P : Program}
def allS (w : World) : Cells := fun b _ => b < w.heap.size
/-- Numbers that fit their kinds. -/
inductive OkD : D → Prop
  | int (k : IntKind) (z : Int) (h : (Lit.int k z).wf = true) : OkD (.v (.int k z))
  | bool (b : Bool) : OkD (.v (.bool b))
  | sl (t : Ty) (l : List (den t)) (h : ∀ x ∈ l, ∀ c ∈ enc t x, OkD c) : OkD (.sl t l)
/-- From a place on, cells read as data. -/
def CellsAt (w : World) (ds : List D) (cs : List Value) (off : Nat) : Prop := ∀ (i : Nat) (c : D), ds[i]? = some c → ∃ u, cs[off + i]? = some u ∧ u.oneCell' = true ∧ Rd (allS w) w c u
theorem CellsAt.nil {w : World} {cs : List Value} {off : Nat} : CellsAt w [] cs off := fun i c h => by simp at h
theorem CellsAt.append {w : World} {ds es : List D} {cs : List Value} {off : Nat} (h : CellsAt w ds cs off) (k : CellsAt w es cs (off + ds.length)) : CellsAt w (ds ++ es) cs off := fun i c hi => by
  by_cases hl : i < ds.length
  · rw [List.getElem?_append_left hl] at hi; exact h i c hi
  · rw [List.getElem?_append_right (by omega)] at hi
    obtain ⟨u, h1, h2⟩ := k _ c hi
    exact ⟨u, by rw [show off + ds.length + (i - ds.length) = off + i by omega] at h1; exact h1, h2⟩
theorem CellsAt.part {w : World} {ds : List D} {cs : List Value} {off n : Nat} (h : CellsAt w ds ((cs.drop off).take n) 0) : CellsAt w ds cs off := fun i c hi => by
  obtain ⟨u, h1, h2⟩ := h i c hi
  rw [Nat.zero_add, List.getElem?_take] at h1
  split at h1
  · rw [List.getElem?_drop] at h1; exact ⟨u, h1, h2⟩
  · cases h1
/-- A type's data, as typed data. -/
def Opn (P : Program) (t : TypeId) (ts : List Ty) : Prop :=
  ∀ {H : Type} (enc : TypeId × Value → H) (w : World) (base : Nat) (spare : Nat → Bool) (held : Bool) (fuel : Nat) (cs : List Value) (x : DataW H × List MemPlace), DataW.trod enc P w base spare held fuel t cs = some x → ∃ y : dens ts, (∀ c ∈ encs ts y, OkD c) ∧ cs.length = ts.length ∧ CellsAt w (encs ts y) cs 0
theorem Opn.int {t : TypeId} {k : IntKind} (ht : P.underlying t = some (.int k)) : Opn P t [.int k] := by
  intro H enc w base spare held fuel cs x h
  obtain ⟨n, rfl, _, hw⟩ := DataW.trod_int ht h
  refine ⟨(n, ()), fun c hc => ?_, rfl, fun i c hi => ?_⟩
  · rw [List.mem_singleton.1 (show c ∈ [D.v (.int k n)] from hc)]; exact .int k n hw
  · have hi : [D.v (.int k n)][i]? = some c := hi
    cases i with
    | zero => simp at hi; subst hi; exact ⟨_, rfl, rfl, .v _⟩
    | succ i => simp at hi
theorem Opn.bool {t : TypeId} (ht : P.underlying t = some .bool) : Opn P t [.bool] := by
  intro H enc w base spare held fuel cs x h
  obtain ⟨n, rfl, _⟩ := DataW.trod_bool ht h
  refine ⟨(n, ()), fun c hc => ?_, rfl, fun i c hi => ?_⟩
  · rw [List.mem_singleton.1 (show c ∈ [D.v (.bool n)] from hc)]; exact .bool n
  · have hi : [D.v (.bool n)][i]? = some c := hi
    cases i with
    | zero => simp at hi; subst hi; exact ⟨_, rfl, rfl, .v _⟩
    | succ i => simp at hi
theorem cells_len {w : World} {base : Nat} {a : Addr} {n : Nat} {cs : List Value} (h : w.cells? base a n = some cs) : cs.length = n ∧ ∀ j, j < n → w.cell? (a.add j) = cs[j]? := by
  unfold World.cells? at h
  split at h
  · have h1 := mapM_some_length h
    refine ⟨by simpa using h1, fun j hj => ?_⟩
    have := mapM_some_get h j j (by simp [hj])
    exact this
  · cases h
theorem add_add (a : Addr) (i j : Nat) : (a.add i).add j = a.add (i + j) := by
  unfold Addr.add
  by_cases hi : i = 0
  · subst hi; simp
  · by_cases hj : j = 0
    · subst hj; simp
    · rw [if_neg hi, if_neg hj, if_neg (by omega), Nat.add_assoc]
theorem addr_none {w : World} {a : Addr} {u : Value} (h : w.cell? (a.add 0) = some u) : ∃ b o, a = ⟨b, o, none⟩ := by
  obtain ⟨b, o, s⟩ := a
  unfold Addr.add World.cell? at h
  rw [if_pos rfl] at h
  cases s with
  | none => exact ⟨b, o, rfl⟩
  | some k =>
    simp only [Option.isSome_some, if_true] at h
    split at h <;> cases h
theorem exists_list {T : Type} {Q : Nat → T → Prop} : ∀ {n : Nat}, (∀ i, i < n → ∃ y, Q i y) → ∃ l : List T, l.length = n ∧ ∀ i y, l[i]? = some y → Q i y
  | 0, _ => ⟨[], rfl, fun i y h => by simp at h⟩
  | n + 1, h => by
    obtain ⟨l, h1, h2⟩ := exists_list (n := n) fun i hi => h i (by omega)
    obtain ⟨y, hy⟩ := h n (by omega)
    refine ⟨l ++ [y], by simp [h1], fun i z hz => ?_⟩
    by_cases hi : i < n
    · rw [List.getElem?_append_left (by omega)] at hz; exact h2 i z hz
    · rw [List.getElem?_append_right (by omega)] at hz
      have : i = n := by have := (List.getElem?_eq_some_iff.1 hz).1; simp at this; omega
      subst this
      simp [h1] at hz
      subst hz; exact hy
def tyFlat : Ty → List Ty
  | .st s => flds s
  | t => [t]
theorem flat_den : ∀ (ty : Ty) (y : dens (tyFlat ty)), ∃ x : den ty, enc ty x = encs (tyFlat ty) y
  | .st s, y => ⟨RE.mk s y, congrArg (encs (flds s)) (un_mk s y)⟩
  | .int _, y => ⟨y.1, rfl⟩
  | .bool, y => ⟨y.1, rfl⟩
  | .str, y => ⟨y.1, rfl⟩
  | .sl _, y => ⟨y.1, rfl⟩
theorem flat_size : ∀ ty : Ty, size ty = (tyFlat ty).length
  | .st s => rfl
  | .int _ => rfl
  | .bool => rfl
  | .str => rfl
  | .sl _ => rfl
theorem Opn.slice {t e : TypeId} {ty : Ty} (ht : P.underlying t = some (.slice e)) (he : Opn P e (tyFlat ty)) (hz : P.cellsOf e = (tyFlat ty).length) (h0 : 0 < (tyFlat ty).length) : Opn P t [.sl ty] := by
  intro H enc w base spare held fuel cs x h
  rw [← flat_size] at hz h0
  rcases DataW.trod_slice ht h with ⟨rfl, _⟩ | ⟨a, len, cap, elems, rest, n, _, rfl, _, hb, hlc, hm, hlen, hel, _, _⟩
  · refine ⟨([], ()), fun c hc => ?_, rfl, fun i c hi => ?_⟩
    · rw [List.mem_singleton.1 (show c ∈ [D.sl ty []] from hc)]; exact .sl ty [] (fun x hx => by cases hx)
    · have hi : [D.sl ty []][i]? = some c := hi
      cases i with
      | zero =>
        simp at hi; subst hi
        exact ⟨_, rfl, rfl, Rd.nil _ _ _ (Nat.zero_le _)⟩
      | succ i => simp at hi
  · have each : ∀ i, i < len → ∃ y : den ty, (∀ c ∈ RE.enc ty y, OkD c) ∧ ∀ j c, (RE.enc ty y)[j]? = some c → ∃ u, w.cell? (a.add (i * size ty + j)) = some u ∧ u.oneCell' = true ∧ Rd (allS w) w c u := fun i hi => by
      have h1 := hel i hi
      rw [List.getElem?_eq_getElem (by omega), Option.bind_eq_some_iff] at h1
      obtain ⟨cs, h2, h3⟩ := h1
      obtain ⟨q1, q2⟩ := cells_len h2
      obtain ⟨y, y1, y2, y3⟩ := he enc w base spare held n cs _ h3
      obtain ⟨x, hx⟩ := flat_den ty y
      refine ⟨x, by rw [hx]; exact y1, fun j c hj => ?_⟩
      have hjl : j < size ty := by have := (List.getElem?_eq_some_iff.1 hj).1; rw [enc_len] at this; exact this
      rw [hx] at hj
      obtain ⟨u, u1, u2⟩ := y3 j c hj
      rw [Nat.zero_add] at u1
      have q := q2 j (by rw [hz]; exact hjl)
      rw [hz] at q
      refine ⟨u, ?_, u2⟩
      rw [← u1, ← q]
      rw [add_add]
    obtain ⟨l, l1, l2⟩ := exists_list each
    have hone : ∀ (i : Nat) (y : den ty) (j : Nat), l[i]? = some y → j < size ty → ∃ u, w.cell? (a.add (i * size ty + j)) = some u ∧ u.oneCell' = true ∧ ∀ c, (RE.enc ty y)[j]? = some c → Rd (allS w) w c u := fun i y j hi hj => by
      obtain ⟨_, h2⟩ := l2 i y hi
      obtain ⟨u, u1, u2, u3⟩ := h2 j _ (List.getElem?_eq_getElem (by rw [enc_len]; exact hj))
      refine ⟨u, u1, u2, fun c hc => ?_⟩
      rw [List.getElem?_eq_getElem (by rw [enc_len]; exact hj)] at hc
      injection hc with hc
      rw [← hc]; exact u3
    have ha : l = [] ∨ ∃ b o, a = ⟨b, o, none⟩ := by
      cases l with
      | nil => exact .inl rfl
      | cons y r =>
        right
        obtain ⟨u, hu, _⟩ := hone 0 y 0 rfl h0
        rw [Nat.zero_mul] at hu
        exact addr_none hu
    refine ⟨(l, ()), fun c hc => ?_, rfl, fun i c hi => ?_⟩
    · rw [List.mem_singleton.1 (show c ∈ [D.sl ty l] from hc)]
      refine .sl ty l fun y hy => ?_
      obtain ⟨i, hi, rfl⟩ := List.getElem_of_mem hy
      exact (l2 i _ (List.getElem?_eq_getElem hi)).1
    · have hi : [D.sl ty l][i]? = some c := hi
      cases i with
      | succ i => simp at hi
      | zero =>
        simp at hi; subst hi
        refine ⟨_, rfl, rfl, ?_⟩
        subst l1
        rcases ha with rfl | ⟨b, o, rfl⟩
        · exact Rd.nil _ _ _ hm
        · let f : Nat → Nat → Value := fun i j => (w.cell? ⟨b, o + i * size ty + j, none⟩).getD undef
          have hf : ∀ (i : Nat) (y : den ty) (j : Nat), l[i]? = some y → j < size ty → w.cell? ⟨b, o + i * size ty + j, none⟩ = some (f i j) ∧ (f i j).oneCell' = true ∧ ∀ c, (RE.enc ty y)[j]? = some c → Rd (allS w) w c (f i j) := fun i y j hi hj => by
            obtain ⟨u, u1, u2, u3⟩ := hone i y j hi hj
            rw [addr_add, ← Nat.add_assoc] at u1
            have : f i j = u := by simp only [f, u1]; rfl
            rw [this]; exact ⟨u1, u2, u3⟩
          exact Rd.sl (S := allS w) (w := w) ty l (some ⟨b, o, none⟩) cap b o f (by omega) hm (.inr rfl) (fun i hi j hj => by
            obtain ⟨q1, q2, _⟩ := hf i l[i] j (List.getElem?_eq_getElem hi) hj
            exact ⟨World.block_lt_of_cell? w _ q1, q1, q2⟩) (fun i y j c hi hj => by
            exact (hf i y j hi (by have := (List.getElem?_eq_some_iff.1 hj).1; rw [enc_len] at this; exact this)).2.2 c hj)
def dapp : (ts : List Ty) → {us : List Ty} → dens ts → dens us → dens (ts ++ us)
  | [], _, _, y => y
  | _ :: ts, _, x, y => (x.1, dapp ts x.2 y)
theorem encs_dapp : ∀ (ts : List Ty) {us : List Ty} (x : dens ts) (y : dens us), encs (ts ++ us) (dapp ts x y) = encs ts x ++ encs us y
  | [], _, _, _ => rfl
  | t :: ts, us, x, y => by
    show encA t x.1 :: encs (ts ++ us) (dapp ts x.2 y) = _
    rw [encs_dapp ts]; rfl
def tysEq : List Ty → List Ty → Bool
  | [], [] => true
  | a :: r, b :: s => a.beq b && tysEq r s
  | _, _ => false
theorem tysEq_eq : ∀ {a b : List Ty}, tysEq a b = true → a = b
  | [], [], _ => rfl
  | x :: r, y :: s, h => by
    obtain ⟨h1, h2⟩ := Bool.and_eq_true_iff.1 h
    rw [Ty.beq_eq h1, tysEq_eq h2]
  | [], _ :: _, h => by cases h
  | _ :: _, [], h => by cases h
def opnF (P : Program) (rec : TypeId → Option (List Ty)) : List Field → Nat → Option (List Ty)
  | [], _ => some []
  | f :: r, off => match rec f.type with
    | some ts => bif Nat.beq f.offset off && Nat.beq (P.cellsOf f.type) ts.length then (match opnF P rec r (off + ts.length) with
      | some tr => some (ts ++ tr)
      | none => none) else none
    | none => none
/-- The data of a type, by the program's types. -/
def opnC (P : Program) (τ : TypeId → Option Ty) : Nat → TypeId → Option (List Ty)
  | 0, _ => none
  | n + 1, t => match P.underlying t with
    | some (.int k) => some [.int k]
    | some .bool => some [.bool]
    | some (.slice e) => match opnC P τ n e, τ e with
      | some ts, some ty => bif tysEq ts (tyFlat ty) && Nat.beq (P.cellsOf e) ts.length && Nat.ble 1 ts.length then some [.sl ty] else none
      | _, _ => none
    | some (.struct fs) => match opnF P (opnC P τ n) fs.toList 0 with
      | some ts => bif Nat.beq (P.cellsOf t) ts.length then some ts else none
      | none => none
    | _ => none
theorem opnF_ok {rec : TypeId → Option (List Ty)} (hrec : ∀ t ts, rec t = some ts → Opn P t ts) {H : Type} {enc : TypeId × Value → H} {w : World} {base : Nat} {spare : Nat → Bool} {held : Bool} {n : Nat} {cs : List Value} :
    ∀ {fl : List Field} {off : Nat} {ts : List Ty}, opnF P rec fl off = some ts → (∀ f ∈ fl, ∃ x, DataW.trod enc P w base spare held n f.type ((cs.drop f.offset).take (P.cellsOf f.type)) = some x) → ∃ y : dens ts, (∀ c ∈ encs ts y, OkD c) ∧ CellsAt w (encs ts y) cs off
  | [], off, ts, h, _ => by
    injection h with h
    subst h
    exact ⟨(), (fun c hc => by cases hc), CellsAt.nil⟩
  | f :: r, off, ts, h, hx => by
    unfold opnF at h
    split at h
    · rename_i t1 h1
      cases hb : (Nat.beq f.offset off && Nat.beq (P.cellsOf f.type) t1.length) with
      | false => rw [hb] at h; cases h
      | true =>
        rw [hb] at h
        simp only [cond_true] at h
        split at h
        · rename_i tr h2
          injection h with h
          subst h
          obtain ⟨b1, b2⟩ := Bool.and_eq_true_iff.1 hb
          have b1 := beq_eq b1
          subst b1
          obtain ⟨x, hx1⟩ := hx f (by simp)
          obtain ⟨y1, y2, y3, y4⟩ := hrec _ _ h1 enc w base spare held n _ _ hx1
          obtain ⟨z1, z2, z3⟩ := opnF_ok hrec h2 (fun g hg => hx g (by simp [hg]))
          refine ⟨dapp t1 y1 z1, fun c hc => ?_, ?_⟩
          · rw [encs_dapp] at hc
            rcases List.mem_append.1 hc with hc | hc
            · exact y2 c hc
            · exact z2 c hc
          · rw [encs_dapp]
            exact CellsAt.append (CellsAt.part y4) (by rw [encs_len]; exact z3)
        · cases h
    · cases h
theorem opnC_ok {τ : TypeId → Option Ty} : ∀ {n : Nat} {t : TypeId} {ts : List Ty}, opnC P τ n t = some ts → Opn P t ts
  | 0, t, ts, h => by cases h
  | n + 1, t, ts, h => by
    unfold opnC at h
    split at h
    · rename_i k hk
      injection h with h; subst h
      exact Opn.int hk
    · rename_i hk
      injection h with h; subst h
      exact Opn.bool hk
    · rename_i e hk
      split at h
      · rename_i us ty h1 h2
        cases hb : (tysEq us (tyFlat ty) && Nat.beq (P.cellsOf e) us.length && Nat.ble 1 us.length) with
        | false => rw [hb] at h; cases h
        | true =>
          rw [hb] at h
          simp only [cond_true, Option.some.injEq] at h
          subst h
          simp only [Bool.and_eq_true] at hb
          obtain ⟨⟨b1, b2⟩, b3⟩ := hb
          have b1 := tysEq_eq b1
          subst b1
          exact Opn.slice hk (opnC_ok h1) (beq_eq b2) (Nat.le_of_ble_eq_true b3)
      · cases h
    · rename_i fs hk
      split at h
      · rename_i us h1
        cases hb : Nat.beq (P.cellsOf t) us.length with
        | false => rw [hb] at h; cases h
        | true =>
          rw [hb] at h
          simp only [cond_true, Option.some.injEq] at h
          subst h
          intro enc w base spare held fuel cs x hx
          obtain ⟨xs, m, rfl, _, hl, hxs, hf⟩ := DataW.trod_struct hk hx
          obtain ⟨y, y1, y2⟩ := opnF_ok (fun t ts h => opnC_ok (n := n) h) (cs := cs) (enc := enc) (w := w) (base := base) (spare := spare) (held := held) (n := m) h1 (fun f hf' => by
            obtain ⟨i, hi, rfl⟩ := List.getElem_of_mem hf'
            have hi' : i < fs.size := by simpa using hi
            have := hf i fs[i] (Array.getElem?_eq_getElem hi')
            refine ⟨xs[i]'(by omega), ?_⟩
            rw [← List.getElem?_eq_getElem (by omega : i < xs.length), ← this]
            simp)
          exact ⟨y, y1, by rw [hl]; exact beq_eq hb, y2⟩
      · cases h
    · cases h
def RdL (S : Cells) (w : World) : List D → List Value → Prop
  | [], [] => True
  | d :: ds, u :: us => Rd S w d u ∧ RdL S w ds us
  | _, _ => False
theorem RdL.get {S : Cells} {w : World} : ∀ {ds : List D} {us : List Value}, RdL S w ds us → ∀ (i : Nat) (d : D) (u : Value), ds[i]? = some d → us[i]? = some u → Rd S w d u
  | [], [], _, i, d, u, hd, _ => by simp at hd
  | d :: ds, u :: us, h, i, d', u', hd, hu => by
    cases i with
    | zero => simp at hd hu; subst hd hu; exact h.1
    | succ i => exact RdL.get h.2 i d' u' (by simpa using hd) (by simpa using hu)
  | [], _ :: _, h, _, _, _, _, _ => h.elim
  | _ :: _, [], h, _, _, _, _, _ => h.elim
/-- An argument that is no struct. -/
theorem rd_one {t : TypeId} {ty : Ty} (ho : Opn P t [ty]) {H : Type} {enc : TypeId × Value → H} {w : World} {base : Nat} {spare : Nat → Bool} {held : Bool} {v : Value} (hv : v.cells.toList = [v]) {d : DataW H} {ps : List MemPlace} (h : DataW.Trod enc P w base spare held t v d ps) :
    ∃ x : den ty, OkD (encA ty x) ∧ Rd (allS w) w (encA ty x) v := by
  obtain ⟨fuel, h⟩ := h
  obtain ⟨l, h1, _, h3⟩ := ho enc w base spare held fuel _ _ h
  obtain ⟨u, u1, _, u3⟩ := h3 0 _ rfl
  have : u = v := by rw [hv] at u1; simpa using u1.symm
  subst this
  exact ⟨l.1, h1 _ (List.mem_singleton.2 rfl), u3⟩
theorem rd_st {t : TypeId} {s : Sn} (ho : Opn P t (flds s)) {H : Type} {enc : TypeId × Value → H} {w : World} {base : Nat} {spare : Nat → Bool} {held : Bool} {cs : Array Value} {d : DataW H} {ps : List MemPlace} (h : DataW.Trod enc P w base spare held t (.agg cs) d ps) :
    ∃ x : den (.st s), (∀ c ∈ RE.enc (.st s) x, OkD c) ∧ Rd (allS w) w (tv (.st s) x) (.agg cs) := by
  obtain ⟨fuel, h⟩ := h
  obtain ⟨y, h1, h2, h3⟩ := ho enc w base spare held fuel _ _ h
  have hcs : (Value.agg cs).cells.toList = cs.toList := rfl
  rw [hcs] at h2 h3
  have he : encs (flds s) (RE.un s (RE.mk s y)) = encs (flds s) y := by rw [un_mk]
  refine ⟨RE.mk s y, by show ∀ c ∈ encs (flds s) (RE.un s (RE.mk s y)), OkD c; rw [he]; exact h1, ?_⟩
  show Rd (allS w) w (.agg (encs (flds s) (RE.un s (RE.mk s y)))) (.agg cs)
  rw [he]
  have key : ∀ i u, cs.toList[i]? = some u → u.oneCell' = true ∧ ∀ c, (encs (flds s) y)[i]? = some c → Rd (allS w) w c u := fun i u hu => by
    have hi : i < (encs (flds s) y).length := by have := (List.getElem?_eq_some_iff.1 hu).1; rw [encs_len]; omega
    obtain ⟨u', q1, q2, q3⟩ := h3 i _ (List.getElem?_eq_getElem hi)
    rw [Nat.zero_add, hu] at q1
    injection q1 with q1
    subst q1
    refine ⟨q2, fun c hc => ?_⟩
    rw [List.getElem?_eq_getElem hi] at hc
    injection hc with hc
    rw [← hc]; exact q3
  have := Rd.agg (S := allS w) (w := w) (encs (flds s) y) cs.toList (by rw [encs_len]; exact h2) (fun u hu => by
    obtain ⟨i, hi, rfl⟩ := List.getElem_of_mem hu
    exact (key i _ (List.getElem?_eq_getElem hi)).1) (fun i c u hc hu => (key i u hu).2 c hc)
  simpa using this
end RE
end Go.Proofs.Ytpnmiieohdkenaa
namespace Go.Proofs.Ytpnmiieohdkenaa
open Go.RowKit
set_option linter.unusedVariables false
namespace RE
variable {P : Program}
/-- How calls of a function are carried out. -/
structure Rule where
  f : FuncId
  cp : List SV → MS → (SV → MS → Prop) → Prop
def RuleOK (P : Program) (r : Rule) : Prop := ∀ ss m k, r.cp ss m k → ∀ (us : List Value) w c, OXM m w c → us.length = ss.length → (∀ (i : Nat) (s : SV) (u : Value), ss[i]? = some s → us[i]? = some u → SRel c w s u ∧ s.inU m.U) →
  Calls P r.f us.toArray w fun e w' => ∃ v s m' c', e = .returned v ∧ k s m' ∧ FrM m m' ∧ OXM m' w' c' ∧ TrM m w c m' w' c' ∧ SRel c' w' s v ∧ s.inU m'.U
inductive RulesOK (P : Program) : List Rule → Prop
  | nil : RulesOK P []
  | cons {r : Rule} {l : List Rule} (h : RuleOK P r) (t : RulesOK P l) : RulesOK P (r :: l)
def findR : List Rule → FuncId → Option Rule
  | [], _ => none
  | r :: l, f => bif Nat.beq r.f f then some r else findR l f
theorem findR_ok : ∀ {l : List Rule}, RulesOK P l → ∀ {f : FuncId} {r : Rule}, findR l f = some r → RuleOK P r ∧ r.f = f
  | [], _, f, r, h => by cases h
  | q :: l, .cons hq ht, f, r, h => by
    unfold findR at h
    cases hb : Nat.beq q.f f with
    | false => rw [hb] at h; exact findR_ok ht h
    | true =>
      rw [hb] at h
      injection h with h
      subst h
      exact ⟨hq, beq_eq hb⟩
def rule1 (s : Spec) : Rule := ⟨s.f, byCon s⟩
theorem rule1_ok {s : Spec} (h : SpecOK P s) : RuleOK P (rule1 s) := fun ss m k hk us w c hox hl hr => byCon_ok h hk hox hl hr
def rule2 (s : Spec2) : Rule := ⟨s.f, byCon2 s⟩
theorem rule2_ok {s : Spec2} (h : Spec2OK P s) : RuleOK P (rule2 s) := fun ss m k hk us w c hox hl hr => byCon2_ok h hk hox hl hr
def ruleN (fN : FuncId) : Rule := ⟨fN, fun ss m k => newC fN (fun _ _ _ _ => False) fN ss m k⟩
theorem ruleN_ok {fN : FuncId} (h : NewOK P fN) : RuleOK P (ruleN fN) := fun ss m k hk us w c hox hl hr =>
  newC_ok h (cp := fun _ _ _ _ => False) (fun _ _ _ _ h => h.elim) fN ss m k hk us w c hox hl hr
/-! ### rows changed in place -/
/-- A contract: a function that changes its caller's row in place, by a closure that holds nothing. -/
structure Spec3 where
  f : FuncId
  t : Ty
  cl : Option FuncId
  pt : List (den t) → (List (den t) → Prop) → Prop
def clV : Option FuncId → List Value
  | none => []
  | some g => [.func (.func g) #[] #[]]
def Spec3OK (P : Program) (s : Spec3) : Prop := ∀ l post, s.pt l post → ∀ w (S : Cells) (v : Value) (F : Nat → Prop) (e : TypeId), RowAt w S v F e s.t l → (∀ b o, S b o → b < w.heap.size) → (∀ b, F b → b < w.heap.size ∧ ∀ k, ¬ S b k) →
  Calls P s.f (v :: clV s.cl).toArray w fun e' w' => ∃ r l', e' = .returned r ∧ post l' ∧ RowAt w' S v F e s.t l' ∧ w'.os = w.os ∧ w'.tape = w.tape ∧ w'.output = w.output ∧ w.heap.size ≤ w'.heap.size ∧ ∀ b, b < w.heap.size → ¬ F b → w'.heap[b]? = w.heap[b]?
def isCl (g : FuncId) : SV → Bool
  | .d (.v (.func (.func f) a b)) => Nat.beq f g && Nat.beq a.size 0 && Nat.beq b.size 0
  | _ => false
def clOK : Option FuncId → List SV → Bool
  | none, [] => true
  | some g, [x] => isCl g x
  | _, _ => false
theorem isCl_rel {g : FuncId} {x : SV} (h : isCl g x = true) {c : Cx} {w : World} {u : Value} (hr : SRel c w x u) : u = .func (.func g) #[] #[] := by
  unfold isCl at h
  split at h
  · rename_i f a b
    simp only [Bool.and_eq_true] at h
    obtain ⟨⟨h1, h2⟩, h3⟩ := h
    rw [srel_v hr, beq_eq h1]
    have h2 : a.size = 0 := beq_eq h2
    have h3 : b.size = 0 := beq_eq h3
    rw [Array.eq_empty_of_size_eq_zero h2, Array.eq_empty_of_size_eq_zero h3]
  · cases h
theorem clOK_rel {cl : Option FuncId} {r : List SV} (h : clOK cl r = true) {c : Cx} {w : World} {us : List Value} (hl : us.length = r.length) (hr : ∀ (i : Nat) (s : SV) (u : Value), r[i]? = some s → us[i]? = some u → SRel c w s u) : us = clV cl := by
  unfold clOK at h
  split at h
  · match us, hl with
    | [], _ => rfl
  · rename_i g x
    match us, hl with
    | [u], _ =>
      rw [isCl_rel h (hr 0 x u rfl rfl)]; rfl
  · cases h
def byCon3 (s : Spec3) (ss : List SV) (m : MS) (k : SV → MS → Prop) : Prop := match ss with
  | .os id :: r => match m.obs id with
    | some (.row e t l) => match castL s.t t l with
      | some l1 => bif clOK s.cl r then s.pt l1 fun l' => k .un ⟨(id, some (.row e s.t l')) :: m.ob, m.nx, m.tp⟩ else False
      | none => False
    | _ => False
  | _ => False
theorem byCon3_ok {s : Spec3} (hs : Spec3OK P s) {ss : List SV} {m : MS} {k : SV → MS → Prop} (h : byCon3 s ss m k) {us : List Value} {w : World} {c : Cx} (hox : OXM m w c) (hl : us.length = ss.length) (hr : ∀ (i : Nat) (x : SV) (u : Value), ss[i]? = some x → us[i]? = some u → SRel c w x u ∧ x.inU m.U) :
    Calls P s.f us.toArray w fun e w' => ∃ v r m' c', e = .returned v ∧ k r m' ∧ FrM m m' ∧ OXM m' w' c' ∧ TrM m w c m' w' c' ∧ SRel c' w' r v ∧ r.inU m'.U := by
  unfold byCon3 at h
  split at h
  rotate_left
  · exact h.elim
  rename_i id r
  split at h
  rotate_left
  · exact h.elim
  rename_i e t l hob
  split at h
  rotate_left
  · exact h.elim
  rename_i l1 hc
  obtain ⟨e1, e2⟩ := castL_eq hc
  subst e1
  have e2 := eq_of_heq e2
  subst e2
  cases hb : clOK s.cl r with
  | false => rw [hb] at h; exact h.elim
  | true =>
  rw [hb] at h
  simp only [cond_true] at h
  match us, hl with
  | u :: us', hl =>
  have hu := srel_os (hr 0 (.os id) u rfl rfl).1
  have hus : us' = clV s.cl := clOK_rel hb (by simpa using hl) fun i x v hx hv => (hr (i + 1) x v (by simpa using hx) (by simpa using hv)).1
  subst hu hus
  obtain ⟨hidU, _, hrow⟩ := hox.objs id _ hob
  have hfb := hox.fb id _ hob rfl
  refine (hs _ _ h w c.S (c.H id) (c.F id) e hrow hox.sb fun b hb => ⟨(hfb b hb).1, (hfb b hb).2.1⟩).mono ?_
  rintro e' w' ⟨rv, l', rfl, hp, hrow', g1, g2, g3, g4, g5⟩
  have hcell : ∀ b o, c.S b o → w'.cell? ⟨b, o, none⟩ = w.cell? ⟨b, o, none⟩ := fun b o hS => World.cell?_of_block (g5 b (hox.sb b o hS) fun hF => (hfb b hF).2.1 o hS)
  have hobs : ∀ x y, (MS.obs ⟨(id, some (.row e s.t l')) :: m.ob, m.nx, m.tp⟩) x = some y → (x = id ∧ y = .row e s.t l') ∨ (x ≠ id ∧ m.obs x = some y) := fun x y hx => by
    have hx : lookO ((id, some (.row e s.t l')) :: m.ob) x = some y := hx
    rw [lookO_cons] at hx
    by_cases e : x = id
    · subst e
      rw [put_same] at hx
      injection hx with hx
      exact .inl ⟨rfl, hx.symm⟩
    · rw [put_ne _ _ e] at hx
      exact .inr ⟨e, hx⟩
  refine ⟨_, .un, _, c, rfl, hp, ⟨⟨[(id, some (.row e s.t l'))], rfl⟩, fun h => h⟩, ⟨fun b o hb => Nat.lt_of_lt_of_le (hox.sb b o hb) g4, fun x y hx => ?_, fun x y hx ho b hb => ?_, fun i j x y hx ox hy oy hne b hb hb' => ?_, fun T hT => ?_, fun e => ?_, hox.tF⟩, ⟨g1, g2, g3, g4, fun _ h => h, fun _ h => .inl h, fun _ h => h, fun _ _ => ⟨rfl, rfl⟩, fun _ _ h => h, fun _ _ h => .inl h, fun b hb hf hT => g5 b hb fun hF => hf ⟨id, _, hob, rfl, hF⟩, fun b hb => ?_⟩, .un _, trivial⟩
  · rcases hobs x y hx with ⟨rfl, rfl⟩ | ⟨hne, hx⟩
    · exact ⟨hidU, trivial, hrow'⟩
    · obtain ⟨u1, u2, u3⟩ := hox.objs x y hx
      exact ⟨u1, u2, u3.keep (U := m.U) u2 (fun _ _ h => h) hcell (fun _ h => h) (fun _ _ => rfl) ⟨rfl, rfl⟩ fun ho b hb => g5 b (hox.fb x y hx ho b hb).1 fun hF => hox.dj x id y _ hx ho hob rfl hne b hb hF⟩
  · rcases hobs x y hx with ⟨rfl, rfl⟩ | ⟨hne, hx⟩
    · obtain ⟨u1, u2, u3⟩ := hfb b hb
      exact ⟨Nat.lt_of_lt_of_le u1 g4, u2, u3⟩
    · obtain ⟨u1, u2, u3⟩ := hox.fb x y hx ho b hb
      exact ⟨Nat.lt_of_lt_of_le u1 g4, u2, u3⟩
  · have src : ∀ i x, (MS.obs ⟨(id, some (.row e s.t l')) :: m.ob, m.nx, m.tp⟩) i = some x → x.own = true → ∃ x', m.obs i = some x' ∧ x'.own = true := fun i x hx ox => by
      rcases hobs i x hx with ⟨rfl, rfl⟩ | ⟨hne, hx⟩
      · exact ⟨_, hob, rfl⟩
      · exact ⟨x, hx, ox⟩
    obtain ⟨x', hx', ox'⟩ := src i x hx ox
    obtain ⟨y', hy', oy'⟩ := src j y hy oy
    exact hox.dj i j x' y' hx' ox' hy' oy' hne b hb hb'
  · obtain ⟨t1, t2⟩ := hox.nT T hT
    exact ⟨Nat.lt_of_lt_of_le t1 g4, t2⟩
  · obtain ⟨T, hT, ht⟩ := hox.tpe e
    exact ⟨T, hT, ht.mono (fun _ _ h => h) hcell (g5 T ht.lt fun hF => (hfb T hF).2.2 hT)⟩
  · obtain ⟨x, y, hx, ho, hb⟩ := hb
    rcases hobs x y hx with ⟨rfl, rfl⟩ | ⟨hne, hx⟩
    · exact .inl ⟨x, _, hob, rfl, hb⟩
    · exact .inl ⟨x, y, hx, ho, hb⟩
def rule3 (s : Spec3) : Rule := ⟨s.f, byCon3 s⟩
theorem rule3_ok {s : Spec3} (h : Spec3OK P s) : RuleOK P (rule3 s) := fun ss m k hk us w c hox hl hr => byCon3_ok h hk hox hl hr
/-! ### walks by rules -/
structure CtxR where
  τ : TypeId → Option Ty
  rs : List Rule
  jn : Nat → Nat → Option Shape
def callR (P : Program) (C : CtxR) (dr : DR) : Nat → Nat → CP
  | 0, _ => fun _ _ _ _ => False
  | n + 1, fk => fun f ss m k => match findR C.rs f with
    | some r => r.cp ss m k
    | none => inline P (fun id ops d st K => bif d then dr id (fun i => callR P C dr n (subK fk id i)) ops st K else aops P C.τ (fun i => callR P C dr n (subK fk id i)) ops 0 ops.toList st K) (C.jn fk) f ss m k
theorem callR_ok {C : CtxR} {dr : DR} (hR : RulesOK P C.rs) (hdr : DrOK P dr) : ∀ (n fk : Nat), CallOK P (callR P C dr n fk)
  | 0, fk => fun f ss m k h => h.elim
  | n + 1, fk => by
    intro f ss m k h us w c hox hl hr
    unfold callR at h
    split at h
    · rename_i r hr'
      obtain ⟨h1, h2⟩ := findR_ok hR hr'
      subst h2
      exact h1 _ _ _ h us w c hox hl hr
    · exact inline_ok (reg_ok hdr fun id i => callR_ok hR hdr n (subK fk id i)) f ss m k h us w c hox hl hr
theorem SpecOK.of_rules {C : CtxR} {dr : DR} (hR : RulesOK P C.rs) (hdr : DrOK P dr) {n fk : Nat} {s : Spec} (h : ∀ x post, s.pt x post → HoldW (walkG (callR P C dr n fk) s.f s.tp (tvs s.ts x) s.rs post)) : SpecOK P s :=
  SpecOK.of_walkG (callR_ok hR hdr n fk) fun x post hp => (h x post hp).h
/-- The walk of a function that takes over rows of its caller. -/
def walkO (cp : CP) (s : Spec2) (x : dens (shTL s.as [])) (post : dens (shT s.rs []) → Prop) : Prop :=
  cp s.f (instL s.as [] x 0).1 (mem2 s.as x) fun r m => fitR2 s.rs (mem2 s.as x) r m post
theorem Spec2OK.of_cp {cp : CP} (hcp : CallOK P cp) {s : Spec2} (h : ∀ x post, s.pt x post → HoldW (walkO cp s x post)) : Spec2OK P s := by
  intro x post hp us w c hox hl hr
  refine (hcp _ _ _ _ (h x post hp).h us w c hox hl hr).mono ?_
  rintro e w' ⟨v, r, m', c', rfl, hq, hfr, hox', htr, hs, hu⟩
  unfold fitR2 at hq
  split at hq
  · rename_i y hy
    have hb0 : RX ⟨[], mem2 s.as x, 1, [], []⟩ { tmps := #[undef], defers := [] } w c := ⟨hox, rfl, fun x u _ => .un u, fun x => trivial, fun x q wt g y hx => by cases hx⟩
    have hst : Step ⟨[], mem2 s.as x, 1, [], []⟩ { tmps := #[undef], defers := [] } w c ⟨[(0, noC r)], m', 1, [], []⟩ { tmps := #[v], defers := [] } w' c' := by
      refine ⟨⟨hox', rfl, fun x u hx => ?_, fun x => ?_, fun x q wt g y hx => ?_⟩, htr, rfl, rfl, ⟨[(0, noC r)], rfl⟩, hfr⟩
      · show SRel c' w' (look [(0, noC r)] x) u
        rw [look_cons]
        split
        · rename_i e
          subst e
          have : v = u := by simpa using hx
          subst this
          exact noC_rel hs
        · exact .un u
      · show (look [(0, noC r)] x).inU _
        rw [look_cons]
        split
        · exact noC_inU hu
        · trivial
      · have hx : look [(0, noC r)] x = .cnd q wt g y := hx
        rw [look_cons] at hx
        split at hx
        · exact absurd hx noC_ne
        · cases hx
    obtain ⟨c2, k⟩ := Shape.fit_ok hy hb0 hst
    have htp : (m'.tp == (mem2 s.as x).tp) = true := by
      unfold Shape.fit at hy
      split at hy
      · generalize hck : (_ && (m'.tp == (mem2 s.as x).tp)) = ck at hy
        cases ck with
        | false => cases hy
        | true => exact (Bool.and_eq_true_iff.1 hck).2
      · cases hy
    refine ⟨v, y, c2, _, _, rfl, hq, k.rx.ox, k.tr, k.rx.sl 0 v rfl, fun j r hr => ?_⟩
    show lookO ([] ++ ([] ++ (rowsOb (mem2 s.as x).nx (instL (shOf2 s.rs (mem2 s.as x).nx).all [] y (mem2 s.as x).nx).2.1 ++ _))) _ = _
    have e1 : (instL (shOf2 s.rs (mem2 s.as x).nx).all [] y (mem2 s.as x).nx).2.1 = (instS s.rs [] y (mem2 s.as x).nx).2.1 := List.append_nil _
    rw [List.nil_append, List.nil_append, e1, lookO_app']
    have e2 := instS_rows s.rs [] y (mem2 s.as x).nx 0
    rw [e2, lookK_rows _ _ j r hr]
    rfl
  · exact hq.elim
theorem Spec2OK.of_rules {C : CtxR} {dr : DR} (hR : RulesOK P C.rs) (hdr : DrOK P dr) {n fk : Nat} {s : Spec2} (h : ∀ x post, s.pt x post → HoldW (walkO (callR P C dr n fk) s x post)) : Spec2OK P s :=
  Spec2OK.of_cp (callR_ok hR hdr n fk) h
end RE
end Go.Proofs.Ytpnmiieohdkenaa
namespace Go.Proofs.Ytpnmiieohdkenaa
open Go.RowKit
set_option linter.unusedVariables false
namespace RE
variable {P : Program}
def clo (g : FuncId) : Value := .func (.func g) #[] #[]
def SpecCOK (P : Program) (s : Spec) (cl : List Value) : Prop := ∀ x post, s.pt x post → ∀ w (S : Cells) (T : Option Nat) (us : List Value), (∀ b o, S b o → b < w.heap.size) → TapeC s.tp w S T → us.length = s.ts.length →
  (∀ (i : Nat) (d : D) (u : Value), (tvs s.ts x)[i]? = some d → us[i]? = some u → Rd S w d u) →
  Calls P s.f (tpArg T us ++ cl).toArray w fun e w' => ∃ v y c', e = .returned v ∧ post y ∧ OXM (MS.add ⟨[], 0, s.tp⟩ (instS s.rs [] y 0).2.1) w' c' ∧ TrM ⟨[], 0, s.tp⟩ w (cx0 S T) (MS.add ⟨[], 0, s.tp⟩ (instS s.rs [] y 0).2.1) w' c' ∧ SRel c' w' (instS s.rs [] y 0).1 v
theorem byConC_ok {cl : List Value} {s : Spec} (hs : SpecCOK P s cl) {ss : List SV} {m : MS} {k : SV → MS → Prop} (h : byCon s ss m k) {us : List Value} {w : World} {c : Cx} (hox : OXM m w c) (hl : us.length = ss.length) (hr : ∀ (i : Nat) (x : SV) (u : Value), ss[i]? = some x → us[i]? = some u → SRel c w x u ∧ x.inU m.U) :
    Calls P s.f (us ++ cl).toArray w fun e w' => ∃ v r m' c', e = .returned v ∧ k r m' ∧ FrM m m' ∧ OXM m' w' c' ∧ TrM m w c m' w' c' ∧ SRel c' w' r v ∧ r.inU m'.U := by
  unfold byCon at h
  split at h
  · exact h.elim
  · rename_i ss' hta
    -- the tape, and the others
    have harg : ∃ (us' : List Value) (T0 : Option Nat), us = tpArg T0 us' ∧ us'.length = ss'.length ∧ (∀ (i : Nat) (x : SV) (u : Value), ss'[i]? = some x → us'[i]? = some u → SRel c w x u ∧ x.inU m.U) ∧ ((s.tp = true ∧ T0 = c.T ∧ m.tp = true ∧ ∃ t, c.T = some t) ∨ (s.tp = false ∧ T0 = none)) := by
      cases htp : s.tp with
      | false =>
        rw [htp] at hta
        injection hta with hta
        subst hta
        exact ⟨us, none, rfl, hl, hr, .inr ⟨rfl, rfl⟩⟩
      | true =>
        rw [htp] at hta
        unfold tapeArg at hta
        split at hta
        · split at hta
          · rename_i r
            cases hm : m.tp with
            | false => rw [hm] at hta; cases hta
            | true =>
              rw [hm] at hta
              injection hta with hta
              subst hta
              match us, hl, hr with
              | u :: us', hl, hr =>
                obtain ⟨T, hT, rfl⟩ := srel_tp (hr 0 .tp u rfl rfl).1
                exact ⟨us', some T, rfl, by simpa using hl, fun i x u hx hu => hr (i + 1) x u hx hu, .inl ⟨rfl, hT.symm, rfl, T, hT⟩⟩
          · cases hta
        · rename_i he; cases he
    obtain ⟨us', T0, rfl, hl', hr', hT⟩ := harg
    have hTC : ∀ S : Cells, (∀ b o, c.S b o → S b o) → (s.tp = true → S = c.S) → TapeC s.tp w S T0 := fun S hS hSe => by
      rcases hT with ⟨e1, e2, e3, t, e4⟩ | ⟨e1, e2⟩
      · rw [e1]
        obtain ⟨T, h1, h2⟩ := hox.tpe e3
        refine ⟨T, e2.trans h1, ?_, ?_⟩
        · rw [hSe e1]; exact h2
        · rw [hSe e1]; exact (hox.nT T h1).2
      · rw [e1]; exact e2
    cases hal : s.al with
    | true =>
      rw [hal] at h
      simp only [cond_true] at h
      split at h
      · rename_i ds ids hd
        split at h
        · rename_i x hx
          cases hp : shPure s.rs with
          | false => rw [hp] at h; exact h.elim
          | true =>
            rw [hp] at h
            simp only [cond_true] at h
            obtain ⟨c1, ox1, t1, hH1, hT1⟩ := hox.freezes ids
            have ob1 : MS.obs ⟨fzU m.obs ids ++ m.ob, m.nx, m.tp⟩ = ovr m.obs (fzU m.obs ids) := lookO_app _ _
            have ox1' : OXM ⟨fzU m.obs ids ++ m.ob, m.nx, m.tp⟩ w c1 := by show OX (MS.obs _) _ _ _ _; rw [ob1]; exact ox1
            have t1' : TrM m w c ⟨fzU m.obs ids ++ m.ob, m.nx, m.tp⟩ w c1 := by show Tr _ _ _ _ (MS.obs ⟨_, _, _⟩) _ _ _; rw [ob1]; exact t1
            obtain ⟨d1, d2⟩ := dataL_rel (m := m.mem) hox ox1 t1 hH1 ss' hd (fun _ h => h)
            obtain ⟨x1, x2⟩ := undoL_rd hx
            have hTC' : TapeC s.tp w c1.S T0 := by
              rcases hT with ⟨e1, e2, e3, t, e4⟩ | ⟨e1, e2⟩
              · rw [e1]
                obtain ⟨T, h1, h2⟩ := ox1'.tpe e3
                exact ⟨T, e2.trans (by rw [← hT1]; exact h1), h2, (ox1'.nT T h1).2⟩
              · rw [e1]; exact e2
            refine (hs x _ h w c1.S T0 us' ox1.sb hTC' (by omega) (fun i d u hdi hu => ?_)).mono ?_
            · have hi : i < ds.length := by have := (List.getElem?_eq_some_iff.1 hdi).1; rw [tvs_len] at this; omega
              have his : i < ss'.length := by omega
              exact x2 i d ds[i] hdi (List.getElem?_eq_getElem hi) (d2 i ss'[i] ds[i] (List.getElem?_eq_getElem his) (List.getElem?_eq_getElem hi) (hr' i _ u (List.getElem?_eq_getElem his) hu).1)
            · rintro e w' ⟨v, y, c', rfl, hy, oxr, tr, hsr⟩
              have hTT : (s.tp = true ∧ true = true ∧ T0 = c1.T) ∨ T0 = none := by
                rcases hT with ⟨e1, e2, _⟩ | ⟨_, e2⟩
                · exact .inl ⟨e1, rfl, by rw [hT1]; exact e2⟩
                · exact .inr e2
              obtain ⟨c2, b1, b2, b3, b4⟩ := call_back (al := true) ox1' hTT (fun _ _ _ h => h) (.inl rfl) oxr tr (fun e => by
                rcases hT with ⟨_, e2, _⟩ | ⟨e2, _⟩
                · rw [hT1]; exact e2
                · rw [e] at e2; cases e2)
              have hsh := instS_shift (c := c') (c2 := c2) (w := w') (n := m.nx) (al := true) (fun _ => b4 rfl) b3 s.rs [] y 0 hp rfl hsr
              refine ⟨v, _, _, c2, rfl, hy, ⟨⟨_, by show rowsOb _ _ ++ (fzU m.obs ids ++ m.ob) = _; rw [← List.append_assoc]⟩, id⟩, b1, t1'.trans b2, by rw [Nat.add_zero] at hsh; exact hsh, ?_⟩
              refine SV.inU_mono (fun i hi => ?_) _ (instS_inU (n := 0) s.rs [] y m.nx hp)
              show i < m.nx + _
              rw [instS_rows s.rs [] y m.nx 0] at hi
              exact hi.2
        · exact h.elim
      · exact h.elim
    | false =>
      rw [hal] at h
      simp only [cond_false] at h
      split at h
      · rename_i ds hd
        split at h
        · rename_i x hx
          cases hp : (shPure s.rs && shFlat s.rs && !s.tp) with
          | false => rw [hp] at h; exact h.elim
          | true =>
            rw [hp] at h
            simp only [cond_true] at h
            simp only [Bool.and_eq_true, Bool.not_eq_true'] at hp
            obtain ⟨⟨p1, p2⟩, p3⟩ := hp
            have hT0 : T0 = none := by
              rcases hT with ⟨e1, _⟩ | ⟨_, e2⟩
              · rw [p3] at e1; cases e1
              · exact e2
            obtain ⟨d1, d2⟩ := viewL_rel (m := m.mem) hox ss' hd
            obtain ⟨x1, x2⟩ := undoL_rd hx
            refine (hs x _ h w (lentS m.obs c) T0 us' (fun b o hb => ?_) (by rw [p3]; exact hT0) (by omega) (fun i d u hdi hu => ?_)).mono ?_
            · rcases hb with hb | ⟨id, y, hy, ho, hb⟩
              · exact hox.sb b o hb
              · exact (hox.fb id y hy ho b hb).1
            · have hi : i < ds.length := by have := (List.getElem?_eq_some_iff.1 hdi).1; rw [tvs_len] at this; omega
              have his : i < ss'.length := by omega
              exact x2 i d ds[i] hdi (List.getElem?_eq_getElem hi) (d2 i ss'[i] ds[i] (List.getElem?_eq_getElem his) (List.getElem?_eq_getElem hi) (hr' i _ u (List.getElem?_eq_getElem his) hu).1)
            · rintro e w' ⟨v, y, c', rfl, hy, oxr, tr, hsr⟩
              obtain ⟨c2, b1, b2, b3, b4⟩ := call_back (al := false) hox (.inr hT0) (fun e => by cases e) (.inr (instS_flat s.rs [] y 0 p2)) oxr tr (fun e => by rw [p3] at e; cases e)
              have hsh := instS_shift (c := c') (c2 := c2) (w := w') (n := m.nx) (al := false) (fun e => by cases e) b3 s.rs [] y 0 p1 (by simpa using p2) hsr
              refine ⟨v, _, _, c2, rfl, hy, ⟨⟨_, rfl⟩, id⟩, b1, b2, by rw [Nat.add_zero] at hsh; exact hsh, ?_⟩
              refine SV.inU_mono (fun i hi => ?_) _ (instS_inU (n := 0) s.rs [] y m.nx p1)
              show i < m.nx + _
              rw [instS_rows s.rs [] y m.nx 0] at hi
              exact hi.2
        · exact h.elim
      · exact h.elim
def dropCl (g : FuncId) : List SV → Option (List SV)
  | [] => none
  | [x] => bif isCl g x then some [] else none
  | x :: r => (dropCl g r).map (x :: ·)
theorem dropCl_ok {g : FuncId} : ∀ {ss ss' : List SV}, dropCl g ss = some ss' → ∃ x, ss = ss' ++ [x] ∧ isCl g x = true
  | [], ss', h => by cases h
  | [x], ss', h => by
    unfold dropCl at h
    cases hb : isCl g x with
    | false => rw [hb] at h; cases h
    | true =>
      rw [hb] at h
      injection h with h
      subst h
      exact ⟨x, rfl, hb⟩
  | x :: y :: r, ss', h => by
    unfold dropCl at h
    rw [Option.map_eq_some_iff] at h
    obtain ⟨t, h1, rfl⟩ := h
    obtain ⟨z, h2, h3⟩ := dropCl_ok h1
    exact ⟨z, by rw [h2]; rfl, h3⟩
def byConC (s : Spec) (g : FuncId) (ss : List SV) (m : MS) (k : SV → MS → Prop) : Prop := match dropCl g ss with
  | some ss' => byCon s ss' m k
  | none => False
def ruleC (s : Spec) (g : FuncId) : Rule := ⟨s.f, byConC s g⟩
theorem ruleC_ok {s : Spec} {g : FuncId} (h : SpecCOK P s [clo g]) : RuleOK P (ruleC s g) := fun ss m k hk us w c hox hl hr => by
  have hk2 : byConC s g ss m k := hk
  clear hk
  unfold byConC at hk2
  split at hk2
  · rename_i ss' hd
    obtain ⟨x, rfl, hx⟩ := dropCl_ok hd
    rcases List.eq_nil_or_concat us with rfl | ⟨us', u, rfl⟩
    · simp at hl
    · rw [List.concat_eq_append] at *
      have hl' : us'.length = ss'.length := by simpa using hl
      have hu : u = clo g := isCl_rel hx (hr ss'.length x u (by simp) (by rw [← hl']; simp)).1
      subst hu
      refine byConC_ok h hk2 hox hl' fun i y v hy hv => hr i y v ?_ ?_
      · rw [List.getElem?_append_left (List.getElem?_eq_some_iff.1 hy).1]; exact hy
      · rw [List.getElem?_append_left (List.getElem?_eq_some_iff.1 hv).1]; exact hv
  · exact hk2.elim
theorem SpecCOK.of_rules {C : CtxR} {dr : DR} (hR : RulesOK P C.rs) (hdr : DrOK P dr) {n fk : Nat} {s : Spec} {g : FuncId} (h : ∀ x post, s.pt x post → HoldW (walkG (callR P C dr n fk) s.f s.tp (tvs s.ts x ++ [.v (clo g)]) s.rs post)) : SpecCOK P s [clo g] := by
  intro x post hp w S T us h1 h2 h3 h4
  have e : tpArg T us ++ [clo g] = tpArg T (us ++ [clo g]) := by
    unfold tpArg
    split <;> simp
  rw [e]
  refine walkG_ok (callR_ok hR hdr n fk) (h x post hp).h h1 h2 (by simp [h3, tvs_len]) fun i d u hd hu => ?_
  by_cases hi : i < us.length
  · rw [List.getElem?_append_left hi] at hu
    rw [List.getElem?_append_left (by rw [tvs_len]; omega)] at hd
    exact h4 i d u hd hu
  · have hi' : (tvs s.ts x).length ≤ i := by rw [tvs_len]; omega
    rw [List.getElem?_append_right hi'] at hd
    rw [List.getElem?_append_right (by omega)] at hu
    have e2 : i - (tvs s.ts x).length = i - us.length := by rw [tvs_len, h3]
    rw [e2] at hd
    match hq : i - us.length, hd, hu with
    | 0, hd, hu =>
      simp at hd hu
      subst hd hu
      exact .v _
    | k + 1, hd, hu => simp at hd
end RE
end Go.Proofs.Ytpnmiieohdkenaa
namespace Go.Proofs.Ytpnmiieohdkenaa
open Go.RowKit
set_option linter.unusedVariables false
namespace RE
variable {P : Program}
/-- The slots that a guard lays bare. -/
def bare (sl : List (Nat × SV)) (q : Nat) (v : Bool) : List (Nat × SV) → List (Nat × SV)
  | [] => []
  | (k, _) :: r => match look sl k with
    | .cnd q' w' _ x => bif Nat.beq q' q && (w' == v) then (k, noC x) :: bare sl q v r else bare sl q v r
    | _ => bare sl q v r
def mkq (q : Nat) : Nat := 1000000 + q
/-- The guard in slot q is known to be v. -/
def St.lit (st : St) (q : Nat) (v : Bool) : St := ⟨(q, .d (.v (.bool v))) :: (bare st.sl q v st.sl ++ st.sl), st.ms, st.n, mkq q :: st.gs, st.gd⟩
theorem bare_look {sl : List (Nat × SV)} {q : Nat} {v : Bool} {x : Nat} {s : SV} : ∀ {l : List (Nat × SV)}, lookK (bare sl q v l) x = some s → ∃ g y, look sl x = .cnd q v g y ∧ s = noC y
  | (k, z) :: r, h => by
    unfold bare at h
    split at h
    · rename_i q' w' g y hk
      cases hb : (Nat.beq q' q && (w' == v)) with
      | false => rw [hb] at h; exact bare_look h
      | true =>
        rw [hb] at h
        obtain ⟨b1, b2⟩ := Bool.and_eq_true_iff.1 hb
        have b1 := beq_eq b1
        have b2 : w' = v := by simpa using b2
        subst b1 b2
        simp only [cond_true] at h
        unfold lookK at h
        cases hx : Nat.beq k x with
        | true =>
          rw [hx] at h
          have := beq_eq hx
          subst this
          injection h with h
          exact ⟨g, y, hk, h.symm⟩
        | false => rw [hx] at h; exact bare_look h
    · exact bare_look h
theorem gx_same (v : Bool) : gx v v = true := by cases v <;> rfl
theorem lit_look (st : St) (q : Nat) (v : Bool) (hq : look st.sl q = .d (.v (.bool v))) (x : Nat) : look (st.lit q v).sl x = look st.sl x ∨ ∃ g y, look st.sl x = .cnd q v g y ∧ look (st.lit q v).sl x = noC y := by
  have e : look (st.lit q v).sl x = if q = x then .d (.v (.bool v)) else look (bare st.sl q v st.sl ++ st.sl) x := look_cons _ _ _ _
  rw [e]
  split
  · rename_i h; subst h; exact .inl hq.symm
  · rw [look_app]
    cases hk : lookK (bare st.sl q v st.sl) x with
    | none => exact .inl rfl
    | some s =>
      obtain ⟨g, y, h1, h2⟩ := bare_look hk
      exact .inr ⟨g, y, h1, h2⟩
theorem RX.lit {st : St} {a : Act} {w : World} {c : Cx} (h : RX st a w c) {q : Nat} {v : Bool} (hq : look st.sl q = .d (.v (.bool v))) : RX (st.lit q v) a w c := by
  have hl := lit_look st q v hq
  have hqq : look (st.lit q v).sl q = .d (.v (.bool v)) := by
    rcases hl q with h | ⟨g, y, h, _⟩
    · rw [h, hq]
    · rw [hq] at h; cases h
  refine ⟨h.ox, h.sz, fun x u hx => ?_, fun x => ?_, fun x q' wt g y hx => ?_⟩
  · rcases hl x with e | ⟨g, y, e, e2⟩
    · rw [e]; exact h.sl x u hx
    · have h1 := h.sl x u hx
      rw [e] at h1
      rw [e2]
      obtain ⟨h2, _⟩ := srel_cnd h1
      have := (h.cn x q v g y e).2.2 (gx v v) (by rw [hq]; rfl)
      rw [gx_same] at this
      exact noC_rel (h2 this)
  · rcases hl x with e | ⟨g, y, e, e2⟩
    · rw [e]; exact h.us x
    · have h1 := h.us x
      rw [e] at h1
      rw [e2]
      exact noC_inU h1
  · rcases hl x with e | ⟨g', y', e, e2⟩
    · rw [e] at hx
      obtain ⟨k1, k2, k3⟩ := h.cn x q' wt g y hx
      refine ⟨has_cons.2 (.inr k1), k2, fun G hG => k3 G ?_⟩
      rcases hl q' with e' | ⟨g2, y2, e', e2'⟩
      · rw [e'] at hG; exact hG
      · rw [e2'] at hG
        rw [e']
        have := (h.cn q' q v g2 y2 e').2.2 (gx v v) (by rw [hq]; rfl)
        rw [gx_same] at this
        subst this
        cases y2 with
        | d x => cases x with
          | v u => cases u with
            | bool b => simpa [guardG, noC] using hG
            | _ => simp [guardG, noC] at hG
          | _ => simp [guardG, noC] at hG
        | _ => simp [guardG, noC] at hG
    · rw [e2] at hx; exact absurd hx noC_ne
theorem Step.lit {st : St} {a : Act} {w : World} {c : Cx} (h : RX st a w c) {q : Nat} {v : Bool} (hq : look st.sl q = .d (.v (.bool v))) : Step st a w c (st.lit q v) a w c :=
  ⟨h.lit hq, .refl, rfl, rfl, ⟨(q, .d (.v (.bool v))) :: bare st.sl q v st.sl, rfl⟩, .refl _⟩
/-- What follows where the guard is known. -/
def aopL (P : Program) (τ : TypeId → Option Ty) (cp : CP) (o : Oper) (d q : Nat) (want v : Bool) (st : St) (K : St → Prop) : Prop :=
  bif gx want v then aop P τ cp o (st.lit q v) K else match τ o.type with
    | some ty => K ((st.lit q v).setG d q want false (.d (tv ty (dflt ty))))
    | none => K ((st.lit q v).set (some d) .un st.ms)
def aopS (P : Program) (τ : TypeId → Option Ty) (cp : CP) (o : Oper) (d q : Nat) (want : Bool) (st : St) (K : St → Prop) : Prop :=
  match look st.sl q with
  | .d (.v (.bool b)) => bif dstOK st (some d) && !(Nat.beq q d) && Nat.blt q st.n && !(Nat.beq d (mkq q)) then
      bif has st.gs (mkq q) then aopL P τ cp o d q want b st K else IFB b (aopL P τ cp o d q want true st K) (aopL P τ cp o d q want false st K)
    else False
  | _ => aopG P τ cp o d q want st K
theorem aopL_ok {τ : TypeId → Option Ty} {cp : CP} (hcp : CallOK P cp) {o : Oper} {d q : Nat} {want v : Bool} {st : St} {K : St → Prop} (hd : o.dst = some d) (hqd : q ≠ d) (hq : look st.sl q = .d (.v (.bool v))) (hds : dstOK (st.lit q v) (some d) = true) (h : aopL P τ cp o d q want v st K) : OpG P o (gx want v) st K := by
  intro a w c hr KK Qx hQ
  have hs := Step.lit hr hq
  unfold aopL at h
  cases hG : gx want v with
  | true =>
    rw [hG] at h
    rw [if_pos rfl]
    exact aop_ok hcp h a w c hs.rx KK Qx fun st' a' w' c' hs' hk => hQ _ _ _ _ (hs.trans hs') hk
  | false =>
    rw [hG] at h
    rw [if_neg (by decide), hd]
    simp only [cond_false] at h
    split at h
    · rename_i ty hty
      have hqq : look (st.lit q v).sl q = .d (.v (.bool v)) := by
        rcases lit_look st q v hq q with h | ⟨g, y, h, _⟩
        · rw [h, hq]
        · rw [hq] at h; cases h
      have hgG : guardG want (look (st.lit q v).sl q) = some false := by rw [hqq, ← hG]; rfl
      exact hQ _ _ _ c (hs.trans ⟨hs.rx.setG .refl hr.ox hds hqd hgG (r := .d (tv ty (dflt ty))) (v := undef) (fun e => by cases e) (fun _ => rfl) trivial, .refl, defers_put _ _ _, .setG⟩) h
    · exact hQ _ _ _ c (hs.trans ⟨hs.rx.set .refl hr.ox hds (.un _) trivial, .refl, defers_put _ _ _, .set (.refl _)⟩) h
theorem aopS_ok {τ : TypeId → Option Ty} {cp : CP} (hcp : CallOK P cp) {o : Oper} {d q : Nat} {want : Bool} {st : St} {K : St → Prop} (hd : o.dst = some d) (h : aopS P τ cp o d q want st K) : ∃ G, q < st.n ∧ guardG want (look st.sl q) = some G ∧ OpG P o G st K := by
  unfold aopS at h
  split at h
  · rename_i b hq
    cases hb : (dstOK st (some d) && !(Nat.beq q d) && Nat.blt q st.n && !(Nat.beq d (mkq q))) with
    | false => rw [hb] at h; exact h.elim
    | true =>
      rw [hb] at h
      simp only [Bool.and_eq_true, Bool.not_eq_true'] at hb
      obtain ⟨⟨⟨b1, b2⟩, b3⟩, b4⟩ := hb
      simp only [cond_true] at h
      have hds : ∀ v, dstOK (st.lit q v) (some d) = true := fun v => by
        obtain ⟨d1, d2⟩ := Bool.and_eq_true_iff.1 b1
        show (Nat.blt d st.n && !(has (mkq q :: st.gs) d)) = true
        rw [d1, Bool.true_and]
        show (!(Nat.beq (mkq q) d || has st.gs d)) = true
        have : Nat.beq (mkq q) d = false := by
          cases hx : Nat.beq (mkq q) d with
          | false => rfl
          | true => have := beq_eq hx; subst this; simp at b4
        rw [this, Bool.false_or]; exact d2
      have hqd : q ≠ d := fun e => by rw [e] at b2; simp at b2
      refine ⟨gx want b, Nat.le_of_ble_eq_true b3, by rw [hq]; rfl, ?_⟩
      cases hm : has st.gs (mkq q) with
      | true => rw [hm] at h; exact aopL_ok hcp hd hqd hq (hds b) h
      | false =>
        rw [hm] at h
        obtain ⟨ht, hf⟩ := (show IFB b _ _ from h)
        cases b with
        | true => exact aopL_ok hcp hd hqd hq (hds true) (ht rfl)
        | false => exact aopL_ok hcp hd hqd hq (hds false) (hf rfl)
  · exact aopG_ok hcp hd h
/-- One operation, with its guard. -/
def aop1S (P : Program) (τ : TypeId → Option Ty) (cp : CP) (all : Array Oper) (o : Oper) (st : St) (K : St → Prop) : Prop := match o.guard with
  | none => aop P τ cp o st K
  | some (j, want) => match (all[j]?).bind (·.dst), o.dst with
    | some q, some d => aopS P τ cp o d q want st K
    | _, _ => False
theorem aop1S_ok {τ : TypeId → Option Ty} {cp : CP} (hcp : CallOK P cp) {all : Array Oper} {i : Nat} {o : Oper} (ho : all[i]? = some o) {st : St} {K : St → Prop} (h : aop1S P τ cp all o st K) {a : Act} {w : World} {c : Cx} (hr : RX st a w c) {KK : Act → World → Prop} {Qx : Exit → Act → World → Prop}
    (hQ : ∀ st' a' w' c', Step st a w c st' a' w' c' → K st' → KK a' w') : wpOp P all Qx i KK a w := by
  unfold aop1S at h
  split at h
  · rename_i hg
    refine wpOp_step ho fun K' hK => ?_
    rw [if_pos (by simp [Region.wanted, hg])]
    exact aop_ok hcp h a w c hr K' Qx fun st' a' w' c' hs hq => hK _ _ (hQ _ _ _ _ hs hq)
  · rename_i j want hg
    split at h
    · rename_i q d hq hd
      obtain ⟨G, h1, h2, h3⟩ := aopS_ok hcp hd h
      refine wpOp_step ho fun K' hK => ?_
      rw [wanted_of hg hq h1 hr h2]
      exact h3 a w c hr K' Qx fun st' a' w' c' hs hq => hK _ _ (hQ _ _ _ _ hs hq)
    · exact h.elim
def drawS (P : Program) (τ : TypeId → Option Ty) : DR := fun id cp ops st K =>
  bif P.follows .mixedOrders && Region.noSelect ops then deval (fun i => fstep P (prOf (scanQ P st.ms st.n ops.toList 0 st.sl) i) ops) (fun i o => aop1S P τ (cp i) ops o) ops (prOf (scanQ P st.ms st.n ops.toList 0 st.sl)) ops.size (Array.replicate ops.size false) true st K else False
theorem drawS_ok (τ : TypeId → Option Ty) : DrOK P (drawS P τ) := by
  intro id cp ops st K hcp h a w c hr
  unfold drawS at h
  cases hb : (P.follows .mixedOrders && Region.noSelect ops) with
  | false => rw [hb] at h; exact h.elim
  | true =>
    rw [hb] at h
    obtain ⟨b1, b2⟩ := Bool.and_eq_true_iff.1 hb
    obtain ⟨hr1, t1⟩ := hr.drew
    let Qx : Exit → Act → World → Prop := fun e a' w' => e = .normal ∧ ∃ st' c', Step st a w c st' a' w' c' ∧ K st'
    refine wp_mono (Q := Qx) ?_ (fun e a' w' ⟨he, st', c', k1, k2⟩ => ⟨st', c', k1, he, k2⟩)
    refine wp_region_any b1 (wpAny_of_T _ _ _ _ (deval_ok (fs := fun i => fstep P (prOf (scanQ P st.ms st.n ops.toList 0 st.sl) i) ops) (ao := fun i o => aop1S P τ (cp i) ops o) (prL := prOf (scanQ P st.ms st.n ops.toList 0 st.sl)) (fun h _ hT _ _ _ hr => fstep_ok h hT hr) (fun ho _ _ h _ _ _ hr _ _ hQ => aop1S_ok (hcp _) ho h hr hQ) b2 hr1 _ _ _ _ _ .start h _ _ _ hr1 (fun _ => ⟨rfl, rfl, rfl⟩) .refl Qx (fun ch a w hh => by cases hh.1) fun st' a' w' c' hs hk => ⟨rfl, st', c', Step.trans ⟨hr1, t1, rfl, .refl _⟩ hs, hk⟩))
theorem lawG_okH {cp : CP} (hcp : CallOK P cp) {f : FuncId} {ds : List D} {post : Bool → Prop} (h : HoldW (lawG cp f ds post)) {w : World} {S : Cells} {us : List Value} (h1 : ∀ b o, S b o → b < w.heap.size) (h3 : us.length = ds.length)
    (h4 : ∀ (i : Nat) (d : D) (u : Value), ds[i]? = some d → us[i]? = some u → Rd S w d u) :
    Calls P f us.toArray w fun e w' => (∃ b, e = .returned (.bool b) ∧ post b) ∧ Below w.heap.size w w' := lawG_ok hcp h.h h1 h3 h4
end RE
end Go.Proofs.Ytpnmiieohdkenaa
namespace Go.Proofs.Ytpnmiieohdkenaa
open Go.RowKit
set_option linter.unusedVariables false
namespace RE
variable {P : Program}
def meetN (d : Nat) (shs : List Sh) (base st : St) (dst : List Nat) : Option (dens (shTL shs [])) := match look st.sl d with
  | .bx id off => match st.ms.obs id with
    | some (.box cs) => match fitL st.ms.mem base.ms.nx shs [] cs () with
      | some g => bif (newsS base st).all (fun p => has dst p.1) && (news base.ms st.ms).all (fun p => Nat.ble base.ms.nx p.1) && base.gs.isEmpty && (st.ms.tp == base.ms.tp) && Nat.ble base.ms.nx id && Nat.beq off 0 && g.fz.all (Nat.ble base.ms.nx) && ownOK base.ms.nx [] g.fz g.own then some g.v else none
      | none => none
    | _ => none
  | _ => none
def meetNS (d : Nat) (shs : List Sh) (base : St) (dst : List Nat) (v : dens (shTL shs [])) : St := ⟨(d, .bx base.ms.nx 0) :: (dst.map (fun x => (x, SV.un)) ++ base.sl), ⟨(base.ms.nx, some (.box (instL shs [] v (base.ms.nx + 1)).1)) :: (rowsOb (base.ms.nx + 1) (instL shs [] v (base.ms.nx + 1)).2.1 ++ base.ms.ob), base.ms.nx + 1 + (instL shs [] v (base.ms.nx + 1)).2.1.length, base.ms.tp⟩, base.n, [], []⟩
theorem meetN_ok {d : Nat} {shs : List Sh} {base st : St} {dst : List Nat} {v : dens (shTL shs [])} (hf : meetN d shs base st dst = some v) {a0 a : Act} {w0 w : World} {c0 c : Cx} (hb : RX base a0 w0 c0) (hs : Step base a0 w0 c0 st a w c) : ∃ c', Step base a0 w0 c0 (meetNS d shs base dst v) a w c' := by
  unfold meetN at hf
  split at hf
  rotate_left
  · cases hf
  rename_i id off hlk
  split at hf
  rotate_left
  · cases hf
  rename_i cs hcs
  split at hf
  rotate_left
  · cases hf
  rename_i g hg
  generalize hck : ((newsS base st).all (fun p => has dst p.1) && (news base.ms st.ms).all (fun p => Nat.ble base.ms.nx p.1) && base.gs.isEmpty && (st.ms.tp == base.ms.tp) && Nat.ble base.ms.nx id && Nat.beq off 0 && g.fz.all (Nat.ble base.ms.nx) && ownOK base.ms.nx [] g.fz g.own) = ck at hf
  cases ck with
  | false => cases hf
  | true =>
    injection hf with hf
    subst hf
    simp only [Bool.and_eq_true] at hck
    obtain ⟨⟨⟨⟨⟨⟨⟨k1, k2⟩, k3⟩, k4⟩, k5⟩, k6⟩, k7⟩, k8⟩ := hck
    have k3 : base.gs = [] := by simpa using k3
    have k4 : st.ms.tp = base.ms.tp := by simpa using k4
    have k5 : base.ms.nx ≤ id := Nat.le_of_ble_eq_true k5
    have k6 := beq_eq k6
    subst k6
    obtain ⟨ow1, ow2⟩ := ownOK_spec k8
    have ow0 : ∀ j i, g.own[j]? = some (some i) → base.ms.nx ≤ i := fun j i h => by
      have := (ow1 j i h).1
      unfold oldOK at this
      rw [show has ([] : List Nat) i = false from rfl, Bool.or_false] at this
      exact Nat.le_of_ble_eq_true this
    obtain ⟨fr1, ⟨lS, hlS⟩, ⟨lO, hlO⟩, htp⟩ := hs.fr
    have hnS : newsS base st = lS := by
      unfold newsS
      rw [hlS, List.length_append, show lS.length + base.sl.length - base.sl.length = lS.length by omega, List.take_left]
    have hnO : news base.ms st.ms = lO := by
      unfold news
      rw [hlO, List.length_append, show lO.length + base.ms.ob.length - base.ms.ob.length = lO.length by omega, List.take_left]
    rw [hnS] at k1
    rw [hnO] at k2
    obtain ⟨c1, ox1, t1, hH1, hT1⟩ := hs.rx.ox.freezes g.fz
    have F : Fz st.ms.mem c c1 w g.fz := ⟨hs.rx.ox, ox1, t1, hH1⟩
    obtain ⟨_, q2, q3, q4, q5⟩ := fitL_ok F (k0 := base.ms.nx) (own0 := some id :: g.own) shs [] cs () g hg (fun _ h => h) (base.ms.nx + 1) (Nat.le_succ _) (fun j o h => by rw [show base.ms.nx + 1 - base.ms.nx + j = j + 1 by omega]; exact h)
    generalize hI : instL shs [] g.v (base.ms.nx + 1) = I at q2 q3 q4 q5
    obtain ⟨ys, rs, rest⟩ := I
    simp only at q2 q3 q4 q5
    have hrl : rs.length = g.own.length := q2.1
    let nx := base.ms.nx
    let c2 := reCx c1 nx (some id :: g.own)
    have h2o : ∀ i, i < nx → c2.H i = c1.H i ∧ c2.F i = c1.F i := fun i hi => ⟨if_pos hi, if_pos hi⟩
    have h2n : c2.H nx = c1.H id ∧ c2.F nx = c1.F id := by
      have e : nx - nx = 0 := Nat.sub_self _
      refine ⟨?_, ?_⟩
      · show (if nx < nx then _ else _) = _
        rw [if_neg (Nat.lt_irrefl _), e]; rfl
      · show (if nx < nx then _ else _) = _
        rw [if_neg (Nat.lt_irrefl _), e]; rfl
    have h2r : ∀ j o, g.own[j]? = some o → c2.H (nx + 1 + j) = ownH c1.H o ∧ c2.F (nx + 1 + j) = ownF c1.F o := fun j o ho => by
      have e : nx + 1 + j - nx = j + 1 := by omega
      refine ⟨?_, ?_⟩
      · show (if nx + 1 + j < nx then _ else _) = _
        rw [if_neg (by omega), e, List.getElem?_cons_succ, ho]; rfl
      · show (if nx + 1 + j < nx then _ else _) = _
        rw [if_neg (by omega), e, List.getElem?_cons_succ, ho]; rfl
    have T1 : Tr base.ms.obs base.ms.U w0 c0 (ovr st.ms.mem.ob (fzU st.ms.mem.ob g.fz)) st.ms.mem.U w c1 := hs.tr.trans t1
    obtain ⟨hidU, hidI, hidA⟩ := hs.rx.ox.objs id _ hcs
    have hnxm : base.ms.nx ≤ st.ms.nx := by
      rcases Nat.lt_or_ge st.ms.nx base.ms.nx with hlt | hge
      · have := hs.tr.uU st.ms.nx (show st.ms.nx < base.ms.nx from hlt)
        exact absurd (show st.ms.nx < st.ms.nx from this) (Nat.lt_irrefl _)
      · exact hge
    have hold : ∀ x y, base.ms.obs x = some y → x < nx ∧ st.ms.obs x = some y := fun x y hx => by
      have hlt : x < nx := (hb.ox.objs x y hx).1
      refine ⟨hlt, ?_⟩
      show lookO st.ms.ob x = some y
      rw [hlO, lookO_app']
      cases hn : lookK lO x with
      | none => exact hx
      | some z =>
        have := List.all_eq_true.1 k2 (x, z) (lookK_mem hn)
        have := Nat.le_of_ble_eq_true this
        have hlt : x < base.ms.nx := hlt
        have this : base.ms.nx ≤ x := this
        omega
    have hfzn : ∀ i, i ∈ g.fz → nx ≤ i := fun i hi => Nat.le_of_ble_eq_true (List.all_eq_true.1 k7 i hi)
    have ob1 : ∀ i x, st.ms.obs i = some x → i ∉ g.fz → ovr st.ms.mem.ob (fzU st.ms.mem.ob g.fz) i = some x := fun i x hx hn => by
      rcases fzU_at st.ms.mem.ob g.fz i with ⟨e, _⟩ | ⟨_, _, _, _, _, e⟩ | ⟨_, _, _, _, _, _, _, _, e⟩
      · exact e.trans hx
      · exact absurd e hn
      · exact absurd e hn
    have obx : ovr st.ms.mem.ob (fzU st.ms.mem.ob g.fz) id = some (.box cs) := by
      rcases fzU_at st.ms.mem.ob g.fz id with ⟨e, _⟩ | ⟨e1, e2, e3, e4, _⟩ | ⟨e1, e2, e3, e5, e6, e7, e4, _⟩
      · exact e.trans hcs
      · have : st.ms.obs id = _ := e4
        rw [hcs] at this; cases this
      · have : st.ms.obs id = _ := e4
        rw [hcs] at this; cases this
    have hst2 : meetNS d shs base dst g.v = ⟨(d, .bx nx 0) :: (dst.map (fun x => (x, SV.un)) ++ base.sl), ⟨(nx, some (.box ys)) :: (rowsOb (nx + 1) rs ++ base.ms.ob), nx + 1 + rs.length, base.ms.tp⟩, base.n, [], []⟩ := by
      unfold meetNS; rw [hI]
    rw [hst2]
    have hobs : ∀ x y, lookO ((nx, some (.box ys)) :: (rowsOb (nx + 1) rs ++ base.ms.ob)) x = some y → (x = nx ∧ y = .box ys) ∨ (∃ j r o, x = nx + 1 + j ∧ rs[j]? = some r ∧ g.own[j]? = some o ∧ y = .row r.1 r.2.1 r.2.2) ∨ (x < nx ∧ base.ms.obs x = some y ∧ st.ms.obs x = some y) := fun x y hx => by
      rw [lookO_cons] at hx
      by_cases e : x = nx
      · subst e
        rw [put_same] at hx
        injection hx with hx
        exact .inl ⟨rfl, hx.symm⟩
      · rw [put_ne _ _ e, lookO_app'] at hx
        cases hr : lookK (rowsOb (nx + 1) rs) x with
        | some z =>
          rw [hr] at hx
          obtain ⟨j, r, h1, h2, h3⟩ := rowsOb_some hr
          have hx : z = some y := hx
          rw [h3] at hx
          injection hx with hx
          have hj : j < g.own.length := by rw [← hrl]; exact (List.getElem?_eq_some_iff.1 h2).1
          exact .inr (.inl ⟨j, r, g.own[j], h1, h2, List.getElem?_eq_getElem hj, hx.symm⟩)
        | none =>
          rw [hr] at hx
          have hx : base.ms.obs x = some y := hx
          obtain ⟨q1, q2⟩ := hold x y hx
          exact .inr (.inr ⟨q1, hx, q2⟩)
    -- where each object comes from
    have src : ∀ x y, lookO ((nx, some (.box ys)) :: (rowsOb (nx + 1) rs ++ base.ms.ob)) x = some y → y.own = true → ∀ b, c2.F x b → ∃ x' y', ovr st.ms.mem.ob (fzU st.ms.mem.ob g.fz) x' = some y' ∧ y'.own = true ∧ c1.F x' b ∧ ((x' = id ∧ x = nx ∧ y' = .box cs) ∨ (∃ j r, x = nx + 1 + j ∧ g.own[j]? = some (some x') ∧ nx ≤ x' ∧ y' = Ob.row (r : Row).1 r.2.1 r.2.2) ∨ (x' = x ∧ x < nx)) := by
      intro x y hx hy b hb2
      rcases hobs x y hx with ⟨rfl, rfl⟩ | ⟨j, r, o, h1, h2, h3, h4⟩ | ⟨h1, h2, h3⟩
      · rw [h2n.2] at hb2
        exact ⟨id, _, obx, rfl, hb2, .inl ⟨rfl, rfl, rfl⟩⟩
      · subst h1
        rw [(h2r j o h3).2] at hb2
        cases o with
        | none => exact hb2.elim
        | some id' =>
          have hrow := q2.2 j (some id') r h3 h2
          have hnf : id' ∉ g.fz := fun hm => by have := (ow1 j id' h3).2; rw [has_mem hm] at this; cases this
          exact ⟨id', _, ob1 id' _ hrow hnf, rfl, hb2, .inr (.inl ⟨j, r, rfl, h3, ow0 j id' h3, rfl⟩)⟩
      · rw [(h2o x h1).2] at hb2
        exact ⟨x, y, ob1 x y h3 (fun hm => by have := hfzn x hm; omega), hy, hb2, .inr (.inr ⟨rfl, h1⟩)⟩
    have hUb : ∀ i, base.ms.U i → i < nx + 1 + rs.length := fun i hi => by have hi : i < nx := hi; omega
    have hU2 : ∀ {x : SV}, x.inU (fun i => i < base.ms.nx ∨ base.ms.nx + 1 ≤ i ∧ i < base.ms.nx + 1 + g.own.length) → x.inU (fun i => i < nx + 1 + rs.length) := fun {x} hx => by
      refine SV.inU_mono (fun i hi => ?_) x hx
      show i < base.ms.nx + 1 + rs.length
      omega
    have hU3 : inUL (fun i => i < nx + 1 + rs.length) ys := inUL_of fun i s hs => hU2 (inUL_get q3 hs)
    have old : ∀ {x : SV} {u : Value}, x.inU base.ms.U → SRel c w x u → SRel c2 w x u := fun hu hr => by
      have h1 := t1.srel hs.rx.ox hr (SV.inU_mono hs.tr.uU _ hu)
      exact SRel.mono (c := c1) (c' := c2) (U := base.ms.U) (fun _ _ h => h) (fun _ _ _ => rfl) (fun _ h => h) (fun i hi => (h2o i hi).1) h1 hu
    have oxI : OXM ⟨(nx, some (.box ys)) :: (rowsOb (nx + 1) rs ++ base.ms.ob), nx + 1 + rs.length, base.ms.tp⟩ w c2 := by
      refine ⟨ox1.sb, fun x y hx => ?_, fun x y hx hy b hb2 => ?_, fun i j x y hx ox hy oy hne b hb2 hb3 => ?_, ox1.nT, fun e => ox1.tpe (k4.trans e), fun e => ox1.tF (k4.trans e)⟩
      · rcases hobs x y hx with ⟨rfl, rfl⟩ | ⟨j, r, o, h1, h2, h3, h4⟩ | ⟨h1, h2, h3⟩
        · refine ⟨by show nx < nx + 1 + rs.length; omega, hU3, ?_⟩
          obtain ⟨b, arr, tt, e1, e2, e3, e4, e5, e6⟩ := hidA
          refine ⟨b, arr, tt, h2n.1.trans (by rw [hH1]; exact e1), fun x => by rw [h2n.2, (t1.hH id hidU).2]; exact e2 x, e3, e4.trans q4, e5, fun j s u hjs hju => ?_⟩
          have hjl : j < cs.length := by rw [q4]; exact (List.getElem?_eq_some_iff.1 hjs).1
          exact q5 j cs[j] s (List.getElem?_eq_getElem hjl) hjs (e6 j _ u (List.getElem?_eq_getElem hjl) hju)
        · subst h1 h4
          refine ⟨?_, trivial, ?_⟩
          · show nx + 1 + j < nx + 1 + rs.length
            have := (List.getElem?_eq_some_iff.1 h2).1
            omega
          · show RowAt w c2.S (c2.H (nx + 1 + j)) (c2.F (nx + 1 + j)) _ _ _
            rw [(h2r j o h3).1, (h2r j o h3).2]
            have hrow := q2.2 j o r h3 h2
            cases o with
            | none =>
              obtain ⟨e1, e2⟩ := hrow
              rw [e1]
              exact ⟨e2, .inl ⟨rfl, ⟨none, rfl⟩, fun _ h => h⟩⟩
            | some id' =>
              have hnf : id' ∉ g.fz := fun hm => by have := (ow1 j id' h3).2; rw [has_mem hm] at this; cases this
              exact (ox1.objs id' _ (ob1 id' _ hrow hnf)).2.2
        · have u2 := (hb.ox.objs x y h2).2.1
          have h3' := (ox1.objs x y (ob1 x y h3 (fun hm => by have := hfzn x hm; omega))).2.2
          exact ⟨hUb x h1, Ob.inU_mono hUb u2, h3'.keep (U := base.ms.U) u2 (fun _ _ h => h) (fun _ _ _ => rfl) (fun _ h => h) (fun i hi => (h2o i hi).1) (h2o x h1) (fun _ _ _ => rfl)⟩
      · obtain ⟨x', y', e1, e2, e3, _⟩ := src x y hx hy b hb2
        exact ox1.fb x' y' e1 e2 b e3
      · obtain ⟨i', x', e1, e2, e3, e4⟩ := src i x hx ox b hb2
        obtain ⟨j', y', d1, d2, d3, d4⟩ := src j y hy oy b hb3
        have hij : i' ≠ j' := fun e => by
          subst e
          have hxy : x' = y' := by rw [e1] at d1; exact Option.some.inj d1
          rcases e4 with ⟨a1, a2, a3⟩ | ⟨q, r, a1, a2, a3, a4⟩ | ⟨a1, a2⟩
          · rcases d4 with ⟨b1, b2, b3⟩ | ⟨q', r', b1, b2, b3, b4⟩ | ⟨b1, b2⟩
            · exact hne (a2.trans b2.symm)
            · rw [a3, b4] at hxy; cases hxy
            · subst b1; rw [a1] at b2; have b2 : id < base.ms.nx := b2; omega
          · rcases d4 with ⟨b1, b2, b3⟩ | ⟨q', r', b1, b2, b3, b4⟩ | ⟨b1, b2⟩
            · rw [a4, b3] at hxy; cases hxy
            · by_cases hqq : q = q'
              · subst hqq; exact hne (a1.trans b1.symm)
              · exact ow2 q q' i' hqq a2 b2
            · subst b1; have a3 : base.ms.nx ≤ i' := a3; have b2 : i' < base.ms.nx := b2; omega
          · rcases d4 with ⟨b1, b2, b3⟩ | ⟨q', r', b1, b2, b3, b4⟩ | ⟨b1, b2⟩
            · subst a1; rw [b1] at a2; have a2 : id < base.ms.nx := a2; omega
            · subst a1; have b3 : base.ms.nx ≤ i' := b3; have a2 : i' < base.ms.nx := a2; omega
            · exact hne (a1.symm.trans b1)
        exact ox1.dj i' j' x' y' e1 e2 d1 d2 hij b e3 d3
    have hlook : ∀ x, look ((d, SV.bx nx 0) :: (dst.map (fun x => (x, SV.un)) ++ base.sl)) x = if d = x then .bx nx 0 else (if has dst x = true then .un else look base.sl x) := fun x => by
      rw [look_cons, look_app, lookK_un (fun _ => SV.un)]
      by_cases h1 : d = x
      · rw [if_pos h1, if_pos h1]
      · rw [if_neg h1, if_neg h1]
        by_cases h2 : has dst x = true
        · rw [if_pos h2, if_pos h2]; rfl
        · rw [if_neg h2, if_neg h2]; rfl
    refine ⟨c2, ⟨oxI, hs.rx.sz.trans fr1, fun x u hx => ?_, fun x => ?_, fun x q wt gg y hx => ?_⟩, ?_, hs.df, rfl, ⟨(d, SV.bx nx 0) :: dst.map (fun x => (x, SV.un)), rfl⟩, ⟨(nx, some (.box ys)) :: rowsOb (nx + 1) rs, rfl⟩, fun h => h⟩
    · have hu := hs.rx.sl x u hx
      show SRel c2 w (look ((d, SV.bx nx 0) :: (dst.map (fun x => (x, SV.un)) ++ base.sl)) x) u
      rw [hlook]
      split
      · rename_i e
        subst e
        rw [hlk] at hu
        obtain ⟨b, e1, rfl⟩ := srel_bx hu
        exact .bx _ _ b (h2n.1.trans (by rw [hH1]; exact e1))
      · split
        · exact .un _
        · rename_i hn
          refine old (hb.us x) ?_
          rw [hlS, look_app] at hu
          cases hz : lookK lS x with
          | none => rw [hz] at hu; exact hu
          | some z => exact absurd (List.all_eq_true.1 k1 (x, z) (lookK_mem hz)) hn
    · show (look ((d, SV.bx nx 0) :: (dst.map (fun x => (x, SV.un)) ++ base.sl)) x).inU _
      rw [hlook]
      split
      · show nx < nx + 1 + rs.length
        omega
      · split
        · trivial
        · exact SV.inU_mono hUb _ (hb.us x)
    · have hx : look ((d, SV.bx nx 0) :: (dst.map (fun x => (x, SV.un)) ++ base.sl)) x = .cnd q wt gg y := hx
      rw [hlook] at hx
      split at hx
      · cases hx
      · split at hx
        · cases hx
        · have := (hb.cn x q wt gg y hx).1
          rw [k3] at this; cases this
    · refine ⟨T1.os, T1.tape, T1.output, T1.sz, T1.tK, T1.tN, hUb, fun i hi => ?_, T1.sS, T1.sN, T1.blk, fun b hb2 => ?_⟩
      · exact ⟨(h2o i hi).1.trans (T1.hH i hi).1, (h2o i hi).2.trans (T1.hH i hi).2⟩
      · obtain ⟨x, y, hx, hy, hb3⟩ := hb2
        obtain ⟨x', y', e1, e2, e3, _⟩ := src x y hx hy b hb3
        exact T1.fp b ⟨x', y', e1, e2, e3⟩
def lookN : List (Nat × (Nat × List Sh)) → Nat → Option (Nat × List Sh)
  | [], _ => none
  | p :: r, x => bif Nat.beq p.1 x then some p.2 else lookN r x
def drawN (τ : TypeId → Option Ty) (mt : Nat → Option (Nat × List Sh)) (dr0 : DR) : DR := fun id cp ops st K => match mt id with
  | none => dr0 id cp ops st K
  | some (d, shs) => JOIN (shTL shs []) (lam (shTL shs []) fun v => K (meetNS d shs st (dstL ops) v)) fun J => dr0 id cp ops st fun st' => match meetN d shs st st' (dstL ops) with
    | some v => app (shTL shs []) J v
    | none => False
theorem drawN_ok (τ : TypeId → Option Ty) (mt : Nat → Option (Nat × List Sh)) {dr0 : DR} (h0 : DrOK P dr0) : DrOK P (drawN τ mt dr0) := by
  intro id cp ops st K hcp h
  unfold drawN at h
  split at h
  · exact h0 id cp ops st K hcp h
  · rename_i d shs _
    obtain ⟨h⟩ := h
    intro a w c hr
    refine wp_mono (h0 id cp ops st _ hcp h a w c hr) ?_
    rintro e a' w' ⟨st', c', k1, rfl, hk⟩
    split at hk
    · rename_i v hv
      rw [app_lam] at hk
      obtain ⟨c2, k3⟩ := meetN_ok hv hr k1
      exact ⟨_, c2, k3, rfl, hk⟩
    · exact hk.elim
end RE
end Go.Proofs.Ytpnmiieohdkenaa
namespace Go.Proofs.Ytpnmiieohdkenaa
open Go.RowKit
set_option linter.unusedVariables false
namespace RE
variable {P : Program}
/-- A list's spine. -/
def fLi {β : Type} {α : Sort _} : List β → (List β → α) → α
  | [], k => k []
  | x :: r, k => fLi r fun r => k (x :: r)
theorem fLi_eq {β : Type} {α : Sort _} : ∀ (l : List β) (k : List β → α), fLi l k = k l
  | [], k => rfl
  | x :: r, k => by unfold fLi; rw [fLi_eq r]
def fBs {α : Sort _} : List Bool → (List Bool → α) → α
  | [], k => k []
  | true :: r, k => fBs r fun r => k (true :: r)
  | false :: r, k => fBs r fun r => k (false :: r)
theorem fBs_eq {α : Sort _} : ∀ (l : List Bool) (k : List Bool → α), fBs l k = k l
  | [], k => rfl
  | true :: r, k => by unfold fBs; rw [fBs_eq r]
  | false :: r, k => by unfold fBs; rw [fBs_eq r]
def fPr {β γ : Type} {α : Sort _} : List (β × γ) → (List (β × γ) → α) → α
  | [], k => k []
  | (x, y) :: r, k => fPr r fun r => k ((x, y) :: r)
theorem fPr_eq {β γ : Type} {α : Sort _} : ∀ (l : List (β × γ)) (k : List (β × γ) → α), fPr l k = k l
  | [], k => rfl
  | (x, y) :: r, k => by unfold fPr; rw [fPr_eq r]
def fV {α : Sort _} : Value → (Value → α) → α
  | .bool b, k => k (.bool b)
  | .int t z, k => k (.int t z)
  | u, k => k u
theorem fV_eq {α : Sort _} (u : Value) (k : Value → α) : fV u k = k u := by cases u <;> rfl
def fD {α : Sort _} : D → (D → α) → α
  | .v u, k => fV u fun u => k (.v u)
  | .agg cs, k => fLi cs fun cs => k (.agg cs)
  | .tup cs, k => fLi cs fun cs => k (.tup cs)
  | d, k => k d
theorem fD_eq {α : Sort _} (d : D) (k : D → α) : fD d k = k d := by
  cases d <;> first | rfl | exact fV_eq _ _ | exact fLi_eq _ _
def fSV {α : Sort _} : SV → (SV → α) → α
  | .d x, k => fD x fun x => k (.d x)
  | .cnd q w g y, k => fSV y fun y => k (.cnd q w g y)
  | .agg cs, k => fLi cs fun cs => k (.agg cs)
  | .tup cs, k => fLi cs fun cs => k (.tup cs)
  | s, k => k s
theorem fSV_eq {α : Sort _} : ∀ (s : SV) (k : SV → α), fSV s k = k s
  | .d x, k => by unfold fSV; exact fD_eq _ _
  | .cnd q w g y, k => by unfold fSV; exact fSV_eq y _
  | .agg cs, k => by unfold fSV; exact fLi_eq _ _
  | .tup cs, k => by unfold fSV; exact fLi_eq _ _
  | .bx _ _, k => rfl
  | .os _, k => rfl
  | .sub _ _ _ _, k => rfl
  | .op _ _ _ _, k => rfl
  | .fn _ _, k => rfl
  | .tp, k => rfl
  | .un, k => rfl
  | .ns _, k => rfl
  | .np _ _ _ _, k => rfl
  | .inn _ _, k => rfl
  | .ip _ _ _ _ _, k => rfl
def fSl {α : Sort _} : List (Nat × SV) → (List (Nat × SV) → α) → α
  | [], k => k []
  | (x, v) :: r, k => fSV v fun v => k ((x, v) :: r)
theorem fSl_eq {α : Sort _} (l : List (Nat × SV)) (k : List (Nat × SV) → α) : fSl l k = k l := by
  cases l with
  | nil => rfl
  | cons p r => obtain ⟨x, v⟩ := p; exact fSV_eq _ _
def fSt {α : Sort _} : St → (St → α) → α
  | ⟨sl, ⟨ob, nx, tp⟩, n, gs, gd⟩, k => fSl sl fun sl => fPr ob fun ob => fLi gs fun gs => fLi gd fun gd => k ⟨sl, ⟨ob, nx, tp⟩, n, gs, gd⟩
theorem fSt_eq {α : Sort _} (st : St) (k : St → α) : fSt st k = k st := by
  obtain ⟨sl, ⟨ob, nx, tp⟩, n, gs, gd⟩ := st
  show (fSl sl fun sl => fPr ob fun ob => fLi gs fun gs => fLi gd fun gd => k ⟨sl, ⟨ob, nx, tp⟩, n, gs, gd⟩) = _
  rw [fSl_eq, fPr_eq, fLi_eq, fLi_eq]
def fAr {α : Sort _} : Array Bool → (Array Bool → α) → α
  | ⟨l⟩, k => fBs l fun l => k ⟨l⟩
theorem fAr_eq {α : Sort _} (L : Array Bool) (k : Array Bool → α) : fAr L k = k L := by
  obtain ⟨l⟩ := L
  exact fBs_eq _ _
def fRes {α : Sort _} : PRes → (PRes → α) → α
  | ⟨ps, fs, r⟩, k => fLi ps fun ps => fLi fs fun fs => fSV r fun r => k ⟨ps, fs, r⟩
theorem fRes_eq {α : Sort _} (R : PRes) (k : PRes → α) : fRes R k = k R := by
  obtain ⟨ps, fs, r⟩ := R
  show (fLi ps fun ps => fLi fs fun fs => fSV r fun r => k ⟨ps, fs, r⟩) = _
  rw [fLi_eq, fLi_eq, fSV_eq]
theorem WF.lenS {t ty : TypeId} {e : TypeId} (he : elemOf P t = some e) (u : Value) : WF P (Builtin.len_ #[t] ty #[u]) := by
  obtain ⟨inf, hu', _⟩ := elemOf_spec he
  intro w v w1 h
  have key : ∀ w', (Builtin.len_ #[t] ty #[u]).run P w' = match u with | .slice _ n _ => .ok (goInt n) w' | _ => (Builtin.len_ #[t] ty #[u]).run P w' := fun w' => by
    cases u <;> first | rfl | simp [Builtin.len_, run_underlying hu']
  cases u with
  | slice a n c =>
    have e1 := key w
    simp only at e1
    rw [e1] at h
    injection h with h1 h2
    subst h1 h2
    exact ⟨rfl, fun w' => key w'⟩
  | _ => simp [Builtin.len_, run_underlying hu'] at h

/-- Lengths of slices are known ahead, too. -/
def lenOp (P : Program) (o : Oper) : Bool := match isLen o.op with
  | some (t, _) => (elemOf P t).isSome
  | none => false
theorem lenOp_ok {o : Oper} (h : lenOp P o = true) (ev : Operand → Value) : ∃ s, execOp ev o = valS s ∧ WF P s := by
  unfold lenOp at h
  split at h
  · rename_i t x hl
    obtain ⟨e, he'⟩ := Option.isSome_iff_exists.1 h
    have hc := isLen_spec hl
    exact ⟨Builtin.len_ #[t] o.type #[ev x], by simp [execOp, hc, resolve, invoke, builtin, valS], WF.lenS he' _⟩
  · cases h
def flKL (P : Program) (m : Mem) (pr : List Nat) (ρ : Operand → SV) (o : Oper) : Option (List Prop × Bool) := bif lenOp P o then some ([], false) else flK P m pr ρ o
theorem flKL_ok {m : Mem} {pr : List Nat} {ρ : Operand → SV} {o : Oper} {ps : List Prop} {lk : Bool} (h : flKL P m pr ρ o = some (ps, lk)) {R : PRes} (hp : popS P m ρ o = some R) {a : Act} {w : World} {c : Cx} (hr : RelsC m ρ a w c) (h1 : allL ps) (h2 : allL R.ps) :
    ∃ v, SRel c w R.r v ∧ R.r.inU m.U ∧ allL R.fs ∧ ∀ w', (lk = true → Looks c m.ob pr w w') → (execOp a.eval o).run P w' = .ok (.value v) w' := by
  unfold flKL at h
  cases hw : lenOp P o with
  | true =>
    obtain ⟨v, k1, k2, k3, k4⟩ := popS_run hp hr h2
    obtain ⟨s, e1, e2⟩ := lenOp_ok hw a.eval
    refine ⟨v, k2, k3, k4, fun w' _ => ?_⟩
    rw [e1] at k1 ⊢
    have hv : WF P (valS s) := WF.bind e2 fun _ => .pure _
    exact (hv w _ _ k1).2 w'
  | false => rw [hw] at h; exact flK_ok h hp hr h1 h2
/-- An operation that is done ahead. -/
def fstepL (P : Program) (pr : List Nat) (all : Array Oper) (o : Oper) (st : St) : Option (Bool × ((St → Prop) → Prop)) :=
  match o.guard with
  | none => match popS P st.ms.mem st.ev o, flKL P st.ms.mem pr st.ev o with
    | some R, some (ps, lk) => bif dstOK st o.dst then some (lk, fun K => andL ps (andL R.ps (impL R.fs (K (st.set o.dst R.r st.ms))))) else none
    | _, _ => none
  | some (j, want) => match (all[j]?).bind (·.dst), o.dst with
    | some q, some d => match guardG want (look st.sl q) with
      | some G => bif dstOK st (some d) && !(Nat.beq q d) && Nat.blt q st.n then match popS P st.ms.mem (fun x => stripS q want (st.ev x)) o, flKL P st.ms.mem pr (fun x => stripS q want (st.ev x)) o with
          | some R, some (ps, lk) => bif R.r.lowN st.ms.nx then some (lk, fun K => andL (ps.map (G = true → ·)) (andL (R.ps.map (G = true → ·)) (impL (R.fs.map (G = true → ·)) (K (st.setG d q want G R.r))))) else none
          | _, _ => none
        else none
      | none => none
    | _, _ => none
theorem fstepL_ok {pr : List Nat} {all : Array Oper} {o : Oper} {st : St} {lk : Bool} {T : (St → Prop) → Prop} (h : fstepL P pr all o st = some (lk, T)) {K : St → Prop} (hT : T K) {a : Act} {w : World} {c : Cx} (hr : RX st a w c) :
    ∃ v st', YieldsIf P all (fun w' => lk = true → Looks c st.ms.obs pr w w') o v a ∧ RX st' (a.put o.dst v) w c ∧ st'.ms = st.ms ∧ Fr st st' ∧ K st' := by
  unfold fstepL at h
  split at h
  · rename_i hg
    split at h
    · rename_i R ps lk' hp hf
      cases hd : dstOK st o.dst with
      | false => rw [hd] at h; cases h
      | true =>
        rw [hd] at h
        simp only [cond_true, Option.some.injEq, Prod.mk.injEq] at h
        obtain ⟨rfl, rfl⟩ := h
        obtain ⟨t1, hT⟩ := andL_spec hT
        obtain ⟨t2, hT⟩ := andL_spec hT
        obtain ⟨v, k1, k2, k3, k4⟩ := flKL_ok hf hp hr.rels t1 t2
        exact ⟨v, _, .inl ⟨by simp [Region.wanted, hg], k4⟩, hr.set .refl hr.ox hd k1 k2, by cases o.dst <;> rfl, .set (.refl _), impL_spec hT k3⟩
    · cases h
  · rename_i j want hg
    split at h
    · rename_i q d hq hdst
      split at h
      · rename_i G hG
        cases hb : (dstOK st (some d) && !(Nat.beq q d) && Nat.blt q st.n) with
        | false => rw [hb] at h; cases h
        | true =>
          rw [hb] at h
          simp only [Bool.and_eq_true, Bool.not_eq_true'] at hb
          obtain ⟨⟨b1, b2⟩, b3⟩ := hb
          have hqd : q ≠ d := fun e => by rw [e] at b2; simp at b2
          have hlt : q < st.n := Nat.le_of_ble_eq_true b3
          simp only [cond_true] at h
          split at h
          · rename_i R ps lk' hp hf
            cases hl : R.r.lowN st.ms.nx with
            | false => rw [hl] at h; cases h
            | true =>
              rw [hl] at h
              simp only [cond_true, Option.some.injEq, Prod.mk.injEq] at h
              obtain ⟨rfl, rfl⟩ := h
              obtain ⟨t1, hT⟩ := andL_spec hT
              obtain ⟨t2, hT⟩ := andL_spec hT
              have hwt : Region.wanted o (yielded all a.tmps) = G := wanted_of hg hq hlt hr hG
              rw [hdst]
              cases hGv : G with
              | true =>
                obtain ⟨v, k1, k2, k3, k4⟩ := flKL_ok hf hp (stripS_rel hr hlt hG hGv) (andL_map hGv t1) (andL_map hGv t2)
                refine ⟨v, st.setG d q want true R.r, .inl ⟨by rw [hwt, hGv], k4⟩, hr.setG .refl hr.ox b1 hqd (by rw [hG, hGv]) (fun _ => k1) (fun e => by cases e) k2, rfl, .setG, ?_⟩
                have := impL_spec hT (allL_map fun _ => k3)
                rw [hGv] at this; exact this
              | false =>
                refine ⟨undef, st.setG d q want false R.r, .inr ⟨by rw [hwt, hGv], rfl⟩, hr.setG .refl hr.ox b1 hqd (by rw [hG, hGv]) (fun e => by cases e) (fun _ => rfl) (SV.lowN_inU _ hl), rfl, .setG, ?_⟩
                have := impL_spec hT (allL_map fun e => by rw [hGv] at e; cases e)
                rw [hGv] at this; exact this
          · cases h
      · cases h
    · cases h
/-- An operation that is done ahead. -/
def fstepF (P : Program) (pr : List Nat) (all : Array Oper) (o : Oper) (st : St) : Option (Bool × ((St → Prop) → Prop)) :=
  match o.guard with
  | none => match popS P st.ms.mem st.ev o, flKL P st.ms.mem pr st.ev o with
    | some R, some (ps, lk) => bif dstOK st o.dst then some (lk, fun K => fRes R fun R => fLi ps fun ps => andL ps (andL R.ps (impL R.fs (K (st.set o.dst R.r st.ms))))) else none
    | _, _ => none
  | some (j, want) => match (all[j]?).bind (·.dst), o.dst with
    | some q, some d => match guardG want (look st.sl q) with
      | some G => bif dstOK st (some d) && !(Nat.beq q d) && Nat.blt q st.n then match popS P st.ms.mem (fun x => stripS q want (st.ev x)) o, flKL P st.ms.mem pr (fun x => stripS q want (st.ev x)) o with
          | some R, some (ps, lk) => bif R.r.lowN st.ms.nx then some (lk, fun K => fRes R fun R => fLi ps fun ps => andL (ps.map (G = true → ·)) (andL (R.ps.map (G = true → ·)) (impL (R.fs.map (G = true → ·)) (K (st.setG d q want G R.r))))) else none
          | _, _ => none
        else none
      | none => none
    | _, _ => none
theorem fstepF_eq : fstepF P = fstepL P := by
  funext pr all o st
  unfold fstepF fstepL
  simp only [fRes_eq, fLi_eq]
def devalF (fs : Nat → FS) (ao : AO) (all : Array Oper) (prL : Nat → List Nat) : Nat → Array Bool → Bool → St → (St → Prop) → Prop
  | 0, L, fr, st, K => match Region.ready .any all L with
    | [] => K st.endR
    | _ => False
  | n + 1, L, fr, st, K => fLi (Region.ready .any all L) fun rs => match rs with
    | [] => K st.endR
    | a :: b => match pickF fs all L fr st (a :: b) with
      | some (i, o, T) => T fun st' => fSt st' fun st' => fAr (L.setIfInBounds i true) fun L' => devalF fs ao all prL n L' fr st' K
      | none => conjL (a :: b) fun i => match all[i]? with
        | some o => fLi (prX all prL o i) fun X => bif ownAt st.ms.obs X then fLi (softL st.ms.obs X) fun Y => ao i o (st.ban Y) fun st1 => match unban Y st st1 with
            | some st' => bif (news st.ms st'.ms).all (fun p => !(has X p.1)) then fSt st' fun st' => fAr (L.setIfInBounds i true) fun L' => devalF fs ao all prL n L' false st' K else False
            | none => False
          else False
        | none => False
theorem devalF_eq {fs : Nat → FS} {ao : AO} {all : Array Oper} {prL : Nat → List Nat} : ∀ (n : Nat) (L : Array Bool) (fr : Bool) (st : St) (K : St → Prop), devalF fs ao all prL n L fr st K = deval fs ao all prL n L fr st K
  | 0, L, fr, st, K => rfl
  | n + 1, L, fr, st, K => by
    unfold devalF deval
    rw [fLi_eq]
    split
    · rename_i h; simp only [h]
    · rename_i a b h
      simp only [h]
      split
      · rename_i i o T hp
        try rw [hp]
        simp only [fSt_eq, fAr_eq, devalF_eq n]
      · rename_i hp
        try rw [hp]
        simp only [fSt_eq, fAr_eq, fLi_eq, devalF_eq n]
        try rfl
def drawL (P : Program) (τ : TypeId → Option Ty) : DR := fun id cp ops st K =>
  bif P.follows .mixedOrders && Region.noSelect ops then deval (fun i => fstepL P (prOf (scanQ P st.ms st.n ops.toList 0 st.sl) i) ops) (fun i o => aop1 P τ (cp i) ops o) ops (prOf (scanQ P st.ms st.n ops.toList 0 st.sl)) ops.size (Array.replicate ops.size false) true st K else False
theorem drawL_ok (τ : TypeId → Option Ty) : DrOK P (drawL P τ) := by
  intro id cp ops st K hcp h a w c hr
  unfold drawL at h
  cases hb : (P.follows .mixedOrders && Region.noSelect ops) with
  | false => rw [hb] at h; exact h.elim
  | true =>
    rw [hb] at h
    obtain ⟨b1, b2⟩ := Bool.and_eq_true_iff.1 hb
    obtain ⟨hr1, t1⟩ := hr.drew
    let Qx : Exit → Act → World → Prop := fun e a' w' => e = .normal ∧ ∃ st' c', Step st a w c st' a' w' c' ∧ K st'
    refine wp_mono (Q := Qx) ?_ (fun e a' w' ⟨he, st', c', k1, k2⟩ => ⟨st', c', k1, he, k2⟩)
    refine wp_region_any b1 (wpAny_of_T _ _ _ _ (deval_ok (fs := fun i => fstepL P (prOf (scanQ P st.ms st.n ops.toList 0 st.sl) i) ops) (ao := fun i o => aop1 P τ (cp i) ops o) (prL := prOf (scanQ P st.ms st.n ops.toList 0 st.sl)) (fun h _ hT _ _ _ hr => fstepL_ok h hT hr) (fun ho _ _ h _ _ _ hr _ _ hQ => aop1_ok (hcp _) ho h hr hQ) b2 hr1 _ _ _ _ _ .start h _ _ _ hr1 (fun _ => ⟨rfl, rfl, rfl⟩) .refl Qx (fun ch a w hh => by cases hh.1) fun st' a' w' c' hs hk => ⟨rfl, st', c', Step.trans ⟨hr1, t1, rfl, .refl _⟩ hs, hk⟩))
def drawF (P : Program) (τ : TypeId → Option Ty) : DR := fun id cp ops st K =>
  bif P.follows .mixedOrders && Region.noSelect ops then fPr (scanQ P st.ms st.n ops.toList 0 st.sl) fun tb => fSt st fun st => devalF (fun i => fstepF P (prOf tb i) ops) (fun i o => aop1 P τ (cp i) ops o) ops (prOf tb) ops.size (Array.replicate ops.size false) true st K else False
theorem drawF_eq (τ : TypeId → Option Ty) : drawF P τ = drawL P τ := by
  funext id cp ops st K
  unfold drawF drawL
  rw [fPr_eq, fSt_eq, devalF_eq, fstepF_eq]
theorem drawF_ok (τ : TypeId → Option Ty) : DrOK P (drawF P τ) := by
  rw [drawF_eq]
  exact drawL_ok τ
end RE
end Go.Proofs.Ytpnmiieohdkenaa
namespace Go.Proofs.Ytpnmiieohdkenaa
open Go.RowKit
set_option linter.unusedVariables false
namespace RE
variable {P : Program}
/-- A contract: a row (elements t, type e) changed in place; other arguments; a closure g that captures a box in which a value of tc lies. -/
structure Spec5 where
  f : FuncId
  e : TypeId
  t : Ty
  ts : List Ty
  g : FuncId
  tc : Ty
  pt : List (den t) → dens ts → den tc → (List (den t) → Prop) → Prop
def Spec5.args (s : Spec5) (x : dens s.ts) (y : den s.tc) : List D := tvs s.ts x ++ [.fn s.g [.p (enc s.tc y)]]
def Spec5OK (P : Program) (s : Spec5) : Prop := ∀ l x y post, s.pt l x y post → ∀ w (S : Cells) (v : Value) (F : Nat → Prop) (us : List Value), RowAt w S v F s.e s.t l → (∀ b o, S b o → b < w.heap.size) → (∀ b, F b → b < w.heap.size ∧ ∀ k, ¬ S b k) →
  us.length = (s.args x y).length → (∀ (i : Nat) (d : D) (u : Value), (s.args x y)[i]? = some d → us[i]? = some u → Rd S w d u) →
  Calls P s.f (v :: us).toArray w fun e' w' => ∃ r l', e' = .returned r ∧ post l' ∧ RowAt w' S v F s.e s.t l' ∧ w'.os = w.os ∧ w'.tape = w.tape ∧ w'.output = w.output ∧ w.heap.size ≤ w'.heap.size ∧ ∀ b, b < w.heap.size → ¬ F b → w'.heap[b]? = w.heap[b]?
theorem RowAt.flat {w : World} {S S' : Cells} {v : Value} {F : Nat → Prop} {e : TypeId} {t : Ty} {l : List (den t)} (h : RowAt w S v F e t l) (hf : flatT t = true) : RowAt w S' v F e t l := by
  obtain ⟨h0, h | ⟨g, cap, cur, hv, hF, hg, q1, q2, q3, q4⟩⟩ := h
  · exact ⟨h0, .inl h⟩
  · refine ⟨h0, .inr ⟨g, cap, cur, hv, hF, hg, q1, q2, q3, fun i x hi j d hd => ?_⟩⟩
    obtain ⟨u, u1, u2, u3⟩ := q4 i x hi j d hd
    exact ⟨u, u1, u2, u3.flat (flatL_get (enc_flat hf) hd)⟩
def datL : List SV → Option (List D)
  | [] => some []
  | .d x :: r => match datL r with
    | some ds => some (x :: ds)
    | none => none
  | _ :: _ => none
theorem datL_spec : ∀ {ss : List SV} {ds : List D}, datL ss = some ds → ss = ds.map SV.d
  | [], ds, h => by simp [datL] at h; subst h; rfl
  | .d x :: r, ds, h => by
    unfold datL at h
    split at h
    · rename_i ds' h'
      injection h with h
      subst h
      rw [datL_spec h']; rfl
    · cases h
  | .bx _ _ :: _, _, h | .os _ :: _, _, h | .sub _ _ _ _ :: _, _, h | .op _ _ _ _ :: _, _, h | .agg _ :: _, _, h | .tup _ :: _, _, h | .fn _ _ :: _, _, h | .cnd _ _ _ _ :: _, _, h | .tp :: _, _, h | .un :: _, _, h | .ns _ :: _, _, h | .np _ _ _ _ :: _, _, h | .inn _ _ :: _, _, h | .ip _ _ _ _ _ :: _, _, h => by cases h
/-- The box that a closure captures, and what lies in it. -/
def capB (m : MS) (g : FuncId) : SV → Option (Option Nat × List D)
  | .d (.fn f [.p ds]) => bif Nat.beq f g then some (none, ds) else none
  | .fn f [.bx id off] => bif Nat.beq f g && Nat.beq off 0 then (match m.obs id with
      | some (.box cs) => (dOf cs).map fun ds => (some id, ds)
      | _ => none) else none
  | .fn f [.d (.p ds)] => bif Nat.beq f g then some (none, ds) else none
  | _ => none
def lastS : List SV → Option (List SV × SV)
  | [] => none
  | [x] => some ([], x)
  | x :: r => match lastS r with
    | some (a, b) => some (x :: a, b)
    | none => none
theorem lastS_spec : ∀ {l a : List SV} {b : SV}, lastS l = some (a, b) → l = a ++ [b]
  | [], a, b, h => by cases h
  | [x], a, b, h => by simp [lastS] at h; obtain ⟨rfl, rfl⟩ := h; rfl
  | x :: y :: r, a, b, h => by
    unfold lastS at h
    split at h
    · rename_i a' b' h'
      simp only [Option.some.injEq, Prod.mk.injEq] at h
      obtain ⟨rfl, rfl⟩ := h
      rw [lastS_spec h']; rfl
    · cases h
def neO : Option Nat → Nat → Bool
  | none, _ => true
  | some b, i => !(Nat.beq b i)
def byCon5 (s : Spec5) (ss : List SV) (m : MS) (k : SV → MS → Prop) : Prop := match ss with
  | .os id :: r => match lastS r with
    | some (as, cl) => match datL as, capB m s.g cl with
      | some ds, some (ob, cs) => match undoL s.ts ds, dec s.tc cs with
        | some x, some y => match m.obs id with
          | some (.row e t l) => match castL s.t t l with
            | some l1 => bif flatT s.t && Nat.beq e s.e && neO ob id then s.pt l1 x y fun l' => k .un ⟨(id, some (.row s.e s.t l')) :: m.ob, m.nx, m.tp⟩ else False
            | none => False
          | _ => False
        | _, _ => False
      | _, _ => False
    | none => False
  | _ => False
/-- What the callee may look at. -/
def lent5 (c : Cx) : Option Nat → Cells
  | none => c.S
  | some id => fun b o => c.S b o ∨ c.F id b
theorem capB_rd {m : MS} {g : FuncId} {cl : SV} {ob : Option Nat} {ds : List D} (h : capB m g cl = some (ob, ds)) {w : World} {c : Cx} (hox : OXM m w c) {u : Value} (hu : SRel c w cl u) : (∀ id, ob = some id → ∃ cs, m.obs id = some (.box cs)) ∧ Rd (lent5 c ob) w (.fn g [.p ds]) u := by
  unfold capB at h
  split at h
  · rename_i f ds'
    cases hb : Nat.beq f g with
    | false => rw [hb] at h; cases h
    | true =>
      rw [hb] at h
      simp only [cond_true, Option.some.injEq, Prod.mk.injEq] at h
      obtain ⟨rfl, rfl⟩ := h
      have := beq_eq hb
      subst this
      exact ⟨fun id e => (by cases e), srel_d hu⟩
  · rename_i f id off
    cases hb : (Nat.beq f g && Nat.beq off 0) with
    | false => rw [hb] at h; cases h
    | true =>
      rw [hb] at h
      simp only [cond_true] at h
      obtain ⟨b1, b2⟩ := Bool.and_eq_true_iff.1 hb
      have b1 := beq_eq b1
      have b2 := beq_eq b2
      subst b1 b2
      split at h
      · rename_i cs hob
        rw [Option.map_eq_some_iff] at h
        obtain ⟨ds', hd, h⟩ := h
        simp only [Prod.mk.injEq] at h
        obtain ⟨rfl, rfl⟩ := h
        have hcs := dOf_spec hd
        subst hcs
        refine ⟨fun i e => by injection e with e; subst e; exact ⟨_, hob⟩, ?_⟩
        obtain ⟨b, arr, t, h1, h2, h3, h4, h5, h6⟩ := (hox.objs id _ hob).2.2
        cases hu with
        | fn _ _ us hl hf =>
          match us, hl with
          | [u], _ =>
            have hp := hf 0 _ u rfl rfl
            obtain ⟨p, e1, rfl⟩ := srel_bx hp
            rw [h1] at e1
            injection e1 with e1
            injection e1 with e1
            injection e1 with e1
            subst e1
            refine .fn _ _ [_] rfl fun i d v hd hv => ?_
            match i, hd, hv with
            | 0, hd, hv =>
              cases hd; cases hv
              rw [List.length_map] at h4
              refine .p ds' b 0 (fun j => (arr[j]?).getD undef) (fun j hj => ?_) fun j d hd => ?_
              · have hja : j < arr.length := by omega
                refine ⟨.inr ((h2 b).2 rfl), ?_, ?_⟩
                · rw [Nat.zero_add, cell_row h3, List.getElem?_toArray, List.getElem?_eq_getElem hja]; rfl
                · rw [List.getElem?_eq_getElem hja]; exact h5 _ (List.getElem_mem hja)
              · have hj : j < ds'.length := (List.getElem?_eq_some_iff.1 hd).1
                have hja : j < arr.length := by omega
                have := h6 j (.d d) arr[j] (by rw [List.getElem?_map, hd]; rfl) (List.getElem?_eq_getElem hja)
                rw [List.getElem?_eq_getElem hja]
                exact (srel_d this).mono (fun _ _ h => .inl h) (fun _ _ _ => rfl)
      · cases h
  · rename_i f ds'
    cases hb : Nat.beq f g with
    | false => rw [hb] at h; cases h
    | true =>
      rw [hb] at h
      simp only [cond_true, Option.some.injEq, Prod.mk.injEq] at h
      obtain ⟨rfl, rfl⟩ := h
      have := beq_eq hb
      subst this
      refine ⟨fun id e => (by cases e), ?_⟩
      cases hu with
      | fn _ _ us hl hf =>
        match us, hl with
        | [u], _ =>
          refine .fn _ _ [_] rfl fun i d v hd hv => ?_
          match i, hd, hv with
          | 0, hd, hv => cases hd; cases hv; exact srel_d (hf 0 _ u rfl rfl)
  · cases h
theorem byCon5_ok {s : Spec5} (hs : Spec5OK P s) {ss : List SV} {m : MS} {k : SV → MS → Prop} (h : byCon5 s ss m k) {us : List Value} {w : World} {c : Cx} (hox : OXM m w c) (hl : us.length = ss.length) (hr : ∀ (i : Nat) (x : SV) (u : Value), ss[i]? = some x → us[i]? = some u → SRel c w x u ∧ x.inU m.U) :
    Calls P s.f us.toArray w fun e w' => ∃ v r m' c', e = .returned v ∧ k r m' ∧ FrM m m' ∧ OXM m' w' c' ∧ TrM m w c m' w' c' ∧ SRel c' w' r v ∧ r.inU m'.U := by
  unfold byCon5 at h
  split at h
  rotate_left
  · exact h.elim
  rename_i id r
  split at h
  rotate_left
  · exact h.elim
  rename_i as cl hla
  split at h
  rotate_left
  · exact h.elim
  rename_i ds ob cs hds hcap
  split at h
  rotate_left
  · exact h.elim
  rename_i x y hx hy
  split at h
  rotate_left
  · exact h.elim
  rename_i e t l hob
  split at h
  rotate_left
  · exact h.elim
  rename_i l1 hc
  obtain ⟨e1, e2⟩ := castL_eq hc
  subst e1
  have e2 := eq_of_heq e2
  subst e2
  cases hb : (flatT s.t && Nat.beq e s.e && neO ob id) with
  | false => rw [hb] at h; exact h.elim
  | true =>
  rw [hb] at h
  simp only [cond_true] at h
  simp only [Bool.and_eq_true] at hb
  obtain ⟨⟨b1, b2⟩, b3⟩ := hb
  have b2 := beq_eq b2
  subst b2
  match us, hl with
  | u :: us', hl =>
  have hu := srel_os (hr 0 (.os id) u rfl rfl).1
  subst hu
  have hra := lastS_spec hla
  have has := datL_spec hds
  subst hra has
  obtain ⟨hidU, _, hrow⟩ := hox.objs id _ hob
  have hfb := hox.fb id _ hob rfl
  have hul : us'.length = ds.length + 1 := by simpa using hl
  obtain ⟨ul1, ul2⟩ := undoL_rd hx
  obtain ⟨dl1, dl2⟩ := dec_rd hy
  have hclv : us'.length = ds.length + 1 := hul
  have hcu : ∃ u, us'[ds.length]? = some u := ⟨us'[ds.length]'(by omega), List.getElem?_eq_getElem _⟩
  obtain ⟨uc, huc⟩ := hcu
  have hclr := (hr (ds.length + 1) cl uc (by simp) (by simpa using huc)).1
  obtain ⟨cb1, cb2⟩ := capB_rd hcap hox hclr
  have hle : ∀ b o, c.S b o → lent5 c ob b o := fun b o hb => by
    unfold lent5; split
    · exact hb
    · exact .inl hb
  have hlsb : ∀ b o, lent5 c ob b o → b < w.heap.size := fun b o hb => by
    unfold lent5 at hb
    split at hb
    · exact hox.sb b o hb
    · rename_i i
      rcases hb with hb | hb
      · exact hox.sb b o hb
      · obtain ⟨cs', hcs'⟩ := cb1 i rfl
        exact (hox.fb i _ hcs' rfl b hb).1
  have hdis : ∀ b, c.F id b → ∀ o, ¬ lent5 c ob b o := fun b hb o hlb => by
    unfold lent5 at hlb
    split at hlb
    · exact (hfb b hb).2.1 o hlb
    · rename_i i
      rcases hlb with hlb | hlb
      · exact (hfb b hb).2.1 o hlb
      · obtain ⟨cs', hcs'⟩ := cb1 i rfl
        have hne : i ≠ id := fun e => by subst e; simp [neO] at b3
        exact hox.dj i id _ _ hcs' rfl hob rfl hne b hlb hb
  refine (hs l x y _ h w (lent5 c ob) (c.H id) (c.F id) us' (RowAt.keep (show RowAt w c.S (c.H id) (c.F id) s.e s.t l from hrow) hle (fun _ _ _ => rfl) (fun _ _ => rfl)) hlsb (fun b hb => ⟨(hfb b hb).1, hdis b hb⟩) (by simp [Spec5.args, tvs_len, hul, ul1]) fun i d u' hd hu' => ?_).mono ?_
  · by_cases hi : i < ds.length
    · have hd' : (tvs s.ts x)[i]? = some d := by
        unfold Spec5.args at hd
        rw [List.getElem?_append_left (by rw [tvs_len, ← ul1]; exact hi)] at hd
        exact hd
      have hdi := List.getElem?_eq_getElem hi
      refine ul2 i d ds[i] hd' hdi ?_
      have := (hr (i + 1) (.d ds[i]) u' (by simp [List.getElem?_append, hi]) (by simpa using hu')).1
      exact (srel_d this).mono hle (fun _ _ _ => rfl)
    · have hi' : i < us'.length := (List.getElem?_eq_some_iff.1 hu').1
      have : i = ds.length := by omega
      subst this
      rw [huc] at hu'
      injection hu' with hu'
      subst hu'
      unfold Spec5.args at hd
      rw [List.getElem?_append_right (by rw [tvs_len, ← ul1]; exact Nat.le_refl _), tvs_len, ← ul1, Nat.sub_self] at hd
      cases hd
      cases cb2 with
      | fn _ _ us2 hl2 hf2 =>
        refine .fn _ _ us2 (by simpa using hl2) fun q d v hd hv => ?_
        match q, hd, hv with
        | 0, hd, hv =>
          cases hd
          have := hf2 0 _ v rfl hv
          cases this with
          | p _ b off f h1 h2 =>
            refine .p _ b off f (fun j hj => h1 j (by rw [dl1, ← enc_len s.tc y]; exact hj)) fun j d hd => ?_
            have hj : j < cs.length := by
              have := (List.getElem?_eq_some_iff.1 hd).1
              rw [enc_len] at this
              omega
            exact dl2 j d cs[j] hd (List.getElem?_eq_getElem hj) (h2 j _ (List.getElem?_eq_getElem hj))
  rintro e' w' ⟨rv, l', rfl, hp, hrow', g1, g2, g3, g4, g5⟩
  have hrow' : RowAt w' c.S (c.H id) (c.F id) s.e s.t l' := hrow'.flat b1
  have hcell : ∀ b o, c.S b o → w'.cell? ⟨b, o, none⟩ = w.cell? ⟨b, o, none⟩ := fun b o hS => World.cell?_of_block (g5 b (hox.sb b o hS) fun hF => (hfb b hF).2.1 o hS)
  have hobs : ∀ x y, (MS.obs ⟨(id, some (.row s.e s.t l')) :: m.ob, m.nx, m.tp⟩) x = some y → (x = id ∧ y = .row s.e s.t l') ∨ (x ≠ id ∧ m.obs x = some y) := fun x y hx => by
    have hx : lookO ((id, some (.row s.e s.t l')) :: m.ob) x = some y := hx
    rw [lookO_cons] at hx
    by_cases e : x = id
    · subst e
      rw [put_same] at hx
      injection hx with hx
      exact .inl ⟨rfl, hx.symm⟩
    · rw [put_ne _ _ e] at hx
      exact .inr ⟨e, hx⟩
  refine ⟨_, .un, _, c, rfl, hp, ⟨⟨[(id, some (.row s.e s.t l'))], rfl⟩, fun h => h⟩, ⟨fun b o hb => Nat.lt_of_lt_of_le (hox.sb b o hb) g4, fun x y hx => ?_, fun x y hx ho b hb => ?_, fun i j x y hx ox hy oy hne b hb hb' => ?_, fun T hT => ?_, fun e => ?_, hox.tF⟩, ⟨g1, g2, g3, g4, fun _ h => h, fun _ h => .inl h, fun _ h => h, fun _ _ => ⟨rfl, rfl⟩, fun _ _ h => h, fun _ _ h => .inl h, fun b hb hf hT => g5 b hb fun hF => hf ⟨id, _, hob, rfl, hF⟩, fun b hb => ?_⟩, .un _, trivial⟩
  · rcases hobs x y hx with ⟨rfl, rfl⟩ | ⟨hne, hx⟩
    · exact ⟨hidU, trivial, hrow'⟩
    · obtain ⟨u1, u2, u3⟩ := hox.objs x y hx
      exact ⟨u1, u2, u3.keep (U := m.U) u2 (fun _ _ h => h) hcell (fun _ h => h) (fun _ _ => rfl) ⟨rfl, rfl⟩ fun ho b hb => g5 b (hox.fb x y hx ho b hb).1 fun hF => hox.dj x id y _ hx ho hob rfl hne b hb hF⟩
  · rcases hobs x y hx with ⟨rfl, rfl⟩ | ⟨hne, hx⟩
    · obtain ⟨u1, u2, u3⟩ := hfb b hb
      exact ⟨Nat.lt_of_lt_of_le u1 g4, u2, u3⟩
    · obtain ⟨u1, u2, u3⟩ := hox.fb x y hx ho b hb
      exact ⟨Nat.lt_of_lt_of_le u1 g4, u2, u3⟩
  · have src : ∀ i x, (MS.obs ⟨(id, some (.row s.e s.t l')) :: m.ob, m.nx, m.tp⟩) i = some x → x.own = true → ∃ x', m.obs i = some x' ∧ x'.own = true := fun i x hx ox => by
      rcases hobs i x hx with ⟨rfl, rfl⟩ | ⟨hne, hx⟩
      · exact ⟨_, hob, rfl⟩
      · exact ⟨x, hx, ox⟩
    obtain ⟨x', hx', ox'⟩ := src i x hx ox
    obtain ⟨y', hy', oy'⟩ := src j y hy oy
    exact hox.dj i j x' y' hx' ox' hy' oy' hne b hb hb'
  · obtain ⟨t1, t2⟩ := hox.nT T hT
    exact ⟨Nat.lt_of_lt_of_le t1 g4, t2⟩
  · obtain ⟨T, hT, ht⟩ := hox.tpe e
    exact ⟨T, hT, ht.mono (fun _ _ h => h) hcell (g5 T ht.lt fun hF => (hfb T hF).2.2 hT)⟩
  · obtain ⟨x, y, hx, ho, hb⟩ := hb
    rcases hobs x y hx with ⟨rfl, rfl⟩ | ⟨hne, hx⟩
    · exact .inl ⟨x, _, hob, rfl, hb⟩
    · exact .inl ⟨x, y, hx, ho, hb⟩
def rule5 (s : Spec5) : Rule := ⟨s.f, byCon5 s⟩
theorem rule5_ok {s : Spec5} (h : Spec5OK P s) : RuleOK P (rule5 s) := fun ss m k hk us w c hox hl hr => byCon5_ok h hk hox hl hr
/-! ### walks -/
def mem5 (s : Spec5) (l : List (den s.t)) : MS := ⟨[(0, some (.row s.e s.t l))], 1, false⟩
def walk5 (cp : CP) (s : Spec5) (l : List (den s.t)) (x : dens s.ts) (y : den s.tc) (post : List (den s.t) → Prop) : Prop :=
  0 < size s.t → cp s.f (.os 0 :: (s.args x y).map SV.d) (mem5 s l) fun r m => match m.obs 0 with
    | some (.row e t l') => match castL s.t t l' with
      | some l1 => bif flatT s.t && Nat.beq e s.e then post l1 else False
      | none => False
    | _ => False
theorem Spec5OK.of_cp {cp : CP} (hcp : CallOK P cp) {s : Spec5} (h : ∀ l x y post, s.pt l x y post → HoldW (walk5 cp s l x y post)) : Spec5OK P s := by
  intro l x y post hp w S v F us hrow hS hF hul hus
  have hm : ∀ i x, (mem5 s l).obs i = some x → i = 0 ∧ x = .row s.e s.t l := fun i x hx => by
    have hx : lookO [(0, some (.row s.e s.t l))] i = some x := hx
    rw [lookO_cons] at hx
    by_cases e : i = 0
    · subst e; rw [put_same] at hx; injection hx with hx; exact ⟨rfl, hx.symm⟩
    · rw [put_ne _ _ e] at hx; cases hx
  let c : Cx := ⟨S, fun _ => v, fun i => if i = 0 then F else fun _ => False, none⟩
  have hox : OXM (mem5 s l) w c := by
    refine ⟨hS, fun id x hx => ?_, fun id x hx ho b hb => ?_, fun i j x y hx _ hy _ hne => ?_, fun T h => (by cases h), fun h => (by cases h), fun _ => rfl⟩
    · obtain ⟨rfl, rfl⟩ := hm id x hx
      exact ⟨Nat.one_pos, trivial, hrow⟩
    · obtain ⟨rfl, rfl⟩ := hm id x hx
      have hb : F b := hb
      exact ⟨(hF b hb).1, (hF b hb).2, fun h => (by cases h)⟩
    · exact absurd ((hm i x hx).1.trans (hm j y hy).1.symm) hne
  refine (hcp _ _ _ _ ((h l x y post hp).h hrow.1) (v :: us) w c hox (by simp [hul]) fun i s' u hs hu => ?_).mono ?_
  · match i, hs, hu with
    | 0, hs, hu =>
      cases hs; cases hu
      exact ⟨.os 0, Nat.one_pos⟩
    | i + 1, hs, hu =>
      rw [List.getElem?_cons_succ] at hs hu
      rw [List.getElem?_map, Option.map_eq_some_iff] at hs
      obtain ⟨d, hd, rfl⟩ := hs
      exact ⟨.d _ _ (hus i d u hd hu), trivial⟩
  · rintro e w' ⟨rv, r, m', c', rfl, hk, hfr, hox', htr, _, _⟩
    split at hk
    rotate_left
    · exact hk.elim
    rename_i e1 t1 l1 hob
    split at hk
    rotate_left
    · exact hk.elim
    rename_i l2 hc
    obtain ⟨q1, q2⟩ := castL_eq hc
    subst q1
    have q2 := eq_of_heq q2
    subst q2
    cases hb : (flatT s.t && Nat.beq e1 s.e) with
    | false => rw [hb] at hk; exact hk.elim
    | true =>
      rw [hb] at hk
      simp only [cond_true] at hk
      obtain ⟨b1, b2⟩ := Bool.and_eq_true_iff.1 hb
      have b2 := beq_eq b2
      subst b2
      have hr0 : RowAt w' c'.S (c'.H 0) (c'.F 0) s.e s.t l1 := (hox'.objs 0 _ hob).2.2
      obtain ⟨hH, hFF⟩ := htr.hH 0 Nat.one_pos
      rw [hH, hFF] at hr0
      refine ⟨rv, l1, rfl, hk, hr0.flat b1, htr.os, htr.tape, htr.output, htr.sz, fun b hb hF => htr.blk b hb ?_ (fun h => by cases h)⟩
      rintro ⟨id, x, hx, _, hb⟩
      obtain ⟨rfl, rfl⟩ := hm id x hx
      exact hF hb
theorem Spec5OK.of_rules {C : CtxR} {dr : DR} (hR : RulesOK P C.rs) (hdr : DrOK P dr) {n fk : Nat} {s : Spec5} (h : ∀ l x y post, s.pt l x y post → HoldW (walk5 (callR P C dr n fk) s l x y post)) : Spec5OK P s :=
  Spec5OK.of_cp (callR_ok hR hdr n fk) h
/-- The function itself in place, what it calls by rules (itself among them). -/
def callTop (P : Program) (C : CtxR) (dr : DR) (n fk : Nat) : CP := fun f ss m k =>
  inline P (fun id ops d st K => bif d then dr id (fun i => callR P C dr n (subK fk id i)) ops st K else aops P C.τ (fun i => callR P C dr n (subK fk id i)) ops 0 ops.toList st K) (C.jn fk) f ss m k
theorem callTop_ok {C : CtxR} {dr : DR} (hR : RulesOK P C.rs) (hdr : DrOK P dr) (n fk : Nat) : CallOK P (callTop P C dr n fk) := fun f ss m k h us w c hox hl hr =>
  inline_ok (reg_ok hdr fun id i => callR_ok hR hdr n (subK fk id i)) f ss m k h us w c hox hl hr
theorem Spec5OK.of_top {C : CtxR} {dr : DR} (hR : RulesOK P C.rs) (hdr : DrOK P dr) {n fk : Nat} {s : Spec5} (h : ∀ l x y post, s.pt l x y post → HoldW (walk5 (callTop P C dr n fk) s l x y post)) : Spec5OK P s :=
  Spec5OK.of_cp (callTop_ok hR hdr n fk) h
end RE
end Go.Proofs.Ytpnmiieohdkenaa
