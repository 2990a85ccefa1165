/-
  The engine: equality of structs; slicing; calls of function values; rows given up; fields of values.
-/
import Derived.Test.YtmmekdkllccmdaaEgH
import Derived.Laws.StructEq
namespace Go.Proofs.Ytmmekdkllccmdaa
open Go.RowKit
set_option linter.unusedVariables false
namespace Eng
variable {P : Program}
/-! ### equality of structs of integers and bools -/
def cmpFields (P : Program) (g : TypeId → Option (List Bool)) : List Field → Nat → Option (List Bool)
  | [], _ => some []
  | f :: fs, off => bif (f.name != "_") && Nat.beq f.offset off then
      match g f.type, P.info? f.type with
      | some ks, some i => bif Nat.beq i.size ks.length then (cmpFields P g fs (off + ks.length)).map (ks ++ ·) else none
      | _, _ => none
    else none
/-- The kinds of a type's cells (true: a bool), if it is made of integers and bools alone. -/
def cmpTy (P : Program) : Nat → TypeId → Option (List Bool)
  | 0, _ => none
  | d + 1, t => match P.underlying t with
    | some (.int _) => some [false]
    | some .bool => some [true]
    | some (.struct fs) => bif P.stoodInHeld t then none else cmpFields P (cmpTy P d) fs.toList 0
    | _ => none
def eqS : List Bool → List D → List D → Option Bool
  | [], [], [] => some true
  | false :: ks, .v (.int k a) :: xs, .v (.int k' b) :: ys => if k = k' then (eqS ks xs ys).map (decide (a = b) && ·) else none
  | true :: ks, .v (.bool a) :: xs, .v (.bool b) :: ys => (eqS ks xs ys).map ((a == b) && ·)
  | _, _, _ => none
def valOf : D → Value
  | .v x => x
  | _ => undef
theorem eqS_length : ∀ {ks : List Bool} {xs ys : List D} {r : Bool}, eqS ks xs ys = some r → xs.length = ks.length ∧ ys.length = ks.length
  | [], [], [], r, _ => ⟨rfl, rfl⟩
  | [], [], _ :: _, r, h => by simp [eqS] at h
  | [], _ :: _, _, r, h => by simp [eqS] at h
  | false :: ks, [], _, r, h => by simp [eqS] at h
  | true :: ks, [], _, r, h => by simp [eqS] at h
  | k :: ks, x :: xs, [], r, h => by
    cases k <;> cases x <;> first | (simp [eqS] at h; done) | (rename_i v; cases v <;> simp [eqS] at h)
  | k :: ks, x :: xs, y :: ys, r, h => by
    cases k <;> cases x <;> cases y <;> first | (simp [eqS] at h; done) | (rename_i v v'; cases v <;> cases v' <;> first | (simp [eqS] at h; done) | skip)
    · unfold eqS at h
      split at h
      · cases hr : eqS ks xs ys with
        | none => rw [hr] at h; cases h
        | some r' => obtain ⟨h1, h2⟩ := eqS_length hr; simp [h1, h2]
      · cases h
    · unfold eqS at h
      cases hr : eqS ks xs ys with
      | none => rw [hr] at h; cases h
      | some r' => obtain ⟨h1, h2⟩ := eqS_length hr; simp [h1, h2]
theorem eqS_append : ∀ {ks1 ks2 : List Bool} {xs ys : List D} {r : Bool}, eqS (ks1 ++ ks2) xs ys = some r → ∃ r1 r2, eqS ks1 (xs.take ks1.length) (ys.take ks1.length) = some r1 ∧ eqS ks2 (xs.drop ks1.length) (ys.drop ks1.length) = some r2 ∧ r = (r1 && r2)
  | [], ks2, xs, ys, r, h => ⟨true, r, by simp [eqS], by simpa using h, by simp⟩
  | k :: ks1, ks2, [], ys, r, h => by cases k <;> simp [eqS] at h
  | k :: ks1, ks2, x :: xs, [], r, h => by
    have := (eqS_length h).2; simp at this
  | k :: ks1, ks2, x :: xs, y :: ys, r, h => by
    cases k <;> cases x <;> cases y <;> first | (simp [eqS] at h; done) | (rename_i v v'; cases v <;> cases v' <;> first | (simp [eqS] at h; done) | skip)
    · rename_i k1 a k2 b
      simp only [List.cons_append] at h
      unfold eqS at h
      split at h
      · rename_i he
        cases hr : eqS (ks1 ++ ks2) xs ys with
        | none => rw [hr] at h; cases h
        | some r' =>
          rw [hr] at h
          simp only [Option.map_some, Option.some.injEq] at h
          obtain ⟨r1, r2, h1, h2, h3⟩ := eqS_append hr
          refine ⟨decide (a = b) && r1, r2, ?_, by simpa using h2, ?_⟩
          · simp only [List.length_cons, List.take_succ_cons]
            unfold eqS
            rw [if_pos he, h1]; rfl
          · rw [← h, h3, Bool.and_assoc]
      · cases h
    · rename_i a b
      simp only [List.cons_append] at h
      unfold eqS at h
      cases hr : eqS (ks1 ++ ks2) xs ys with
      | none => rw [hr] at h; cases h
      | some r' =>
        rw [hr] at h
        simp only [Option.map_some, Option.some.injEq] at h
        obtain ⟨r1, r2, h1, h2, h3⟩ := eqS_append hr
        refine ⟨(a == b) && r1, r2, ?_, by simpa using h2, ?_⟩
        · simp only [List.length_cons, List.take_succ_cons]
          unfold eqS
          rw [h1]; rfl
        · rw [← h, h3, Bool.and_assoc]
/-- The part of a value of type t that lies at a place in cells. -/
theorem run_part_at {d : Nat} {t : TypeId} {ks : List Bool} (h : cmpTy P d t = some ks) {i : TypeInfo} (hi : P.info? t = some i) (hs : i.size = ks.length) (w : World) (us : List Value) (off : Nat) (hl : off + ks.length ≤ us.length) :
    (part t us.toArray off).run P w = .ok (match P.underlying t with | some (.struct _) => .agg ((us.drop off).take ks.length).toArray | _ => us.getD off undef) w := by
  cases d with
  | zero => simp [cmpTy] at h
  | succ d =>
    unfold cmpTy at h
    split at h
    · rename_i k hu
      injection h with h
      subst h
      simp at hl
      have hl : off < us.length := by omega
      simp [part, isAgg, run_underlying hu, hu, hl]
    · rename_i hu
      injection h with h
      subst h
      simp at hl
      have hl : off < us.length := by omega
      simp [part, isAgg, run_underlying hu, hu, hl]
    · rename_i fs hu
      simp [part, isAgg, run_underlying hu, hu, sizeOf, typeInfo, hi, hs]
    · cases h
theorem eqS_int {x y : D} {r : Bool} (h : eqS [false] [x] [y] = some r) : ∃ k a b, x = .v (.int k a) ∧ y = .v (.int k b) ∧ r = decide (a = b) := by
  cases x with
  | v u =>
    cases y with
    | v v =>
      cases u with
      | int k a =>
        cases v with
        | int k' b =>
          simp only [eqS] at h
          split at h
          · rename_i he
            subst he
            simp at h
            exact ⟨k, a, b, rfl, rfl, h.symm⟩
          · cases h
        | _ => simp [eqS] at h
      | _ => simp [eqS] at h
    | _ => cases u <;> simp [eqS] at h
  | _ => simp [eqS] at h
theorem eqS_bool {x y : D} {r : Bool} (h : eqS [true] [x] [y] = some r) : ∃ a b, x = .v (.bool a) ∧ y = .v (.bool b) ∧ r = (a == b) := by
  cases x with
  | v u =>
    cases y with
    | v v =>
      cases u with
      | bool a =>
        cases v with
        | bool b =>
          simp [eqS] at h
          exact ⟨a, b, rfl, rfl, h.symm⟩
        | _ => simp [eqS] at h
      | _ => simp [eqS] at h
    | _ => cases u <;> simp [eqS] at h
  | _ => simp [eqS] at h
theorem eq_run : ∀ (d : Nat) (t : TypeId) (ks : List Bool), cmpTy P d t = some ks → ∀ (w : World) (xs ys : List D) (r : Bool), eqS ks xs ys = some r →
    (Op.equalIn d t (match P.underlying t with | some (.struct _) => .agg (xs.map valOf).toArray | _ => (xs.map valOf).getD 0 undef) (match P.underlying t with | some (.struct _) => .agg (ys.map valOf).toArray | _ => (ys.map valOf).getD 0 undef)).run P w = .ok r w
  | 0, t, ks, h, _, _, _, _, _ => by simp [cmpTy] at h
  | d + 1, t, ks, h, w, xs, ys, r, hr => by
    obtain ⟨hlx, hly⟩ := eqS_length hr
    unfold cmpTy at h
    split at h
    · rename_i k hu
      injection h with h
      subst h
      obtain ⟨x, rfl⟩ := List.length_eq_one_iff.1 (show xs.length = 1 from hlx)
      obtain ⟨y, rfl⟩ := List.length_eq_one_iff.1 (show ys.length = 1 from hly)
      obtain ⟨k1, a, b, rfl, rfl, rfl⟩ := eqS_int hr
      simp [hu, valOf, run_equalIn_int (P := P) w d t k1 k a b hu]
      rw [Bool.eq_iff_iff]; simp
    · rename_i hu
      injection h with h
      subst h
      obtain ⟨x, rfl⟩ := List.length_eq_one_iff.1 (show xs.length = 1 from hlx)
      obtain ⟨y, rfl⟩ := List.length_eq_one_iff.1 (show ys.length = 1 from hly)
      obtain ⟨a, b, rfl, rfl, rfl⟩ := eqS_bool hr
      simp [hu, valOf, Op.equalIn, run_underlying hu]
    · rename_i fs hu
      cases hst : P.stoodInHeld t with
      | true => simp only [hst, cond_true] at h; cases h
      | false =>
        simp only [hst, cond_false] at h
        have hfo : P.fieldsOf t = fs := by unfold Program.fieldsOf; rw [hu]
        simp only [hu]
        rw [run_equalIn_struct w d t _ _ (by rw [hfo]; exact hu) hst, hfo]
        -- field by field
        have key : ∀ (fs : List Field) (off : Nat) (ks : List Bool), cmpFields P (cmpTy P d) fs off = some ks → off + ks.length ≤ xs.length → off + ks.length ≤ ys.length → ∀ r, eqS ks ((xs.drop off).take ks.length) ((ys.drop off).take ks.length) = some r →
            (Op.eqFields d (xs.map valOf).toArray (ys.map valOf).toArray fs).run P w = .ok r w := by
          intro fs
          induction fs with
          | nil =>
            intro off ks hc _ _ r hr
            simp [cmpFields] at hc
            subst hc
            simp [eqS] at hr
            subst hr
            simp [Op.eqFields]
          | cons f fs ih =>
            intro off ks hc hx hy r hr
            unfold cmpFields at hc
            cases hb : (f.name != "_" && Nat.beq f.offset off) with
            | false => simp only [hb, cond_false] at hc; cases hc
            | true =>
              simp only [hb, cond_true] at hc
              simp only [Bool.and_eq_true, bne_iff_ne, ne_eq] at hb
              obtain ⟨hb1, hb2⟩ := hb
              have hb2 := beq_eq hb2
              split at hc
              · rename_i ks1 i hk1 hi
                cases hb3 : Nat.beq i.size ks1.length with
                | false => simp only [hb3, cond_false] at hc; cases hc
                | true =>
                  simp only [hb3, cond_true] at hc
                  have hb3 := beq_eq hb3
                  cases hk2 : cmpFields P (cmpTy P d) fs (off + ks1.length) with
                  | none => rw [hk2] at hc; cases hc
                  | some ks2 =>
                    rw [hk2] at hc
                    simp only [Option.map_some, Option.some.injEq] at hc
                    subst hc
                    rw [List.length_append] at hx hy hr
                    obtain ⟨r1, r2, h1, h2, rfl⟩ := eqS_append hr
                    have e1 : ∀ (l : List D), ((l.drop off).take (ks1.length + ks2.length)).take ks1.length = (l.drop off).take ks1.length := fun l => by rw [List.take_take]; congr 1; omega
                    have e2 : ∀ (l : List D), ((l.drop off).take (ks1.length + ks2.length)).drop ks1.length = (l.drop (off + ks1.length)).take ks2.length := fun l => by rw [List.drop_take, List.drop_drop]; congr 1; omega
                    rw [e1, e1] at h1
                    rw [e2, e2] at h2
                    have ih' := ih (off + ks1.length) ks2 hk2 (by omega) (by omega) r2 h2
                    have p1 := run_part_at hk1 hi hb3 w (xs.map valOf) off (by rw [List.length_map]; omega)
                    have p2 := run_part_at hk1 hi hb3 w (ys.map valOf) off (by rw [List.length_map]; omega)
                    have q := eq_run d f.type ks1 hk1 w _ _ r1 h1
                    have m1 : ∀ (l : List D), off + ks1.length ≤ l.length → (match P.underlying f.type with | some (.struct _) => Value.agg (((l.map valOf).drop off).take ks1.length).toArray | _ => (l.map valOf).getD off undef) = (match P.underlying f.type with | some (.struct _) => .agg (((l.drop off).take ks1.length).map valOf).toArray | _ => (((l.drop off).take ks1.length).map valOf).getD 0 undef) := by
                      intro l hl
                      have hk1' := hk1
                      cases d with
                      | zero => simp [cmpTy] at hk1'
                      | succ d =>
                        unfold cmpTy at hk1'
                        split at hk1'
                        · rename_i k hu1
                          injection hk1' with hk1'
                          subst hk1'
                          simp only [hu1]
                          have hl : off < l.length := by simp at hl; omega
                          simp [hl, List.getD_eq_getElem?_getD]
                        · rename_i hu1
                          injection hk1' with hk1'
                          subst hk1'
                          simp only [hu1]
                          have hl : off < l.length := by simp at hl; omega
                          simp [hl, List.getD_eq_getElem?_getD]
                        · rename_i fs1 hu1
                          simp only [hu1]
                          rw [List.map_take, List.map_drop]
                        · cases hk1'
                    rw [m1 xs (by omega)] at p1
                    rw [m1 ys (by omega)] at p2
                    unfold Op.eqFields
                    rw [if_pos hb1]
                    simp only [Sem.run_bind, hb2, p1, p2, Result.andThen_ok, q]
                    cases r1 with
                    | false => simp
                    | true => simp [ih']
              · cases hc
        exact key fs.toList 0 ks h (by omega) (by omega) r (by simpa [hlx, hly, List.take_of_length_le] using hr)
    · cases h
/-- May two values of a type be held against each other: its cells' kinds. -/
def cmpOk (P : Program) (t : TypeId) (ks : List Bool) : Bool := cmpTy P 10000 t == some ks && !(P.eqGuardType P.depth t) && (match P.underlying t with | some (.struct _) => true | _ => false)
theorem flat_vals {S : Cells} {w : World} {xs : List D} {us : List Value} {ks : List Bool} {ys : List D} {r : Bool} (hl : us.length = xs.length) (h : ∀ (i : Nat) (c : D) (u : Value), xs[i]? = some c → us[i]? = some u → Rd S w c u) (hv : ∀ x ∈ xs, ∃ v, x = .v v) : us = xs.map valOf := by
  apply List.ext_getElem?
  intro i
  by_cases hi : i < xs.length
  · have hi' : i < us.length := by omega
    have h1 := h i xs[i] us[i] (List.getElem?_eq_getElem hi) (List.getElem?_eq_getElem hi')
    obtain ⟨v, hv'⟩ := hv xs[i] (List.getElem_mem hi)
    rw [List.getElem?_map, List.getElem?_eq_getElem hi, List.getElem?_eq_getElem hi']
    rw [hv'] at h1 ⊢
    cases h1; rfl
  · rw [List.getElem?_eq_none (by omega), List.getElem?_eq_none (by simp; omega)]
theorem eqS_vals : ∀ {ks : List Bool} {xs ys : List D} {r : Bool}, eqS ks xs ys = some r → (∀ x ∈ xs, ∃ v, x = .v v) ∧ ∀ y ∈ ys, ∃ v, y = .v v
  | [], [], [], r, _ => ⟨fun x h => by simp at h, fun x h => by simp at h⟩
  | [], [], _ :: _, r, h => by simp [eqS] at h
  | [], _ :: _, _, r, h => by simp [eqS] at h
  | k :: ks, [], _, r, h => by cases k <;> simp [eqS] at h
  | k :: ks, x :: xs, [], r, h => by have := (eqS_length h).2; simp at this
  | k :: ks, x :: xs, y :: ys, r, h => by
    cases k <;> cases x <;> cases y <;> first | (simp [eqS] at h; done) | (rename_i v v'; cases v <;> cases v' <;> first | (simp [eqS] at h; done) | skip)
    · unfold eqS at h
      split at h
      · cases hr : eqS ks xs ys with
        | none => rw [hr] at h; cases h
        | some r' =>
          obtain ⟨h1, h2⟩ := eqS_vals hr
          exact ⟨fun x hx => (List.mem_cons.1 hx).elim (fun e => ⟨_, e⟩) (h1 x), fun x hx => (List.mem_cons.1 hx).elim (fun e => ⟨_, e⟩) (h2 x)⟩
      · cases h
    · unfold eqS at h
      cases hr : eqS ks xs ys with
      | none => rw [hr] at h; cases h
      | some r' =>
        obtain ⟨h1, h2⟩ := eqS_vals hr
        exact ⟨fun x hx => (List.mem_cons.1 hx).elim (fun e => ⟨_, e⟩) (h1 x), fun x hx => (List.mem_cons.1 hx).elim (fun e => ⟨_, e⟩) (h2 x)⟩
section ops
variable {ρ : Operand → SV} {bx : List (Nat × List SV)} {own : List (Nat × OwnE)} {dst : Option Tmp} {ty : TypeId} {pos : String} {aft : Array Edge} {gd : Option (Nat × Bool)}
theorem eqA_run {base : Nat} {a : Act} {w : World} {c : Cx} {op : BinOp} {t t' : TypeId} {x y : Operand} {xs ys : List D} {ks : List Bool} {r : Bool} (ht : cmpOk P t ks = true) (hx : SLe (ρ x) (.d (.agg xs))) (hy : SLe (ρ y) (.d (.agg ys))) (he : eqS ks xs ys = some r) (hs : Sees ⟨dst, .binOp op t x y t', ty, pos, aft, gd⟩ ρ bx own base a w c) (hop : op = .eql ∨ op = .neq) :
    (do eqGuard op t x y (a.eval x) (a.eval y); binOp op t (a.eval x) (a.eval y) : Sem Value).run P w = .ok (.bool (if op = .eql then r else !r)) w := by
  unfold cmpOk at ht
  simp only [Bool.and_eq_true, Bool.not_eq_true'] at ht
  obtain ⟨⟨h1, h2⟩, h3⟩ := ht
  have h1 : cmpTy P 10000 t = some ks := by simpa using h1
  have hxv := srel_d (hx c w _ (hs.op x (by simp [Op.operands])))
  have hyv := srel_d (hy c w _ (hs.op y (by simp [Op.operands])))
  obtain ⟨v1, v2⟩ := eqS_vals he
  generalize a.eval x = u at hxv
  generalize a.eval y = v at hyv
  cases hxv with
  | agg _ us hl _ hu =>
    cases hyv with
    | agg _ vs hl' _ hv =>
      have e1 : us = xs.map valOf := flat_vals (ks := ks) (ys := ys) (r := r) hl hu v1
      have e2 : vs = ys.map valOf := flat_vals (ks := ks) (ys := xs) (r := r) hl' hv v2
      subst e1 e2
      have hq := eq_run 10000 t ks h1 w xs ys r he
      cases hu : P.underlying t with
      | none => rw [hu] at h3; cases h3
      | some d =>
        cases d <;> simp only [hu] at h3 hq <;> first | (cases h3; done) | skip
        have hq' : (Op.equal t (.agg (xs.map valOf).toArray) (.agg (ys.map valOf).toArray)).run P w = .ok r w := hq
        rcases hop with rfl | rfl
        · simp [eqGuard, h2, binOp, hq']
        · simp [eqGuard, h2, binOp, hq']
theorem PureOp.eqlA {t t' : TypeId} {x y : Operand} {xs ys : List D} {ks : List Bool} {r : Bool} (ht : cmpOk P t ks = true) (hx : SLe (ρ x) (.d (.agg xs))) (hy : SLe (ρ y) (.d (.agg ys))) (he : eqS ks xs ys = some r) : PureOp P ⟨dst, .binOp .eql t x y t', ty, pos, aft, gd⟩ ρ bx own (.d (.v (.bool r))) :=
  .of_run fun base a w c hs => by
    have := eqA_run ht hx hy he hs (.inl rfl)
    refine ⟨.bool r, ?_, v_srel _⟩
    simp only [execOp, Sem.run_bind, this, Result.andThen_ok]
    rfl
theorem PureOp.neqA {t t' : TypeId} {x y : Operand} {xs ys : List D} {ks : List Bool} {r : Bool} (ht : cmpOk P t ks = true) (hx : SLe (ρ x) (.d (.agg xs))) (hy : SLe (ρ y) (.d (.agg ys))) (he : eqS ks xs ys = some r) : PureOp P ⟨dst, .binOp .neq t x y t', ty, pos, aft, gd⟩ ρ bx own (.d (.v (.bool (!r)))) :=
  .of_run fun base a w c hs => by
    have := eqA_run ht hx hy he hs (.inr rfl)
    refine ⟨.bool (!r), ?_, v_srel _⟩
    simp only [execOp, Sem.run_bind, this, Result.andThen_ok]
    rfl
end ops
end Eng
end Go.Proofs.Ytmmekdkllccmdaa
