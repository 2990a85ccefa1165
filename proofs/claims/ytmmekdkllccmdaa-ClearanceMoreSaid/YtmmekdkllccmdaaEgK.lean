/-
  The engine: regions whose order is drawn: operations that only compute, in any order; behind them, in turn, what changes something.
-/
import Derived.Test.YtmmekdkllccmdaaEgJ
import Derived.Orders
namespace Go.Proofs.Ytmmekdkllccmdaa
open Go.RowKit
set_option linter.unusedVariables false
namespace Eng
variable {P : Program}
/-- Pure operations, in turn. -/
inductive PSeq (P : Program) (ops : Array Oper) : List Oper → St → (St → Prop) → Prop
  | nil {st : St} {Q : St → Prop} (h : Q st) : PSeq P ops [] st Q
  | pure {st : St} {Q : St → Prop} {rest : List Oper} {op : Op} {ty : TypeId} {pos : String} {after : Array Edge} {d : Nat} {r : SV} (hp : PureOp P ⟨some d, op, ty, pos, after, none⟩ st.ev st.bx st.own r) (hd : Nat.ble (d + 1) st.n = true) (ht : Nat.ble r.top st.nx = true)
      (h : PSeq P ops rest (st.put d r) Q) : PSeq P ops (⟨some d, op, ty, pos, after, none⟩ :: rest) st Q
  | guarded {st : St} {Q : St → Prop} {rest : List Oper} {op : Op} {ty : TypeId} {pos : String} {after : Array Edge} {d j dj : Nat} {want G : Bool} {r : SV} (hj : (ops[j]?).bind (·.dst) = some dj) (hg : guardOf want (look st.sl dj) = some G)
      (hp : G = true → PureOp P ⟨some d, op, ty, pos, after, some (j, want)⟩ st.ev st.bx st.own r) (hd : Nat.ble (d + 1) st.n = true) (ht : Nat.ble r.top st.nx = true)
      (h : PSeq P ops rest (st.put d (.cnd G r)) Q) : PSeq P ops (⟨some d, op, ty, pos, after, some (j, want)⟩ :: rest) st Q
def stepOK (P : Program) (ops : Array Oper) (o : Oper) (st : St) (r : SV) : Prop := match o.guard with
  | none => PureOp P o st.ev st.bx st.own r
  | some (j, want) => ∃ (dj : Nat) (G : Bool) (r' : SV), (ops[j]?).bind (·.dst) = some dj ∧ guardOf want (look st.sl dj) = some G ∧ r = .cnd G r' ∧ (G = true → PureOp P o st.ev st.bx st.own r')
def stAt (st : St) : List Oper → List SV → Nat → St
  | o :: l, r :: rs, i + 1 => stAt (st.put (o.dst.getD 0) r) l rs i
  | _, _, _ => st
theorem stAt_same : ∀ (l : List Oper) (rs : List SV) (i : Nat) (st : St), (stAt st l rs i).bx = st.bx ∧ (stAt st l rs i).own = st.own ∧ (stAt st l rs i).nx = st.nx ∧ (stAt st l rs i).tp = st.tp ∧ (stAt st l rs i).n = st.n
  | o :: l, r :: rs, i + 1, st => stAt_same l rs i (st.put (o.dst.getD 0) r)
  | [], _, _, st => by unfold stAt; exact ⟨rfl, rfl, rfl, rfl, rfl⟩
  | _ :: _, [], _, st => by unfold stAt; exact ⟨rfl, rfl, rfl, rfl, rfl⟩
  | _ :: _, _ :: _, 0, st => by unfold stAt; exact ⟨rfl, rfl, rfl, rfl, rfl⟩
theorem PSeq.spec {ops : Array Oper} {l : List Oper} {st : St} {Q : St → Prop} (h : PSeq P ops l st Q) : ∃ rs : List SV, rs.length = l.length ∧ Q (stAt st l rs l.length) ∧
    ∀ (i : Nat) (o : Oper), l[i]? = some o → ∃ d r, rs[i]? = some r ∧ o.dst = some d ∧ d < st.n ∧ r.top ≤ st.nx ∧ stepOK P ops o (stAt st l rs i) r := by
  induction h with
  | nil h => exact ⟨[], rfl, h, fun i o hi => by simp at hi⟩
  | @pure st Q rest op ty pos after d r hp hd ht h ih =>
    obtain ⟨rs, h1, h2, h3⟩ := ih
    refine ⟨r :: rs, by simp [h1], h2, fun i o hi => ?_⟩
    cases i with
    | zero => simp at hi; subst hi; exact ⟨d, r, rfl, rfl, Nat.le_of_ble_eq_true hd, Nat.le_of_ble_eq_true ht, hp⟩
    | succ i => simp at hi; obtain ⟨d', r', q⟩ := h3 i o hi; exact ⟨d', r', q⟩
  | @guarded st Q rest op ty pos after d j dj want G r hj hg hp hd ht h ih =>
    obtain ⟨rs, h1, h2, h3⟩ := ih
    refine ⟨.cnd G r :: rs, by simp [h1], h2, fun i o hi => ?_⟩
    cases i with
    | zero => simp at hi; subst hi; exact ⟨d, .cnd G r, rfl, rfl, Nat.le_of_ble_eq_true hd, Nat.le_of_ble_eq_true ht, dj, G, r, hj, hg, rfl, hp⟩
    | succ i => simp at hi; obtain ⟨d', r', q⟩ := h3 i o hi; exact ⟨d', r', q⟩
/-- The first operation that writes a slot. -/
def wr : List Oper → Nat → Option Nat
  | [], _ => none
  | o :: l, x => match o.dst with
    | some d => bif Nat.beq d x then some 0 else (wr l x).map (· + 1)
    | none => (wr l x).map (· + 1)
theorem wr_lt : ∀ {l : List Oper} {x j : Nat}, wr l x = some j → j < l.length
  | [], x, j, h => by simp [wr] at h
  | o :: l, x, j, h => by
    unfold wr at h
    have hm : (wr l x).map (· + 1) = some j → j < (o :: l).length := fun h => by
      obtain ⟨k, hk, e⟩ := Option.map_eq_some_iff.1 h
      have := wr_lt hk
      simp; omega
    split at h
    · rename_i d _
      cases hb : Nat.beq d x with
      | true => rw [hb] at h; simp at h; subst h; simp
      | false => rw [hb] at h; exact hm h
    · exact hm h
/-- Each operation writes a slot of its own. -/
def dstOK (l : List Oper) : Bool := (List.range l.length).all fun i => match l[i]? with
  | some o => match o.dst with
    | some d => (match wr l d with
      | some j => Nat.beq j i
      | none => false)
    | none => false
  | none => true
theorem dstOK_spec {l : List Oper} (h : dstOK l = true) {i : Nat} {o : Oper} (hi : l[i]? = some o) : ∃ d, o.dst = some d ∧ wr l d = some i := by
  have hlt := (List.getElem?_eq_some_iff.1 hi).1
  have := List.all_eq_true.1 h i (List.mem_range.2 hlt)
  simp only [hi] at this
  cases hd : o.dst with
  | none => rw [hd] at this; cases this
  | some d =>
    rw [hd] at this
    cases hw : wr l d with
    | none => simp [hw] at this
    | some j => simp only [hw] at this; exact ⟨d, rfl, by rw [hw, beq_eq this]⟩
def valAt (st : St) (l : List Oper) (rs : List SV) (L : Nat → Bool) (x : Nat) : SV := match wr l x with
  | some j => bif L j then rs.getD j .un else look st.sl x
  | none => look st.sl x
theorem look_stAt : ∀ (l : List Oper) (rs : List SV) (i : Nat) (st : St) (hd : ∀ (i : Nat) (o : Oper), l[i]? = some o → ∃ d, o.dst = some d ∧ wr l d = some i) (hl : rs.length = l.length) (hi : i ≤ l.length) (x : Nat), look (stAt st l rs i).sl x = valAt st l rs (fun j => decide (j < i)) x
  | [], rs, i, st, _, _, _, x => by simp [stAt, valAt, wr]
  | o :: l, [], i, st, _, hl, _, x => by simp at hl
  | o :: l, r :: rs, 0, st, _, _, _, x => by
    unfold stAt valAt
    split <;> simp
  | o :: l, r :: rs, i + 1, st, hd, hl, hi, x => by
    obtain ⟨d, h1, h2⟩ := hd 0 o rfl
    have hd' : ∀ (i : Nat) (o' : Oper), l[i]? = some o' → ∃ d, o'.dst = some d ∧ wr l d = some i := fun i o' hi => by
      obtain ⟨d', k1, k2⟩ := hd (i + 1) o' (by simpa using hi)
      refine ⟨d', k1, ?_⟩
      unfold wr at k2
      rw [h1] at k2
      simp only at k2
      cases hb : Nat.beq d d' with
      | true => rw [hb] at k2; simp at k2
      | false =>
        rw [hb] at k2
        simpa using k2
    have ih := look_stAt l rs i (st.put (o.dst.getD 0) r) hd' (by simpa using hl) (by simpa using hi) x
    show look (stAt (st.put (o.dst.getD 0) r) l rs i).sl x = _
    rw [ih, h1]
    unfold valAt
    show (match wr l x with
      | some j => bif decide (j < i) then rs.getD j .un else look ((d, r) :: st.sl) x
      | none => look ((d, r) :: st.sl) x) = match wr (o :: l) x with
      | some j => bif decide (j < i + 1) then (r :: rs).getD j .un else look st.sl x
      | none => look st.sl x
    have hw : wr (o :: l) x = if d = x then some 0 else (wr l x).map (· + 1) := by
      show (match o.dst with | some d => bif Nat.beq d x then some 0 else (wr l x).map (· + 1) | none => (wr l x).map (· + 1)) = _
      rw [h1]
      by_cases e : d = x
      · subst e; simp
      · simp [beq_ne e, e]
    rw [hw, look_cons]
    by_cases e : d = x
    · subst e
      simp only [if_true]
      cases hwx : wr l d with
      | none => simp
      | some j =>
        have hj := wr_lt hwx
        obtain ⟨d', k1, k2⟩ := hd (j + 1) _ (by rw [List.getElem?_cons_succ]; exact List.getElem?_eq_getElem hj)
        obtain ⟨d2, k3, k4⟩ := hd' j _ (List.getElem?_eq_getElem hj)
        exfalso
        have e1 : d' = d2 := by rw [k1] at k3; exact Option.some.inj k3
        subst e1
        -- the writer at j writes d' whose first writer in l is j; in o :: l it is j + 1, so d' ≠ d; but wr l d = some j means l[j] writes d
        have hdd : ∀ {l : List Oper} {x j : Nat}, wr l x = some j → ∃ o', l[j]? = some o' ∧ o'.dst = some x := by
          intro l
          induction l with
          | nil => intro x j h; simp [wr] at h
          | cons a l ih =>
            intro x j h
            unfold wr at h
            have hm : (wr l x).map (· + 1) = some j → ∃ o', (a :: l)[j]? = some o' ∧ o'.dst = some x := fun h => by
              obtain ⟨k, hk, e⟩ := Option.map_eq_some_iff.1 h
              obtain ⟨o', q1, q2⟩ := ih hk
              exact ⟨o', by rw [← e]; simpa using q1, q2⟩
            split at h
            · rename_i d0 hd0
              cases hb : Nat.beq d0 x with
              | true => rw [hb] at h; simp at h; subst h; exact ⟨a, rfl, by rw [hd0, beq_eq hb]⟩
              | false => rw [hb] at h; exact hm h
            · exact hm h
        obtain ⟨o', q1, q2⟩ := hdd hwx
        rw [List.getElem?_eq_getElem hj] at q1
        injection q1 with q1
        rw [q1] at k1
        rw [k1] at q2
        injection q2 with q2
        subst q2
        rw [hw] at k2
        simp at k2
    · simp only [if_neg e]
      cases hwx : wr l x with
      | none => simp
      | some j => simp
/-- The edges of an operation that bind in every order. -/
def bnd (o : Oper) : List Nat := (o.after.toList.filter (Region.binds .any)).map (·.on)
theorem mem_bnd {o : Oper} {j : Nat} : j ∈ bnd o ↔ ∃ e ∈ o.after, Region.binds .any e = true ∧ e.on = j := by
  unfold bnd
  rw [List.mem_map]
  constructor
  · rintro ⟨e, he, rfl⟩
    obtain ⟨h1, h2⟩ := List.mem_filter.1 he
    exact ⟨e, Array.mem_toList_iff.1 h1, h2, rfl⟩
  · rintro ⟨e, h1, h2, rfl⟩
    exact ⟨e, List.mem_filter.2 ⟨Array.mem_toList_iff.2 h1, h2⟩, rfl⟩
def has (l : List Nat) (x : Nat) : Bool := l.any (Nat.beq x)
theorem has_spec {l : List Nat} {x : Nat} (h : has l x = true) : x ∈ l := by
  obtain ⟨y, h1, h2⟩ := List.any_eq_true.1 h
  rw [beq_eq h2]; exact h1
def bndAt (l : List Oper) (i : Nat) : List Nat := match l[i]? with
  | some o => bnd o
  | none => []
/-- What must be done ahead of everything in s, as far as it lies below j. -/
def clos (l : List Oper) : Nat → List Nat → List Nat
  | 0, s => s
  | j + 1, s => clos l j (bif has s j then bndAt l j ++ s else s)
theorem clos_spec {l : List Oper} {L : Nat → Bool} (hL : ∀ i, L i = true → ∀ j ∈ bndAt l i, L j = true) : ∀ (j : Nat) (s : List Nat), (∀ x ∈ s, L x = true) → ∀ x ∈ clos l j s, L x = true
  | 0, s, hs => hs
  | j + 1, s, hs => clos_spec hL j _ (by
    cases hb : has s j with
    | false => exact hs
    | true =>
      simp only [cond_true]
      intro x hx
      rcases List.mem_append.1 hx with h | h
      · exact hL j (hs j (has_spec hb)) x h
      · exact hs x h)
/-- A region's order does not matter: l1 are pure, F may be done at once; l2 comes behind, in turn. -/
def drawOK (l1 l2 : List Oper) (F : List Nat) : Bool :=
  dstOK l1 && ((List.range (l1 ++ l2).length).all fun i => (bndAt (l1 ++ l2) i).all fun j => Nat.blt j i) &&
  ((List.range l1.length).all fun i => match l1[i]? with
    | some o => (o.looksAt (l1 ++ l2).toArray).all fun t => match wr l1 t with
      | some j => bif Nat.blt j i then has (bnd o) j else Nat.beq j i || has (bndAt l1 j) i
      | none => true
    | none => true) &&
  (match l2 with
    | [] => true
    | _ :: _ => (List.range l1.length).all (has (clos (l1 ++ l2) l1.length (bndAt (l1 ++ l2) l1.length ++ F))) && ((List.range (l1 ++ l2).length).all fun i => Nat.ble i l1.length || has (bndAt (l1 ++ l2) i) (i - 1)))
structure DrawOK (l1 l2 : List Oper) (F : List Nat) : Prop where
  dst : ∀ (i : Nat) (o : Oper), l1[i]? = some o → ∃ d, o.dst = some d ∧ wr l1 d = some i
  lt : ∀ i, ∀ j ∈ bndAt (l1 ++ l2) i, j < i
  op : ∀ (i : Nat) (o : Oper), l1[i]? = some o → ∀ t ∈ o.looksAt (l1 ++ l2).toArray, ∀ j, wr l1 t = some j → (j < i ∧ j ∈ bnd o) ∨ j = i ∨ (i ≤ j ∧ i ∈ bndAt l1 j)
  first : l2 ≠ [] → ∀ L : Nat → Bool, (∀ i, L i = true → ∀ j ∈ bndAt (l1 ++ l2) i, L j = true) → (∀ x ∈ F, L x = true) → (∀ x ∈ bndAt (l1 ++ l2) l1.length, L x = true) → ∀ x, x < l1.length → L x = true
  next : ∀ i, l1.length < i → i < (l1 ++ l2).length → i - 1 ∈ bndAt (l1 ++ l2) i
theorem drawOK_spec {l1 l2 : List Oper} {F : List Nat} (h : drawOK l1 l2 F = true) : DrawOK l1 l2 F := by
  unfold drawOK at h
  simp only [Bool.and_eq_true] at h
  obtain ⟨⟨⟨h1, h2⟩, h3⟩, h4⟩ := h
  refine ⟨fun i o hi => dstOK_spec h1 hi, fun i j hj => ?_, fun i o hi t ht j hw => ?_, fun hne L hL hF hb x hx => ?_, fun i hi hi2 => ?_⟩
  · by_cases hlt : i < (l1 ++ l2).length
    · exact Nat.le_of_ble_eq_true (List.all_eq_true.1 (List.all_eq_true.1 h2 i (List.mem_range.2 hlt)) j hj)
    · unfold bndAt at hj
      rw [List.getElem?_eq_none (Nat.le_of_not_lt hlt)] at hj
      simp at hj
  · have := List.all_eq_true.1 h3 i (List.mem_range.2 (List.getElem?_eq_some_iff.1 hi).1)
    simp only [hi] at this
    have := List.all_eq_true.1 this t ht
    simp only [hw] at this
    cases hb : Nat.blt j i with
    | true => rw [hb] at this; exact .inl ⟨Nat.le_of_ble_eq_true hb, has_spec this⟩
    | false =>
      rw [hb] at this
      simp only [cond_false, Bool.or_eq_true] at this
      rcases this with h | h
      · exact .inr (.inl (beq_eq h))
      · refine .inr (.inr ⟨?_, has_spec h⟩)
        apply Nat.le_of_not_lt
        intro hlt
        have : Nat.blt j i = true := Nat.ble_eq_true_of_le hlt
        rw [this] at hb; cases hb
  · cases l2 with
    | nil => exact absurd rfl hne
    | cons o l2 =>
      simp only [Bool.and_eq_true] at h4
      refine clos_spec hL _ _ (fun y hy => ?_) x (has_spec (List.all_eq_true.1 h4.1 x (List.mem_range.2 hx)))
      rcases List.mem_append.1 hy with hy | hy
      · exact hb y hy
      · exact hF y hy
  · cases l2 with
    | nil => simp at hi2; omega
    | cons o l2 =>
      simp only [Bool.and_eq_true] at h4
      have := List.all_eq_true.1 h4.2 i (List.mem_range.2 hi2)
      simp only [Bool.or_eq_true] at this
      rcases this with h | h
      · have := Nat.le_of_ble_eq_true h; omega
      · exact has_spec h
theorem wanted_of {ops : Array Oper} {st : St} {a : Act} {w : World} {c : Cx} {o : Oper} {j dj : Nat} {want G : Bool} (ho : o.guard = some (j, want)) (hj : (ops[j]?).bind (·.dst) = some dj) (hg : guardOf want (look st.sl dj) = some G) (hjs : SRel c w (look st.sl dj) (a.tmps.getD dj undef)) :
    Region.wanted o (yielded ops a.tmps) = G := by
  have hgd : ∀ b, a.tmps.getD dj undef = .bool b → a.tmps[dj]? = some (.bool b) := fun b hb => by
    rw [Array.getD_eq_getD_getElem?] at hb
    cases hx : a.tmps[dj]? with
    | none => rw [hx] at hb; cases hb
    | some u => rw [hx] at hb; simpa using hb
  have hun : a.tmps.getD dj undef = undef → ∀ b, a.tmps[dj]? ≠ some (.bool b) := fun hb b hx => by
    rw [Array.getD_eq_getD_getElem?, hx] at hb
    cases hb
  unfold Region.wanted yielded
  simp only [ho, hj, Option.bind_some]
  cases hs : look st.sl dj with
  | d x =>
    rw [hs] at hg hjs
    cases x with
    | v u =>
      cases u with
      | bool b =>
        simp only [guardOf, Option.some.injEq] at hg
        rw [hgd b (srel_v hjs), ← hg]
        cases b <;> cases want <;> rfl
      | _ => simp [guardOf] at hg
    | _ => simp [guardOf] at hg
  | cnd g x =>
    rw [hs] at hg hjs
    obtain ⟨hj1, hj2⟩ := srel_cnd hjs
    cases x with
    | d x =>
      cases x with
      | v u =>
        cases u with
        | bool b =>
          simp only [guardOf, Option.some.injEq] at hg
          rw [← hg]
          cases hgb : g with
          | true =>
            rw [hgd b (srel_v (hj1 hgb))]
            cases b <;> cases want <;> rfl
          | false =>
            have := hun (hj2 hgb)
            cases hx : a.tmps[dj]? with
            | none => simp
            | some u =>
              cases u with
              | bool b' => exact absurd hx (this b')
              | _ => simp
        | _ => simp [guardOf] at hg
      | _ => simp [guardOf] at hg
    | _ => simp [guardOf] at hg
  | _ => rw [hs] at hg; simp [guardOf] at hg
theorem RelX.drew {w0 : World} {S0 : Ev} {st : St} {a : Act} {w : World} {c : Cx} (h : RelX w0 S0 st a w c) (n : Nat) : RelX w0 S0 st a { w with drawn := n } c :=
  h.grow (S' := c.S) ⟨⟨rfl, rfl, rfl, Nat.le_refl _, fun _ _ => rfl⟩, fun _ _ _ => Iff.rfl, h.sb⟩
/-- The same, told by other lists of slots. -/
theorem RelX.slots {w0 : World} {S0 : Ev} {st st' : St} {a : Act} {w : World} {c : Cx} (h : RelX w0 S0 st a w c) (hs : ∀ x, look st'.sl x = look st.sl x) (h1 : st'.bx = st.bx ∧ st'.own = st.own ∧ st'.nx = st.nx ∧ st'.tp = st.tp ∧ st'.n = st.n) : RelX w0 S0 st' a w c := by
  obtain ⟨e1, e2, e3, e4, e5⟩ := h1
  refine ⟨h.below, h.df, by rw [e5]; exact h.sz, fun x => by rw [hs]; exact h.sl x, fun x => by rw [hs, e3]; exact h.top x, h.sb, ?_, ?_, ?_, ?_, ?_, h.old, h.stt, by rw [e4, e1, e2]; exact h.tp⟩
  · rw [e1, e3]; exact h.bx
  · rw [e1]; exact h.bxd
  · rw [e2, e3]; exact h.ow
  · rw [e2]; exact h.owd
  · rw [e1, e2]; exact h.owb
theorem cnt_set : ∀ (L : List Bool) (i : Nat), L[i]? = some false → (L.set i true).count false + 1 = L.count false
  | [], i, h => by simp at h
  | b :: L, 0, h => by simp at h; subst h; simp
  | b :: L, i + 1, h => by
    have := cnt_set L i (by simpa using h)
    rw [List.set_cons_succ, List.count_cons, List.count_cons]
    omega
theorem cnt_zero {L : List Bool} (h : L.count false = 0) {i : Nat} {b : Bool} (hi : L[i]? = some b) : b = true := by
  cases b with
  | true => rfl
  | false =>
    have := List.count_eq_zero.1 h
    exact absurd (List.mem_of_getElem? hi) this
section
variable {w0 : World} {S0 : Ev} {T : Nat → Prop}
theorem draw_main {l1 l2 : List Oper} {F : List Nat} {st : St} {rs : List SV} {Qx : Exit → Act → World → Prop} (hok : DrawOK l1 l2 F) (hl : rs.length = l1.length)
    (hops : ∀ (i : Nat) (o : Oper), l1[i]? = some o → ∃ d r, rs[i]? = some r ∧ o.dst = some d ∧ d < st.n ∧ r.top ≤ st.nx ∧ stepOK P (l1 ++ l2).toArray o (stAt st l1 rs i) r)
    (hend : ∀ a w, Rel w0 S0 T (stAt st l1 rs l1.length) a w → wpList P (l1 ++ l2).toArray Qx l2 a w) :
    ∀ (fuel : Nat) (L : Array Bool) (a : Act) (w : World), L.size = (l1 ++ l2).length → (∀ i, L.getD i false = true → ∀ j ∈ bndAt (l1 ++ l2) i, L.getD j false = true) → (∀ x ∈ F, L.getD x false = true) → L.toList.count false ≤ fuel → (∀ i, l1.length ≤ i → L.getD i false = false) →
      (∃ stx, (∀ x, look stx.sl x = valAt st l1 rs (fun j => L.getD j false) x) ∧ (stx.bx = st.bx ∧ stx.own = st.own ∧ stx.nx = st.nx ∧ stx.tp = st.tp ∧ stx.n = st.n) ∧ Rel w0 S0 T stx a w) → wpAny P .any (l1 ++ l2).toArray Qx fuel L a w := by
  have hget : ∀ (i : Nat), ((l1 ++ l2).toArray)[i]? = (l1 ++ l2)[i]? := fun i => by simp
  have hbnd : ∀ {i : Nat} {o : Oper}, (l1 ++ l2)[i]? = some o → bndAt (l1 ++ l2) i = bnd o := fun h => by unfold bndAt; rw [h]
  have hrdy : ∀ (L : Array Bool) (i : Nat), i ∈ Region.ready .any (l1 ++ l2).toArray L ↔ L.getD i true = false ∧ ∃ o, (l1 ++ l2)[i]? = some o ∧ ∀ j ∈ bnd o, L.getD j false = true := fun L i => by
    rw [mem_ready, hget]
    constructor
    · rintro ⟨h1, o, h2, h3⟩
      exact ⟨h1, o, h2, fun j hj => by obtain ⟨e, he, hb, rfl⟩ := mem_bnd.1 hj; exact h3 e he hb⟩
    · rintro ⟨h1, o, h2, h3⟩
      exact ⟨h1, o, h2, fun e he hb => h3 _ (mem_bnd.2 ⟨e, he, hb, rfl⟩)⟩
  have hset : ∀ (L : Array Bool) (i j : Nat), i < L.size → ∀ d, (L.setIfInBounds i true).getD j d = if i = j then true else L.getD j d := fun L i j hi d => by
    rw [Array.getD_eq_getD_getElem?, Array.getD_eq_getD_getElem?]
    by_cases e : i = j
    · subst e; simp [hi]
    · simp [Array.getElem?_setIfInBounds_ne e, e]
  have hdd : ∀ (L : Array Bool) (i : Nat), i < L.size → L.getD i true = L.getD i false := fun L i hi => by simp [hi]
  -- behind l1: l2 in turn
  have tail : ∀ (rest : List Oper) (k : Nat) (fuel : Nat) (L : Array Bool) (a : Act) (w : World), (l1 ++ l2).drop k = rest → l1.length ≤ k → L.size = (l1 ++ l2).length → (∀ i, L.getD i false = decide (i < k)) → rest.length ≤ fuel →
      wpList P (l1 ++ l2).toArray Qx rest a w → wpAny P .any (l1 ++ l2).toArray Qx fuel L a w := by
    intro rest
    induction rest with
    | nil =>
      intro k fuel L a w hd hk hs hL hf hw
      have hkl : (l1 ++ l2).length ≤ k := by rw [← List.drop_eq_nil_iff]; exact hd
      refine wpAny_done ?_ hw fuel
      rw [List.eq_nil_iff_forall_not_mem]
      intro i hi
      obtain ⟨h1, o, h2, _⟩ := (hrdy L i).1 hi
      have hi' := (List.getElem?_eq_some_iff.1 h2).1
      rw [hdd L i (by omega), hL i] at h1
      simp at h1; omega
    | cons o rest ih =>
      intro k fuel L a w hd hk hs hL hf hw
      have hkl : k < (l1 ++ l2).length := by
        apply Nat.lt_of_not_le; intro h
        rw [List.drop_eq_nil_iff.2 h] at hd; cases hd
      have hok' : (l1 ++ l2)[k]? = some o := by
        have := List.getElem?_drop (xs := l1 ++ l2) (i := k) (j := 0)
        rw [hd] at this; simpa using this.symm
      cases fuel with
      | zero => simp at hf
      | succ fuel =>
        have hall : ∀ i ∈ Region.ready .any (l1 ++ l2).toArray L, i = k := fun i hi => by
          obtain ⟨h1, o', h2, h3⟩ := (hrdy L i).1 hi
          have hi' := (List.getElem?_eq_some_iff.1 h2).1
          rw [hdd L i (by omega), hL i] at h1
          have hik : k ≤ i := by simpa using h1
          by_cases e : i = k
          · exact e
          · exfalso
            have := h3 (i - 1) (by rw [← hbnd h2]; exact hok.next i (by omega) hi')
            rw [hL] at this
            simp at this; omega
        have hin : k ∈ Region.ready .any (l1 ++ l2).toArray L := by
          refine (hrdy L k).2 ⟨by rw [hdd L k (by omega), hL k]; simp, o, hok', fun j hj => ?_⟩
          rw [hL]
          have := hok.lt k j (by rw [hbnd hok']; exact hj)
          simpa using this
        refine ⟨fun h0 => (by rw [h0] at hin; cases hin), fun i hi => ?_⟩
        have := hall i hi
        subst this
        have hnext : ∀ a w, wpList P (l1 ++ l2).toArray Qx rest a w → wpAny P .any (l1 ++ l2).toArray Qx fuel (L.setIfInBounds i true) a w := fun a w hw' =>
          ih (i + 1) fuel _ a w (by rw [← List.drop_drop, hd]; rfl) (by omega) (by simpa using hs) (fun j => by
            rw [hset L i j (by omega) false, hL j]
            by_cases e : i = j
            · subst e; simp
            · rw [if_neg e]; congr 1; apply propext; omega) (by simpa using hf) hw'
        unfold wpOp
        rw [hget, hok']
        simp only
        unfold wpList at hw
        split
        · rename_i hwt
          rw [if_pos hwt] at hw
          exact hw.imp (Oper.wp_mono hnext) id
        · rename_i hwt
          rw [if_neg hwt] at hw
          exact hnext _ _ hw
  intro fuel
  induction fuel with
  | zero =>
    intro L a w hs hcl hF hc hlo hx
    have hall : ∀ i, i < (l1 ++ l2).length → L.getD i false = true := fun i hi => by
      have : L.toList[i]? = some (L.getD i false) := by simp [show i < L.size by omega]
      exact cnt_zero (Nat.le_zero.1 hc) this
    have h2 : l2 = [] := by
      cases l2 with
      | nil => rfl
      | cons o r =>
        have := hall l1.length (by simp)
        rw [hlo l1.length (Nat.le_refl _)] at this; cases this
    subst h2
    refine tail [] l1.length 0 L a w (by simp) (Nat.le_refl _) hs (fun i => ?_) (Nat.le_refl _) (hend a w ?_)
    · by_cases h : i < l1.length
      · rw [hall i (by simpa using h)]; simp [h]
      · rw [hlo i (by omega)]; simp [h]
    · obtain ⟨stx, h1, h2, c, hT, hr⟩ := hx
      obtain ⟨q1, q2, q3, q4, q5⟩ := stAt_same l1 rs l1.length st
      obtain ⟨p1, p2, p3, p4, p5⟩ := h2
      refine ⟨c, hT, hr.slots (fun x => ?_) ⟨q1.trans p1.symm, q2.trans p2.symm, q3.trans p3.symm, q4.trans p4.symm, q5.trans p5.symm⟩⟩
      rw [h1, look_stAt l1 rs l1.length st hok.dst hl (Nat.le_refl _)]
      unfold valAt
      cases hw : wr l1 x with
      | none => rfl
      | some j => have := wr_lt hw; simp only [hall j (by simpa using this), this, decide_true]
  | succ fuel ih =>
    intro L a w hs hcl hF hc hlo hx
    by_cases hdone : ∀ i, i < l1.length → L.getD i false = true
    · have hLk : ∀ i, L.getD i false = decide (i < l1.length) := fun i => by
        by_cases h : i < l1.length
        · rw [hdone i h]; simp [h]
        · rw [hlo i (by omega)]; simp [h]
      refine tail l2 l1.length (fuel + 1) L a w (by simp) (Nat.le_refl _) hs hLk ?_ (hend a w ?_)
      · refine Nat.le_trans ?_ hc
        have hL : L.toList = List.replicate l1.length true ++ List.replicate l2.length false := by
          apply List.ext_getElem?
          intro i
          rw [Array.getElem?_toList]
          by_cases hi : i < L.size
          · have : L[i]? = some (L.getD i false) := by simp [hi]
            rw [this, hLk i, List.getElem?_append]
            by_cases h : i < l1.length
            · simp [h]
            · rw [hs, List.length_append] at hi
              simp [h, List.getElem?_replicate]; omega
          · rw [Array.getElem?_eq_none (by omega), List.getElem?_eq_none]
            rw [hs, List.length_append] at hi
            simp; omega
        rw [hL, List.count_append]
        simp
      · obtain ⟨stx, h1, h2, c, hT, hr⟩ := hx
        obtain ⟨q1, q2, q3, q4, q5⟩ := stAt_same l1 rs l1.length st
        obtain ⟨p1, p2, p3, p4, p5⟩ := h2
        refine ⟨c, hT, hr.slots (fun x => ?_) ⟨q1.trans p1.symm, q2.trans p2.symm, q3.trans p3.symm, q4.trans p4.symm, q5.trans p5.symm⟩⟩
        rw [h1, look_stAt l1 rs l1.length st hok.dst hl (Nat.le_refl _)]
        unfold valAt
        cases hw : wr l1 x with
        | none => rfl
        | some j => have := wr_lt hw; simp only [hdone j this, this, decide_true]
    · -- someone of l1 is ready
      have hsome : ∃ i, i < l1.length ∧ L.getD i false = false ∧ ∀ j, j < i → L.getD j false = true := by
        have : ∀ n, n ≤ l1.length → (∀ j, j < n → L.getD j false = true) ∨ ∃ i, i < l1.length ∧ L.getD i false = false ∧ ∀ j, j < i → L.getD j false = true := by
          intro n
          induction n with
          | zero => exact fun _ => .inl fun j hj => absurd hj (Nat.not_lt_zero _)
          | succ n ihn =>
            intro hn
            rcases ihn (by omega) with h | h
            · cases hb : L.getD n false with
              | true =>
                refine .inl fun j hj => ?_
                by_cases e : j = n
                · rw [e]; exact hb
                · exact h j (by omega)
              | false => exact .inr ⟨n, by omega, hb, h⟩
            · exact .inr h
        rcases this l1.length (Nat.le_refl _) with h | h
        · exact absurd h hdone
        · exact h
      obtain ⟨i0, hi0, hi1, hi2⟩ := hsome
      have hin : i0 ∈ Region.ready .any (l1 ++ l2).toArray L := by
        have hlen : i0 < (l1 ++ l2).length := by simp; omega
        refine (hrdy L i0).2 ⟨by rw [hdd L i0 (by omega)]; exact hi1, _, List.getElem?_eq_getElem hlen, fun j hj => hi2 j (hok.lt i0 j (by rw [hbnd (List.getElem?_eq_getElem hlen)]; exact hj))⟩
      refine ⟨fun h0 => (by rw [h0] at hin; cases hin), fun i hi => ?_⟩
      obtain ⟨h1, o, h2, h3⟩ := (hrdy L i).1 hi
      have hi' := (List.getElem?_eq_some_iff.1 h2).1
      have hiL : i < L.size := by omega
      have hif : L.getD i false = false := by rw [← hdd L i hiL]; exact h1
      have hil : i < l1.length := by
        apply Nat.lt_of_not_le
        intro hge
        rcases Nat.lt_or_eq_of_le hge with hlt | he
        · have := h3 (i - 1) (by rw [← hbnd h2]; exact hok.next i hlt hi')
          rw [hlo (i - 1) (by omega)] at this; cases this
        · refine hdone (hok.first (fun e => ?_) (fun j => L.getD j false) hcl hF (fun x hx => ?_))
          · subst e; simp at hi'; omega
          · rw [he] at hx; rw [hbnd h2] at hx; exact h3 x hx
      have ho1 : l1[i]? = some o := by rw [List.getElem?_append_left hil] at h2; exact h2
      obtain ⟨d, r, hr1, hr2, hr3, hr4, hr5⟩ := hops i o ho1
      obtain ⟨d', hd1, hd2⟩ := hok.dst i o ho1
      have hdd' : d' = d := by rw [hr2] at hd1; exact (Option.some.inj hd1).symm
      subst hdd'
      obtain ⟨stx, g1, g2, c, hT, hr⟩ := hx
      -- what the operation sees
      have hsame : ∀ t ∈ o.looksAt (l1 ++ l2).toArray, look stx.sl t = look (stAt st l1 rs i).sl t := fun t ht => by
        rw [g1, look_stAt l1 rs i st hok.dst hl (Nat.le_of_lt hil)]
        unfold valAt
        cases hw : wr l1 t with
        | none => rfl
        | some j =>
          have : L.getD j false = decide (j < i) := by
            rcases hok.op i o ho1 t ht j hw with ⟨k1, k2⟩ | k1 | ⟨k1, k2⟩
            · rw [h3 j k2]; simp [k1]
            · rw [k1, hif]; simp
            · have hnot : ¬ j < i := by omega
              cases hLj : L.getD j false with
              | false => simp [hnot]
              | true =>
                have hb : bndAt (l1 ++ l2) j = bndAt l1 j := by unfold bndAt; rw [List.getElem?_append_left (wr_lt hw)]
                have := hcl j hLj i (by rw [hb]; exact k2)
                rw [hif] at this; cases this
          simp only [this]
      obtain ⟨s1, s2, s3, s4, s5⟩ := stAt_same l1 rs i st
      obtain ⟨p1, p2, p3, p4, p5⟩ := g2
      have hsees : Sees o (stAt st l1 rs i).ev (stAt st l1 rs i).bx (stAt st l1 rs i).own w0.heap.size a w c := by
        refine ⟨fun x hx => ?_, fun id cs hc => (hr.bx id cs (by rw [p1, ← s1]; exact hc)).2.2, fun id y hy => (hr.ow id y (by rw [p2, ← s2]; exact hy)).2, hr.sb⟩
        cases x with
        | tmp t =>
          have := hsame t (by
            unfold Oper.looksAt
            refine List.mem_append_left _ (List.mem_filterMap.2 ⟨.tmp t, Array.mem_toList_iff.2 hx, rfl⟩))
          show SRel c w (look (stAt st l1 rs i).sl t) _
          rw [← this]; exact hr.sl t
        | const v => exact .d _ _ (.v v)
        | func f => exact .d _ _ (.v _)
        | global g => exact .un _
      have hnext : ∀ (v : Value) (w' : World) (S' : Cells), Ext c.S w S' w' → SRel ⟨S', c.B, c.O, c.T⟩ w' r v → wpAny P .any (l1 ++ l2).toArray Qx fuel (L.setIfInBounds i true) (a.put o.dst v) w' := fun v w' S' he hv => by
        refine ih _ _ _ (by simpa using hs) (fun j hj k hk => ?_) (fun x hx => ?_) ?_ (fun j hj => ?_) ?_
        · rw [hset L i k hiL false]
          rw [hset L i j hiL false] at hj
          by_cases e : i = j
          · subst e
            split
            · rfl
            · exact h3 k (by rw [← hbnd h2]; exact hk)
          · rw [if_neg e] at hj
            split
            · rfl
            · exact hcl j hj k hk
        · rw [hset L i x hiL false]
          split
          · rfl
          · exact hF x hx
        · have hLi : L.toList[i]? = some false := by
            have : L.toList[i]? = some (L.getD i false) := by simp [hiL]
            rw [this, hif]
          have := cnt_set L.toList i hLi
          rw [Array.toList_setIfInBounds]
          omega
        · rw [hset L i j hiL false, if_neg (by omega)]; exact hlo j hj
        · refine ⟨stx.put d' r, fun x => ?_, ⟨p1, p2, p3, p4, p5⟩, ⟨S', c.B, c.O, c.T⟩, hT, ?_⟩
          · show look ((d', r) :: stx.sl) x = _
            rw [look_cons, g1]
            unfold valAt
            by_cases e : d' = x
            · subst e
              rw [if_pos rfl, hd2]
              simp only [hset L i i hiL false, if_true, cond_true]
              rw [List.getD_eq_getElem?_getD, hr1]; rfl
            · rw [if_neg e]
              cases hw : wr l1 x with
              | none => rfl
              | some j =>
                have hji : i ≠ j := by
                  rintro rfl
                  have hdst : ∀ {l : List Oper} {x j : Nat}, wr l x = some j → ∃ o', l[j]? = some o' ∧ o'.dst = some x := by
                    intro l
                    induction l with
                    | nil => intro x j h; simp [wr] at h
                    | cons a l ih =>
                      intro x j h
                      unfold wr at h
                      have hm : (wr l x).map (· + 1) = some j → ∃ o', (a :: l)[j]? = some o' ∧ o'.dst = some x := fun h => by
                        obtain ⟨k, hk, e⟩ := Option.map_eq_some_iff.1 h
                        obtain ⟨o', q1, q2⟩ := ih hk
                        exact ⟨o', by rw [← e]; simpa using q1, q2⟩
                      split at h
                      · rename_i d0 hd0
                        cases hb : Nat.beq d0 x with
                        | true => rw [hb] at h; simp at h; subst h; exact ⟨a, rfl, by rw [hd0, beq_eq hb]⟩
                        | false => rw [hb] at h; exact hm h
                      · exact hm h
                  obtain ⟨o', q1, q2⟩ := hdst hw
                  rw [ho1] at q1
                  injection q1 with q1
                  subst q1
                  rw [hr2] at q2
                  exact e (Option.some.inj q2)
                simp only [hset L i j hiL false, if_neg hji]
          · rw [hr2]
            exact (hr.grow he).put (by rw [p5]; exact hr3) hv (by rw [p3]; exact hr4)
      unfold wpOp
      rw [hget, h2]
      simp only
      unfold stepOK at hr5
      cases hgd : o.guard with
      | none =>
        rw [hgd] at hr5
        simp only [Region.wanted, hgd, if_true]
        exact .inl (hr5 w0.heap.size a w c hsees _ _ hnext)
      | some jw =>
        obtain ⟨j, want⟩ := jw
        rw [hgd] at hr5
        obtain ⟨dj, G, r', k1, k2, k3, k4⟩ := hr5
        have hdj : look stx.sl dj = look (stAt st l1 rs i).sl dj := hsame dj (by unfold Oper.looksAt; rw [hgd]; refine List.mem_append_right _ ?_; simp only [k1]; simp)
        have hwt : Region.wanted o (yielded (l1 ++ l2).toArray a.tmps) = G := wanted_of (st := stAt st l1 rs i) hgd k1 k2 (by rw [← hdj]; exact hr.sl dj)
        rw [hwt]
        cases hG : G with
        | true =>
          simp only [if_true]
          refine .inl (k4 hG w0.heap.size a w c hsees _ _ fun v w' S' he hv => hnext v w' S' he ?_)
          rw [k3]
          exact .cnd G r' v (fun _ => hv) (fun e => by rw [hG] at e; cases e)
        | false =>
          simp only [Bool.false_eq_true, if_false]
          refine hnext undef w c.S (Ext.refl hr.sb) ?_
          rw [k3]
          exact .cnd G r' undef (fun e => by rw [hG] at e; cases e) (fun _ => rfl)
/-- How far a drawn region has come. -/
def DInv (w0 : World) (S0 : Ev) (T : Nat → Prop) (st : St) (l1 : List Oper) (rs : List SV) (L : Array Bool) (a : Act) (w : World) : Prop :=
  ∃ stx : St, (∀ x, look stx.sl x = valAt st l1 rs (fun j => L.getD j false) x) ∧ (stx.bx = st.bx ∧ stx.own = st.own ∧ stx.nx = st.nx ∧ stx.tp = st.tp ∧ stx.n = st.n) ∧ Rel w0 S0 T stx a w
theorem set_getD {L : Array Bool} {i : Nat} (j : Nat) (hi : i < L.size) (d : Bool) : (L.setIfInBounds i true).getD j d = if i = j then true else L.getD j d := by
  rw [Array.getD_eq_getD_getElem?, Array.getD_eq_getD_getElem?]
  by_cases e : i = j
  · subst e; simp [hi]
  · simp [Array.getElem?_setIfInBounds_ne e, e]
/-- An operation that moves a slot, done ahead of all others. -/
def isMove (o : Oper) : Bool := match o.op, o.guard with
  | .move _, none => true
  | .assign _, none => true
  | _, _ => false
theorem move_yields {ops : Array Oper} {o : Oper} (h : isMove o = true) (a : Act) : ∃ v, Yields P ops o v a ∧ ∀ (w : World) (K : Act → World → Prop) (Q : Exit → Act → World → Prop), o.wp P a w K Q → K (a.put o.dst v) w := by
  unfold isMove at h
  split at h
  · rename_i x h1 h2
    refine ⟨a.eval x, .inl ⟨by simp [Region.wanted, h2], fun w => by simp [execOp, h1]⟩, fun w K Q hw => ?_⟩
    unfold Oper.wp at hw
    rw [show (execOp a.eval o).run P w = .ok (.value (a.eval x)) w from by simp [execOp, h1]] at hw
    exact hw
  · rename_i x h1 h2
    refine ⟨a.eval x, .inl ⟨by simp [Region.wanted, h2], fun w => by simp [execOp, h1]⟩, fun w K Q hw => ?_⟩
    unfold Oper.wp at hw
    rw [show (execOp a.eval o).run P w = .ok (.value (a.eval x)) w from by simp [execOp, h1]] at hw
    exact hw
  · cases h
theorem wr_dst : ∀ {l : List Oper} {x j : Nat}, wr l x = some j → ∃ o', l[j]? = some o' ∧ o'.dst = some x := by
  intro l
  induction l with
  | nil => intro x j h; simp [wr] at h
  | cons a l ih =>
    intro x j h
    unfold wr at h
    have hm : (wr l x).map (· + 1) = some j → ∃ o', (a :: l)[j]? = some o' ∧ o'.dst = some x := fun h => by
      obtain ⟨k, hk, e⟩ := Option.map_eq_some_iff.1 h
      obtain ⟨o', q1, q2⟩ := ih hk
      exact ⟨o', by rw [← e]; simpa using q1, q2⟩
    split at h
    · rename_i d0 hd0
      cases hb : Nat.beq d0 x with
      | true => rw [hb] at h; simp at h; subst h; exact ⟨a, rfl, by rw [hd0, beq_eq hb]⟩
      | false => rw [hb] at h; exact hm h
    · exact hm h
theorem draw_float {l1 l2 : List Oper} {F0 : List Nat} {st : St} {rs : List SV} {Qx : Exit → Act → World → Prop} (hok : DrawOK l1 l2 F0) (hl : rs.length = l1.length) (hQx : ∀ c a w, ¬ Qx (.panic c) a w)
    (hops : ∀ (i : Nat) (o : Oper), l1[i]? = some o → ∃ d r, rs[i]? = some r ∧ o.dst = some d ∧ d < st.n ∧ r.top ≤ st.nx ∧ stepOK P (l1 ++ l2).toArray o (stAt st l1 rs i) r) (hns : Region.noSelect (l1 ++ l2).toArray = true) :
    ∀ (F : List Nat) (fuel : Nat) (L : Array Bool), L.size = (l1 ++ l2).length → (∀ i, L.getD i false = true → ∀ j ∈ bndAt (l1 ++ l2) i, L.getD j false = true) → (∀ i, l1.length ≤ i → L.getD i false = false) →
      (F.all fun i => Nat.blt i l1.length && (match l1[i]? with | some o => isMove o && (bnd o).isEmpty | none => false)) = true →
      (∀ i ∈ F, ∀ L' : Array Bool, L'.size = (l1 ++ l2).length → L'.getD i true = false → Region.free .any (l1 ++ l2).toArray L' i = true) →
      (∀ i ∈ F, L.getD i false = false) → F.Pairwise (· ≠ ·) →
      ∀ (a : Act) (w : World), DInv w0 S0 T st l1 rs L a w →
      (∀ (L' : Array Bool) (a' : Act), L'.size = (l1 ++ l2).length → (∀ i, L'.getD i false = true → ∀ j ∈ bndAt (l1 ++ l2) i, L'.getD j false = true) → (∀ i, l1.length ≤ i → L'.getD i false = false) → (∀ x ∈ F, L'.getD x false = true) → (∀ x, L.getD x false = true → L'.getD x false = true) →
        L'.toList.count false + F.length = L.toList.count false → DInv w0 S0 T st l1 rs L' a' w → wpAny P .any (l1 ++ l2).toArray Qx fuel L' a' w) →
      wpAny P .any (l1 ++ l2).toArray Qx (fuel + F.length) L a w := by
  intro F
  induction F with
  | nil =>
    intro fuel L hs hcl hlo _ _ _ _ a w hx hk
    exact hk L a hs hcl hlo (fun x hx => by cases hx) (fun _ h => h) (by simp) hx
  | cons i F ih =>
    intro fuel L hs hcl hlo hF hfree hun hpw a w hx hk
    simp only [List.all_cons, Bool.and_eq_true] at hF
    obtain ⟨⟨hil, hmv⟩, hF⟩ := hF
    have hil : i < l1.length := Nat.le_of_ble_eq_true hil
    have ho1 : l1[i]? = some l1[i] := List.getElem?_eq_getElem hil
    rw [ho1] at hmv
    simp only [Bool.and_eq_true] at hmv
    obtain ⟨hm, hbe⟩ := hmv
    generalize l1[i] = o at ho1 hm hbe
    have hbe : bnd o = [] := by simpa using hbe
    have h2 : (l1 ++ l2)[i]? = some o := by rw [List.getElem?_append_left hil]; exact ho1
    have hgt : ((l1 ++ l2).toArray)[i]? = some o := by simpa using h2
    have hiL : i < L.size := by rw [hs, List.length_append]; omega
    have hif : L.getD i false = false := hun i (by simp)
    have hif' : L.getD i true = false := by rw [← hif]; simp [hiL]
    obtain ⟨d, r, hr1, hr2, hr3, hr4, hr5⟩ := hops i o ho1
    obtain ⟨d', hd1, hd2⟩ := hok.dst i o ho1
    have hdd' : d' = d := by rw [hr2] at hd1; exact (Option.some.inj hd1).symm
    subst hdd'
    obtain ⟨v, hy, hyw⟩ := move_yields (P := P) (ops := (l1 ++ l2).toArray) hm a
    obtain ⟨stx, g1, g2, c, hT, hr⟩ := hx
    have hsame : ∀ t ∈ o.looksAt (l1 ++ l2).toArray, look stx.sl t = look (stAt st l1 rs i).sl t := fun t ht => by
      rw [g1, look_stAt l1 rs i st hok.dst hl (Nat.le_of_lt hil)]
      unfold valAt
      cases hw : wr l1 t with
      | none => rfl
      | some j =>
        have : L.getD j false = decide (j < i) := by
          rcases hok.op i o ho1 t ht j hw with ⟨k1, k2⟩ | k1 | ⟨k1, k2⟩
          · rw [hbe] at k2; cases k2
          · rw [k1, hif]; simp
          · have hnot : ¬ j < i := by omega
            cases hLj : L.getD j false with
            | false => simp [hnot]
            | true =>
              have hb : bndAt (l1 ++ l2) j = bndAt l1 j := by unfold bndAt; rw [List.getElem?_append_left (wr_lt hw)]
              have := hcl j hLj i (by rw [hb]; exact k2)
              rw [hif] at this; cases this
        simp only [this]
    obtain ⟨s1, s2, s3, s4, s5⟩ := stAt_same l1 rs i st
    obtain ⟨p1, p2, p3, p4, p5⟩ := g2
    have hsees : Sees o (stAt st l1 rs i).ev (stAt st l1 rs i).bx (stAt st l1 rs i).own w0.heap.size a w c := by
      refine ⟨fun x hx => ?_, fun id cs hc => (hr.bx id cs (by rw [p1, ← s1]; exact hc)).2.2, fun id y hy => (hr.ow id y (by rw [p2, ← s2]; exact hy)).2, hr.sb⟩
      cases x with
      | tmp t =>
        have := hsame t (by
          unfold Oper.looksAt
          refine List.mem_append_left _ (List.mem_filterMap.2 ⟨.tmp t, Array.mem_toList_iff.2 hx, rfl⟩))
        show SRel c w (look (stAt st l1 rs i).sl t) _
        rw [← this]; exact hr.sl t
      | const v => exact .d _ _ (.v v)
      | func f => exact .d _ _ (.v _)
      | global g => exact .un _
    have hgd : o.guard = none := by
      unfold isMove at hm
      split at hm
      · assumption
      · assumption
      · cases hm
    unfold stepOK at hr5
    rw [hgd] at hr5
    -- what it yields
    obtain ⟨u, S', e1, he, hv⟩ := hyw w (fun a' w' => ∃ (u : Value) (S' : Cells), a' = a.put o.dst u ∧ Ext c.S w S' w' ∧ SRel ⟨S', c.B, c.O, c.T⟩ w' r u) (fun _ _ _ => False) (hr5 w0.heap.size a w c hsees _ _ (fun u w'' S' he hv => ⟨u, S', rfl, he, hv⟩))
    have hinv : DInv w0 S0 T st l1 rs (L.setIfInBounds i true) (a.put o.dst v) w := by
      rw [e1]
      refine ⟨stx.put d' r, fun x => ?_, ⟨p1, p2, p3, p4, p5⟩, ⟨S', c.B, c.O, c.T⟩, hT, ?_⟩
      · show look ((d', r) :: stx.sl) x = _
        rw [look_cons, g1]
        unfold valAt
        by_cases e : d' = x
        · subst e
          rw [if_pos rfl, hd2]
          simp only [set_getD i hiL false, if_true, cond_true]
          rw [List.getD_eq_getElem?_getD, hr1]; rfl
        · rw [if_neg e]
          cases hw : wr l1 x with
          | none => rfl
          | some j =>
            have hji : i ≠ j := by
              rintro rfl
              obtain ⟨o', q1, q2⟩ := wr_dst hw
              rw [ho1] at q1
              injection q1 with q1
              subst q1
              rw [hr2] at q2
              exact e (Option.some.inj q2)
            simp only [set_getD j hiL false, if_neg hji]
      · rw [hr2]
        exact (hr.grow he).put (by rw [p5]; exact hr3) hv (by rw [p3]; exact hr4)
    have hp := List.pairwise_cons.1 hpw
    have hcl' : ∀ j, (L.setIfInBounds i true).getD j false = true → ∀ k ∈ bndAt (l1 ++ l2) j, (L.setIfInBounds i true).getD k false = true := fun j hj k hk => by
      rw [set_getD k hiL false]
      rw [set_getD j hiL false] at hj
      split
      · rfl
      · by_cases e : i = j
        · subst e
          unfold bndAt at hk
          rw [h2] at hk
          simp only [hbe] at hk
          cases hk
        · rw [if_neg e] at hj; exact hcl j hj k hk
    have hcnt : (L.setIfInBounds i true).toList.count false + 1 = L.toList.count false := by
      rw [Array.toList_setIfInBounds]
      refine cnt_set L.toList i ?_
      have : L.toList[i]? = some (L.getD i false) := by simp [hiL]
      rw [this, hif]
    have hrdy : (Region.ready .any (l1 ++ l2).toArray L).contains i = true := by
      rw [List.contains_iff_mem, mem_ready]
      refine ⟨hif', o, hgt, fun e he hb => ?_⟩
      have : e.on ∈ bnd o := mem_bnd.2 ⟨e, he, hb, rfl⟩
      rw [hbe] at this; cases this
    show wpAny P .any (l1 ++ l2).toArray Qx (fuel + F.length + 1) L a w
    refine wpAny_take hgt hns (hfree i (by simp) L hs hif') hrdy (fun c a w h => absurd h (hQx _ _ _)) hy ?_
    refine ih fuel (L.setIfInBounds i true) (by simpa using hs) hcl' (fun j hj => by rw [set_getD j hiL false, if_neg (by omega)]; exact hlo j hj) hF (fun j hj => hfree j (by simp [hj])) (fun j hj => by rw [set_getD j hiL false, if_neg (hp.1 j hj)]; exact hun j (by simp [hj])) hp.2 _ _ hinv ?_
    intro L' a' q1 q2 q3 q4 q5 q6 q7
    refine hk L' a' q1 q2 q3 (fun x hx => ?_) (fun x hx => q5 x ?_) (by simp only [List.length_cons]; omega) q7
    · rcases List.mem_cons.1 hx with rfl | hx
      · exact q5 x (by rw [set_getD x hiL false, if_pos rfl])
      · exact q4 x hx
    · rw [set_getD x hiL false]
      split
      · rfl
      · exact hx
/-- May it be done at once, whatever has been done? -/
def freeOK (ops : Array Oper) (i : Nat) : Bool := match ops[i]? with
  | none => false
  | some oi => (List.range ops.size).all fun j => Nat.beq j i || match ops[j]? with
      | some oj => oj.after.any (fun e => Region.binds .any e && Nat.beq e.on i) || oi.apart ops oj
      | none => true
theorem freeOK_spec {ops : Array Oper} {i : Nat} (h : freeOK ops i = true) (L : Array Bool) : Region.free .any ops L i = true := by
  unfold freeOK at h
  unfold Region.free
  split at h
  · cases h
  · rename_i oi hi
    simp only [hi, List.all_eq_true, List.mem_range] at h ⊢
    intro j hj
    have := h j hj
    simp only [Bool.or_eq_true] at this ⊢
    rcases this with h1 | h1
    · exact .inl (.inl (by simpa using beq_eq h1))
    · refine .inr ?_
      split at h1
      · rename_i oj hoj
        simp only [hoj]
        simp only [Bool.or_eq_true] at h1 ⊢
        refine h1.imp (fun h => ?_) id
        obtain ⟨e, he, hb⟩ := Array.any_eq_true'.1 h
        simp only [Bool.and_eq_true] at hb
        refine Array.any_eq_true'.2 ⟨e, he, ?_⟩
        simp only [Bool.and_eq_true]
        exact ⟨hb.1, by simpa using beq_eq hb.2⟩
      · rename_i hoj
        simp only [hoj]
/-- A region whose order is drawn: its first k operations only compute; those of F could come late; the others come behind, in turn. -/
theorem AC.draw {id k : Nat} {F : List Nat} {l l1 l2 : List Oper} {st : St} {Q : Exit → St → Prop} (h1 : l.take k = l1) (h2 : l.drop k = l2) (hm : P.follows .mixedOrders = true) (hok : drawOK l1 l2 F = true)
    (hF : (F.all fun i => Nat.blt i l1.length && (match l1[i]? with | some o => isMove o && (bnd o).isEmpty | none => false) && freeOK l.toArray i) = true) (hpw : F.Pairwise (· ≠ ·)) (hns : Region.noSelect l.toArray = true)
    (h : PSeq P l.toArray l1 st (fun st' => AO P w0 S0 T l.toArray l2 st' (fun st'' => Q .normal st''))) : AC P w0 S0 T (.region id l.toArray true) st Q := by
  have hl : l = l1 ++ l2 := by rw [← h1, ← h2, List.take_append_drop]
  subst hl
  have hok := drawOK_spec hok
  intro a w hr
  obtain ⟨rs, r1, r2, r3⟩ := h.spec
  let Qx : Exit → Act → World → Prop := fun e a' w' => e = .normal ∧ ∃ st', Rel w0 S0 T st' a' w' ∧ Q .normal st'
  refine wp_mono (Q := Qx) ?_ (fun e a' w' ⟨he, st', k1, k2⟩ => ⟨st', k1, by rw [he]; exact k2⟩)
  refine wp_region_any hm ?_
  have hlen : F.length ≤ l1.length + l2.length := by
    have : ∀ (F : List Nat) (n : Nat), F.Pairwise (· ≠ ·) → (∀ x ∈ F, x < n) → F.length ≤ n := by
      intro F n hp hb
      have h1 : F.Nodup := hp
      have := List.Nodup.length_le_of_subset (l₂ := List.range n) h1 (fun x hx => List.mem_range.2 (hb x hx))
      simpa using this
    have := this F l1.length hpw (fun x hx => by
      have := List.all_eq_true.1 hF x hx
      simp only [Bool.and_eq_true] at this
      exact Nat.le_of_ble_eq_true this.1.1)
    omega
  have hgetf : ∀ i, (Array.replicate (l1 ++ l2).length false).getD i false = false := fun i => by
    rw [Array.getD_eq_getD_getElem?, Array.getElem?_replicate]; split <;> rfl
  rw [show ((l1 ++ l2).toArray).size = ((l1 ++ l2).length - F.length) + F.length from by simp; omega]
  have hinit : DInv w0 S0 T st l1 rs (Array.replicate (l1 ++ l2).length false) a { w with drawn := w.drawn + 1 } := by
    obtain ⟨c, hT, hr⟩ := hr
    refine ⟨st, fun x => ?_, ⟨rfl, rfl, rfl, rfl, rfl⟩, c, hT, hr.drew _⟩
    unfold valAt
    split
    · rename_i j _; simp only [hgetf j, cond_false]
    · rfl
  have hrep : Array.replicate ((l1 ++ l2).length - F.length + F.length) false = Array.replicate (l1 ++ l2).length false := by congr 1; simp; omega
  rw [hrep]
  refine draw_float hok r1 (fun c a w h => by cases h.1) r3 hns F _ _ (by simp) (fun i hi => by rw [hgetf i] at hi; cases hi) (fun i _ => hgetf i) ?_ (fun i hi L' _ _ => ?_) (fun i _ => hgetf i) hpw a _ hinit ?_
  · refine List.all_eq_true.2 fun x hx => ?_
    have := List.all_eq_true.1 hF x hx
    simp only [Bool.and_eq_true] at this
    simp only [Bool.and_eq_true]
    exact this.1
  · have := List.all_eq_true.1 hF i hi
    simp only [Bool.and_eq_true] at this
    exact freeOK_spec this.2 L'
  · intro L' a' q1 q2 q3 q4 _ q6 q7
    refine draw_main hok r1 r3 (fun a w hr => r2 a w hr Qx (fun st' a' w' k1 k2 => ⟨rfl, st', k1, k2⟩)) _ L' a' _ q1 q2 q4 ?_ q3 q7
    have : (Array.replicate (l1 ++ l2).length false).toList.count false = (l1 ++ l2).length := by simp
    omega
end
end Eng
end Go.Proofs.Ytmmekdkllccmdaa
