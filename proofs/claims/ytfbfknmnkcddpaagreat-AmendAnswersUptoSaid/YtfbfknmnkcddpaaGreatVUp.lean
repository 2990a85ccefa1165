/-
  Arguments as typed data, with a bound on their lengths: for statements of the second form.
-/
import Derived.Test.YtfbfknmnkcddpaaGreatVEngC
import Derived.Test.YtfbfknmnkcddpaaGreatRows
set_option linter.unusedVariables false
namespace Go.Proofs.YtfbfknmnkcddpaaGreat
open Go.RowKit
namespace RE
namespace Up
variable {P : Program}
theorem one_le {H : Type} (d : DataW H) : 1 ≤ Rows.uptoBulk d := by
  cases d with
  | lit l => cases l <;> simp [Rows.uptoBulk]
  | nil => simp [Rows.uptoBulk]
  | ptr d => simp [Rows.uptoBulk]
  | slice elems spare => simp [Rows.uptoBulk]
  | agg parts => simp [Rows.uptoBulk]
  | iface t d => simp [Rows.uptoBulk]
  | map entries => simp [Rows.uptoBulk]
  | held h => simp [Rows.uptoBulk]
theorem part_le {H : Type} {d : DataW H} {l : List (DataW H)} (h : d ∈ l) : Rows.uptoBulk d ≤ Rows.uptoBulkAll l := by
  induction l with
  | nil => cases h
  | cons x r ih =>
    simp only [Rows.uptoBulkAll]
    cases List.mem_cons.1 h with
    | inl e => subst e; omega
    | inr e => have := ih e; omega
theorem length_le {H : Type} (l : List (DataW H)) : l.length ≤ Rows.uptoBulkAll l := by
  induction l with
  | nil => simp [Rows.uptoBulkAll]
  | cons x r ih => have := one_le x; simp only [Rows.uptoBulkAll, List.length_cons]; omega
theorem append_bulk {H : Type} (l r : List (DataW H)) : Rows.uptoBulkAll (l ++ r) = Rows.uptoBulkAll l + Rows.uptoBulkAll r := by
  induction l with
  | nil => simp [Rows.uptoBulkAll]
  | cons x l ih => simp only [List.cons_append, Rows.uptoBulkAll, ih]; omega
/-- Numbers that fit their kinds, lists that are not longer than the bound. -/
inductive OkN (N : Nat) : D → Prop
  | int (k : IntKind) (z : Int) (h : (Lit.int k z).wf = true) : OkN N (.v (.int k z))
  | bool (b : Bool) : OkN N (.v (.bool b))
  | sl (t : Ty) (l : List (den t)) (hl : l.length ≤ N) (h : ∀ x ∈ l, ∀ c ∈ enc t x, OkN N c) : OkN N (.sl t l)
theorem OkN.len {N : Nat} {t : Ty} {l : List (den t)} (h : OkN N (.sl t l)) : l.length ≤ N := by cases h; assumption
theorem OkN.each {N : Nat} {t : Ty} {l : List (den t)} (h : OkN N (.sl t l)) : ∀ x ∈ l, ∀ c ∈ enc t x, OkN N c := by cases h; assumption
theorem OkN.ok {N : Nat} {d : D} (h : OkN N d) : OkD d := by
  induction h with
  | int k z h => exact .int k z h
  | bool b => exact .bool b
  | sl t l hl h ih => exact .sl t l ih
/-- A type's data, as typed data. -/
def Opn (P : Program) (t : TypeId) (ts : List Ty) : Prop :=
  ∀ (N : Nat) {H : Type} (enc : TypeId × Value → H) (w : World) (base : Nat) (spare : Nat → Bool) (held : Bool) (fuel : Nat) (cs : List Value) (x : DataW H × List MemPlace), DataW.trod enc P w base spare held fuel t cs = some x → Rows.uptoBulk x.1 ≤ N → ∃ y : dens ts, (∀ c ∈ encs ts y, OkN N c) ∧ cs.length = ts.length ∧ CellsAt w (encs ts y) cs 0
theorem Opn.int {t : TypeId} {k : IntKind} (ht : P.underlying t = some (.int k)) : Opn P t [.int k] := by
  intro N H enc w base spare held fuel cs x h hN
  obtain ⟨n, rfl, _, hw⟩ := DataW.trod_int ht h
  refine ⟨(n, ()), fun c hc => ?_, rfl, fun i c hi => ?_⟩
  · rw [List.mem_singleton.1 (show c ∈ [D.v (.int k n)] from hc)]; exact .int k n hw
  · have hi : [D.v (.int k n)][i]? = some c := hi
    cases i with
    | zero => simp at hi; subst hi; exact ⟨_, rfl, rfl, .v _⟩
    | succ i => simp at hi
theorem Opn.bool {t : TypeId} (ht : P.underlying t = some .bool) : Opn P t [.bool] := by
  intro N H enc w base spare held fuel cs x h hN
  obtain ⟨n, rfl, _⟩ := DataW.trod_bool ht h
  refine ⟨(n, ()), fun c hc => ?_, rfl, fun i c hi => ?_⟩
  · rw [List.mem_singleton.1 (show c ∈ [D.v (.bool n)] from hc)]; exact .bool n
  · have hi : [D.v (.bool n)][i]? = some c := hi
    cases i with
    | zero => simp at hi; subst hi; exact ⟨_, rfl, rfl, .v _⟩
    | succ i => simp at hi
theorem Opn.slice {t e : TypeId} {ty : Ty} (ht : P.underlying t = some (.slice e)) (he : Opn P e (tyFlat ty)) (hz : P.cellsOf e = (tyFlat ty).length) (h0 : 0 < (tyFlat ty).length) : Opn P t [.sl ty] := by
  intro N H enc w base spare held fuel cs x h hN
  rw [← flat_size] at hz h0
  rcases DataW.trod_slice ht h with ⟨rfl, _⟩ | ⟨a, len, cap, elems, rest, n, _, rfl, rfl, hb, hlc, hm, hlen, hel, _, _⟩
  · refine ⟨([], ()), fun c hc => ?_, rfl, fun i c hi => ?_⟩
    · rw [List.mem_singleton.1 (show c ∈ [D.sl ty []] from hc)]; exact .sl ty [] (Nat.zero_le _) (fun x hx => by cases hx)
    · have hi : [D.sl ty []][i]? = some c := hi
      cases i with
      | zero =>
        simp at hi; subst hi
        exact ⟨_, rfl, rfl, Rd.nil _ _ _ (Nat.zero_le _)⟩
      | succ i => simp at hi
  · have hN : Rows.uptoBulkAll (elems.map (·.1)) + Rows.uptoBulkAll (rest.map (·.1)) + 1 ≤ N := by simpa only [Rows.uptoBulk] using hN
    have hlenN : len ≤ N := by have := length_le (elems.map (·.1)); rw [List.length_map] at this; omega
    have each : ∀ i, i < len → ∃ y : den ty, (∀ c ∈ RE.enc ty y, OkN N c) ∧ ∀ j c, (RE.enc ty y)[j]? = some c → ∃ u, w.cell? (a.add (i * size ty + j)) = some u ∧ u.oneCell' = true ∧ Rd (allS w) w c u := fun i hi => by
      have h1 := hel i hi
      rw [List.getElem?_eq_getElem (by omega), Option.bind_eq_some_iff] at h1
      obtain ⟨cs, h2, h3⟩ := h1
      obtain ⟨q1, q2⟩ := cells_len h2
      obtain ⟨y, y1, y2, y3⟩ := he N enc w base spare held n cs _ h3 (by
        have := part_le (d := (elems[i]'(by omega)).1) (l := elems.map (·.1)) (List.mem_map.2 ⟨_, List.getElem_mem (by omega), rfl⟩)
        omega)
      obtain ⟨x, hx⟩ := flat_den ty y
      refine ⟨x, by rw [hx]; exact y1, fun j c hj => ?_⟩
      have hjl : j < size ty := by have := (List.getElem?_eq_some_iff.1 hj).1; rw [enc_len] at this; exact this
      rw [hx] at hj
      obtain ⟨u, u1, u2⟩ := y3 j c hj
      rw [Nat.zero_add] at u1
      have q := q2 j (by rw [hz]; exact hjl)
      rw [hz] at q
      refine ⟨u, ?_, u2⟩
      rw [← u1, ← q]
      rw [add_add]
    obtain ⟨l, l1, l2⟩ := exists_list each
    have hone : ∀ (i : Nat) (y : den ty) (j : Nat), l[i]? = some y → j < size ty → ∃ u, w.cell? (a.add (i * size ty + j)) = some u ∧ u.oneCell' = true ∧ ∀ c, (RE.enc ty y)[j]? = some c → Rd (allS w) w c u := fun i y j hi hj => by
      obtain ⟨_, h2⟩ := l2 i y hi
      obtain ⟨u, u1, u2, u3⟩ := h2 j _ (List.getElem?_eq_getElem (by rw [enc_len]; exact hj))
      refine ⟨u, u1, u2, fun c hc => ?_⟩
      rw [List.getElem?_eq_getElem (by rw [enc_len]; exact hj)] at hc
      injection hc with hc
      rw [← hc]; exact u3
    have ha : l = [] ∨ ∃ b o, a = ⟨b, o, none⟩ := by
      cases l with
      | nil => exact .inl rfl
      | cons y r =>
        right
        obtain ⟨u, hu, _⟩ := hone 0 y 0 rfl h0
        rw [Nat.zero_mul] at hu
        exact addr_none hu
    refine ⟨(l, ()), fun c hc => ?_, rfl, fun i c hi => ?_⟩
    · rw [List.mem_singleton.1 (show c ∈ [D.sl ty l] from hc)]
      refine .sl ty l (by omega) fun y hy => ?_
      obtain ⟨i, hi, rfl⟩ := List.getElem_of_mem hy
      exact (l2 i _ (List.getElem?_eq_getElem hi)).1
    · have hi : [D.sl ty l][i]? = some c := hi
      cases i with
      | succ i => simp at hi
      | zero =>
        simp at hi; subst hi
        refine ⟨_, rfl, rfl, ?_⟩
        subst l1
        rcases ha with rfl | ⟨b, o, rfl⟩
        · exact Rd.nil _ _ _ hm
        · let f : Nat → Nat → Value := fun i j => (w.cell? ⟨b, o + i * size ty + j, none⟩).getD undef
          have hf : ∀ (i : Nat) (y : den ty) (j : Nat), l[i]? = some y → j < size ty → w.cell? ⟨b, o + i * size ty + j, none⟩ = some (f i j) ∧ (f i j).oneCell' = true ∧ ∀ c, (RE.enc ty y)[j]? = some c → Rd (allS w) w c (f i j) := fun i y j hi hj => by
            obtain ⟨u, u1, u2, u3⟩ := hone i y j hi hj
            rw [addr_add, ← Nat.add_assoc] at u1
            have : f i j = u := by simp only [f, u1]; rfl
            rw [this]; exact ⟨u1, u2, u3⟩
          exact Rd.sl (S := allS w) (w := w) ty l (some ⟨b, o, none⟩) cap b o f (by omega) hm (.inr rfl) (fun i hi j hj => by
            obtain ⟨q1, q2, _⟩ := hf i l[i] j (List.getElem?_eq_getElem hi) hj
            exact ⟨World.block_lt_of_cell? w _ q1, q1, q2⟩) (fun i y j c hi hj => by
            exact (hf i y j hi (by have := (List.getElem?_eq_some_iff.1 hj).1; rw [enc_len] at this; exact this)).2.2 c hj)
theorem opnF_ok {rec : TypeId → Option (List Ty)} (hrec : ∀ t ts, rec t = some ts → Opn P t ts) {H : Type} {enc : TypeId × Value → H} {w : World} {base : Nat} {spare : Nat → Bool} {held : Bool} {n N : Nat} {cs : List Value} :
    ∀ {fl : List Field} {off : Nat} {ts : List Ty}, opnF P rec fl off = some ts → (∀ f ∈ fl, ∃ x, DataW.trod enc P w base spare held n f.type ((cs.drop f.offset).take (P.cellsOf f.type)) = some x ∧ Rows.uptoBulk x.1 ≤ N) → ∃ y : dens ts, (∀ c ∈ encs ts y, OkN N c) ∧ CellsAt w (encs ts y) cs off
  | [], off, ts, h, _ => by
    injection h with h
    subst h
    exact ⟨(), (fun c hc => by cases hc), CellsAt.nil⟩
  | f :: r, off, ts, h, hx => by
    unfold opnF at h
    split at h
    · rename_i t1 h1
      cases hb : (Nat.beq f.offset off && Nat.beq (P.cellsOf f.type) t1.length) with
      | false => rw [hb] at h; cases h
      | true =>
        rw [hb] at h
        simp only [cond_true] at h
        split at h
        · rename_i tr h2
          injection h with h
          subst h
          obtain ⟨b1, b2⟩ := Bool.and_eq_true_iff.1 hb
          have b1 := beq_eq b1
          subst b1
          obtain ⟨x, hx1, hxN⟩ := hx f (by simp)
          obtain ⟨y1, y2, y3, y4⟩ := hrec _ _ h1 N enc w base spare held n _ _ hx1 hxN
          obtain ⟨z1, z2, z3⟩ := opnF_ok hrec h2 (fun g hg => hx g (by simp [hg]))
          refine ⟨dapp t1 y1 z1, fun c hc => ?_, ?_⟩
          · rw [encs_dapp] at hc
            rcases List.mem_append.1 hc with hc | hc
            · exact y2 c hc
            · exact z2 c hc
          · rw [encs_dapp]
            exact CellsAt.append (CellsAt.part y4) (by rw [encs_len]; exact z3)
        · cases h
    · cases h
theorem opnC_ok {τ : TypeId → Option Ty} : ∀ {n : Nat} {t : TypeId} {ts : List Ty}, opnC P τ n t = some ts → Opn P t ts
  | 0, t, ts, h => by cases h
  | n + 1, t, ts, h => by
    unfold opnC at h
    split at h
    · rename_i k hk
      injection h with h; subst h
      exact Opn.int hk
    · rename_i hk
      injection h with h; subst h
      exact Opn.bool hk
    · rename_i e hk
      split at h
      · rename_i us ty h1 h2
        cases hb : (tysEq us (tyFlat ty) && Nat.beq (P.cellsOf e) us.length && Nat.ble 1 us.length) with
        | false => rw [hb] at h; cases h
        | true =>
          rw [hb] at h
          simp only [cond_true, Option.some.injEq] at h
          subst h
          simp only [Bool.and_eq_true] at hb
          obtain ⟨⟨b1, b2⟩, b3⟩ := hb
          have b1 := tysEq_eq b1
          subst b1
          exact Opn.slice hk (opnC_ok h1) (beq_eq b2) (Nat.le_of_ble_eq_true b3)
      · cases h
    · rename_i fs hk
      split at h
      · rename_i us h1
        cases hb : Nat.beq (P.cellsOf t) us.length with
        | false => rw [hb] at h; cases h
        | true =>
          rw [hb] at h
          simp only [cond_true, Option.some.injEq] at h
          subst h
          intro N H enc w base spare held fuel cs x hx hN
          obtain ⟨xs, m, rfl, rfl, hl, hxs, hf⟩ := DataW.trod_struct hk hx
          have hN : Rows.uptoBulkAll (xs.map (·.1)) + 1 ≤ N := by simpa only [Rows.uptoBulk] using hN
          obtain ⟨y, y1, y2⟩ := opnF_ok (fun t ts h => opnC_ok (n := n) h) (cs := cs) (enc := enc) (w := w) (base := base) (spare := spare) (held := held) (n := m) (N := N) h1 (fun f hf' => by
            obtain ⟨i, hi, rfl⟩ := List.getElem_of_mem hf'
            have hi' : i < fs.size := by simpa using hi
            have := hf i fs[i] (Array.getElem?_eq_getElem hi')
            refine ⟨xs[i]'(by omega), ?_, ?_⟩
            · rw [← List.getElem?_eq_getElem (by omega : i < xs.length), ← this]
              simp
            · have := part_le (d := (xs[i]'(by omega)).1) (l := xs.map (·.1)) (List.mem_map.2 ⟨_, List.getElem_mem (by omega), rfl⟩)
              omega)
          exact ⟨y, y1, by rw [hl]; exact beq_eq hb, y2⟩
      · cases h
    · cases h
/-- An argument that is no struct. -/
theorem rd_one {N : Nat} {t : TypeId} {ty : Ty} (ho : Opn P t [ty]) {H : Type} {enc : TypeId × Value → H} {w : World} {base : Nat} {spare : Nat → Bool} {held : Bool} {v : Value} (hv : v.cells.toList = [v]) {d : DataW H} {ps : List MemPlace} (h : DataW.Trod enc P w base spare held t v d ps) (hN : Rows.uptoBulk d ≤ N) :
    ∃ x : den ty, OkN N (encA ty x) ∧ Rd (allS w) w (encA ty x) v := by
  obtain ⟨fuel, h⟩ := h
  obtain ⟨l, h1, _, h3⟩ := ho N enc w base spare held fuel _ _ h hN
  obtain ⟨u, u1, _, u3⟩ := h3 0 _ rfl
  have : u = v := by rw [hv] at u1; simpa using u1.symm
  subst this
  exact ⟨l.1, h1 _ (List.mem_singleton.2 rfl), u3⟩
theorem rd_st {N : Nat} {t : TypeId} {s : Sn} (ho : Opn P t (flds s)) {H : Type} {enc : TypeId × Value → H} {w : World} {base : Nat} {spare : Nat → Bool} {held : Bool} {cs : Array Value} {d : DataW H} {ps : List MemPlace} (h : DataW.Trod enc P w base spare held t (.agg cs) d ps) (hN : Rows.uptoBulk d ≤ N) :
    ∃ x : den (.st s), (∀ c ∈ RE.enc (.st s) x, OkN N c) ∧ Rd (allS w) w (tv (.st s) x) (.agg cs) := by
  obtain ⟨fuel, h⟩ := h
  obtain ⟨y, h1, h2, h3⟩ := ho N enc w base spare held fuel _ _ h hN
  have hcs : (Value.agg cs).cells.toList = cs.toList := rfl
  rw [hcs] at h2 h3
  have he : encs (flds s) (RE.un s (RE.mk s y)) = encs (flds s) y := by rw [un_mk]
  refine ⟨RE.mk s y, by show ∀ c ∈ encs (flds s) (RE.un s (RE.mk s y)), OkN N c; rw [he]; exact h1, ?_⟩
  show Rd (allS w) w (.agg (encs (flds s) (RE.un s (RE.mk s y)))) (.agg cs)
  rw [he]
  have key : ∀ i u, cs.toList[i]? = some u → u.oneCell' = true ∧ ∀ c, (encs (flds s) y)[i]? = some c → Rd (allS w) w c u := fun i u hu => by
    have hi : i < (encs (flds s) y).length := by have := (List.getElem?_eq_some_iff.1 hu).1; rw [encs_len]; omega
    obtain ⟨u', q1, q2, q3⟩ := h3 i _ (List.getElem?_eq_getElem hi)
    rw [Nat.zero_add, hu] at q1
    injection q1 with q1
    subst q1
    refine ⟨q2, fun c hc => ?_⟩
    rw [List.getElem?_eq_getElem hi] at hc
    injection hc with hc
    rw [← hc]; exact q3
  have := Rd.agg (S := allS w) (w := w) (encs (flds s) y) cs.toList (by rw [encs_len]; exact h2) (fun u hu => by
    obtain ⟨i, hi, rfl⟩ := List.getElem_of_mem hu
    exact (key i _ (List.getElem?_eq_getElem hi)).1) (fun i c u hc hu => (key i u hu).2 c hc)
  simpa using this
end Up
end RE
end Go.Proofs.YtfbfknmnkcddpaaGreat
