/-
  The engine: arguments that a statement tells of, as typed data.
-/
import Derived.Test.YtmmekdkllccmdaaEgZ
import Derived.ChangeArms
import Derived.ChangeSlices
import Derived.Test.YtmmekdkllccmdaaKeep
namespace Go.Proofs.Ytmmekdkllccmdaa
open Go.RowKit
set_option linter.unusedVariables false
namespace Eng
variable {P : Program}
def allS (w : World) : Cells := fun b _ => b < w.heap.size
/-- From a place on, cells read as data. -/
def CellsAt (w : World) (ds : List D) (cs : List Value) (off : Nat) : Prop := ∀ (i : Nat) (c : D), ds[i]? = some c → ∃ u, cs[off + i]? = some u ∧ u.oneCell' = true ∧ Rd (allS w) w c u
theorem CellsAt.nil {w : World} {cs : List Value} {off : Nat} : CellsAt w [] cs off := fun i c h => by simp at h
theorem CellsAt.append {w : World} {ds es : List D} {cs : List Value} {off : Nat} (h : CellsAt w ds cs off) (k : CellsAt w es cs (off + ds.length)) : CellsAt w (ds ++ es) cs off := fun i c hi => by
  by_cases hl : i < ds.length
  · rw [List.getElem?_append_left hl] at hi; exact h i c hi
  · rw [List.getElem?_append_right (by omega)] at hi
    obtain ⟨u, h1, h2⟩ := k _ c hi
    exact ⟨u, by rw [show off + ds.length + (i - ds.length) = off + i by omega] at h1; exact h1, h2⟩
theorem CellsAt.part {w : World} {ds : List D} {cs : List Value} {off n : Nat} (h : CellsAt w ds ((cs.drop off).take n) 0) : CellsAt w ds cs off := fun i c hi => by
  obtain ⟨u, h1, h2⟩ := h i c hi
  rw [Nat.zero_add, List.getElem?_take] at h1
  split at h1
  · rw [List.getElem?_drop] at h1; exact ⟨u, h1, h2⟩
  · cases h1
/-- A type's data, as typed data of which 'ok' holds. -/
def Opn (P : Program) (t : TypeId) {T : Type} (av : T → List D) (ok : T → Prop) : Prop :=
  ∀ {H : Type} (enc : TypeId × Value → H) (w : World) (base : Nat) (spare : Nat → Bool) (held : Bool) (fuel : Nat) (cs : List Value) (x : DataW H × List MemPlace), DataW.trod enc P w base spare held fuel t cs = some x → ∃ y : T, ok y ∧ cs.length = (av y).length ∧ CellsAt w (av y) cs 0
def okI (z : Int) : Prop := -9223372036854775808 ≤ z ∧ z ≤ 9223372036854775807
theorem okI_of {z : Int} (h : (Lit.int .i64 z).wf = true) : okI z := by
  simp [Lit.wf, IntKind.min, IntKind.max, IntKind.bits, IntKind.signed] at h
  unfold okI; omega
theorem Opn.int {t : TypeId} (ht : P.underlying t = some (.int .i64)) : Opn P t avI okI := by
  intro H enc w base spare held fuel cs x h
  obtain ⟨n, rfl, _, hw⟩ := DataW.trod_int ht h
  refine ⟨n, okI_of hw, rfl, fun i c hi => ?_⟩
  cases i with
  | zero => simp at hi; subst hi; exact ⟨_, rfl, rfl, .v _⟩
  | succ i => simp at hi
theorem Opn.bool {t : TypeId} (ht : P.underlying t = some .bool) : Opn P t avB (fun _ => True) := by
  intro H enc w base spare held fuel cs x h
  obtain ⟨n, rfl, _⟩ := DataW.trod_bool ht h
  refine ⟨n, trivial, rfl, fun i c hi => ?_⟩
  cases i with
  | zero => simp at hi; subst hi; exact ⟨_, rfl, rfl, .v _⟩
  | succ i => simp at hi
theorem cells_len {w : World} {base : Nat} {a : Addr} {n : Nat} {cs : List Value} (h : w.cells? base a n = some cs) : cs.length = n ∧ ∀ j, j < n → w.cell? (a.add j) = cs[j]? := by
  unfold World.cells? at h
  split at h
  · have h1 := mapM_some_length h
    refine ⟨by simpa using h1, fun j hj => ?_⟩
    have := mapM_some_get h j j (by simp [hj])
    exact this
  · cases h
theorem add_add (a : Addr) (i j : Nat) : (a.add i).add j = a.add (i + j) := by
  unfold Addr.add
  by_cases hi : i = 0
  · subst hi; simp
  · by_cases hj : j = 0
    · subst hj; simp
    · rw [if_neg hi, if_neg hj, if_neg (by omega), Nat.add_assoc]
theorem addr_none {w : World} {a : Addr} {u : Value} (h : w.cell? (a.add 0) = some u) : ∃ b o, a = ⟨b, o, none⟩ := by
  obtain ⟨b, o, s⟩ := a
  unfold Addr.add World.cell? at h
  rw [if_pos rfl] at h
  cases s with
  | none => exact ⟨b, o, rfl⟩
  | some k =>
    simp only [Option.isSome_some, if_true] at h
    split at h <;> cases h
theorem exists_list {T : Type} {Q : Nat → T → Prop} : ∀ {n : Nat}, (∀ i, i < n → ∃ y, Q i y) → ∃ l : List T, l.length = n ∧ ∀ i y, l[i]? = some y → Q i y
  | 0, _ => ⟨[], rfl, fun i y h => by simp at h⟩
  | n + 1, h => by
    obtain ⟨l, h1, h2⟩ := exists_list (n := n) fun i hi => h i (by omega)
    obtain ⟨y, hy⟩ := h n (by omega)
    refine ⟨l ++ [y], by simp [h1], fun i z hz => ?_⟩
    by_cases hi : i < n
    · rw [List.getElem?_append_left (by omega)] at hz; exact h2 i z hz
    · rw [List.getElem?_append_right (by omega)] at hz
      have : i = n := by have := (List.getElem?_eq_some_iff.1 hz).1; simp at this; omega
      subst this
      simp [h1] at hz
      subst hz; exact hy
theorem Opn.slice {T : Type} {t e sz : Nat} {av : T → List D} {ok : T → Prop} (ht : P.underlying t = some (.slice e)) (he : Opn P e av ok) (hz : P.cellsOf e = sz) (hl : ∀ y, (av y).length = sz) (h0 : 0 < sz) :
    Opn P t (fun l : List T => [.sl sz (l.map av)]) (fun l => ∀ x ∈ l, ok x) := by
  intro H enc w base spare held fuel cs x h
  rcases DataW.trod_slice ht h with ⟨rfl, _⟩ | ⟨a, len, cap, elems, rest, n, _, rfl, _, hb, hlc, hm, hlen, hel, _, _⟩
  · refine ⟨[], (fun x hx => by cases hx), rfl, fun i c hi => ?_⟩
    cases i with
    | zero =>
      simp at hi; subst hi
      exact ⟨_, rfl, rfl, Rd.sl sz [] none 0 0 0 (fun _ _ => undef) (Nat.le_refl _) (by simp [maxLen]) (.inl rfl) (fun i row h => by simp at h) (fun i row j c h => by simp at h)⟩
    | succ i => simp at hi
  · have each : ∀ i, i < len → ∃ y : T, ok y ∧ ∀ j c, (av y)[j]? = some c → ∃ u, w.cell? (a.add (i * sz + j)) = some u ∧ u.oneCell' = true ∧ Rd (allS w) w c u := fun i hi => by
      have h1 := hel i hi
      rw [List.getElem?_eq_getElem (by omega), Option.bind_eq_some_iff] at h1
      obtain ⟨cs, h2, h3⟩ := h1
      obtain ⟨q1, q2⟩ := cells_len h2
      obtain ⟨y, y1, y2, y3⟩ := he enc w base spare held n cs _ h3
      refine ⟨y, y1, fun j c hj => ?_⟩
      have hjl : j < sz := by have := (List.getElem?_eq_some_iff.1 hj).1; rw [hl] at this; exact this
      obtain ⟨u, u1, u2⟩ := y3 j c hj
      rw [Nat.zero_add] at u1
      have q := q2 j (by rw [hz]; exact hjl)
      rw [hz] at q
      refine ⟨u, ?_, u2⟩
      rw [← u1, ← q]
      rw [add_add]
    obtain ⟨l, l1, l2⟩ := exists_list each
    have hone : ∀ (i : Nat) (y : T) (j : Nat), l[i]? = some y → j < sz → ∃ u, w.cell? (a.add (i * sz + j)) = some u ∧ u.oneCell' = true ∧ ∀ c, (av y)[j]? = some c → Rd (allS w) w c u := fun i y j hi hj => by
      obtain ⟨_, h2⟩ := l2 i y hi
      obtain ⟨u, u1, u2, u3⟩ := h2 j _ (List.getElem?_eq_getElem (by rw [hl]; exact hj))
      refine ⟨u, u1, u2, fun c hc => ?_⟩
      rw [List.getElem?_eq_getElem (by rw [hl]; exact hj)] at hc
      injection hc with hc
      rw [← hc]; exact u3
    have ha : l = [] ∨ ∃ b o, a = ⟨b, o, none⟩ := by
      cases l with
      | nil => exact .inl rfl
      | cons y r =>
        right
        obtain ⟨u, hu, _⟩ := hone 0 y 0 rfl h0
        rw [Nat.zero_mul] at hu
        exact addr_none hu
    refine ⟨l, fun y hy => ?_, rfl, fun i c hi => ?_⟩
    · obtain ⟨i, hi, rfl⟩ := List.getElem_of_mem hy
      exact (l2 i _ (List.getElem?_eq_getElem hi)).1
    · cases i with
      | succ i => simp at hi
      | zero =>
        simp at hi; subst hi
        refine ⟨_, rfl, rfl, ?_⟩
        rcases ha with rfl | ⟨b, o, rfl⟩
        · simp at l1
          subst l1
          exact Rd.sl sz [] _ cap 0 0 (fun _ _ => undef) (Nat.zero_le _) hm (.inl rfl) (fun i row h => by simp at h) (fun i row j c h => by simp at h)
        · let f : Nat → Nat → Value := fun i j => (w.cell? ⟨b, o + i * sz + j, none⟩).getD undef
          have hf : ∀ (i : Nat) (y : T) (j : Nat), l[i]? = some y → j < sz → w.cell? ⟨b, o + i * sz + j, none⟩ = some (f i j) ∧ (f i j).oneCell' = true ∧ ∀ c, (av y)[j]? = some c → Rd (allS w) w c (f i j) := fun i y j hi hj => by
            obtain ⟨u, u1, u2, u3⟩ := hone i y j hi hj
            rw [addr_add, ← Nat.add_assoc] at u1
            have : f i j = u := by simp only [f, u1]; rfl
            rw [this]; exact ⟨u1, u2, u3⟩
          have := Rd.sl (S := allS w) (w := w) sz (l.map av) (some ⟨b, o, none⟩) cap b o f (by rw [List.length_map]; omega) hm (.inr rfl) (fun i row hi => by
            rw [List.getElem?_map] at hi
            obtain ⟨y, hy, rfl⟩ := Option.map_eq_some_iff.1 hi
            refine ⟨hl y, fun j hj => ?_⟩
            obtain ⟨q1, q2, _⟩ := hf i y j hy hj
            exact ⟨World.block_lt_of_cell? w _ q1, q1, q2⟩) (fun i row j c hi hj => by
            rw [List.getElem?_map] at hi
            obtain ⟨y, hy, rfl⟩ := Option.map_eq_some_iff.1 hi
            exact (hf i y j hy (by have := (List.getElem?_eq_some_iff.1 hj).1; rw [hl] at this; exact this)).2.2 c hj)
          rw [List.length_map, l1] at this
          exact this
theorem src_all {w : World} {a : Option Addr} {len cap : Nat} (h : Keep.IntsAt w a len cap) : SrcAt w (allS w) a len cap := by
  obtain ⟨h1, h2, h3, h4⟩ := h
  refine ⟨h1, h2, h3, fun hl => ?_⟩
  obtain ⟨bl, off, ha, hc⟩ := h4 hl
  exact ⟨bl, off, ha, fun i hi => by obtain ⟨z, hz⟩ := hc i hi; exact ⟨World.block_lt_of_cell? w _ hz, z, hz⟩⟩
/-- A contract of scalars, as a function of what it reads. -/
theorem FC.ofCalls {f : FuncId} {vs : List Value} {v : Value} {r : D} (hr : ∀ S w, Rd S w r v) (h : ∀ w, Calls P f vs.toArray w fun e w' => e = .returned v ∧ Below w.heap.size w w') : FC P f (vs.map .v) r := by
  intro w S Sτ T vals h1 h2 h3 h4 h5 h6
  have hv : vals = vs := by
    apply List.ext_getElem?
    intro i
    by_cases hi : i < vs.length
    · have hi' : i < vals.length := by rw [h5]; simpa using hi
      have h7 := h6 i (.d (.v vs[i])) vals[i] (by simp [hi]) (List.getElem?_eq_getElem hi')
      rw [List.getElem?_eq_getElem hi', List.getElem?_eq_getElem hi, srel_v h7]
    · rw [List.getElem?_eq_none (by rw [h5]; simpa using hi), List.getElem?_eq_none (by omega)]
  subst hv
  refine (h w).mono ?_
  rintro e w' ⟨rfl, hb⟩
  exact ⟨r, v, S, rfl, rfl, ⟨hb.os, hb.tape, hb.output, hb.size, fun k hk _ => hb.block k hk⟩, fun _ _ _ => Iff.rfl, fun b o hb' => Nat.lt_of_lt_of_le (h1 b o hb') hb.size, (fun h => by cases h), hr _ _⟩
theorem FC.ofEq {f : FuncId} {vs : List Value} {v : Value} {r : D} (hr : ∀ S w, Rd S w r v) (h : ∀ w, Calls P f vs.toArray w fun e w' => e = .returned v ∧ w = w') : FC P f (vs.map .v) r :=
  FC.ofCalls hr fun w => (h w).mono fun e w' ⟨h1, h2⟩ => ⟨h1, h2 ▸ Below.refl _ _⟩
theorem mod_fc (k n : Int) (h : n ≤ 9223372036854775807) : FC Try.prog 25 [iD k, iD n] (iD (Keep.md k n)) := FC.ofEq (vs := [.int .i64 k, .int .i64 n]) (fun _ _ => .v _) (fun w => Keep.mod_any k n h w)
/-- A slice, or a struct, that came in. -/
theorem rd_slice {T : Type} {t sz : Nat} {av : T → List D} {ok : List T → Prop} (ho : Opn P t (fun l : List T => [.sl sz (l.map av)]) ok) {H : Type} {enc : TypeId × Value → H} {w : World} {base : Nat} {spare : Nat → Bool} {held : Bool} {a : Option Addr} {len cap : Nat} {d : DataW H} {ps : List MemPlace} (h : DataW.Trod enc P w base spare held t (.slice a len cap) d ps) :
    ∃ l : List T, ok l ∧ Rd (allS w) w (.sl sz (l.map av)) (.slice a len cap) := by
  obtain ⟨fuel, h⟩ := h
  obtain ⟨l, h1, _, h3⟩ := ho enc w base spare held fuel _ _ h
  obtain ⟨u, u1, _, u3⟩ := h3 0 _ rfl
  have : u = .slice a len cap := by simp [Value.cells] at u1; exact u1.symm
  subst this
  exact ⟨l, h1, u3⟩
theorem rd_agg {T : Type} {t : Nat} {av : T → List D} {ok : T → Prop} (ho : Opn P t av ok) {H : Type} {enc : TypeId × Value → H} {w : World} {base : Nat} {spare : Nat → Bool} {held : Bool} {cs : Array Value} {d : DataW H} {ps : List MemPlace} (h : DataW.Trod enc P w base spare held t (.agg cs) d ps) :
    ∃ y : T, ok y ∧ Rd (allS w) w (.agg (av y)) (.agg cs) := by
  obtain ⟨fuel, h⟩ := h
  obtain ⟨y, h1, h2, h3⟩ := ho enc w base spare held fuel _ _ h
  have hcs : (Value.agg cs).cells.toList = cs.toList := rfl
  rw [hcs] at h2 h3
  refine ⟨y, h1, ?_⟩
  have key : ∀ i u, cs.toList[i]? = some u → u.oneCell' = true ∧ ∀ c, (av y)[i]? = some c → Rd (allS w) w c u := fun i u hu => by
    have hi : i < (av y).length := by have := (List.getElem?_eq_some_iff.1 hu).1; omega
    obtain ⟨u', q1, q2, q3⟩ := h3 i _ (List.getElem?_eq_getElem hi)
    rw [Nat.zero_add, hu] at q1
    injection q1 with q1
    subst q1
    refine ⟨q2, fun c hc => ?_⟩
    rw [List.getElem?_eq_getElem hi] at hc
    injection hc with hc
    rw [← hc]; exact q3
  have := Rd.agg (S := allS w) (w := w) (av y) cs.toList h2 (fun u hu => by
    obtain ⟨i, hi, rfl⟩ := List.getElem_of_mem hu
    exact (key i _ (List.getElem?_eq_getElem hi)).1) (fun i c u hc hu => (key i u hu).2 c hc)
  simpa using this
end Eng
end Go.Proofs.Ytmmekdkllccmdaa
