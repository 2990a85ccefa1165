/-
  The engine: values in cells; structs and rows that are built.
-/
import Derived.Test.YtpnmiieohdkenaaYEngA
import Derived.Great.BuildSlice
namespace Go.Proofs.Ytpnmiieohdkenaa
open Go.RowKit
set_option linter.unusedVariables false
namespace RE
variable {P : Program}
/-- The cells that a word takes up in memory. -/
def cellsOf : SV → List SV
  | .d (.agg cs) => cs.map SV.d
  | .agg cs => cs
  | x => [x]
/-- What may be stored. -/
def okc : SV → Bool
  | .d (.v (.agg _)) => false
  | .d (.v x) => x.oneCell'
  | .d (.tup _) => false
  | .d _ => true
  | .tup _ => false
  | .cnd _ _ _ _ => false
  | .un => false
  | .sub _ _ _ _ => false
  | .ns _ => false
  | .inn _ _ => false
  | _ => true
/-- A row's handle takes one cell. -/
def hOne (m : Mem) : SV → Bool
  | .os id => (rowOf m id).isSome
  | _ => true
theorem hOne_spec {m : Mem} {w : World} {c : Cx} (ox : OX m.ob m.U m.tp w c) {s : SV} (h : hOne m s = true) : ∀ id, s = .os id → (c.H id).cells = #[c.H id] ∧ (c.H id).oneCell' = true := by
  rintro id rfl
  obtain ⟨⟨t, l⟩, hx⟩ := Option.isSome_iff_exists.1 h
  obtain ⟨ad, cap, hv, _⟩ := rowOf_rel ox hx
  rw [hv]; exact ⟨rfl, rfl⟩
theorem cells_rd {c : Cx} {w : World} {x : SV} {u : Value} (h : SRel c w x u) (h1 : okc x = true) (hO : ∀ id, x = .os id → (c.H id).cells = #[c.H id] ∧ (c.H id).oneCell' = true) :
    u.cells.toList.length = (cellsOf x).length ∧ (∀ v ∈ u.cells.toList, v.oneCell' = true) ∧ ∀ (j : Nat) (s : SV) (v : Value), (cellsOf x)[j]? = some s → u.cells.toList[j]? = some v → SRel c w s v := by
  have one : ∀ (u : Value), (∀ cs, u ≠ .agg cs) → u.cells = #[u] := fun u h => by cases u <;> first | rfl | exact absurd rfl (h _)
  have fin : ∀ (x : SV) (u : Value), cellsOf x = [x] → SRel c w x u → u.cells = #[u] → u.oneCell' = true → u.cells.toList.length = (cellsOf x).length ∧ (∀ v ∈ u.cells.toList, v.oneCell' = true) ∧ ∀ (j : Nat) (s : SV) (v : Value), (cellsOf x)[j]? = some s → u.cells.toList[j]? = some v → SRel c w s v := by
    intro x u hx hr hu ho
    rw [hx, hu]
    refine ⟨rfl, fun v hv => by simp at hv; rw [hv]; exact ho, fun j s v hs hv => ?_⟩
    cases j with
    | zero => simp at hs hv; rw [← hs, ← hv]; exact hr
    | succ j => simp at hs
  cases h with
  | d x u h =>
    cases h with
    | v =>
      have hne : ∀ cs, u ≠ .agg cs := fun cs e => by subst e; simp [okc] at h1
      refine fin _ _ rfl (.d _ _ (.v u)) (one u hne) ?_
      cases u <;> first | rfl | (exfalso; exact hne _ rfl) | (simp [okc, Value.oneCell'] at h1)
    | fn f cs us hl h => exact fin _ _ rfl (.d _ _ (.fn f cs us hl h)) rfl rfl
    | agg cs us hl ho h =>
      refine ⟨by simpa [Value.cells, cellsOf] using hl, fun v hv => ho v (by simpa [Value.cells] using hv), fun j s v hs hv => ?_⟩
      simp only [cellsOf, List.getElem?_map, Option.map_eq_some_iff] at hs
      obtain ⟨y, hy, rfl⟩ := hs
      exact .d _ _ (h j y v hy (by simpa [Value.cells] using hv))
    | tup cs us hl h => simp [okc] at h1
    | sl t l ad cap b off f hc hm ha hx h => exact fin _ _ rfl (.d _ _ (.sl t l ad cap b off f hc hm ha hx h)) rfl rfl
    | p cs b off f hx h => exact fin _ _ rfl (.d _ _ (.p cs b off f hx h)) rfl rfl
  | bx id off b h => exact fin _ _ rfl (.bx id off b h) rfl rfl
  | os id =>
    obtain ⟨e1, e2⟩ := hO id rfl
    exact fin _ _ rfl (.os id) e1 e2
  | sub id sz a b ad n cap h hab => simp [okc] at h1
  | op id i sz j g n cap h hi => exact fin _ _ rfl (.op id i sz j g n cap h hi) rfl rfl
  | agg cs us hl ho h => exact ⟨by simpa [Value.cells, cellsOf] using hl, fun v hv => ho v (by simpa [Value.cells] using hv), fun j s v hs hv => h j s v hs (by simpa [Value.cells] using hv)⟩
  | tup cs us hl h => simp [okc] at h1
  | fn f cs us hl h => exact fin _ _ rfl (.fn f cs us hl h) rfl rfl
  | cnd q wt g x u h h' => simp [okc] at h1
  | tp T h => exact fin _ _ rfl (.tp T h) rfl rfl
  | un => simp [okc] at h1
  | ns => simp [okc] at h1
  | inn => simp [okc] at h1
  | np id i sz j g n cap vs h hi => exact fin _ _ rfl (.np id i sz j g n cap vs h hi) rfl rfl
  | ip id i z sz j g n cap v vs h hi hu hz => exact fin _ _ rfl (.ip id i z sz j g n cap v vs h hi hu hz) rfl rfl
theorem cellsOf_inU {U : Nat → Prop} {x : SV} (h : x.inU U) : inUL U (cellsOf x) := by
  cases x with
  | d y => cases y <;> first | exact inUL_map _ _ | exact ⟨trivial, trivial⟩
  | agg cs => exact h
  | _ => exact ⟨h, trivial⟩
theorem foldl_set : ∀ (vs : List Value) (k off : Nat) (cs : Array Value), off + k + vs.length ≤ cs.size →
    ((vs.zipIdx k).foldl (fun (cs : Array Value) (p : Value × Nat) => cs.setIfInBounds (off + p.2) p.1) cs).toList = spl cs.toList (off + k) vs
  | [], k, off, cs, h => by simp [spl]
  | v :: vs, k, off, cs, h => by
    simp at h
    rw [List.zipIdx_cons, List.foldl_cons, foldl_set vs (k + 1) off _ (by simp; omega)]
    apply List.ext_getElem?
    intro j
    rw [spl_get (by simp; omega), spl_get (by simp; omega)]
    simp only [Array.toList_setIfInBounds, List.getElem?_set, List.length_cons, Array.length_toList]
    by_cases h1 : j < off + k
    · rw [if_pos (by omega), if_neg (by omega), if_pos h1]
    · by_cases h2 : j = off + k
      · subst h2
        rw [if_pos (by omega), if_pos rfl, if_pos (by omega), if_neg (by omega), if_pos (by omega)]; simp
      · by_cases h3 : j < off + k + (vs.length + 1)
        · rw [if_neg (by omega), if_pos (by omega), if_neg h1, if_pos h3, show j - (off + k) = (j - (off + (k + 1))) + 1 by omega]; simp
        · rw [if_neg (by omega), if_neg (by omega), if_neg (by omega), if_neg h1, if_neg h3]
/-- The cells of a struct or a row of which some parts are given. -/
def fillS (pl : List (Nat × Nat)) : List SV → List (Nat × SV) → Option (List SV)
  | cells, [] => some cells
  | cells, (i, s) :: rest => match pl[i]? with
    | some (off, sz) => bif Nat.beq (cellsOf s).length sz && Nat.ble (off + sz) cells.length && okc s then fillS pl (spl cells off (cellsOf s)) rest else none
    | none => none
theorem fill_rel {c : Cx} {w : World} {pl : List (Nat × Nat)} {place : Nat → Option (Nat × Nat)} (hp : ∀ i p, pl[i]? = some p → place i = some p) : ∀ (parts : List (Nat × SV)) (vals : List (Nat × Value)) (cells : List SV) (arr : Array Value) (cs : List SV),
    vals.length = parts.length → (∀ (i : Nat) (p : Nat × SV) (q : Nat × Value), parts[i]? = some p → vals[i]? = some q → p.1 = q.1 ∧ SRel c w p.2 q.2 ∧ ∀ id, p.2 = .os id → (c.H id).cells = #[c.H id] ∧ (c.H id).oneCell' = true) →
    arr.toList.length = cells.length → (∀ u ∈ arr.toList, u.oneCell' = true) → (∀ (j : Nat) (s : SV) (u : Value), cells[j]? = some s → arr.toList[j]? = some u → SRel c w s u) → fillS pl cells parts = some cs →
    ∃ arr', Instr.fill place arr vals = some arr' ∧ arr'.toList.length = cs.length ∧ (∀ u ∈ arr'.toList, u.oneCell' = true) ∧ ∀ (j : Nat) (s : SV) (u : Value), cs[j]? = some s → arr'.toList[j]? = some u → SRel c w s u
  | [], vals, cells, arr, cs, hl, hv, h1, h2, h3, h4 => by
    have : vals = [] := List.eq_nil_of_length_eq_zero (by simpa using hl)
    subst this
    simp only [fillS, Option.some.injEq] at h4
    subst h4
    exact ⟨arr, rfl, h1, h2, h3⟩
  | (i, s) :: parts, [], cells, arr, cs, hl, _, _, _, _, _ => by simp at hl
  | (i, s) :: parts, (i', u) :: vals, cells, arr, cs, hl, hv, h1, h2, h3, h4 => by
    obtain ⟨e, hs, hos⟩ := hv 0 (i, s) (i', u) rfl rfl
    simp only at e hs hos
    subst e
    unfold fillS at h4
    cases hpl : pl[i]? with
    | none => rw [hpl] at h4; cases h4
    | some p =>
      obtain ⟨off, sz⟩ := p
      rw [hpl] at h4
      cases hb : (Nat.beq (cellsOf s).length sz && Nat.ble (off + sz) cells.length && okc s) with
      | false => simp only [hb, cond_false] at h4; cases h4
      | true =>
        simp only [hb, cond_true] at h4
        simp only [Bool.and_eq_true] at hb
        obtain ⟨⟨hb1, hb2⟩, hb3⟩ := hb
        have hb1 := beq_eq hb1
        have hb2 := Nat.le_of_ble_eq_true hb2
        obtain ⟨k1, k2, k3⟩ := cells_rd hs hb3 hos
        have hsz : u.cells.size = sz := by rw [← Array.length_toList]; omega
        have hfold : (u.cells.zipIdx.foldl (fun (cs : Array Value) (p : Value × Nat) => cs.setIfInBounds (off + p.2) p.1) arr).toList = spl arr.toList off u.cells.toList := by
          rw [← Array.foldl_toList, Array.toList_zipIdx]
          exact foldl_set u.cells.toList 0 off arr (by rw [Array.length_toList, hsz, ← Array.length_toList, h1]; omega)
        obtain ⟨arr', q1, q2, q3, q4⟩ := fill_rel hp parts vals (spl cells off (cellsOf s)) (u.cells.zipIdx.foldl (fun (cs : Array Value) (p : Value × Nat) => cs.setIfInBounds (off + p.2) p.1) arr) cs (by simpa using hl) (fun j p q hj hq => hv (j + 1) p q (by simpa using hj) (by simpa using hq)) (by rw [hfold, spl_len (by omega), spl_len (by omega)]; exact h1) (fun v hv' => by
            rw [hfold] at hv'
            simp only [spl, List.mem_append] at hv'
            rcases hv' with (hv' | hv') | hv'
            · exact h2 v (List.mem_of_mem_take hv')
            · exact k2 v hv'
            · exact h2 v (List.mem_of_mem_drop hv')) (fun j s' v hs' hv' => by
            rw [hfold, spl_get (by omega)] at hv'
            rw [spl_get (by omega)] at hs'
            by_cases g1 : j < off
            · rw [if_pos g1] at hs' hv'; exact h3 j s' v hs' hv'
            · by_cases g2 : j < off + (cellsOf s).length
              · rw [if_neg g1, if_pos g2] at hs'
                rw [if_neg g1, if_pos (by omega)] at hv'
                exact k3 _ s' v hs' hv'
              · rw [if_neg g1, if_neg g2] at hs'
                rw [if_neg g1, if_neg (by omega)] at hv'
                exact h3 j s' v hs' hv') h4
        refine ⟨arr', ?_, q2, q3, q4⟩
        unfold Instr.fill
        rw [hp i _ hpl]
        have hnot : ¬ (u.cells.size ≠ sz ∨ arr.size < off + u.cells.size) := by
          rw [hsz]
          have : arr.size = cells.length := by rw [← Array.length_toList]; exact h1
          omega
        simp only [hsz, ne_eq, not_true_eq_false, decide_false, Bool.false_or]
        rw [if_neg (by simp; have : arr.size = cells.length := by rw [← Array.length_toList]; exact h1
                       omega)]
        exact q1
theorem fillS_inU {U : Nat → Prop} {pl : List (Nat × Nat)} : ∀ (parts : List (Nat × SV)) (cells cs : List SV), inUL U cells → (∀ p ∈ parts, p.2.inU U) → fillS pl cells parts = some cs → inUL U cs
  | [], cells, cs, h, _, h4 => by simp only [fillS, Option.some.injEq] at h4; subst h4; exact h
  | (i, s) :: parts, cells, cs, h, hp, h4 => by
    unfold fillS at h4
    split at h4
    · rename_i off sz _
      cases hb : (Nat.beq (cellsOf s).length sz && Nat.ble (off + sz) cells.length && okc s) with
      | false => rw [hb] at h4; cases h4
      | true =>
        rw [hb] at h4
        simp only [Bool.and_eq_true] at hb
        have hb1 := beq_eq hb.1.1
        have hb2 := Nat.le_of_ble_eq_true hb.1.2
        refine fillS_inU parts _ cs (inUL_of fun j s' hs' => ?_) (fun p hp' => hp p (by simp [hp'])) h4
        rw [spl_get (by omega)] at hs'
        split at hs'
        · exact inUL_get h hs'
        · split at hs'
          · exact inUL_get (cellsOf_inU (hp (i, s) (by simp))) hs'
          · exact inUL_get h hs'
    · cases h4
/-- The places of a composite's parts. -/
def places (P : Program) (t : TypeId) (n : Nat) : Option (List (Nat × Nat)) := match P.underlying t with
  | some (.struct fs) => fs.toList.mapM (fun f => (P.info? f.type).map fun i => (f.offset, i.size))
  | some (.array _ e) => match P.info? e with
    | some i => some ((List.range n).map fun k => (k * i.size, i.size))
    | none => none
  | _ => none
theorem places_spec {t n : Nat} {pl : List (Nat × Nat)} {z : Value} (h : places P t n = some pl) (hz : (P.info? t).bind (·.zero) = some z) : ∃ place : Nat → Option (Nat × Nat), (∀ i p, pl[i]? = some p → place i = some p) ∧ ∀ vals arr, Instr.fill place z.cells vals = some arr → P.built t vals = some arr := by
  cases hi : P.info? t with
  | none => rw [hi] at hz; cases hz
  | some it =>
    rw [hi] at hz
    simp only [Option.bind_some] at hz
    unfold places at h
    split at h
    · rename_i fs hu
      refine ⟨fun i => pl.toArray[i]?, fun i p hp => by simpa using hp, fun vals arr hf => ?_⟩
      unfold Program.built
      simp only [hi, hu, hz, h]
      exact hf
    · rename_i m e hu
      split at h
      · rename_i ie hie
        injection h with h
        subst h
        refine ⟨fun i => some (i * ie.size, ie.size), fun i p hp => ?_, fun vals arr hf => ?_⟩
        · have hl := (List.getElem?_eq_some_iff.1 hp).1
          simp only [List.length_map, List.length_range] at hl
          simp [hl] at hp
          rw [← hp]
        · unfold Program.built
          simp only [hi, hu, hz, hie]
          exact hf
      · cases h
    · cases h
def zeroOf (P : Program) (t : TypeId) : Option (List Value) := match P.info? t with
  | some i => match i.zero with
    | some z => bif z.cells.toList.all (·.oneCell') then some z.cells.toList else none
    | none => none
  | none => none
theorem zeroOf_spec {t : TypeId} {zs : List Value} (h : zeroOf P t = some zs) : ∃ i z, P.info? t = some i ∧ i.zero = some z ∧ z.cells.toList = zs ∧ ∀ u ∈ zs, u.oneCell' = true := by
  unfold zeroOf at h
  split at h
  · rename_i i hi
    split at h
    · rename_i z hz
      cases hb : z.cells.toList.all (·.oneCell') with
      | false => rw [hb] at h; cases h
      | true =>
        rw [hb] at h
        injection h with h
        exact ⟨i, z, hi, hz, h, fun u hu => List.all_eq_true.1 hb u (h ▸ hu)⟩
    · cases h
  · cases h
def partsOf (ρ : Operand → SV) (xs : List (Nat × Operand)) : List (Nat × SV) := xs.map fun y => (y.1, ρ y.2)
def pBuild (P : Program) (m : Mem) (ρ : Operand → SV) (t : TypeId) (xs : Array (Nat × Operand)) : Option SV :=
  match zeroOf P t, places P t xs.size with
  | some zs, some pl => bif (partsOf ρ xs.toList).all (fun p => hOne m p.2) then match fillS pl (zs.map fun u => SV.d (.v u)) (partsOf ρ xs.toList) with
      | some cs => some (mkAgg cs)
      | none => none
    else none
  | _, _ => none
theorem parts_rel {m : Mem} {ρ : Operand → SV} {a : Act} {w : World} {c : Cx} (hr : Rels m ρ a w c) {xs : List (Nat × Operand)} (h : (partsOf ρ xs).all (fun p => hOne m p.2) = true) :
    ∀ (i : Nat) (p : Nat × SV) (q : Nat × Value), (partsOf ρ xs)[i]? = some p → (xs.map fun y => (y.1, a.eval y.2))[i]? = some q → p.1 = q.1 ∧ SRel c w p.2 q.2 ∧ ∀ id, p.2 = .os id → (c.H id).cells = #[c.H id] ∧ (c.H id).oneCell' = true := by
  intro i p q hp hq
  have hone : hOne m p.2 = true := List.all_eq_true.1 h p (List.mem_of_getElem? hp)
  unfold partsOf at hp
  rw [List.getElem?_map, Option.map_eq_some_iff] at hp hq
  obtain ⟨y, hy, rfl⟩ := hp
  obtain ⟨y', hy', rfl⟩ := hq
  rw [hy] at hy'
  injection hy' with hy'
  subst hy'
  exact ⟨rfl, hr.op y.2, hOne_spec hr.ox hone⟩
theorem pBuild_run {m : Mem} {ρ : Operand → SV} {t : TypeId} {xs : Array (Nat × Operand)} {r : SV} (h : pBuild P m ρ t xs = some r) {a : Act} {w : World} {c : Cx} (hr : Rels m ρ a w c) : ∃ v, (Instr.build t (xs.map fun (i, x) => (i, a.eval x))).run P w = .ok v w ∧ SRel c w r v ∧ r.inU m.U := by
  unfold pBuild at h
  split at h
  · rename_i zs pl hz hpl
    cases hb : (partsOf ρ xs.toList).all (fun p => hOne m p.2) with
    | false => rw [hb] at h; cases h
    | true =>
      rw [hb] at h
      simp only [cond_true] at h
      split at h
      · rename_i cs hf
        injection h with h
        subst h
        obtain ⟨i, z, hi, hz', hzc, h1⟩ := zeroOf_spec hz
        subst hzc
        obtain ⟨place, hp1, hp2⟩ := places_spec (z := z) hpl (by rw [hi]; exact hz')
        obtain ⟨arr, q1, q2, q3, q4⟩ := fill_rel (c := c) (w := w) (pl := pl) (place := place) hp1 (partsOf ρ xs.toList) (xs.toList.map fun y => (y.1, a.eval y.2)) _ z.cells cs (by simp [partsOf]) (parts_rel hr hb) (by simp) h1 (fun j s u hj hu => by
          rw [List.getElem?_map, hu] at hj; simp at hj; subst hj; exact .d _ _ (.v u)) hf
        have hparts : (xs.map fun (i, x) => (i, a.eval x)).toList = xs.toList.map fun y => (y.1, a.eval y.2) := by simp
        have hrun := run_build (P := P) w t (xs.map fun (i, x) => (i, a.eval x)) arr (by rw [hparts]; exact hp2 _ _ q1)
        refine ⟨_, hrun, ?_, mkAgg_inU (fillS_inU _ _ _ (by
          have := inUL_map m.U (z.cells.toList.map D.v)
          rwa [List.map_map] at this) (fun p hp => ?_) hf)⟩
        · have := srel_mkAgg (c := c) (w := w) q2 q3 q4
          simpa using this
        · unfold partsOf at hp
          obtain ⟨y, _, rfl⟩ := List.mem_map.1 hp
          exact hr.iu y.2
      · cases h
  · cases h
end RE
end Go.Proofs.Ytpnmiieohdkenaa
namespace Go.Proofs.Ytpnmiieohdkenaa
open Go.RowKit
set_option linter.unusedVariables false
namespace RE
variable {P : Program}
/-! ### updates of objects -/
def lookU : List (Nat × Option Ob) → Nat → Option (Option Ob)
  | [], _ => none
  | (k, o) :: r, x => bif Nat.beq k x then some o else lookU r x
def ovr (ob : Obs) (l : List (Nat × Option Ob)) : Obs := fun i => match lookU l i with
  | some o => o
  | none => ob i
theorem lookU_cons (k : Nat) (o : Option Ob) (r : List (Nat × Option Ob)) (i : Nat) : lookU ((k, o) :: r) i = if k = i then some o else lookU r i := by
  show (bif Nat.beq k i then _ else _) = _
  by_cases h : k = i
  · subst h; simp
  · have : Nat.beq k i = false := by
      cases hb : Nat.beq k i with
      | false => rfl
      | true => exact absurd (beq_eq hb) h
    rw [this, if_neg h]; rfl
theorem ovr_cons (ob : Obs) (k : Nat) (o : Option Ob) (r : List (Nat × Option Ob)) : ovr ob ((k, o) :: r) = put (ovr ob r) k o := by
  funext i
  unfold ovr put
  rw [lookU_cons]
  by_cases h : i = k
  · subst h; simp
  · rw [if_neg h, if_neg (fun e => h e.symm)]
theorem ovr_nil (ob : Obs) : ovr ob [] = ob := rfl
def addN (U : Nat → Prop) (k n : Nat) : Nat → Prop := fun i => U i ∨ (k ≤ i ∧ i < k + n)
theorem addN_zero (U : Nat → Prop) (k : Nat) : addN U k 0 = U := by
  funext i
  exact propext ⟨fun h => h.elim id (fun h => absurd h.2 (by omega)), .inl⟩
theorem addN_one (U : Nat → Prop) (k : Nat) : addN U k 1 = addU U k := by
  funext i
  exact propext ⟨fun h => h.elim .inl (fun h => .inr (by omega)), fun h => h.elim .inl (fun h => .inr (by omega))⟩
/-! ### rows as data -/
mutual
/-- A word as data, and the rows that must be given up for it. -/
def dataOf (m : Mem) : SV → Option (D × List Nat)
  | .d x => some (x, [])
  | .os id => match m.ob id with
    | some (.row _ t l) => some (.sl t l, [id])
    | some (.fro t l) => some (.sl t l, [])
    | _ => none
  | .ns id => match m.ob id with
    | some (.nst _ t _ _ _ l) => some (.sl t l, [id])
    | some (.nfr t l) => some (.sl t l, [])
    | _ => none
  | .agg cs => match dataL m cs with
    | some (ds, ids) => some (.agg ds, ids)
    | none => none
  | .fn f cs => match dataL m cs with
    | some (ds, ids) => some (.fn f ds, ids)
    | none => none
  | _ => none
def dataL (m : Mem) : List SV → Option (List D × List Nat)
  | [] => some ([], [])
  | s :: r => match dataOf m s, dataL m r with
    | some (d, i), some (ds, is) => some (d :: ds, i ++ is)
    | _, _ => none
end
/-- The updates that make rows stable. -/
def fzU (ob : Obs) : List Nat → List (Nat × Option Ob)
  | [] => []
  | id :: r => match ob id with
    | some (.row _ t l) => (id, some (.fro t l)) :: fzU ob r
    | some (.nst _ t _ _ _ l) => (id, some (.nfr t l)) :: fzU ob r
    | _ => fzU ob r
theorem fzU_at (ob : Obs) : ∀ (ids : List Nat) (i : Nat), (ovr ob (fzU ob ids) i = ob i ∧ (i ∈ ids → (∀ e t l, ob i ≠ some (.row e t l)) ∧ ∀ e t k e' t' l, ob i ≠ some (.nst e t k e' t' l))) ∨ (∃ e t l, ob i = some (.row e t l) ∧ ovr ob (fzU ob ids) i = some (.fro t l) ∧ i ∈ ids) ∨ ∃ e t k e' t' l, ob i = some (.nst e t k e' t' l) ∧ ovr ob (fzU ob ids) i = some (.nfr t l) ∧ i ∈ ids
  | [], i => .inl ⟨rfl, fun h => by cases h⟩
  | id :: r, i => by
    have ih := fzU_at ob r i
    unfold fzU
    split
    · rename_i e t l hid
      rw [ovr_cons]
      by_cases h : i = id
      · subst h
        exact .inr (.inl ⟨e, t, l, hid, put_same _ _ _, by simp⟩)
      · rw [put_ne _ _ h]
        rcases ih with ⟨h1, h2⟩ | ⟨e', t', l', h1, h2, h3⟩ | ⟨e', t', k, a1, a2, l', h1, h2, h3⟩
        · exact .inl ⟨h1, fun hm => h2 (by simpa [h] using hm)⟩
        · exact .inr (.inl ⟨e', t', l', h1, h2, by simp [h3]⟩)
        · exact .inr (.inr ⟨e', t', k, a1, a2, l', h1, h2, by simp [h3]⟩)
    · rename_i e t k a1 a2 l hid
      rw [ovr_cons]
      by_cases h : i = id
      · subst h
        exact .inr (.inr ⟨e, t, k, a1, a2, l, hid, put_same _ _ _, by simp⟩)
      · rw [put_ne _ _ h]
        rcases ih with ⟨h1, h2⟩ | ⟨e', t', l', h1, h2, h3⟩ | ⟨e', t', k, a1, a2, l', h1, h2, h3⟩
        · exact .inl ⟨h1, fun hm => h2 (by simpa [h] using hm)⟩
        · exact .inr (.inl ⟨e', t', l', h1, h2, by simp [h3]⟩)
        · exact .inr (.inr ⟨e', t', k, a1, a2, l', h1, h2, by simp [h3]⟩)
    · rename_i hn hn2
      rcases ih with ⟨h1, h2⟩ | ⟨e', t', l', h1, h2, h3⟩ | ⟨e', t', k, a1, a2, l', h1, h2, h3⟩
      · refine .inl ⟨h1, fun hm => ?_⟩
        rcases List.mem_cons.1 hm with e | e
        · subst e; exact ⟨fun e t l he => hn e t l he, fun e t k a b l he => hn2 e t k a b l he⟩
        · exact h2 e
      · exact .inr (.inl ⟨e', t', l', h1, h2, by simp [h3]⟩)
      · exact .inr (.inr ⟨e', t', k, a1, a2, l', h1, h2, by simp [h3]⟩)
theorem OX.freezes {ob : Obs} {U : Nat → Prop} {tp : Bool} {w : World} {c : Cx} (h : OX ob U tp w c) : ∀ (ids : List Nat), ∃ c', OX (ovr ob (fzU ob ids)) U tp w c' ∧ Tr ob U w c (ovr ob (fzU ob ids)) U w c' ∧ c'.H = c.H ∧ c'.T = c.T
  | [] => ⟨c, h, .refl, rfl, rfl⟩
  | id :: r => by
    obtain ⟨c1, h1, t1, e1, e2⟩ := h.freezes r
    unfold fzU
    split
    · rename_i e t l hid
      rw [ovr_cons]
      rcases fzU_at ob r id with ⟨q1, q2⟩ | ⟨e', t', l', q1, q2, q3⟩ | ⟨e', t', k, a1, a2, l', q1, q2, q3⟩
      · obtain ⟨c2, h2, t2, e3, e4⟩ := h1.freeze (id := id) (e := e) (t := t) (l := l) (q1.trans hid)
        exact ⟨c2, h2, t1.trans t2, e3.trans e1, e4.trans e2⟩
      · rw [hid] at q1
        injection q1 with q1
        injection q1 with a1 a2 a3
        subst a2
        have a3 := eq_of_heq a3
        subst a3
        have : put (ovr ob (fzU ob r)) id (some (.fro t l)) = ovr ob (fzU ob r) := by
          funext i
          by_cases hi : i = id
          · subst hi; rw [put_same, q2]
          · rw [put_ne _ _ hi]
        rw [this]
        exact ⟨c1, h1, t1, e1, e2⟩
      · rw [hid] at q1; cases q1
    · rename_i e t k b1 b2 l hid
      rw [ovr_cons]
      rcases fzU_at ob r id with ⟨q1, q2⟩ | ⟨e', t', l', q1, q2, q3⟩ | ⟨e', t', k, a1, a2, l', q1, q2, q3⟩
      · obtain ⟨c2, h2, t2, e3, e4⟩ := h1.freezeN (id := id) (e := e) (t := t) (l := l) (q1.trans hid)
        exact ⟨c2, h2, t1.trans t2, e3.trans e1, e4.trans e2⟩
      · rw [hid] at q1; cases q1
      · rw [hid] at q1
        injection q1 with q1
        injection q1 with d1 d2 d3 d4 d5 d6
        subst d2
        have d6 := eq_of_heq d6
        subst d6
        have : put (ovr ob (fzU ob r)) id (some (.nfr t l)) = ovr ob (fzU ob r) := by
          funext i
          by_cases hi : i = id
          · subst hi; rw [put_same, q2]
          · rw [put_ne _ _ hi]
        rw [this]
        exact ⟨c1, h1, t1, e1, e2⟩
    · exact ⟨c1, h1, t1, e1, e2⟩
mutual
theorem dataOf_rel {m : Mem} {c c' : Cx} {w : World} (h : OX m.ob m.U m.tp w c) {ids0 : List Nat} (h' : OX (ovr m.ob (fzU m.ob ids0)) m.U m.tp w c') (t : Tr m.ob m.U w c (ovr m.ob (fzU m.ob ids0)) m.U w c') (hH : c'.H = c.H) :
    ∀ (s : SV) {x : D} {ids : List Nat}, dataOf m s = some (x, ids) → (∀ i ∈ ids, i ∈ ids0) → ∀ {u : Value}, SRel c w s u → Rd c'.S w x u
  | .d y, x, ids, hd, _, u, hr => by
    simp only [dataOf, Option.some.injEq, Prod.mk.injEq] at hd
    rw [← hd.1]; exact t.rd h (srel_d hr)
  | .os id, x, ids, hd, hi, u, hr => by
    unfold dataOf at hd
    rw [srel_os hr, ← hH]
    split at hd
    · rename_i e ty l hob
      injection hd with hd
      injection hd with e1 e2
      subst e1 e2
      rcases fzU_at m.ob ids0 id with ⟨q1, q2⟩ | ⟨e', t', l', q1, q2, q3⟩ | ⟨e', t', k, a1, a2, l', q1, q2, q3⟩
      · exact absurd hob ((q2 (hi id (by simp))).1 e ty l)
      · rw [hob] at q1
        injection q1 with q1
        injection q1 with a1 a2 a3
        subst a2
        have a3 := eq_of_heq a3
        subst a3
        exact (h'.objs id _ q2).2.2.1
      · rw [hob] at q1; cases q1
    · rename_i ty l hob
      injection hd with hd
      injection hd with e1 e2
      subst e1 e2
      rcases fzU_at m.ob ids0 id with ⟨q1, q2⟩ | ⟨e', t', l', q1, q2, q3⟩ | ⟨e', t', k, a1, a2, l', q1, q2, q3⟩
      · exact (h'.objs id _ (q1.trans hob)).2.2.1
      · rw [hob] at q1; cases q1
      · rw [hob] at q1; cases q1
    · cases hd
  | .ns id, x, ids, hd, hi, u, hr => by
    unfold dataOf at hd
    obtain ⟨vs0, hH0⟩ := srel_ns hr
    rw [← hH] at hH0
    split at hd
    · rename_i e ty k e2 t2 l hob
      injection hd with hd
      injection hd with e1 e2
      subst e1 e2
      rcases fzU_at m.ob ids0 id with ⟨q1, q2⟩ | ⟨e', t', l', q1, q2, q3⟩ | ⟨e', t', k, a1, a2, l', q1, q2, q3⟩
      · exact absurd hob ((q2 (hi id (by simp))).2 _ _ _ _ _ _)
      · rw [hob] at q1; cases q1
      · rw [hob] at q1
        injection q1 with q1
        injection q1 with d1 d2 d3 d4 d5 d6
        subst d2
        have d6 := eq_of_heq d6
        subst d6
        obtain ⟨v, vs, g1, g2⟩ := (h'.objs id _ q2).2.2
        rw [hH0] at g1
        injection g1 with g1
        have g1 := congrArg Array.toList g1
        simp only [List.cons.injEq] at g1
        rw [g1.1]; exact g2
    · rename_i ty l hob
      injection hd with hd
      injection hd with e1 e2
      subst e1 e2
      rcases fzU_at m.ob ids0 id with ⟨q1, q2⟩ | ⟨e', t', l', q1, q2, q3⟩ | ⟨e', t', k, a1, a2, l', q1, q2, q3⟩
      · obtain ⟨v, vs, g1, g2⟩ := (h'.objs id _ (q1.trans hob)).2.2
        rw [hH0] at g1
        injection g1 with g1
        have g1 := congrArg Array.toList g1
        simp only [List.cons.injEq] at g1
        rw [g1.1]; exact g2
      · rw [hob] at q1; cases q1
      · rw [hob] at q1; cases q1
    · cases hd
  | .agg cs, x, ids, hd, hi, u, hr => by
    unfold dataOf at hd
    split at hd
    · rename_i ds is hl
      injection hd with hd
      injection hd with e1 e2
      subst e1 e2
      obtain ⟨us, rfl, h1, h2, h3⟩ := srel_agg hr
      obtain ⟨k1, k2⟩ := dataL_rel h h' t hH cs hl hi
      exact Rd.agg ds us (by omega) h2 fun i d u hd hu => by
        have hil : i < cs.length := by have := (List.getElem?_eq_some_iff.1 hd).1; omega
        exact k2 i cs[i] d (List.getElem?_eq_getElem hil) hd (h3 i cs[i] u (List.getElem?_eq_getElem hil) hu)
    · cases hd
  | .fn f cs, x, ids, hd, hi, u, hr => by
    unfold dataOf at hd
    split at hd
    · rename_i ds is hl
      injection hd with hd
      injection hd with e1 e2
      subst e1 e2
      obtain ⟨k1, k2⟩ := dataL_rel h h' t hH cs hl hi
      cases hr with
      | fn _ _ us h1 h3 =>
        exact Rd.fn f ds us (by omega) fun i d u hd hu => by
          have hil : i < cs.length := by have := (List.getElem?_eq_some_iff.1 hd).1; omega
          exact k2 i cs[i] d (List.getElem?_eq_getElem hil) hd (h3 i cs[i] u (List.getElem?_eq_getElem hil) hu)
    · cases hd
  | .bx _ _, _, _, hd, _, _, _ | .sub _ _ _ _, _, _, hd, _, _, _ | .op _ _ _ _, _, _, hd, _, _, _ | .tup _, _, _, hd, _, _, _ | .cnd _ _ _ _, _, _, hd, _, _, _ | .tp, _, _, hd, _, _, _ | .un, _, _, hd, _, _, _ | .np _ _ _ _, _, _, hd, _, _, _ | .inn _ _, _, _, hd, _, _, _ | .ip _ _ _ _ _, _, _, hd, _, _, _ => by simp [dataOf] at hd
theorem dataL_rel {m : Mem} {c c' : Cx} {w : World} (h : OX m.ob m.U m.tp w c) {ids0 : List Nat} (h' : OX (ovr m.ob (fzU m.ob ids0)) m.U m.tp w c') (t : Tr m.ob m.U w c (ovr m.ob (fzU m.ob ids0)) m.U w c') (hH : c'.H = c.H) :
    ∀ (ss : List SV) {ds : List D} {ids : List Nat}, dataL m ss = some (ds, ids) → (∀ i ∈ ids, i ∈ ids0) → ss.length = ds.length ∧ ∀ (i : Nat) (s : SV) (d : D), ss[i]? = some s → ds[i]? = some d → ∀ {u : Value}, SRel c w s u → Rd c'.S w d u
  | [], ds, ids, hd, _ => by
    simp only [dataL, Option.some.injEq, Prod.mk.injEq] at hd
    rw [← hd.1]
    exact ⟨rfl, fun i s d h => by simp at h⟩
  | s :: r, ds, ids, hd, hi => by
    unfold dataL at hd
    split at hd
    · rename_i d i1 ds' is h1 h2
      injection hd with hd
      injection hd with e1 e2
      subst e1 e2
      obtain ⟨k1, k2⟩ := dataL_rel h h' t hH r h2 (fun i hm => hi i (by simp [hm]))
      refine ⟨by simp [k1], fun i s' d' hs hd u hr => ?_⟩
      cases i with
      | zero => simp at hs hd; subst hs hd; exact dataOf_rel h h' t hH s h1 (fun i hm => hi i (by simp [hm])) hr
      | succ i => simp at hs hd; exact k2 i s' d' hs hd hr
    · cases hd
end
/-! ### the operations -/
structure ERes where
  ps : List Prop
  fs : List Prop
  r : SV
  ob : List (Nat × Option Ob)
  cnt : Nat
/-- An operation from the memory m: what it yields, which objects change; k is the first number that is free. -/
def EffR (P : Program) (o : Oper) (m : Mem) (ρ : Operand → SV) (k : Nat) (R : ERes) : Prop :=
  ∀ a w c, RelsC m ρ a w c → (∀ i, k ≤ i → i < k + R.cnt → ¬ m.U i) → allL R.ps → ∀ (K : Act → World → Prop) (Q : Exit → Act → World → Prop),
    (∀ v c' w', OX (ovr m.ob R.ob) (addN m.U k R.cnt) m.tp w' c' → Tr m.ob m.U w c (ovr m.ob R.ob) (addN m.U k R.cnt) w' c' → SRel c' w' R.r v → R.r.inU (addN m.U k R.cnt) → allL R.fs → K (a.put o.dst v) w') → o.wp P a w K Q
theorem wp_value {o : Oper} {a : Act} {w w' : World} {v : Value} {K : Act → World → Prop} {Q : Exit → Act → World → Prop} (h : (execOp a.eval o).run P w = .ok (.value v) w') (k : K (a.put o.dst v) w') : o.wp P a w K Q := by
  unfold Oper.wp; rw [h]; exact k
theorem wp_skip' {o : Oper} {a : Act} {w w' : World} {K : Act → World → Prop} {Q : Exit → Act → World → Prop} (h : (execOp a.eval o).run P w = .ok .skip w') (k : K (a.put o.dst undef) w') : o.wp P a w K Q := by
  unfold Oper.wp; rw [h]; exact k
def eBox (k : Nat) (cs : List SV) : ERes := ⟨[], [], .bx k 0, [(k, some (.box cs))], 1⟩
theorem box_fin {o : Oper} {m : Mem} {ρ : Operand → SV} {k : Nat} {cs : List SV} {a : Act} {w : World} {c : Cx} (hr : RelsC m ρ a w c) (hk : ∀ i, k ≤ i → i < k + 1 → ¬ m.U i) {arr : List Value} {t : TypeId} (hrun : (execOp a.eval o).run P w = .ok (.value (.pointer (some ⟨w.heap.size, 0, none⟩))) (w.alloc (.cells arr.toArray t)))
    (hl : arr.length = cs.length) (h1 : ∀ u ∈ arr, u.oneCell' = true) (hs : ∀ (j : Nat) (s : SV) (u : Value), cs[j]? = some s → arr[j]? = some u → SRel c w s u) (hU : inUL m.U cs) {K : Act → World → Prop} {Q : Exit → Act → World → Prop}
    (hK : ∀ v c' w', OX (ovr m.ob (eBox k cs).ob) (addN m.U k (eBox k cs).cnt) m.tp w' c' → Tr m.ob m.U w c (ovr m.ob (eBox k cs).ob) (addN m.U k (eBox k cs).cnt) w' c' → SRel c' w' (eBox k cs).r v → (eBox k cs).r.inU (addN m.U k (eBox k cs).cnt) → allL (eBox k cs).fs → K (a.put o.dst v) w') : o.wp P a w K Q := by
  obtain ⟨c', k1, k2, k3⟩ := hr.ox.box (hk k (Nat.le_refl _) (by omega)) t hl h1 hs hU
  refine wp_value hrun (hK _ c' _ ?_ ?_ (.bx k 0 _ k3) (.inr ⟨Nat.le_refl _, by show k < k + 1; omega⟩) trivial)
  · show OX (ovr m.ob [(k, some (.box cs))]) (addN m.U k 1) _ _ _
    rw [ovr_cons, ovr_nil, addN_one]; exact k1
  · show Tr _ _ _ _ (ovr m.ob [(k, some (.box cs))]) (addN m.U k 1) _ _
    rw [ovr_cons, ovr_nil, addN_one]; exact k2
def eAlloc (P : Program) (k : Nat) (e : TypeId) : Option ERes := match zeroOf P e with
  | some zs => some (eBox k (zs.map fun u => SV.d (.v u)))
  | none => none
theorem eAlloc_ok {o : Oper} {m : Mem} {ρ : Operand → SV} {k : Nat} {e : TypeId} {R : ERes} (he : o.op = .alloc e) (h : eAlloc P k e = some R) : EffR P o m ρ k R := by
  intro a w c hr hk hp K Q hK
  unfold eAlloc at h
  split at h
  · rename_i zs hz
    injection h with h
    subst h
    obtain ⟨i, z, hi, hz', hzc, h1⟩ := zeroOf_spec hz
    subst hzc
    refine box_fin (t := e) (arr := z.cells.toList) hr hk ?_ (by simp) h1 (fun j s u hs hu => ?_) ?_ hK
    · simp [execOp, he, Instr.alloc, zeroValue, typeInfo, hi, hz', newVar, newRow]
    · rw [List.getElem?_map, hu] at hs; simp at hs; subst hs; exact .d _ _ (.v u)
    · have := inUL_map m.U (z.cells.toList.map D.v)
      rwa [List.map_map] at this
  · cases h
def eBoxV (m : Mem) (k : Nat) (s : SV) : Option ERes := bif okc s && hOne m s then some (eBox k (cellsOf s)) else none
theorem eBoxV_ok {o : Oper} {m : Mem} {ρ : Operand → SV} {k : Nat} {e : TypeId} {x : Operand} {R : ERes} (he : o.op = .box e x) (h : eBoxV m k (ρ x) = some R) : EffR P o m ρ k R := by
  intro a w c hr hk hp K Q hK
  unfold eBoxV at h
  cases hb : (okc (ρ x) && hOne m (ρ x)) with
  | false => rw [hb] at h; cases h
  | true =>
    rw [hb] at h
    injection h with h
    subst h
    obtain ⟨b1, b2⟩ := Bool.and_eq_true_iff.1 hb
    obtain ⟨k1, k2, k3⟩ := cells_rd (hr.op x) b1 (hOne_spec hr.ox b2)
    refine box_fin (t := e) (arr := (a.eval x).cells.toList) hr hk ?_ k1 k2 k3 (cellsOf_inU (hr.iu x)) hK
    simp [execOp, he, Instr.box, newVar, newRow]
def szTy (P : Program) (t sz : Nat) : Bool := match P.info? t with
  | some i => Nat.beq i.size sz
  | none => false
theorem run_store (t : TypeId) (w : World) (b o : Nat) (u : Value) (h : szTy P t u.cells.toList.length = true) (hc : ∀ j, j < u.cells.toList.length → (w.cell? ⟨b, o + j, none⟩).isSome = true) (hf : ∀ j, j < u.cells.toList.length → w.frozen? ⟨b, o + j, none⟩ = false)
    (h1 : ∀ v ∈ u.cells.toList, v.oneCell' = true) : (Instr.storeAt t (.pointer (some ⟨b, o, none⟩)) u).run P w = .ok () (w.setCells b o u.cells.toList) := by
  unfold szTy at h
  cases hi : P.info? t with
  | none => rw [hi] at h; cases h
  | some i =>
    rw [hi] at h
    have hs : i.size = u.cells.size := by simpa using beq_eq h
    have := run_storeCells_cells (P := P) b o u.cells.toList 0 w (by simpa using hc) (by simpa using hf) h1
    rw [Nat.add_zero] at this
    simp [Instr.storeAt, Instr.sureAddr, storeVar, sizeOf, typeInfo, hi, hs, this]
/-- A store: into a box, or into an element of a row (rows in the value are given up then). -/
def eStore (P : Program) (m : Mem) (t : TypeId) (x y : SV) : Option ERes := match x with
  | .bx id off => match m.ob id with
    | some (.box cs) => bif okc y && hOne m y && szTy P t (cellsOf y).length && Nat.ble (off + (cellsOf y).length) cs.length then some ⟨[], [], .un, [(id, some (.box (spl cs off (cellsOf y))))], 0⟩ else none
    | _ => none
  | .op id z sz j => match dataOf m y with
    | some (d, ids) => match ovr m.ob (fzU m.ob ids) id with
      | some (.row e ty l) => match dec ty (spl (enc ty (ix l z)) j (dCells d)) with
        | some x' => bif okc (.d d) && Nat.beq sz (size ty) && szTy P t (dCells d).length && Nat.ble (j + (dCells d).length) sz then some ⟨[], [], .un, (id, some (.row e ty (l.set z.toNat x'))) :: fzU m.ob ids, 0⟩ else none
        | none => none
      | _ => none
    | none => none
  | .ip id i z sz j => match dataOf m y with
    | some (d, ids) => match ovr m.ob (fzU m.ob ids) id with
      | some (.nst e ty kk e' t' l) => match dec t' (spl (enc t' (ix (kth ty kk t' (ix l i)) z)) j (dCells d)) with
        | some y' => match dec ty ((enc ty (ix l i)).set kk (.sl t' ((kth ty kk t' (ix l i)).set z.toNat y'))) with
          | some x' => bif okc (.d d) && Nat.beq sz (size t') && szTy P t (dCells d).length && Nat.ble (j + (dCells d).length) sz then some ⟨[], [], .un, (id, some (.nst e ty kk e' t' (l.set i.toNat x'))) :: fzU m.ob ids, 0⟩ else none
          | none => none
        | none => none
      | _ => none
    | none => none
  | _ => none
where dCells : D → List D
  | .agg cs => cs
  | x => [x]
theorem dCells_eq (d : D) : cellsOf (.d d) = (eStore.dCells d).map SV.d := by cases d <;> rfl
theorem okc_noRow {d : D} : ∀ id, SV.d d = .os id → ∀ (c : Cx), (c.H id).cells = #[c.H id] ∧ (c.H id).oneCell' = true := fun id e => by cases e
theorem eStore_ok {o : Oper} {m : Mem} {ρ : Operand → SV} {k : Nat} {t : TypeId} {x y : Operand} {R : ERes} (he : o.op = .store t x y) (h : eStore P m t (ρ x) (ρ y) = some R) : EffR P o m ρ k R := by
  intro a w c hr hk hp K Q hK
  unfold eStore at h
  have hx := hr.op x
  split at h
  · rename_i id off hxe
    rw [hxe] at hx
    split at h
    · rename_i cs hob
      cases hb : (okc (ρ y) && hOne m (ρ y) && szTy P t (cellsOf (ρ y)).length && Nat.ble (off + (cellsOf (ρ y)).length) cs.length) with
      | false => rw [hb] at h; cases h
      | true =>
        rw [hb] at h
        injection h with h
        subst h
        simp only [Bool.and_eq_true] at hb
        obtain ⟨⟨⟨b1, b2⟩, b3⟩, b4⟩ := hb
        have b4 := Nat.le_of_ble_eq_true b4
        obtain ⟨k1, k2, k3⟩ := cells_rd (hr.op y) b1 (hOne_spec hr.ox b2)
        obtain ⟨b, hbH, hbu⟩ := srel_bx hx
        obtain ⟨_, _, b', arr, t', q1, q2, q3, q4, q5, q6⟩ := hr.ox.objs id _ hob
        rw [hbH] at q1
        injection q1 with q1
        injection q1 with q1
        injection q1 with q1
        subst q1
        have hst := run_store (P := P) t w b off (a.eval y) (by rw [k1]; exact b3) (fun j hj => by rw [cell_row q3, List.getElem?_toArray, List.getElem?_eq_getElem (by omega)]; rfl) (fun j hj => by simp [World.frozen?, q3]) k2
        obtain ⟨r1, r2⟩ := hr.ox.store (off := off) hob hbH k1 b4 k2 k3 (cellsOf_inU (hr.iu y))
        refine wp_skip' (w' := w.setCells b off (a.eval y).cells.toList) (by simp [execOp, he, hbu, hst]) (hK _ c _ ?_ ?_ (.un _) trivial trivial)
        · show OX (ovr m.ob [_]) (addN m.U k 0) _ _ _
          rw [ovr_cons, ovr_nil, addN_zero]; exact r1
        · show Tr _ _ _ _ (ovr m.ob [_]) (addN m.U k 0) _ _
          rw [ovr_cons, ovr_nil, addN_zero]; exact r2
    · cases h
  · rename_i id z sz j hxe
    rw [hxe] at hx
    split at h
    · rename_i d ids hd
      split at h
      · rename_i e ty l hob
        split at h
        · rename_i x' hx'
          cases hb : (okc (.d d) && Nat.beq sz (size ty) && szTy P t (eStore.dCells d).length && Nat.ble (j + (eStore.dCells d).length) sz) with
          | false => rw [hb] at h; cases h
          | true =>
            rw [hb] at h
            injection h with h
            subst h
            simp only [Bool.and_eq_true] at hb
            obtain ⟨⟨⟨b1, b2⟩, b3⟩, b4⟩ := hb
            have b4 := Nat.le_of_ble_eq_true b4
            have b2 := beq_eq b2
            subst b2
            obtain ⟨c1, ox1, t1, e1, e2⟩ := hr.ox.freezes ids
            have hrd := dataOf_rel hr.ox ox1 t1 e1 (ρ y) hd (fun _ h => h) (hr.op y)
            obtain ⟨k1, k2, k3⟩ := cells_rd (c := c1) (.d _ _ hrd) b1 (fun id e => by cases e)
            rw [dCells_eq, List.length_map] at k1
            rw [dCells_eq] at k3
            obtain ⟨g, n, cap, hH, hu, hz⟩ := srel_op hx
            rw [← e1] at hH
            have hnl : n = l.length := by
              obtain ⟨_, ⟨q0, ⟨ad, q1⟩, _⟩ | ⟨g', cap', cur, q1, _⟩⟩ := (ox1.objs id _ hob).2.2
              · rw [hH] at q1; injection q1 with a1 a2 a3; rw [a2, q0]; rfl
              · rw [hH] at q1; injection q1
            subst hnl
            obtain ⟨r0, r1, r2⟩ := ox1.storeRow (id := id) (i := z.toNat) (j := j) (vs := (a.eval y).cells.toList) hob hH (ix_get (l := l) (i := z) ⟨hz.1, hz.2⟩) k1 b4 k2 (fun q d' u hq hu => srel_d (k3 q (.d d') u (by rw [List.getElem?_map, hq]; rfl) hu)) hx'
            have hst := run_store (P := P) t w g (z.toNat * size ty + j) (a.eval y) (by rw [k1]; exact b3) (fun q hq => (r0 q hq).1) (fun q hq => (r0 q hq).2) k2
            refine wp_skip' (w' := w.setCells g (z.toNat * size ty + j) (a.eval y).cells.toList) (by simp [execOp, he, hu, hst]) (hK _ c1 _ ?_ ?_ (.un _) trivial trivial)
            · show OX (ovr m.ob (_ :: _)) (addN m.U k 0) _ _ _
              rw [ovr_cons, addN_zero]; exact r1
            · show Tr _ _ _ _ (ovr m.ob (_ :: _)) (addN m.U k 0) _ _
              rw [ovr_cons, addN_zero]; exact t1.trans r2
        · cases h
      · cases h
    · cases h
  · rename_i id i z sz j hxe
    rw [hxe] at hx
    split at h
    · rename_i d ids hd
      split at h
      · rename_i e ty kk e' t' l hob
        split at h
        · rename_i y' hy'
          split at h
          · rename_i x' hx'
            cases hb : (okc (.d d) && Nat.beq sz (size t') && szTy P t (eStore.dCells d).length && Nat.ble (j + (eStore.dCells d).length) sz) with
            | false => rw [hb] at h; cases h
            | true =>
              rw [hb] at h
              injection h with h
              subst h
              simp only [Bool.and_eq_true] at hb
              obtain ⟨⟨⟨b1, b2⟩, b3⟩, b4⟩ := hb
              have b4 := Nat.le_of_ble_eq_true b4
              have b2 := beq_eq b2
              subst b2
              obtain ⟨c1, ox1, t1, e1, e2⟩ := hr.ox.freezes ids
              have hrd := dataOf_rel hr.ox ox1 t1 e1 (ρ y) hd (fun _ h => h) (hr.op y)
              obtain ⟨k1, k2, k3⟩ := cells_rd (c := c1) (.d _ _ hrd) b1 (fun id e => by cases e)
              rw [dCells_eq, List.length_map] at k1
              rw [dCells_eq] at k3
              obtain ⟨v, vs, g, n, cap, hH, hi, hu, hue, hz⟩ := srel_ip hx
              rw [← e1] at hH
              have hnst : nstOf ⟨ovr m.ob (fzU m.ob ids), m.U, m.tp⟩ id = some ⟨ty, kk, t', l⟩ := by unfold nstOf; rw [show (Mem.mk (ovr m.ob (fzU m.ob ids)) m.U m.tp).ob id = some (.nst e ty kk e' t' l) from hob]
              obtain ⟨ad, cap', vs', hv, hc, hm, hl, hkk, hcell⟩ := nstOf_rel (m := ⟨ovr m.ob (fzU m.ob ids), m.U, m.tp⟩) ox1 hnst
              have hH0 := hH
              rw [hv] at hH0
              injection hH0 with hH0
              have hH0 := congrArg Array.toList hH0
              simp only [List.cons.injEq] at hH0
              obtain ⟨a0, a1⟩ := hH0
              subst a0 a1
              have hil : i.toNat < l.length := by have := (List.getElem?_eq_some_iff.1 hu).1; omega
              obtain ⟨_, _, _, _, ad', cap2, w1, _⟩ := hcell i.toNat _ (ix_get (l := l) (i := i) ⟨hi, by omega⟩)
              have w1' := w1
              rw [hu] at w1'
              injection w1' with w1'
              injection w1' with f1 f2 f3
              subst f1 f2 f3
              obtain ⟨r0, r1, r2⟩ := ox1.storeNst (id := id) (i := i.toNat) (z := z.toNat) (j := j) (vs := (a.eval y).cells.toList) hob hH hu (ix_get (l := l) (i := i) ⟨hi, by omega⟩) (ix_get (l := kth ty kk t' (ix l i)) (i := z) hz) k1 b4 k2 (fun q d' u hq hu => srel_d (k3 q (.d d') u (by rw [List.getElem?_map, hq]; rfl) hu)) hy' hx'
              have hst := run_store (P := P) t w g (z.toNat * size t' + j) (a.eval y) (by rw [k1]; exact b3) (fun q hq => (r0 q hq).1) (fun q hq => (r0 q hq).2) k2
              refine wp_skip' (w' := w.setCells g (z.toNat * size t' + j) (a.eval y).cells.toList) (by simp [execOp, he, hue, hst]) (hK _ c1 _ ?_ ?_ (.un _) trivial trivial)
              · show OX (ovr m.ob (_ :: _)) (addN m.U k 0) _ _ _
                rw [ovr_cons, addN_zero]; exact r1
              · show Tr _ _ _ _ (ovr m.ob (_ :: _)) (addN m.U k 0) _ _
                rw [ovr_cons, addN_zero]; exact t1.trans r2
          · cases h
        · cases h
      · cases h
    · cases h
  · cases h
end RE
end Go.Proofs.Ytpnmiieohdkenaa
namespace Go.Proofs.Ytpnmiieohdkenaa
open Go.RowKit
set_option linter.unusedVariables false
namespace RE
variable {P : Program}
/-! ### parts of slices -/
def sub {α : Type} (l : List α) (a b : Int) : List α := (l.take b.toNat).drop a.toNat
/-- The bounds of a part of a slice are right. -/
def SubOK (a b n : Int) : Prop := 0 ≤ a ∧ a ≤ b ∧ b ≤ n
theorem subV_len {sz a b : Nat} {ad : Option Addr} {n cap : Nat} : subV sz a b (.slice ad n cap) = .slice (if cap = a then ad else ad.map (·.add (a * sz))) (b - a) (cap - a) := rfl
theorem sub_get {α : Type} {l : List α} {a b : Int} {i : Nat} {x : α} (h : (sub l a b)[i]? = some x) : l[a.toNat + i]? = some x := by
  unfold sub at h
  rw [List.getElem?_drop, List.getElem?_take] at h
  split at h
  · exact h
  · cases h
theorem sub_len {α : Type} {l : List α} {a b : Int} (h : SubOK a b l.length) : (sub l a b).length = b.toNat - a.toNat := by
  obtain ⟨h1, h2, h3⟩ := h
  unfold sub
  rw [List.length_drop, List.length_take]
  omega
theorem Rd.sub {S : Cells} {w : World} {t : Ty} {l : List (den t)} {ad : Option Addr} {n cap : Nat} (h : Rd S w (.sl t l) (.slice ad n cap)) {a b : Int} (hab : SubOK a b l.length) : Rd S w (.sl t (RE.sub l a b)) (subV (size t) a.toNat b.toNat (.slice ad n cap)) := by
  obtain ⟨ad', cap', bl, off, f, e, hc, hm, ha, hx, hr⟩ := h.slInv
  injection e with e1 e2 e3
  subst e1 e2 e3
  have hl := sub_len hab
  obtain ⟨h1, h2, h3⟩ := hab
  rw [subV_len, ← hl]
  by_cases he : a.toNat = b.toNat
  · have e0 : RE.sub l a b = [] := List.eq_nil_of_length_eq_zero (by omega)
    rw [e0]
    exact Rd.nil _ _ _ (by simp only [maxLen] at hm ⊢; omega)
  · have hne : l ≠ [] := fun e => by rw [e] at h3; simp at h3; omega
    have had : ad = some ⟨bl, off, none⟩ := ha.resolve_left hne
    subst had
    rw [if_neg (by omega)]
    refine Rd.sl t _ _ (cap - a.toNat) bl (off + a.toNat * size t) (fun i j => f (a.toNat + i) j) (by omega) (by simp only [maxLen] at hm ⊢; omega) (.inr (by simp [addr_add])) (fun i hi j hj => ?_) (fun i x j d hi hd => hr (a.toNat + i) x j d (sub_get hi) hd)
    have e : off + a.toNat * size t + i * size t + j = off + (a.toNat + i) * size t + j := by rw [Nat.add_mul]; omega
    rw [e]
    exact hx (a.toNat + i) (by omega) j hj
def intS : SV → Option (Option Int)
  | .d (.v (.int .i64 z)) => some (some z)
  | _ => none
def optI (ρ : Operand → SV) : Option Operand → Option (Option Int)
  | none => some none
  | some x => intS (ρ x)
/-- s[lo:hi]: the bounds, and what comes out. -/
def pSlice (P : Program) (m : Mem) (ρ : Operand → SV) (t : TypeId) (x : SV) (lo hi : Option Operand) : Option PRes :=
  match elemOf P t, optI ρ lo, optI ρ hi with
  | some e, some lo, some hi => match x with
    | .d (.sl ty l) => bif Nat.beq (tsz P e) (size ty) then okp (SubOK (lo.getD 0) (hi.getD (l.length : Nat)) (l.length : Nat)) (.d (.sl ty (sub l (lo.getD 0) (hi.getD (l.length : Nat))))) else none
    | .os id => match rowOf m id with
      | some ⟨ty, l⟩ => bif Nat.beq (tsz P e) (size ty) then okp (SubOK (lo.getD 0) (hi.getD (l.length : Nat)) (l.length : Nat)) (.sub id (size ty) (lo.getD 0) (hi.getD (l.length : Nat))) else none
      | none => none
    | _ => none
  | _, _, _ => none
theorem slice_run {m : Mem} {ρ : Operand → SV} {t e : TypeId} (he : elemOf P t = some e) {lo hi : Option Operand} {zlo zhi : Option Int} (hlo : optI ρ lo = some zlo) (hhi : optI ρ hi = some zhi) {a : Act} {w : World} {c : Cx} (hop : ∀ x, SRel c w (ρ x) (a.eval x)) {ad : Option Addr} {n cap : Nat} (hc : n ≤ cap)
    (hb : SubOK (zlo.getD 0) (zhi.getD (n : Nat)) (n : Nat)) : (Instr.sliceAt t (.slice ad n cap) (lo.map a.eval) (hi.map a.eval) none).run P w = .ok (subV (tsz P e) (zlo.getD 0).toNat (zhi.getD (n : Nat)).toNat (.slice ad n cap)) w := by
  obtain ⟨inf, hu, hi', hs⟩ := elemOf_spec he
  have key : ∀ {o : Option Operand} {z : Option Int}, optI ρ o = some z → o.map a.eval = z.map (fun z => Value.int .i64 z) := fun {o z} h => by
    cases o with
    | none => simp only [optI, Option.some.injEq] at h; subst h; rfl
    | some x =>
      have hx := hop x
      have h : intS (ρ x) = some z := h
      unfold intS at h
      split at h
      · rename_i z' hz
        injection h with h
        subst h
        rw [hz] at hx
        simp [srel_v hx]
      · cases h
  rw [key hlo, key hhi]
  obtain ⟨h1, h2, h3⟩ := hb
  cases zlo with
  | none =>
    cases zhi with
    | none => simp at h1 h2 h3; simp [Instr.sliceAt, Instr.slice, run_underlying hu, Instr.sliceBounds, sizeOf, typeInfo, hi', subV]
    | some q =>
      simp at h1 h2 h3
      have b1 : 0 ≤ q ∧ q ≤ (cap : Int) := by omega
      simp [Instr.sliceAt, Instr.slice, run_underlying hu, Instr.sliceBounds, Instr.sliceBound, asIntOf, b1, sizeOf, typeInfo, hi', subV]
  | some p =>
    cases zhi with
    | none =>
      simp at h1 h2 h3
      have b2 : 0 ≤ p ∧ p ≤ (n : Int) := by omega
      simp [Instr.sliceAt, Instr.slice, run_underlying hu, Instr.sliceBounds, Instr.sliceBound, asIntOf, b2, sizeOf, typeInfo, hi', hs, subV]
    | some q =>
      simp at h1 h2 h3
      have b1 : 0 ≤ q ∧ q ≤ (cap : Int) := by omega
      have b2 : 0 ≤ p ∧ p ≤ ((q.toNat : Nat) : Int) := by omega
      simp [Instr.sliceAt, Instr.slice, run_underlying hu, Instr.sliceBounds, Instr.sliceBound, asIntOf, b1, b2, sizeOf, typeInfo, hi', hs, subV]
      exact fun hh => absurd hh (by omega)
theorem pSlice_run {m : Mem} {ρ : Operand → SV} {t : TypeId} {x : Operand} {lo hi : Option Operand} {R : PRes} (h : pSlice P m ρ t (ρ x) lo hi = some R) {a : Act} {w : World} {c : Cx} (hr : Rels m ρ a w c) (hp : allL R.ps) :
    ∃ v, (Instr.sliceAt t (a.eval x) (lo.map a.eval) (hi.map a.eval) none).run P w = .ok v w ∧ SRel c w R.r v ∧ R.r.inU m.U ∧ allL R.fs := by
  unfold pSlice at h
  have hx := hr.op x
  have hxu := hr.iu x
  split at h
  · rename_i e zlo zhi he hlo hhi
    split at h
    · rename_i ty l hxe
      rw [hxe] at hx
      cases hb : Nat.beq (tsz P e) (size ty) with
      | false => rw [hb] at h; cases h
      | true =>
        rw [hb] at h
        have hb := beq_eq hb
        cases okp_eq h
        have hrd := srel_d hx
        obtain ⟨ad, cap, b, off, f, hu, hc, hm, ha, h1, h2⟩ := hrd.slInv
        rw [hu] at hrd ⊢
        refine ⟨_, slice_run (m := m) he hlo hhi hr.op hc hp.1, ?_, trivial, trivial⟩
        rw [hb]
        exact .d _ _ (hrd.sub hp.1)
    · rename_i id hxe
      rw [hxe] at hx hxu
      split at h
      · rename_i ty l hrow
        cases hb : Nat.beq (tsz P e) (size ty) with
        | false => rw [hb] at h; cases h
        | true =>
          rw [hb] at h
          have hb := beq_eq hb
          cases okp_eq h
          obtain ⟨ad, cap, hv, hc, hm, hcell⟩ := rowOf_rel hr.ox hrow
          have hu := srel_os hx
          rw [hv] at hu
          rw [hu]
          refine ⟨_, slice_run (m := m) he hlo hhi hr.op hc hp.1, ?_, hxu, trivial⟩
          rw [hb]
          exact .sub id (size ty) _ _ ad _ cap hv hp.1
      · cases h
    · cases h
  · cases h
/-! ### appends -/
/-- What is appended, as a list of a type. -/
def srcOf (m : Mem) (ty : Ty) : SV → Option (List (den ty))
  | .d d => decL ty d
  | .os id => match rowOf m id with
    | some ⟨t', l⟩ => castL ty t' l
    | none => none
  | .sub id sz a b => match rowOf m id with
    | some ⟨t', l⟩ => bif Nat.beq sz (size t') then castL ty t' (sub l a b) else none
    | none => none
  | _ => none
theorem castL_eq {t t' : Ty} {l : List (den t')} {l' : List (den t)} (h : castL t t' l = some l') : ∃ _ : t' = t, HEq l l' := by
  unfold castL at h
  split at h
  · rename_i hb
    have e := Ty.beq_eq hb
    subst e
    injection h with h
    exact ⟨rfl, heq_of_eq h⟩
  · cases h
theorem srcOf_ok {m : Mem} {ty : Ty} {s : SV} {l : List (den ty)} (h : srcOf m ty s = some l) {w : World} {c : Cx} (ox : OX m.ob m.U m.tp w c) {v : Value} (hs : SRel c w s v) {t e : TypeId} (ht : P.underlying t = some (.slice e)) (h0 : 0 < size ty) : SrcOK P w c.S t ty l v ∧ l.length ≤ maxLen := by
  unfold srcOf at h
  split at h
  · have := decA_rd (t := .sl ty) (x := l) h (srel_d hs)
    have hrd : Rd c.S w (.sl ty l) v := this
    refine ⟨SrcOK.ofRd ht h0 hrd, ?_⟩
    obtain ⟨_, _, _, _, _, _, h1, h2, _⟩ := hrd.slInv
    omega
  · rename_i id
    split at h
    · rename_i t' l' hrow
      obtain ⟨e1, e2⟩ := castL_eq h
      subst e1
      have e2 := eq_of_heq e2
      subst e2
      obtain ⟨ad, cap, hv, hc, hm, hcell⟩ := rowOf_rel ox hrow
      rw [srel_os hs, hv]
      refine ⟨SrcOK.of ht h0 ?_, by show l'.length ≤ _; omega⟩
      rcases List.eq_nil_or_concat l' with hl | ⟨_, _, hl⟩
      · exact .inl hl
      · have hpos : 0 < l'.length := by rw [hl]; simp
        obtain ⟨g, hg, _⟩ := hcell 0 l'[0] (List.getElem?_eq_getElem hpos)
        obtain ⟨f, f1, f2⟩ := rowCells (w := w) (S := c.S) (l := l') (g := g) (fun i x hi j d hd => by
          obtain ⟨g', hg', hh⟩ := hcell i x hi
          rw [hg] at hg'
          injection hg' with hg'
          injection hg' with hg'
          subst hg'
          exact hh j d hd)
        exact .inr ⟨g, 0, hg, f, fun i hi j hj => by rw [Nat.zero_add]; exact f1 i hi j hj, f2⟩
    · cases h
  · rename_i id sz a b
    split at h
    · rename_i t' l' hrow
      cases hb : Nat.beq sz (size t') with
      | false => rw [hb] at h; cases h
      | true =>
        rw [hb] at h
        have hb := beq_eq hb
        subst hb
        obtain ⟨e1, e2⟩ := castL_eq h
        subst e1
        have e2 := eq_of_heq e2
        subst e2
        obtain ⟨ad, cap, hv, hc, hm, hcell⟩ := rowOf_rel ox hrow
        obtain ⟨ad', n', cap', hv', hu, hab⟩ := srel_sub hs
        rw [hv] at hv'
        injection hv' with q1 q2 q3
        subst q1 q2 q3
        have hl := sub_len hab
        rw [hu, subV_len, ← hl]
        have hll : (sub l' a b).length ≤ l'.length := by obtain ⟨_, _, _⟩ := hab; omega
        refine ⟨SrcOK.of ht h0 ?_, by show (sub l' a b).length ≤ _; omega⟩
        by_cases he : a.toNat = b.toNat
        · exact .inl (List.eq_nil_of_length_eq_zero (by omega))
        · obtain ⟨ha1, ha2, ha3⟩ := hab
          have hpos : 0 < l'.length := by omega
          obtain ⟨g, hg, _⟩ := hcell 0 l'[0] (List.getElem?_eq_getElem hpos)
          obtain ⟨f, f1, f2⟩ := rowCells (w := w) (S := c.S) (l := l') (g := g) (fun i x hi j d hd => by
            obtain ⟨g', hg', hh⟩ := hcell i x hi
            rw [hg] at hg'
            injection hg' with hg'
            injection hg' with hg'
            subst hg'
            exact hh j d hd)
          refine .inr ⟨g, a.toNat * size t', ?_, fun i j => f (a.toNat + i) j, fun i hi j hj => ?_, fun i x j d hi hd => f2 _ x j d (sub_get hi) hd⟩
          · rw [if_neg (by omega), hg]; simp [addr_add]
          · have := f1 (a.toNat + i) (by omega) j hj
            rwa [Nat.add_mul] at this
    · cases h
  · cases h
/-- There is room for so many elements. -/
def apOK (bs n m : Nat) : Prop := (n + m) * bs ≤ 140737488355328
structure AppTy (P : Program) (t : TypeId) where
  e : TypeId
  bs : Nat
def appTy (P : Program) (t : TypeId) (sz : Nat) : Option (TypeId × Nat) := match elemOf P t with
  | some e => match P.info? e with
    | some i => match i.zero with
      | some z => bif Nat.beq z.cells.size sz && Nat.beq i.size sz && Nat.ble 1 i.bytes && Nat.ble 1 sz then some (e, i.bytes) else none
      | none => none
    | none => none
  | none => none
theorem appTy_spec {t : TypeId} {sz : Nat} {e : TypeId} {bs : Nat} (h : appTy P t sz = some (e, bs)) : ∃ i z, P.underlying t = some (.slice e) ∧ P.info? e = some i ∧ i.zero = some z ∧ z.cells.size = sz ∧ i.size = sz ∧ i.bytes = bs ∧ 1 ≤ bs ∧ 1 ≤ sz := by
  unfold appTy at h
  split at h
  · rename_i e' he
    obtain ⟨_, hu, _⟩ := elemOf_spec he
    split at h
    · rename_i i hi
      split at h
      · rename_i z hz
        cases hb : (Nat.beq z.cells.size sz && Nat.beq i.size sz && Nat.ble 1 i.bytes && Nat.ble 1 sz) with
        | false => rw [hb] at h; cases h
        | true =>
          rw [hb] at h
          injection h with h
          injection h with h1 h2
          subst h1 h2
          simp only [Bool.and_eq_true] at hb
          exact ⟨i, z, hu, hi, hz, beq_eq hb.1.1.1, beq_eq hb.1.1.2, rfl, Nat.le_of_ble_eq_true hb.1.2, Nat.le_of_ble_eq_true hb.2⟩
      · cases h
    · cases h
  · cases h
def eApp (k : Nat) (e : TypeId) (ty : Ty) (bs : Nat) (l l2 : List (den ty)) (old : List (Nat × Option Ob)) : ERes := ⟨[apOK bs l.length l2.length], [], .os k, (k, some (.row e ty (l ++ l2))) :: old, 1⟩
/-- An append to a row that is read still. -/
def eAppF (k : Nat) (ty : Ty) (bs : Nat) (l l2 : List (den ty)) (id : Nat) : ERes := ⟨[apOK bs l.length l2.length], [], .os k, [(id, some (.fro ty l)), (k, some (.fro ty (l ++ l2))), (id, none)], 1⟩
def isSlD : SV → Bool
  | .d (.sl _ _) => true
  | _ => false
def inT : List Nat → Nat → Bool
  | [], _ => false
  | x :: r, y => Nat.beq x y || inT r y
def oldU : Option Nat → List (Nat × Option Ob)
  | some id => [(id, none)]
  | none => []
def eAppend (P : Program) (τ : TypeId → Option Ty) (m : Mem) (k : Nat) (t : TypeId) (x y : SV) : Option ERes := match x with
  | .os id => match m.ob id with
    | some (.row e ty l) => match appTy P t (size ty), srcOf m ty y with
      | some (e', bs), some l2 => bif Nat.beq e e' then (bif isSlD y && inT keepT t then some (eAppF k ty bs l l2 id) else some (eApp k e ty bs l l2 [(id, none)])) else none
      | _, _ => none
    | _ => none
  | .d (.v v) => bif isNil v then match elemOf P t with
      | some e0 => match τ e0 with
        | some ty => match appTy P t (size ty), srcOf m ty y with
          | some (e', bs), some l2 => some (eApp k e' ty bs [] l2 [])
          | _, _ => none
        | none => none
      | none => none
    else none
  | _ => none
theorem eAppend_ok {τ : TypeId → Option Ty} {o : Oper} {m : Mem} {ρ : Operand → SV} {k : Nat} {t : TypeId} {x y : Operand} {R : ERes} (he : o.op = .call ⟨.builtin .append, #[x, y], #[t, t]⟩) (h : eAppend P τ m k t (ρ x) (ρ y) = some R) : EffR P o m ρ k R := by
  intro a w c hr hk hp K Q hK
  have hx := hr.op x
  have hy := hr.op y
  have fin : ∀ (e : TypeId) (ty : Ty) (bs : Nat) (l l2 : List (den ty)) (old : Option Nat) (F : Nat → Prop), appTy P t (size ty) = some (e, bs) → srcOf m ty (ρ y) = some l2 → RowAt w c.S (a.eval x) F e ty l → (∀ b, F b → ∃ id y, old = some id ∧ m.ob id = some y ∧ y.own = true ∧ c.F id b) →
      R = eApp k e ty bs l l2 (oldU old) → o.wp P a w K Q := by
    intro e ty bs l l2 old F ha hs2 hrow hF hR
    subst hR
    obtain ⟨i, z, t1, t2, t3, t4, t5, t6, t7, t8⟩ := appTy_spec ha
    obtain ⟨hsrc, hl2⟩ := srcOf_ok (P := P) hs2 hr.ox hy t1 (by omega)
    have hroom := hp.1
    have h63 : l.length + l2.length ≤ maxLen := by
      unfold apOK at hroom
      have := Nat.le_mul_of_pos_right (l.length + l2.length) (show 0 < bs by omega)
      simp only [maxLen]; omega
    obtain ⟨v', w', c', r1, r2, r3, r4⟩ := hr.ox.append (hk k (Nat.le_refl _) (by show k < k + 1; omega)) (old := old) t o.type e i z ty t1 t2 t3 t5 t4 hrow hF hsrc h63 (by rw [t6]; exact hroom)
    have eob : ovr m.ob (eApp k e ty bs l l2 (oldU old)).ob = put (dropO m.ob old) k (some (.row e ty (l ++ l2))) := by
      cases old with
      | none => show ovr m.ob [_] = _; rw [ovr_cons, ovr_nil]; rfl
      | some id => show ovr m.ob [_, _] = _; rw [ovr_cons, ovr_cons, ovr_nil]; rfl
    refine wp_value (v := v') (w' := w') ?_ (hK _ c' _ ?_ ?_ ?_ ?_ trivial)
    · simp [execOp, he, resolve, invoke, builtin, r1]
    · rw [eob]; show OX _ (addN m.U k 1) _ _ _; rw [addN_one]; exact r3
    · rw [eob]; show Tr _ _ _ _ _ (addN m.U k 1) _ _; rw [addN_one]; exact r4
    · rw [← r2]; exact .os k
    · exact .inr ⟨Nat.le_refl _, by show k < k + 1; omega⟩
  unfold eAppend at h
  split at h
  · rename_i id hxe
    rw [hxe] at hx
    split at h
    · rename_i e ty l hob
      split at h
      · rename_i e' bs l2 ha hs2
        cases hb : Nat.beq e e' with
        | false => rw [hb] at h; cases h
        | true =>
          rw [hb] at h
          have hb := beq_eq hb
          subst hb
          have hu := srel_os hx
          simp only [cond_true] at h
          cases hkp : (isSlD (ρ y) && inT keepT t) with
          | true =>
            rw [hkp] at h
            injection h with h
            subst h
            obtain ⟨i, z, t1, t2, t3, t4, t5, t6, t7, t8⟩ := appTy_spec ha
            obtain ⟨hsrc, hl2⟩ := srcOf_ok (P := P) hs2 hr.ox hy t1 (by omega)
            have hroom := hp.1
            have h63 : l.length + l2.length ≤ maxLen := by
              have hroom : apOK bs l.length l2.length := hroom
              unfold apOK at hroom
              have := Nat.le_mul_of_pos_right (l.length + l2.length) (show 0 < bs by omega)
              simp only [maxLen]; omega
            obtain ⟨v', w', c', r1, r2, r3, r4⟩ := hr.ox.appendF (hk k (Nat.le_refl _) (by show k < k + 1; omega)) t o.type e i z ty t1 t2 t3 t5 t4 hob hsrc h63 (by rw [t6]; exact hroom)
            have eob : ovr m.ob (eAppF k ty bs l l2 id).ob = put (put (dropO m.ob (some id)) k (some (.fro ty (l ++ l2)))) id (some (.fro ty l)) := by
              show ovr m.ob [_, _, _] = _
              rw [ovr_cons, ovr_cons, ovr_cons, ovr_nil]; rfl
            refine wp_value (v := v') (w' := w') ?_ (hK _ c' _ ?_ ?_ ?_ ?_ trivial)
            · simp [execOp, he, resolve, invoke, builtin, hu, r1]
            · rw [eob]; show OX _ (addN m.U k 1) _ _ _; rw [addN_one]; exact r3
            · rw [eob]; show Tr _ _ _ _ _ (addN m.U k 1) _ _; rw [addN_one]; exact r4
            · rw [← r2]; exact .os k
            · exact .inr ⟨Nat.le_refl _, by show k < k + 1; omega⟩
          | false =>
          rw [hkp] at h
          injection h with h
          exact fin e ty bs l l2 (some id) (c.F id) ha hs2 (by rw [hu]; exact (hr.ox.objs id _ hob).2.2) (fun b hb => ⟨id, _, rfl, hob, rfl, hb⟩) h.symm
      · cases h
    · cases h
  · rename_i v hxe
    rw [hxe] at hx
    cases hn : isNil v with
    | false => rw [hn] at h; cases h
    | true =>
      rw [hn] at h
      simp only [cond_true] at h
      split at h
      · split at h
        · rename_i ty _
          split at h
          · rename_i e' bs l2 ha hs2
            injection h with h
            have hu := srel_v hx
            rw [isNil_eq hn] at hu
            obtain ⟨_, _, _, _, _, _, _, _, _, h1⟩ := appTy_spec ha
            exact fin e' ty bs [] l2 none (fun _ => False) ha hs2 (by rw [hu]; exact ⟨h1, .inl ⟨rfl, ⟨none, rfl⟩, fun _ h => h⟩⟩) (fun _ h => h.elim) h.symm
          · cases h
        · cases h
      · cases h
  · cases h
end RE
end Go.Proofs.Ytpnmiieohdkenaa
namespace Go.Proofs.Ytpnmiieohdkenaa
open Go.RowKit
set_option linter.unusedVariables false
namespace RE
variable {P : Program}
def zeroRow (z : List Value) (k : Nat) : List SV := (List.range k).map fun q => SV.d (.v (z.getD (q % z.length) undef))
def rowPl (sz n : Nat) : List (Nat × Nat) := (List.range n).map fun k => (k * sz, sz)
/-- The elements of a type out of their cells. -/
def decRows (ty : Ty) : Nat → List D → Option (List (den ty))
  | 0, [] => some []
  | 0, _ :: _ => none
  | n + 1, ds => match dec ty (ds.take (size ty)), decRows ty n (ds.drop (size ty)) with
    | some x, some r => some (x :: r)
    | _, _ => none
theorem decRows_spec {ty : Ty} : ∀ {n : Nat} {ds : List D} {l : List (den ty)}, decRows ty n ds = some l → l.length = n ∧ ds.length = n * size ty ∧ ∀ (i : Nat) (x : den ty), l[i]? = some x → ∀ (j : Nat) (c : D), (enc ty x)[j]? = some c → ∃ d, ds[i * size ty + j]? = some d ∧ ∀ {S : Cells} {w : World} {u : Value}, Rd S w d u → Rd S w c u
  | 0, [], l, h => by
    simp only [decRows, Option.some.injEq] at h
    subst h
    exact ⟨rfl, by simp, fun i x hi => by simp at hi⟩
  | 0, _ :: _, l, h => by simp [decRows] at h
  | n + 1, ds, l, h => by
    unfold decRows at h
    split at h
    · rename_i x r h1 h2
      injection h with h
      subst h
      obtain ⟨q1, q2⟩ := dec_rd h1
      obtain ⟨k1, k2, k3⟩ := decRows_spec h2
      rw [List.length_take] at q1
      rw [List.length_drop] at k2
      have hs : (n + 1) * size ty = n * size ty + size ty := Nat.succ_mul _ _
      have hd : ds.length = (n + 1) * size ty := by
        rcases Nat.eq_zero_or_pos (n * size ty) with e | e
        · have : size ty ≤ ds.length := by omega
          omega
        · omega
      refine ⟨by simp [k1], hd, fun i y hi j c hc => ?_⟩
      have hj := enc_lt hc
      cases i with
      | zero =>
        simp at hi
        subst hi
        have hjd : j < ds.length := by omega
        refine ⟨ds[j], by rw [Nat.zero_mul, Nat.zero_add, List.getElem?_eq_getElem hjd], fun {S w u} hr => q2 j c ds[j] hc ?_ hr⟩
        rw [List.getElem?_take, if_pos hj, List.getElem?_eq_getElem hjd]
      | succ i =>
        simp at hi
        obtain ⟨d, d1, d2⟩ := k3 i y hi j c hc
        refine ⟨d, ?_, d2⟩
        rw [List.getElem?_drop] at d1
        rw [Nat.succ_mul, ← d1]
        congr 1; omega
    · cases h
theorem buildSlice_run {a : Act} {w : World} {c : Cx} {t e sz len : Nat} {zs : List Value} {z : Value} {i : TypeInfo} {xs : Array (Nat × Operand)} {ss : List (Nat × SV)} {cs : List SV} (hu : P.underlying t = some (.slice e)) (hi : P.info? e = some i) (hsz : i.size = sz) (hz : i.zero = some z) (hzs : z.cells.toList = zs)
    (h1 : ∀ u ∈ zs, u.oneCell' = true) (hzl : zs.length = sz) (hsm : len * sz ≤ 16777216) (l1 : xs.size = ss.length) (l2 : ∀ (i : Nat) (p : Nat × SV) (q : Nat × Value), ss[i]? = some p → (xs.toList.map fun y => (y.1, a.eval y.2))[i]? = some q → p.1 = q.1 ∧ SRel c w p.2 q.2 ∧ ∀ id, p.2 = .os id → (c.H id).cells = #[c.H id] ∧ (c.H id).oneCell' = true)
    (hf : fillS (rowPl sz len) (zeroRow zs (len * sz)) ss = some cs) :
    ∃ us : List Value, (Instr.buildSlice t len (xs.map fun (i, x) => (i, a.eval x))).run P w = .ok (.slice (some ⟨w.heap.size, 0, none⟩) len len) (w.alloc (.cells us.toArray e)) ∧ us.length = cs.length ∧ (∀ u ∈ us, u.oneCell' = true) ∧ ∀ (j : Nat) (s : SV) (u : Value), cs[j]? = some s → us[j]? = some u → SRel c w s u := by
  subst hzs
  have hparts : (xs.map fun (i, x) => (i, a.eval x)).toList = xs.toList.map fun y => (y.1, a.eval y.2) := by simp
  have hzget : ∀ q, q < len * sz → 0 < sz := fun q hq => by
    rcases Nat.eq_zero_or_pos sz with h | h
    · rw [h] at hq; omega
    · exact h
  have harr : ∀ q, q < len * sz → ((Array.range (len * sz)).map (z.cells[· % z.cells.size]!)).toList[q]? = some (z.cells.toList.getD (q % z.cells.toList.length) undef) := fun q hq => by
    have hp := hzget q hq
    have hm : q % z.cells.size < z.cells.size := Nat.mod_lt _ (by rw [← Array.length_toList]; omega)
    simp [hq]
    rw [getElem!_pos z.cells _ hm, Array.getElem?_eq_getElem hm]
    rfl
  obtain ⟨arr, q1, q2, q3, q4⟩ := fill_rel (c := c) (w := w) (pl := rowPl sz len) (place := fun i => some (i * sz, sz)) (fun i p hp => by
      have hl := (List.getElem?_eq_some_iff.1 hp).1
      simp only [rowPl, List.length_map, List.length_range] at hl
      simp [rowPl, hl] at hp
      rw [← hp]) ss (xs.toList.map fun y => (y.1, a.eval y.2)) (zeroRow z.cells.toList (len * sz)) ((Array.range (len * sz)).map (z.cells[· % z.cells.size]!)) cs (by simp [l1]) l2 (by simp [zeroRow]) (fun u hu => by
      obtain ⟨q, hq, rfl⟩ := List.getElem_of_mem hu
      have hql : q < len * sz := by simpa using hq
      have := harr q hql
      rw [List.getElem?_eq_getElem hq] at this
      injection this with this
      rw [this]
      have hm : q % z.cells.toList.length < z.cells.toList.length := Nat.mod_lt _ (by have := hzget q hql; omega)
      rw [List.getD_eq_getElem?_getD, List.getElem?_eq_getElem hm]
      exact h1 _ (List.getElem_mem hm)) (fun j s u hj hu => by
      have hjl : j < len * sz := by have := (List.getElem?_eq_some_iff.1 hj).1; simpa [zeroRow] using this
      rw [harr j hjl] at hu
      injection hu with hu
      simp only [zeroRow, List.getElem?_map, List.getElem?_range hjl, Option.map_some, Option.some.injEq] at hj
      subst hj; subst hu
      exact .d _ _ (.v _)) hf
  refine ⟨arr.toList, ?_, q2, q3, q4⟩
  rw [Array.toArray_toList]
  by_cases h0 : len * sz = 0
  · have hfe : Instr.fill (fun i => some (i * sz, sz)) #[] (xs.toList.map fun y => (y.1, a.eval y.2)) = some arr := by
      rw [h0] at q1
      have e : (Array.range 0).map (fun x => z.cells[x % z.cells.size]!) = #[] := by simp
      rw [e] at q1; exact q1
    have er : Array.range 0 = #[] := rfl
    simp [Instr.buildSlice, run_underlying hu, sizeOf, typeInfo, hi, hsz, h0, newRow, hfe, er]
  · exact run_buildSlice w t e len _ arr i z hu hi hz (by rw [hsz]; omega) (by rw [hsz]; exact h0) (by rw [hsz, hparts]; exact q1)
/-- The parts as data, and the rows that are given up for them. -/
def partsD (m : Mem) (ρ : Operand → SV) : List (Nat × Operand) → Option (List (Nat × SV) × List Nat)
  | [] => some ([], [])
  | (i, x) :: r => match dataOf m (ρ x), partsD m ρ r with
    | some (d, is), some (ds, js) => some ((i, .d d) :: ds, is ++ js)
    | _, _ => none
theorem partsD_rel {m : Mem} {ρ : Operand → SV} {a : Act} {w : World} {c c' : Cx} (hop : ∀ x, SRel c w (ρ x) (a.eval x)) (h : OX m.ob m.U m.tp w c) {ids0 : List Nat} (h' : OX (ovr m.ob (fzU m.ob ids0)) m.U m.tp w c') (t : Tr m.ob m.U w c (ovr m.ob (fzU m.ob ids0)) m.U w c') (hH : c'.H = c.H) :
    ∀ {xs : List (Nat × Operand)} {ss : List (Nat × SV)} {ids : List Nat}, partsD m ρ xs = some (ss, ids) → (∀ i ∈ ids, i ∈ ids0) → xs.length = ss.length ∧ ∀ (i : Nat) (p : Nat × SV) (q : Nat × Value), ss[i]? = some p → (xs.map fun y => (y.1, a.eval y.2))[i]? = some q → p.1 = q.1 ∧ SRel c' w p.2 q.2 ∧ ∀ id, p.2 = .os id → (c'.H id).cells = #[c'.H id] ∧ (c'.H id).oneCell' = true
  | [], ss, ids, hd, _ => by
    simp only [partsD, Option.some.injEq, Prod.mk.injEq] at hd
    rw [← hd.1]
    exact ⟨rfl, fun i p q hp => by simp at hp⟩
  | (i0, x) :: r, ss, ids, hd, hi => by
    unfold partsD at hd
    split at hd
    · rename_i d is ds js h1 h2
      injection hd with hd
      injection hd with e1 e2
      subst e1 e2
      obtain ⟨k1, k2⟩ := partsD_rel hop h h' t hH h2 (fun i hm => hi i (by simp [hm]))
      refine ⟨by simp [k1], fun i p q hp hq => ?_⟩
      cases i with
      | zero =>
        simp at hp hq
        subst hp hq
        exact ⟨rfl, .d _ _ (dataOf_rel h h' t hH (ρ x) h1 (fun i hm => hi i (by simp [hm])) (hop x)), fun id e => by cases e⟩
      | succ i => simp at hp hq; exact k2 i p q hp (by simpa using hq)
    · cases hd
def eBuildSlice (P : Program) (τ : TypeId → Option Ty) (m : Mem) (ρ : Operand → SV) (k : Nat) (t : TypeId) (len : Nat) (xs : Array (Nat × Operand)) : Option ERes :=
  match elemOf P t with
  | none => none
  | some e => match τ e, zeroOf P e, partsD m ρ xs.toList with
    | some ty, some zs, some (ss, ids) => match fillS (rowPl (size ty) len) (zeroRow zs (len * size ty)) ss with
      | some cs => match dOf cs with
        | some ds => match decRows ty len ds with
          | some l => bif Nat.beq (tsz P e) (size ty) && Nat.beq zs.length (size ty) && Nat.ble (len * size ty) 16777216 && Nat.ble len 16777216 && Nat.ble 1 (size ty) then some ⟨[], [], .os k, (k, some (.row e ty l)) :: fzU m.ob ids, 1⟩ else none
          | none => none
        | none => none
      | none => none
    | _, _, _ => none
theorem eBuildSlice_ok {τ : TypeId → Option Ty} {o : Oper} {m : Mem} {ρ : Operand → SV} {k : Nat} {t : TypeId} {len : Nat} {xs : Array (Nat × Operand)} {R : ERes} (he : o.op = .buildSlice t len xs) (h : eBuildSlice P τ m ρ k t len xs = some R) : EffR P o m ρ k R := by
  intro a w c hr hk hp K Q hK
  unfold eBuildSlice at h
  split at h
  · cases h
  · rename_i e hel
    split at h
    · rename_i ty zs ss ids hty hz hparts
      split at h
      · rename_i cs hf
        split at h
        · rename_i ds hds
          split at h
          · rename_i l hl
            cases hb : (Nat.beq (tsz P e) (size ty) && Nat.beq zs.length (size ty) && Nat.ble (len * size ty) 16777216 && Nat.ble len 16777216 && Nat.ble 1 (size ty)) with
            | false => rw [hb] at h; cases h
            | true =>
              rw [hb] at h
              injection h with h
              subst h
              simp only [Bool.and_eq_true] at hb
              obtain ⟨⟨⟨⟨b1, b2⟩, b3⟩, b4⟩, b5⟩ := hb
              have b1 := beq_eq b1
              have b2 := beq_eq b2
              have b3 := Nat.le_of_ble_eq_true b3
              have b4 := Nat.le_of_ble_eq_true b4
              have b5 := Nat.le_of_ble_eq_true b5
              obtain ⟨i, hu, hi, hsz⟩ := elemOf_spec hel
              obtain ⟨i', z, hi', hz', hzc, h1⟩ := zeroOf_spec hz
              rw [hi] at hi'
              injection hi' with hi'
              subst hi'
              obtain ⟨c1, ox1, t1, e1, e2⟩ := hr.ox.freezes ids
              obtain ⟨p1, p2⟩ := partsD_rel hr.op hr.ox ox1 t1 e1 hparts (fun _ h => h)
              obtain ⟨us, q1, q2, q3, q4⟩ := buildSlice_run (P := P) (a := a) (w := w) (c := c1) (xs := xs) hu hi (hsz.trans b1) hz' hzc h1 b2 b3 (by simpa using p1) p2 hf
              have hcs := dOf_spec hds
              obtain ⟨d1, d2, d3⟩ := decRows_spec hl
              have hk' : ¬ m.U k := hk k (Nat.le_refl _) (by show k < k + 1; omega)
              obtain ⟨r1, r2⟩ := ox1.new hk' (x := .row e ty l) (v := .slice (some ⟨w.heap.size, 0, none⟩) len len) (.cells us.toArray e) trivial (fun c' g1 g2 g3 g4 g5 => by
                show RowAt _ _ _ _ _ _ _
                refine ⟨by omega, .inr ⟨w.heap.size, len, us.toArray, by rw [g1, d1], g2, heap_alloc_new w _, by omega, by simp only [maxLen]; omega, ?_, fun i x hx j d hd => ?_⟩⟩
                · rw [List.size_toArray, q2, hcs, List.length_map, d2]
                · obtain ⟨d', hd', hrd⟩ := d3 i x hx j d hd
                  have hlt : i * size ty + j < us.length := by
                    have := (List.getElem?_eq_some_iff.1 hd').1
                    rw [q2, hcs, List.length_map]; exact this
                  have := q4 (i * size ty + j) (.d d') _ (by rw [hcs, List.getElem?_map, hd']; rfl) (List.getElem?_eq_getElem hlt)
                  refine ⟨us[i * size ty + j], by simp [hlt], q3 _ (List.getElem_mem hlt), hrd ?_⟩
                  rw [g3]
                  exact (srel_d this).mono (fun _ _ h => h) (fun b o' hs => World.cell?_of_block (heap_alloc_old w _ (ox1.sb b o' hs))))
              refine wp_value (v := .slice (some ⟨w.heap.size, 0, none⟩) len len) (w' := w.alloc (.cells us.toArray e)) (by simp only [execOp, he, Sem.run_bind, q1, Result.andThen_ok]; rfl) (hK _ ⟨c1.S, put c1.H k (.slice (some ⟨w.heap.size, 0, none⟩) len len), put c1.F k (· = w.heap.size), c1.T⟩ _ ?_ ?_ ?_ (.inr ⟨Nat.le_refl _, by show k < k + 1; omega⟩) trivial)
              · show OX (ovr m.ob (_ :: _)) (addN m.U k 1) _ _ _
                rw [ovr_cons, addN_one]; exact r1
              · show Tr _ _ _ _ (ovr m.ob (_ :: _)) (addN m.U k 1) _ _
                rw [ovr_cons, addN_one]; exact t1.trans r2
              · have := SRel.os (c := ⟨c1.S, put c1.H k (.slice (some ⟨w.heap.size, 0, none⟩) len len), put c1.F k (· = w.heap.size), c1.T⟩) (w := w.alloc (.cells us.toArray e)) k
                dsimp only at this
                rw [put_same] at this
                exact this
          · cases h
        · cases h
      · cases h
    · cases h
/-- What an operation does, computed: a call apart. -/
def liftE : Option PRes → Option ERes
  | some R => some ⟨R.ps, R.fs, R.r, [], 0⟩
  | none => none
theorem pure_ok {o : Oper} {m : Mem} {ρ : Operand → SV} {k : Nat} {R : ERes} {R' : PRes} (hR : R = ⟨R'.ps, R'.fs, R'.r, [], 0⟩) (h : ∀ a w c, RelsC m ρ a w c → allL R'.ps → ∃ v, (execOp a.eval o).run P w = .ok (.value v) w ∧ SRel c w R'.r v ∧ R'.r.inU m.U ∧ allL R'.fs) : EffR P o m ρ k R := by
  subst hR
  intro a w c hr hk hp K Q hK
  obtain ⟨v, h1, h2, h3, h4⟩ := h a w c hr hp
  refine wp_value h1 (hK v c w ?_ ?_ h2 ?_ h4)
  · show OX (ovr m.ob []) (addN m.U k 0) _ _ _
    rw [addN_zero]; exact hr.ox
  · show Tr _ _ _ _ (ovr m.ob []) (addN m.U k 0) _ _
    rw [addN_zero]; exact .refl
  · show R'.r.inU (addN m.U k 0)
    rw [addN_zero]; exact h3
def isAppend : Op → Option (TypeId × Operand × Operand)
  | .call ⟨.builtin .append, args, tys⟩ => match args.toList, tys.toList with
    | [x, y], [t, t'] => bif Nat.beq t t' then some (t, x, y) else none
    | _, _ => none
  | _ => none
theorem isAppend_spec {o : Op} {t : TypeId} {x y : Operand} (h : isAppend o = some (t, x, y)) : o = .call ⟨.builtin .append, #[x, y], #[t, t]⟩ := by
  unfold isAppend at h
  split at h
  · rename_i args tys
    split at h
    · rename_i x' y' t' t'' ha ht
      cases hb : Nat.beq t' t'' with
      | false => rw [hb] at h; cases h
      | true =>
        rw [hb] at h
        have hb := beq_eq hb
        subst hb
        injection h with h
        injection h with h1 h2
        injection h2 with h2 h3
        subst h1 h2 h3
        rw [arr1 ha, arr1 ht]
    · cases h
  · cases h
def eop0 (P : Program) (τ : TypeId → Option Ty) (m : Mem) (ρ : Operand → SV) (k : Nat) (o : Oper) : Option ERes :=
  match o.op with
  | .alloc e => eAlloc P k e
  | .box _ x => eBoxV m k (ρ x)
  | .build t xs => match pBuild P m ρ t xs with
    | some r => some ⟨[], [], r, [], 0⟩
    | none => none
  | .buildSlice t len xs => eBuildSlice P τ m ρ k t len xs
  | .store t x y => eStore P m t (ρ x) (ρ y)
  | .slice t x lo hi none => liftE (pSlice P m ρ t (ρ x) lo hi)
  | _ => match isAppend o.op with
    | some (t, x, y) => eAppend P τ m k t (ρ x) (ρ y)
    | none => liftE (pop P m ρ o)
theorem liftE_eq {x : Option PRes} {R : ERes} (h : liftE x = some R) : ∃ R', x = some R' ∧ R = ⟨R'.ps, R'.fs, R'.r, [], 0⟩ := by
  cases x with
  | none => cases h
  | some R' => exact ⟨R', rfl, (Option.some.inj h).symm⟩
theorem eop0_ok {τ : TypeId → Option Ty} {m : Mem} {ρ : Operand → SV} {k : Nat} {o : Oper} {R : ERes} (h : eop0 P τ m ρ k o = some R) : EffR P o m ρ k R := by
  unfold eop0 at h
  split at h
  · rename_i e he; exact eAlloc_ok he h
  · rename_i e x he; exact eBoxV_ok he h
  · rename_i t xs he
    split at h
    · rename_i r hr
      injection h with h
      subst h
      refine pure_ok (R' := ⟨[], [], r⟩) rfl fun a w c hrel _ => ?_
      obtain ⟨v, h1, h2, h3⟩ := pBuild_run (P := P) hr hrel.toRels
      exact ⟨v, by simp [execOp, he, h1], h2, h3, trivial⟩
    · cases h
  · rename_i t len xs he; exact eBuildSlice_ok he h
  · rename_i t x y he; exact eStore_ok he h
  · rename_i t x lo hi he
    obtain ⟨R', hR', rfl⟩ := liftE_eq h
    refine pure_ok rfl fun a w c hrel hp => ?_
    obtain ⟨v, h1, h2, h3, h4⟩ := pSlice_run (P := P) hR' hrel.toRels hp
    exact ⟨v, by simp [execOp, he, h1], h2, h3, h4⟩
  · split at h
    · rename_i t x y ha
      exact eAppend_ok (isAppend_spec ha) h
    · obtain ⟨R', hR', rfl⟩ := liftE_eq h
      exact pure_ok rfl fun a w c hrel hp => pop_run (P := P) hR' hrel hp
end RE
end Go.Proofs.Ytpnmiieohdkenaa
namespace Go.Proofs.Ytpnmiieohdkenaa
open Go.RowKit
set_option linter.unusedVariables false
namespace RE
variable {P : Program}
/-- A write into a row. -/
theorem OX.writeRow {ob : Obs} {U : Nat → Prop} {tp : Bool} {w : World} {c : Cx} (h : OX ob U tp w c) {id g n cap : Nat} {e : TypeId} {t : Ty} {l l' : List (den t)} (hid : ob id = some (.row e t l)) (hH : c.H id = .slice (some ⟨g, 0, none⟩) n cap) {o : Nat} {vs : List Value} (hlen : l'.length = l.length) (hfit : o + vs.length ≤ l.length * size t) (hne : l ≠ [])
    (h1 : ∀ u ∈ vs, u.oneCell' = true)
    (hnew : ∀ i x, l'[i]? = some x → ∀ j d, (enc t x)[j]? = some d → (o ≤ i * size t + j ∧ ∃ u, vs[i * size t + j - o]? = some u ∧ Rd c.S w d u) ∨ ((i * size t + j < o ∨ o + vs.length ≤ i * size t + j) ∧ ∃ (i' : Nat) (x' : den t), i' = i ∧ l[i']? = some x' ∧ (enc t x')[j]? = some d)) :
    (∀ q, q < vs.length → (w.cell? ⟨g, o + q, none⟩).isSome = true ∧ w.frozen? ⟨g, o + q, none⟩ = false) ∧
    OX (put ob id (some (.row e t l'))) U tp (w.setCells g o vs) c ∧ Tr ob U w c (put ob id (some (.row e t l'))) U (w.setCells g o vs) c := by
  obtain ⟨hUid, _, h0, ⟨e1, _⟩ | ⟨g', cap', cur, hv, hF, hg, k1, k2, k3, k4⟩⟩ := h.objs id _ hid
  · exact absurd e1 hne
  rw [hH] at hv
  injection hv with e1 e2 e3
  injection e1 with e1
  injection e1 with e1
  subst e1 e2 e3
  have hf := h.fb id _ hid rfl g ((hF g).2 rfl)
  obtain ⟨o1, o2, o3, o4, o5⟩ := setCells_os g vs o w
  have hfit' : o + vs.length ≤ cur.size := by
    rw [k3]
    exact Nat.le_trans hfit (Nat.mul_le_mul_right _ k1)
  refine ⟨fun q hq => ⟨by rw [cell_row hg, Array.getElem?_eq_getElem (by omega)]; rfl, by simp [World.frozen?, hg]⟩, ?_⟩
  refine h.upd id (.row e t l') (fun i => i ≠ id) (fun _ h => h) hUid (put_same _ _ _) (fun i y hi e => ⟨e, by rw [put_ne _ _ e] at hi; exact hi⟩) (fun e => e rfl) (fun _ _ => ⟨rfl, rfl⟩) (fun _ _ h => h) (fun _ _ h => .inl h) (fun b' o hb' => by rw [o4]; exact h.sb b' o hb') rfl o1 o2 o3 (Nat.le_of_eq o4.symm)
    (fun k hk hn => o5 k (fun e => hn id _ hid rfl (fun e => e rfl) (by rw [e]; exact (hF g).2 rfl))) ?_ trivial (fun _ k hk => .inl ⟨id, _, hid, rfl, fun e => e rfl, hk⟩) (fun _ k hk => by rw [o4]; exact ⟨(h.fb id _ hid rfl k hk).1, (h.fb id _ hid rfl k hk).2.1⟩)
  have hrd : ∀ {d : D} {u : Value}, Rd c.S w d u → Rd c.S (w.setCells g o vs) d u := fun hr => hr.mono (fun _ _ h => h) (fun b' o hs => World.cell?_of_block (o5 b' (fun e => hf.2.1 o (e ▸ hs))))
  have hg' : w.heap[g]? = some (.cells cur.toList.toArray e (0, 0)) := by simpa using hg
  have hh := heap_setCells_at g vs o w cur.toList e (0, 0) hg' (by simpa using hfit')
  refine ⟨h0, .inr ⟨g, cap, _, by rw [hH, hlen], hF, hh, by rw [hlen]; exact k1, k2, ?_, fun q y hq p d hd => ?_⟩⟩
  · rw [List.size_toArray, spl_len (by simpa using hfit')]; simpa using k3
  · rw [List.getElem?_toArray, spl_get (by simpa using hfit')]
    rcases hnew q y hq p d hd with ⟨a1, u, a2, a3⟩ | ⟨a1, i', x', a0, a2, a3⟩
    · have hl : q * size t + p - o < vs.length := (List.getElem?_eq_some_iff.1 a2).1
      refine ⟨u, ?_, h1 u (List.mem_of_getElem? a2), hrd a3⟩
      rw [if_neg (by omega), if_pos (by omega)]; exact a2
    · subst a0
      obtain ⟨u, u1, u2, u3⟩ := k4 i' x' a2 p d a3
      refine ⟨u, ?_, u2, hrd u3⟩
      rcases a1 with c1 | c1
      · rw [if_pos c1]; simpa using u1
      · rw [if_neg (by omega), if_neg (by omega)]; simpa using u1
theorem put_self {ob : Obs} {id : Nat} {x : Option Ob} (h : ob id = x) : put ob id x = ob := by
  funext i
  by_cases e : i = id
  · subst e; rw [put_same, h]
  · rw [put_ne _ _ e]
/-- A row's handle. -/
theorem row_handle {ob : Obs} {U : Nat → Prop} {tp : Bool} {w : World} {c : Cx} (h : OX ob U tp w c) {id : Nat} {e : TypeId} {t : Ty} {l : List (den t)} (hid : ob id = some (.row e t l)) : ∃ ad cap, c.H id = .slice ad l.length cap ∧ l.length ≤ cap ∧ (l = [] ∨ ∃ g, ad = some ⟨g, 0, none⟩) := by
  obtain ⟨_, _, h0, ⟨e1, ⟨ad, e2⟩, e3⟩ | ⟨g', cap', cur, hv, hF, hg, k1, k2, k3, k4⟩⟩ := h.objs id _ hid
  · exact ⟨ad, 0, by rw [e2, e1]; rfl, by rw [e1]; exact Nat.le_refl _, .inl e1⟩
  · exact ⟨_, _, hv, k1, .inr ⟨g', rfl⟩⟩
theorem ovr_one (ob : Obs) (id : Nat) (x : Option Ob) : ovr ob [(id, x)] = put ob id x := by rw [ovr_cons, ovr_nil]
theorem castL_same' (t : Ty) (l : List (den t)) : castL t t l = some l := by
  have hb : ∀ t : Ty, t.beq t = true := fun t => by
    induction t with
    | int _ => simp [Ty.beq]
    | bool => rfl
    | str => rfl
    | sl t ih => exact ih
    | st _ => exact Nat.beq_refl _
  unfold castL
  rw [dif_pos (hb t)]
/-! ### clear -/
def isClear : Op → Option (TypeId × Operand)
  | .call ⟨.builtin .clear, args, tys⟩ => match args.toList, tys.toList with
    | [x], [t] => some (t, x)
    | _, _ => none
  | _ => none
theorem isClear_spec {o : Op} {t : TypeId} {x : Operand} (h : isClear o = some (t, x)) : o = .call ⟨.builtin .clear, #[x], #[t]⟩ := by
  unfold isClear at h
  split at h
  · rename_i args tys
    split at h
    · rename_i x' t' ha ht
      injection h with h
      injection h with h1 h2
      subst h1 h2
      rw [arr1 ha, arr1 ht]
    · cases h
  · cases h
def eClear (P : Program) (m : Mem) (t : TypeId) : SV → Option ERes
  | .sub id sz a b => match m.ob id, elemOf P t with
    | some (.row e ty l), some e' => match zeroOf P e' with
      | some zs => match dec ty (zs.map D.v) with
        | some z => bif Nat.beq sz (size ty) && Nat.beq zs.length (size ty) then some ⟨[], [], .d (.v (.tuple #[])), [(id, some (.row e ty (l.take a.toNat ++ (List.replicate (b.toNat - a.toNat) z ++ l.drop b.toNat))))], 0⟩ else none
        | none => none
      | none => none
    | _, _ => none
  | _ => none
theorem zeroCells_list (z : Array Value) (n : Nat) : (Builtin.zeroCells z n).toList = (List.range (n * z.size)).map fun i => z[i % z.size]! := by
  simp [Builtin.zeroCells]
theorem eClear_ok {o : Oper} {m : Mem} {ρ : Operand → SV} {k : Nat} {t : TypeId} {x : Operand} {R : ERes} (he : o.op = .call ⟨.builtin .clear, #[x], #[t]⟩) (h : eClear P m t (ρ x) = some R) : EffR P o m ρ k R := by
  intro ac w c hr hk hp K Q hK
  have hx := hr.op x
  unfold eClear at h
  split at h
  · rename_i id sz a b hxe
    rw [hxe] at hx
    split at h
    · rename_i e ty l e' hob hel
      split at h
      · rename_i zs hz
        split at h
        · rename_i z hdz
          cases hb : (Nat.beq sz (size ty) && Nat.beq zs.length (size ty)) with
          | false => rw [hb] at h; cases h
          | true =>
            rw [hb] at h
            injection h with h
            subst h
            obtain ⟨b1, b2⟩ := Bool.and_eq_true_iff.1 hb
            have b1 := beq_eq b1
            have b2 := beq_eq b2
            subst b1
            obtain ⟨ad, cap, hH, hcap, had⟩ := row_handle hr.ox hob
            obtain ⟨ad', n', cap', hH', hu, hab1, hab2, hab3⟩ := srel_sub hx
            rw [hH] at hH'
            injection hH' with q1 q2 q3
            subst q1 q2 q3
            obtain ⟨inf, hund, hinf, hsz⟩ := elemOf_spec hel
            obtain ⟨i2, z2, hi2, hz2, hzc0, hone⟩ := zeroOf_spec hz
            have hzc := hzc0
            have eob : ∀ l', ovr m.ob [(id, some (.row e ty l'))] = put m.ob id (some (.row e ty l')) := fun l' => ovr_one _ _ _
            by_cases hlt : a.toNat < b.toNat
            · have hne : l ≠ [] := by intro e0; rw [e0] at hab3; simp at hab3; omega
              obtain ⟨g, rfl⟩ := had.resolve_left hne
              rw [subV_len, if_neg (by omega)] at hu
              have hzsize : z2.cells.size = size ty := by rw [← b2, ← hzc, Array.length_toList]
              have hcl := zeroCells_list z2.cells (b.toNat - a.toNat)
              have hvl : (Builtin.zeroCells z2.cells (b.toNat - a.toNat)).toList.length = (b.toNat - a.toNat) * size ty := by rw [hcl]; simp [hzsize]
              have hpos : 0 < size ty := (hr.ox.objs id _ hob).2.2.1
              have hvget : ∀ q, q < (b.toNat - a.toNat) * size ty → (Builtin.zeroCells z2.cells (b.toNat - a.toNat)).toList[q]? = zs[q % size ty]? := fun q hq => by
                have hm : q % size ty < size ty := Nat.mod_lt _ hpos
                rw [hcl, ← hzc, List.getElem?_map, List.getElem?_range (by rw [hzsize]; exact hq)]
                simp only [Option.map_some, hzsize]
                rw [getElem!_pos _ _ (by rw [hzsize]; exact hm)]
                rw [Array.getElem?_toList, Array.getElem?_eq_getElem (by rw [hzsize]; exact hm)]
              have hzin : ∀ q, q < (b.toNat - a.toNat) * size ty → ∃ u, zs[q % size ty]? = some u := fun q hq => ⟨_, List.getElem?_eq_getElem (by rw [b2]; exact Nat.mod_lt _ hpos)⟩
              have hv1 : ∀ u ∈ (Builtin.zeroCells z2.cells (b.toNat - a.toNat)).toList, u.oneCell' = true := fun u hu => by
                obtain ⟨q, hq⟩ := List.getElem?_of_mem hu
                have hql : q < (b.toNat - a.toNat) * size ty := by rw [← hvl]; exact (List.getElem?_eq_some_iff.1 hq).1
                rw [hvget q hql] at hq
                have := List.mem_of_getElem? hq
                exact hone u (by first | exact this | (rw [hzc]; exact this) | (rw [← hzc] at this; exact this))
              obtain ⟨d1, d2⟩ := dec_rd hdz
              have hbl : b.toNat ≤ l.length := by omega
              have hlen : (l.take a.toNat ++ (List.replicate (b.toNat - a.toNat) z ++ l.drop b.toNat)).length = l.length := by simp; omega
              have hfit : a.toNat * size ty + (Builtin.zeroCells z2.cells (b.toNat - a.toNat)).toList.length ≤ l.length * size ty := by
                rw [hvl, ← Nat.add_mul]; exact Nat.mul_le_mul_right _ (by omega)
              obtain ⟨r0, r1, r2⟩ := hr.ox.writeRow hob hH hlen hfit hne hv1 (fun i y hi j d hd => by
                have hj := enc_lt hd
                by_cases c1 : i < a.toNat
                · right
                  rw [List.getElem?_append_left (by simp; omega), List.getElem?_take, if_pos c1] at hi
                  exact ⟨.inl (row_lt c1 hj), i, y, rfl, hi, hd⟩
                · rw [List.getElem?_append_right (by simp; omega)] at hi
                  rw [show i - (l.take a.toNat).length = i - a.toNat by simp; omega] at hi
                  by_cases c2 : i < b.toNat
                  · left
                    rw [List.getElem?_append_left (by simp; omega), List.getElem?_replicate, if_pos (by omega)] at hi
                    injection hi with hi
                    subst hi
                    have e1 : i * size ty = a.toNat * size ty + (i - a.toNat) * size ty := by rw [← Nat.add_mul]; congr 1; omega
                    have hq : (i - a.toNat) * size ty + j < (b.toNat - a.toNat) * size ty := row_lt (by omega) hj
                    refine ⟨by omega, ?_⟩
                    rw [show i * size ty + j - a.toNat * size ty = (i - a.toNat) * size ty + j by omega, hvget _ hq, (div_mod_at hj).2]
                    obtain ⟨u, hu⟩ : ∃ u, zs[j]? = some u := ⟨_, List.getElem?_eq_getElem (by rw [b2]; exact hj)⟩
                    exact ⟨u, hu, d2 j d (.v u) hd (by rw [List.getElem?_map, hu]; rfl) (.v u)⟩
                  · right
                    rw [List.getElem?_append_right (by simp; omega), List.length_replicate, List.getElem?_drop, show b.toNat + (i - a.toNat - (b.toNat - a.toNat)) = i by omega] at hi
                    refine ⟨.inr ?_, i, y, rfl, hi, hd⟩
                    rw [hvl, ← Nat.add_mul, show a.toNat + (b.toNat - a.toNat) = b.toNat by omega]
                    exact Nat.le_trans (Nat.mul_le_mul_right _ (by omega)) (Nat.le_add_right _ _))
              have hst := run_storeCells_cells (P := P) g (a.toNat * size ty) (Builtin.zeroCells z2.cells (b.toNat - a.toNat)).toList 0 w (fun q hq => by have := (r0 q hq).1; simpa using this) (fun q hq => by have := (r0 q hq).2; simpa using this) hv1
              rw [Nat.add_zero] at hst
              have hnz : b.toNat - a.toNat ≠ 0 := by omega
              obtain ⟨nn, hnn⟩ : ∃ nn, b.toNat - a.toNat = nn + 1 := ⟨b.toNat - a.toNat - 1, by omega⟩
              have hst2 : (storeCells { block := g, off := a.toNat * size ty, spot := none } (Builtin.zeroCells z2.cells (nn + 1)).toList).run P w = .ok () (w.setCells g (a.toNat * size ty) (Builtin.zeroCells z2.cells (b.toNat - a.toNat)).toList) := by rw [← hnn]; exact hst
              refine wp_value (v := .tuple #[]) (w' := w.setCells g (a.toNat * size ty) (Builtin.zeroCells z2.cells (b.toNat - a.toNat)).toList) ?_ (hK _ c _ ?_ ?_ (.d _ _ (.v _)) trivial trivial)
              · rw [hnn] at hu
                simp [execOp, he, resolve, invoke, builtin, hu, Builtin.clear_, run_underlying hund, zeroValue, typeInfo, hi2, hz2, addr_add, hst2]
              · rw [eob, addN_zero]; exact r1
              · rw [eob, addN_zero]; exact r2
            · have hz0 : b.toNat - a.toNat = 0 := by omega
              have hl' : l.take a.toNat ++ (List.replicate (b.toNat - a.toNat) z ++ l.drop b.toNat) = l := by
                rw [hz0, show b.toNat = a.toNat by omega]; simp
              rw [subV_len, hz0] at hu
              refine wp_value (v := .tuple #[]) (w' := w) ?_ (hK _ c _ ?_ ?_ (.d _ _ (.v _)) trivial trivial)
              · cases had2 : (if cap = a.toNat then ad else ad.map (·.add (a.toNat * size ty))) <;> rw [had2] at hu <;> simp [execOp, he, resolve, invoke, builtin, hu, Builtin.clear_, run_underlying hund]
              · rw [eob, hl', put_self hob, addN_zero]; exact hr.ox
              · rw [eob, hl', put_self hob, addN_zero]; exact .refl
        · cases h
      · cases h
    · cases h
  · cases h
/-! ### an append into the row that it reads -/
def eAppIn (P : Program) (m : Mem) (t : TypeId) : SV → SV → Option ERes
  | .sub id sz a b, .sub id' sz' a' b' => match m.ob id with
    | some (.row e ty l) => match appTy P t (size ty) with
      | some (e', bs) => bif Nat.beq id id' && Nat.beq sz (size ty) && Nat.beq sz' (size ty) then some ⟨[a = 0 ∧ b ≤ a'], [], .sub id sz 0 (b + (b' - a')), [(id, some (.row e ty (l.take b.toNat ++ (sub l a' b' ++ l.drop (b.toNat + (b'.toNat - a'.toNat))))))], 0⟩ else none
      | none => none
    | _ => none
  | _, _ => none
theorem eAppIn_ok {o : Oper} {m : Mem} {ρ : Operand → SV} {k : Nat} {t : TypeId} {x y : Operand} {R : ERes} (he : o.op = .call ⟨.builtin .append, #[x, y], #[t, t]⟩) (h : eAppIn P m t (ρ x) (ρ y) = some R) : EffR P o m ρ k R := by
  intro ac w c hr hk hp K Q hK
  have hx := hr.op x
  have hxu := hr.iu x
  have hy := hr.op y
  unfold eAppIn at h
  split at h
  · rename_i id sz a b id' sz' a' b' hxe hye
    rw [hxe] at hx hxu
    rw [hye] at hy
    split at h
    · rename_i e ty l hob
      split at h
      · rename_i e' bs hat
        cases hb : (Nat.beq id id' && Nat.beq sz (size ty) && Nat.beq sz' (size ty)) with
        | false => rw [hb] at h; cases h
        | true =>
          rw [hb] at h
          injection h with h
          subst h
          simp only [Bool.and_eq_true] at hb
          have b1 := beq_eq hb.1.1
          have b2 := beq_eq hb.1.2
          have b3 := beq_eq hb.2
          subst b1 b2 b3
          obtain ⟨⟨p1, p2⟩, _⟩ := hp
          subst p1
          obtain ⟨i, z, t1, t2, t3, t4, t5, t6, t7, t8⟩ := appTy_spec hat
          have hrow : rowOf m id = some ⟨ty, l⟩ := by unfold rowOf; rw [hob]
          have hsrc0 : srcOf m ty (.sub id (size ty) a' b') = some (sub l a' b') := by
            simp [srcOf, hrow, castL_same']
          obtain ⟨⟨fy, hsrc, hy1, hy2⟩, hl2⟩ := srcOf_ok (P := P) hsrc0 hr.ox hy t1 (by omega)
          obtain ⟨ad, cap, hH, hcap, had⟩ := row_handle hr.ox hob
          obtain ⟨ad', n', cap', hH', hu, hab1, hab2, hab3⟩ := srel_sub hx
          rw [hH] at hH'
          injection hH' with q1 q2 q3
          subst q1 q2 q3
          obtain ⟨ad', n', cap', hH', hv, hab1', hab2', hab3'⟩ := srel_sub hy
          rw [hH] at hH'
          injection hH' with q1 q2 q3
          subst q1 q2 q3
          have hsl := sub_len (l := l) ⟨hab1', hab2', hab3'⟩
          have eob : ∀ l', ovr m.ob [(id, some (.row e ty l'))] = put m.ob id (some (.row e ty l')) := fun l' => ovr_one _ _ _
          have hB : (b + (b' - a')).toNat = b.toNat + (b'.toNat - a'.toNat) := by omega
          rw [subV_len, Int.toNat_zero, Nat.zero_mul, Nat.sub_zero, Nat.sub_zero] at hu
          have e0 : (if cap = 0 then ad else ad.map (·.add 0)) = ad := by split <;> cases ad <;> simp [Addr.add]
          rw [e0] at hu
          have hres : SRel c w (.sub id (size ty) 0 (b + (b' - a'))) (.slice ad (b.toNat + (b'.toNat - a'.toNat)) cap) := by
            have := SRel.sub (c := c) (w := w) id (size ty) 0 (b + (b' - a')) ad l.length cap hH (by omega)
            rw [subV_len, Int.toNat_zero, Nat.zero_mul, Nat.sub_zero, Nat.sub_zero, e0, hB] at this
            exact this
          by_cases hl0 : l = []
          · have hb0 : b.toNat = 0 := by rw [hl0] at hab3; simp at hab3; omega
            have hm0 : (sub l a' b').length = 0 := by rw [hsl]; rw [hl0] at hab3'; simp at hab3'; omega
            have hs0 : sub l a' b' = [] := List.eq_nil_of_length_eq_zero hm0
            rw [hm0] at hsrc
            simp only [Nat.zero_mul, List.range_zero, List.map_nil] at hsrc
            have hm1 : b'.toNat - a'.toNat = 0 := by omega
            have hl' : l.take b.toNat ++ (sub l a' b' ++ l.drop (b.toNat + (b'.toNat - a'.toNat))) = l := by rw [hs0, hm1, hl0]; simp
            have hrun := run_append_nothing (P := P) w t t o.type e' i t1 t2 ad b.toNat cap (by omega) (ac.eval y) (by rw [t5]; exact hsrc)
            rw [hb0] at hu
            refine wp_value (v := .slice ad 0 cap) (w' := w) ?_ (hK _ c _ ?_ ?_ ?_ (.inl hxu) trivial)
            · rw [hb0] at hrun
              simp [execOp, he, resolve, invoke, builtin, hu, hrun]
            · rw [eob, hl', put_self hob, addN_zero]; exact hr.ox
            · rw [eob, hl', put_self hob, addN_zero]; exact .refl
            · rw [hb0, hm1] at hres; exact hres
          · obtain ⟨g, rfl⟩ := had.resolve_left hl0
            have hvl : ((List.range ((sub l a' b').length * size ty)).map (fun q => fy (q / size ty) (q % size ty))).length = (b'.toNat - a'.toNat) * size ty := by simp [hsl]
            have hv1 : ∀ u ∈ ((List.range ((sub l a' b').length * size ty)).map (fun q => fy (q / size ty) (q % size ty))), u.oneCell' = true := by
              have := hsrc.one; exact this
            have hlen : (l.take b.toNat ++ (sub l a' b' ++ l.drop (b.toNat + (b'.toNat - a'.toNat)))).length = l.length := by simp only [List.length_append, List.length_take, List.length_drop, hsl]; omega
            have hfit : b.toNat * size ty + ((List.range ((sub l a' b').length * size ty)).map (fun q => fy (q / size ty) (q % size ty))).length ≤ l.length * size ty := by
              rw [hvl, ← Nat.add_mul]; exact Nat.mul_le_mul_right _ (by omega)
            obtain ⟨r0, r1, r2⟩ := hr.ox.writeRow hob hH hlen hfit hl0 hv1 (fun i y hi j d hd => by
              have hj := enc_lt hd
              by_cases c1 : i < b.toNat
              · right
                rw [List.getElem?_append_left (by simp; omega), List.getElem?_take, if_pos c1] at hi
                exact ⟨.inl (row_lt c1 hj), i, y, rfl, hi, hd⟩
              · rw [List.getElem?_append_right (by simp; omega)] at hi
                rw [show i - (l.take b.toNat).length = i - b.toNat by simp; omega] at hi
                by_cases c2 : i < b.toNat + (b'.toNat - a'.toNat)
                · left
                  rw [List.getElem?_append_left (by rw [hsl]; omega)] at hi
                  have e1 : i * size ty = b.toNat * size ty + (i - b.toNat) * size ty := by rw [← Nat.add_mul]; congr 1; omega
                  refine ⟨by omega, fy (i - b.toNat) j, ?_, hy2 _ y j d hi hd⟩
                  rw [show i * size ty + j - b.toNat * size ty = (i - b.toNat) * size ty + j by omega, getElem?_flat (row_lt (by rw [hsl]; omega) hj), (div_mod_at hj).1, (div_mod_at hj).2]
                · right
                  rw [List.getElem?_append_right (by rw [hsl]; omega), hsl, List.getElem?_drop, show b.toNat + (b'.toNat - a'.toNat) + (i - b.toNat - (b'.toNat - a'.toNat)) = i by omega] at hi
                  refine ⟨.inr ?_, i, y, rfl, hi, hd⟩
                  rw [hvl, ← Nat.add_mul]
                  exact Nat.le_trans (Nat.mul_le_mul_right _ (by omega)) (Nat.le_add_right _ _))
            have hrun := run_append_room_src (P := P) (w := w) t t o.type e' i t1 t2 g 0 b.toNat cap (ac.eval y) (sub l a' b').length _ (by rw [t5]; exact hsrc) (by rw [hsl]; omega) (fun q hq => by rw [t5, Nat.zero_add]; exact (r0 q hq).1) (fun q hq => by rw [t5, Nat.zero_add]; exact (r0 q hq).2)
            rw [t5, Nat.zero_add, hsl] at hrun
            rw [← hsl] at hrun
            refine wp_value (v := .slice (some ⟨g, 0, none⟩) (b.toNat + (b'.toNat - a'.toNat)) cap) (w' := w.setCells g (b.toNat * size ty) ((List.range ((sub l a' b').length * size ty)).map (fun q => fy (q / size ty) (q % size ty)))) ?_ (hK _ c _ ?_ ?_ ?_ (.inl hxu) trivial)
            · rw [hsl] at hrun ⊢
              simp [execOp, he, resolve, invoke, builtin, hu, hrun]
            · rw [eob, addN_zero]; exact r1
            · rw [eob, addN_zero]; exact r2
            · have := SRel.sub (c := c) (w := w.setCells g (b.toNat * size ty) ((List.range ((sub l a' b').length * size ty)).map (fun q => fy (q / size ty) (q % size ty)))) id (size ty) 0 (b + (b' - a')) (some ⟨g, 0, none⟩) l.length cap hH (by omega)
              rw [subV_len, Int.toNat_zero, Nat.zero_mul, Nat.sub_zero, Nat.sub_zero, e0, hB] at this
              exact this
      · cases h
    · cases h
  · cases h
/-! ### slices of a front part; full slices -/
def pSliceX (P : Program) (m : Mem) (ρ : Operand → SV) (t : TypeId) (x : SV) (lo hi : Option Operand) : Option PRes :=
  match elemOf P t, optI ρ lo, optI ρ hi with
  | some e, some lo, some hi => match x with
    | .sub id sz a b => match rowOf m id with
      | some ⟨ty, l⟩ => bif Nat.beq (tsz P e) sz then okp (a = 0 ∧ 0 ≤ lo.getD 0 ∧ lo.getD 0 ≤ hi.getD b ∧ hi.getD b ≤ (l.length : Nat)) (.sub id sz (lo.getD 0) (hi.getD b)) else none
      | none => none
    | _ => none
  | _, _, _ => none
theorem slice_run2 {ρ : Operand → SV} {t e : TypeId} (he : elemOf P t = some e) {lo hi : Option Operand} {zlo zhi : Option Int} (hlo : optI ρ lo = some zlo) (hhi : optI ρ hi = some zhi) {a : Act} {w : World} {c : Cx} (hop : ∀ x, SRel c w (ρ x) (a.eval x)) {ad : Option Addr} {n cap : Nat} (hc : n ≤ cap)
    (hb : SubOK (zlo.getD 0) (zhi.getD (n : Nat)) (cap : Nat)) : (Instr.sliceAt t (.slice ad n cap) (lo.map a.eval) (hi.map a.eval) none).run P w = .ok (subV (tsz P e) (zlo.getD 0).toNat (zhi.getD (n : Nat)).toNat (.slice ad n cap)) w := by
  obtain ⟨inf, hu, hi', hs⟩ := elemOf_spec he
  have key : ∀ {o : Option Operand} {z : Option Int}, optI ρ o = some z → o.map a.eval = z.map (fun z => Value.int .i64 z) := fun {o z} h => by
    cases o with
    | none => simp only [optI, Option.some.injEq] at h; subst h; rfl
    | some x =>
      have hx := hop x
      have h : intS (ρ x) = some z := h
      unfold intS at h
      split at h
      · rename_i z' hz
        injection h with h
        subst h
        rw [hz] at hx
        simp [srel_v hx]
      · cases h
  rw [key hlo, key hhi]
  obtain ⟨h1, h2, h3⟩ := hb
  cases zlo with
  | none =>
    cases zhi with
    | none => simp at h1 h2 h3; simp [Instr.sliceAt, Instr.slice, run_underlying hu, Instr.sliceBounds, sizeOf, typeInfo, hi', subV]
    | some q =>
      simp at h1 h2 h3
      have b1 : 0 ≤ q ∧ q ≤ (cap : Int) := by omega
      simp [Instr.sliceAt, Instr.slice, run_underlying hu, Instr.sliceBounds, Instr.sliceBound, asIntOf, b1, sizeOf, typeInfo, hi', subV]
  | some p =>
    cases zhi with
    | none =>
      simp at h1 h2 h3
      have b2 : 0 ≤ p ∧ p ≤ (n : Int) := by omega
      simp [Instr.sliceAt, Instr.slice, run_underlying hu, Instr.sliceBounds, Instr.sliceBound, asIntOf, b2, sizeOf, typeInfo, hi', hs, subV]
    | some q =>
      simp at h1 h2 h3
      have b1 : 0 ≤ q ∧ q ≤ (cap : Int) := by omega
      have b2 : 0 ≤ p ∧ p ≤ ((q.toNat : Nat) : Int) := by omega
      simp [Instr.sliceAt, Instr.slice, run_underlying hu, Instr.sliceBounds, Instr.sliceBound, asIntOf, b1, b2, sizeOf, typeInfo, hi', hs, subV]
      exact fun hh => absurd hh (by omega)
theorem rowOf_handle {m : Mem} {w : World} {c : Cx} (ox : OX m.ob m.U m.tp w c) {id : Nat} {t : Ty} {l : List (den t)} (h : rowOf m id = some ⟨t, l⟩) : ∃ ad cap, c.H id = .slice ad l.length cap ∧ l.length ≤ cap := by
  obtain ⟨ad, cap, hv, hc, hm, _⟩ := rowOf_rel ox h
  exact ⟨ad, cap, hv, hc⟩
theorem pSliceX_run {m : Mem} {ρ : Operand → SV} {t : TypeId} {x : Operand} {lo hi : Option Operand} {R : PRes} (h : pSliceX P m ρ t (ρ x) lo hi = some R) {a : Act} {w : World} {c : Cx} (hr : Rels m ρ a w c) (hp : allL R.ps) :
    ∃ v, (Instr.sliceAt t (a.eval x) (lo.map a.eval) (hi.map a.eval) none).run P w = .ok v w ∧ SRel c w R.r v ∧ R.r.inU m.U ∧ allL R.fs := by
  unfold pSliceX at h
  have hx := hr.op x
  have hxu := hr.iu x
  split at h
  · rename_i e zlo zhi he hlo hhi
    split at h
    · rename_i id sz a0 b0 hxe
      rw [hxe] at hx hxu
      split at h
      · rename_i ty l hrow
        cases hb : Nat.beq (tsz P e) sz with
        | false => rw [hb] at h; cases h
        | true =>
          rw [hb] at h
          have hb := beq_eq hb
          cases okp_eq h
          obtain ⟨⟨p0, p1, p2, p3⟩, _⟩ := hp
          subst p0
          obtain ⟨ad, cap, hH, hcap⟩ := rowOf_handle hr.ox hrow
          obtain ⟨ad', n', cap', hH', hu, hab1, hab2, hab3⟩ := srel_sub hx
          rw [hH] at hH'
          injection hH' with q1 q2 q3
          subst q1 q2 q3
          rw [subV_len, Int.toNat_zero, Nat.zero_mul, Nat.sub_zero, Nat.sub_zero] at hu
          have e0 : (if cap = 0 then ad else ad.map (·.add 0)) = ad := by split <;> cases ad <;> simp [Addr.add]
          rw [e0] at hu
          have hbn : ((b0.toNat : Nat) : Int) = b0 := Int.toNat_of_nonneg hab2
          refine ⟨_, by rw [hu]; exact slice_run2 he hlo hhi hr.op (by omega) (n := b0.toNat) (cap := cap) (by rw [hbn]; exact ⟨p1, p2, by omega⟩), ?_, hxu, trivial⟩
          rw [hbn, hb]
          have := SRel.sub (c := c) (w := w) id sz (zlo.getD 0) (zhi.getD b0) ad l.length cap hH ⟨p1, p2, p3⟩
          have e2 : subV sz (zlo.getD 0).toNat (zhi.getD b0).toNat (.slice ad b0.toNat cap) = subV sz (zlo.getD 0).toNat (zhi.getD b0).toNat (.slice ad l.length cap) := rfl
          rw [e2]; exact this
      · cases h
    · cases h
  · cases h
/-- s[lo:hi:max], of which nothing more is asked. -/
def pSlice3 (P : Program) (m : Mem) (ρ : Operand → SV) (t : TypeId) (x : SV) (lo hi mx : Operand) : Option PRes :=
  match elemOf P t, intS (ρ lo), intS (ρ hi), intS (ρ mx) with
  | some e, some (some lo), some (some hi), some (some mx) => match x with
    | .os id => match rowOf m id with
      | some ⟨ty, l⟩ => okp (0 ≤ lo ∧ lo ≤ hi ∧ hi ≤ mx ∧ mx ≤ (l.length : Nat)) .un
      | none => none
    | _ => none
  | _, _, _, _ => none
theorem intS_rel {s : SV} {z : Int} (h : intS s = some (some z)) {c : Cx} {w : World} {u : Value} (hs : SRel c w s u) : u = .int .i64 z := by
  unfold intS at h
  split at h
  · rename_i z'
    injection h with h
    injection h with h
    subst h
    exact srel_v hs
  · cases h
theorem pSlice3_run {m : Mem} {ρ : Operand → SV} {t : TypeId} {x lo hi mx : Operand} {R : PRes} (h : pSlice3 P m ρ t (ρ x) lo hi mx = some R) {a : Act} {w : World} {c : Cx} (hr : Rels m ρ a w c) (hp : allL R.ps) :
    ∃ v, (Instr.sliceAt t (a.eval x) (some (a.eval lo)) (some (a.eval hi)) (some (a.eval mx))).run P w = .ok v w ∧ SRel c w R.r v ∧ R.r.inU m.U ∧ allL R.fs := by
  unfold pSlice3 at h
  have hx := hr.op x
  split at h
  · rename_i e zlo zhi zmx he hlo hhi hmx
    split at h
    · rename_i id hxe
      rw [hxe] at hx
      split at h
      · rename_i ty l hrow
        cases okp_eq h
        obtain ⟨⟨p0, p1, p2, p3⟩, _⟩ := hp
        obtain ⟨ad, cap, hH, hcap⟩ := rowOf_handle hr.ox hrow
        rw [srel_os hx, hH, intS_rel hlo (hr.op lo), intS_rel hhi (hr.op hi), intS_rel hmx (hr.op mx)]
        obtain ⟨inf, hu, hi', hs⟩ := elemOf_spec he
        have c1 : 0 ≤ zmx ∧ zmx ≤ (cap : Int) := by omega
        have c2 : 0 ≤ zhi ∧ zhi ≤ ((zmx.toNat : Nat) : Int) := by omega
        have c3 : 0 ≤ zlo ∧ zlo ≤ ((zhi.toNat : Nat) : Int) := by omega
        have d2 : zhi ≤ max zmx 0 := by omega
        have d3 : zlo ≤ max zhi 0 := by omega
        exact ⟨_, by simp only [Instr.sliceAt, Instr.slice, Instr.sliceBounds, Instr.sliceBound, asIntOf, sizeOf, typeInfo]; simp [run_underlying hu, hi', c1, c2, c3, d2, d3]; rfl, .un _, trivial, trivial⟩
      · cases h
    · cases h
  · cases h
def isLen : Op → Option (TypeId × Operand)
  | .call ⟨.builtin .len, args, tys⟩ => match args.toList, tys.toList with
    | [x], [t] => some (t, x)
    | _, _ => none
  | _ => none
theorem isLen_spec {o : Op} {t : TypeId} {x : Operand} (h : isLen o = some (t, x)) : o = .call ⟨.builtin .len, #[x], #[t]⟩ := by
  unfold isLen at h
  split at h
  · rename_i args tys
    split at h
    · rename_i x' t' ha ht
      injection h with h
      injection h with h1 h2
      subst h1 h2
      rw [arr1 ha, arr1 ht]
    · cases h
  · cases h
def pLenX (P : Program) (t : TypeId) : SV → Option PRes
  | .sub id sz a b => match elemOf P t with
    | some _ => okf (0 ≤ a ∧ a ≤ b) (bI .i64 (b - a))
    | none => none
  | _ => none
theorem pLenX_run {t ty0 : TypeId} {x : SV} {R : PRes} (h : pLenX P t x = some R) {c : Cx} {w : World} {u : Value} (hx : SRel c w x u) : ∃ v, (Builtin.len_ #[t] ty0 #[u]).run P w = .ok v w ∧ R.r = .d (.v v) ∧ allL R.fs := by
  unfold pLenX at h
  split at h
  · rename_i id sz a b
    split at h
    · rename_i e he
      obtain ⟨inf, hu', _⟩ := elemOf_spec he
      cases okf_eq h
      obtain ⟨ad, n, cap, hH, hu, h1, h2, h3⟩ := srel_sub hx
      rw [subV_len] at hu
      have e1 : ((b.toNat - a.toNat : Nat) : Int) = b - a := by omega
      exact ⟨_, by simp [Builtin.len_, goInt, run_underlying hu', hu]; rfl, by rw [e1]; rfl, ⟨h1, h2⟩, trivial⟩
    · cases h
  · cases h
/-- Pure operations, parts of slices with them. -/
def popS (P : Program) (m : Mem) (ρ : Operand → SV) (o : Oper) : Option PRes := match o.op with
  | .slice t x lo hi none => pSlice P m ρ t (ρ x) lo hi
  | _ => pop P m ρ o
theorem popS_run {m : Mem} {ρ : Operand → SV} {o : Oper} {R : PRes} (h : popS P m ρ o = some R) {a : Act} {w : World} {c : Cx} (hr : RelsC m ρ a w c) (hp : allL R.ps) : ∃ v, (execOp a.eval o).run P w = .ok (.value v) w ∧ SRel c w R.r v ∧ R.r.inU m.U ∧ allL R.fs := by
  unfold popS at h
  split at h
  · rename_i t x lo hi he
    obtain ⟨v, h1, h2, h3, h4⟩ := pSlice_run (P := P) h hr.toRels hp
    exact ⟨v, by simp [execOp, he, h1], h2, h3, h4⟩
  · exact pop_run h hr hp
theorem popS_pop {m : Mem} {ρ : Operand → SV} {o : Oper} {R : PRes} (h : popS P m ρ o = some R) (hs : ∀ t x lo hi, o.op ≠ .slice t x lo hi none) : pop P m ρ o = some R := by
  unfold popS at h
  split at h
  · rename_i t x lo hi he
    exact absurd he (hs t x lo hi)
  · exact h
/-! ### all operations but calls -/
def eopX (P : Program) (m : Mem) (ρ : Operand → SV) (o : Oper) : Option ERes :=
  match o.op with
  | .slice t x lo hi none => match ρ x with
    | .sub _ _ _ _ => liftE (pSliceX P m ρ t (ρ x) lo hi)
    | _ => none
  | .slice t x (some lo) (some hi) (some mx) => liftE (pSlice3 P m ρ t (ρ x) lo hi mx)
  | _ => match isClear o.op with
    | some (t, x) => eClear P m t (ρ x)
    | none => match isAppend o.op with
      | some (t, x, y) => eAppIn P m t (ρ x) (ρ y)
      | none => match isLen o.op with
        | some (t, x) => liftE (pLenX P t (ρ x))
        | none => none
theorem eopX_ok {m : Mem} {ρ : Operand → SV} {k : Nat} {o : Oper} {R : ERes} (h : eopX P m ρ o = some R) : EffR P o m ρ k R := by
  unfold eopX at h
  split at h
  · rename_i t x lo hi he
    split at h
    · obtain ⟨R', hR', rfl⟩ := liftE_eq h
      refine pure_ok rfl fun a w c hrel hp => ?_
      obtain ⟨v, h1, h2, h3, h4⟩ := pSliceX_run (P := P) hR' hrel.toRels hp
      exact ⟨v, by simp [execOp, he, h1], h2, h3, h4⟩
    · cases h
  · rename_i t x lo hi mx he
    obtain ⟨R', hR', rfl⟩ := liftE_eq h
    refine pure_ok rfl fun a w c hrel hp => ?_
    obtain ⟨v, h1, h2, h3, h4⟩ := pSlice3_run (P := P) hR' hrel.toRels hp
    exact ⟨v, by simp [execOp, he, h1], h2, h3, h4⟩
  · split at h
    · rename_i t x hc
      exact eClear_ok (isClear_spec hc) h
    · split at h
      · rename_i t x y ha
        exact eAppIn_ok (isAppend_spec ha) h
      · split at h
        · rename_i t x hl
          have he := isLen_spec hl
          obtain ⟨R', hR', rfl⟩ := liftE_eq h
          refine pure_ok rfl fun a w c hrel hp => ?_
          obtain ⟨v, h1, h2, h3⟩ := pLenX_run (P := P) (ty0 := o.type) hR' (hrel.toRels.op x)
          exact ⟨v, by simp [execOp, he, resolve, invoke, builtin, h1], by rw [h2]; exact v_srel v, by rw [h2]; trivial, h3⟩
        · cases h
def eop1 (P : Program) (τ : TypeId → Option Ty) (m : Mem) (ρ : Operand → SV) (k : Nat) (o : Oper) : Option ERes := match eopX P m ρ o with
  | some R => some R
  | none => eop0 P τ m ρ k o
theorem eop1_ok {τ : TypeId → Option Ty} {m : Mem} {ρ : Operand → SV} {k : Nat} {o : Oper} {R : ERes} (h : eop1 P τ m ρ k o = some R) : EffR P o m ρ k R := by
  unfold eop1 at h
  split at h
  · rename_i R' hR'
    injection h with h
    subst h
    exact eopX_ok hR'
  · exact eop0_ok h
end RE
end Go.Proofs.Ytpnmiieohdkenaa
namespace Go.Proofs.Ytpnmiieohdkenaa
open Go.RowKit
set_option linter.unusedVariables false
namespace RE
variable {P : Program}
def isZ0 : Int → Bool
  | .ofNat 0 => true
  | _ => false
theorem isZ0_eq {a : Int} (h : isZ0 a = true) : a = 0 := by
  unfold isZ0 at h
  split at h
  · rfl
  · cases h
theorem OX.front {ob : Obs} {U : Nat → Prop} {tp : Bool} {w : World} {c : Cx} (hox : OX ob U tp w c) {k id sz : Nat} {b : Int} {e : TypeId} {ty : Ty} {l : List (den ty)} {v : Value} (hk : ¬ U k) (hob : ob id = some (.row e ty l)) (hsz : sz = size ty) (hs : SRel c w (.sub id sz 0 b) v) :
    ∃ c', OX (put (put ob id none) k (some (.row e ty (l.take b.toNat)))) (addN U k 1) tp w c' ∧ Tr ob U w c (put (put ob id none) k (some (.row e ty (l.take b.toNat)))) (addN U k 1) w c' ∧ c'.H k = v ∧ (∀ i, U i → c'.H i = c.H i) ∧ v.cells = #[v] ∧ v.oneCell' = true := by
  subst hsz
  obtain ⟨ad, n, cap, hH, hv, hab1, hab2, hab3⟩ := srel_sub hs
  have hid : U id := (hox.objs id _ hob).1
  have hne : id ≠ k := fun e => hk (e ▸ hid)
  have e0 : (if cap = 0 then ad else ad.map (·.add 0)) = ad := by split <;> cases ad <;> simp [Addr.add]
  rw [subV_len, Int.toNat_zero, Nat.zero_mul, Nat.sub_zero, Nat.sub_zero, e0] at hv
  obtain ⟨_, _, hrow⟩ := hox.objs id _ hob
  have hrow' : RowAt w c.S v (c.F id) e ty (l.take b.toNat) := by
    obtain ⟨h0, ⟨e1, ⟨ad', e2⟩, e3⟩ | ⟨g, cap', cur, e2, e3, e4, e5, e6, e7, e8⟩⟩ := hrow
    · rw [hH] at e2
      injection e2 with q1 q2 q3
      subst q1 q2 q3
      refine ⟨h0, .inl ⟨by rw [e1]; simp, ⟨ad, ?_⟩, e3⟩⟩
      rw [hv]; congr 1; omega
    · rw [hH] at e2
      injection e2 with q1 q2 q3
      subst q1 q2 q3
      have hl : (l.take b.toNat).length = b.toNat := by rw [List.length_take]; omega
      refine ⟨h0, .inr ⟨g, cap, cur, by rw [hv, hl], e3, e4, by rw [hl]; omega, e6, e7, fun i x hx j d hd => e8 i x ?_ j d hd⟩⟩
      rw [List.getElem?_take] at hx
      split at hx
      · exact hx
      · cases hx
  have hUk : addN U k 1 k := .inr ⟨Nat.le_refl _, by omega⟩
  have main := hox.upd (c' := ⟨c.S, put c.H k v, put c.F k (c.F id), c.T⟩) (w' := w) (ob' := put (put ob id none) k (some (.row e ty (l.take b.toNat)))) (U' := addN U k 1) k (.row e ty (l.take b.toNat)) (fun i => i ≠ id ∧ i ≠ k)
    (fun i hi => .inl hi) hUk (put_same _ _ _) (fun i y hi e1 => by
      rw [put_ne _ _ e1] at hi
      by_cases e2 : i = id
      · subst e2; rw [put_same] at hi; cases hi
      · rw [put_ne _ _ e2] at hi; exact ⟨⟨e2, e1⟩, hi⟩) (fun e1 => e1.2 rfl) (fun i hi => by
        have : i ≠ k := fun e => hk (e ▸ hi)
        exact ⟨put_ne _ _ this, put_ne _ _ this⟩) (fun _ _ h => h) (fun _ _ h => .inl h) (fun b o hb => hox.sb b o hb)
    rfl rfl rfl rfl (Nat.le_refl _) (fun _ _ _ => rfl) (by
      show RowAt w c.S (put c.H k v k) (put c.F k (c.F id) k) e ty (l.take b.toNat)
      rw [put_same, put_same]; exact hrow') trivial (fun _ x hk => by
      have hk : put c.F k (c.F id) k x := hk
      rw [put_same] at hk
      exact .inl ⟨id, _, hob, rfl, fun q => q.1 rfl, hk⟩) (fun _ x hk => by
      have hk : put c.F k (c.F id) k x := hk
      rw [put_same] at hk
      exact ⟨(hox.fb id _ hob rfl x hk).1, (hox.fb id _ hob rfl x hk).2.1⟩)
  refine ⟨_, main.1, main.2, put_same _ _ _, fun i hi => put_ne _ _ (fun e => hk (e ▸ hi)), ?_, ?_⟩
  · rw [hv]; rfl
  · rw [hv]; rfl
def eStoreSub (P : Program) (m : Mem) (k : Nat) (t : TypeId) : SV → SV → Option ERes
  | .bx id off, .sub rid sz a b => match m.ob id with
    | some (.box cs) => match m.ob rid with
      | some (.row e ty l) => bif isZ0 a && Nat.beq sz (size ty) && szTy P t 1 && Nat.ble (off + 1) cs.length then some ⟨[], [], .un, [(id, some (.box (spl cs off [.os k]))), (k, some (.row e ty (l.take b.toNat))), (rid, none)], 1⟩ else none
      | _ => none
    | _ => none
  | _, _ => none
theorem eStoreSub_ok {o : Oper} {m : Mem} {ρ : Operand → SV} {k : Nat} {t : TypeId} {x y : Operand} {R : ERes} (he : o.op = .store t x y) (h : eStoreSub P m k t (ρ x) (ρ y) = some R) : EffR P o m ρ k R := by
  intro a w c hr hk hp K Q hK
  have hx := hr.op x
  have hy := hr.op y
  unfold eStoreSub at h
  split at h
  · rename_i id off rid sz za zb hxe hye
    rw [hxe] at hx
    rw [hye] at hy
    split at h
    · rename_i cs hob
      split at h
      · rename_i e ty l hrob
        cases hb : (isZ0 za && Nat.beq sz (size ty) && szTy P t 1 && Nat.ble (off + 1) cs.length) with
        | false => rw [hb] at h; cases h
        | true =>
          rw [hb] at h
          injection h with h
          subst h
          simp only [Bool.and_eq_true] at hb
          obtain ⟨⟨⟨b1, b2⟩, b3⟩, b4⟩ := hb
          have b1 := isZ0_eq b1
          have b2 := beq_eq b2
          have b4 := Nat.le_of_ble_eq_true b4
          subst b1
          have hkU : ¬ m.U k := hk k (Nat.le_refl _) (by show k < k + 1; omega)
          obtain ⟨c', o1, t1, hHk, hHi, hvc, hv1⟩ := hr.ox.front hkU hrob b2 hy
          obtain ⟨b, hbH, hbu⟩ := srel_bx hx
          have hidU : m.U id := (hr.ox.objs id _ hob).1
          have hidk : id ≠ k := fun e => hkU (e ▸ hidU)
          have hidr : id ≠ rid := fun e => by rw [e, hrob] at hob; cases hob
          have hob1 : put (put m.ob rid none) k (some (.row e ty (l.take zb.toNat))) id = some (.box cs) := by
            rw [put_ne _ _ hidk, put_ne _ _ hidr]; exact hob
          have hbH1 : c'.H id = .pointer (some ⟨b, 0, none⟩) := (hHi id hidU).trans hbH
          obtain ⟨_, _, b', arr, t', q1, q2, q3, q4, q5, q6⟩ := o1.objs id _ hob1
          rw [hbH1] at q1
          injection q1 with q1
          injection q1 with q1
          injection q1 with q1
          subst q1
          have hvl : (a.eval y).cells.toList = [a.eval y] := by rw [hvc]
          have hst := run_store (P := P) t w b off (a.eval y) (by rw [hvl]; exact b3) (fun j hj => by rw [hvl] at hj; simp at hj; rw [cell_row q3, List.getElem?_toArray, List.getElem?_eq_getElem (by omega)]; rfl) (fun j hj => by simp [World.frozen?, q3]) (by rw [hvl]; intro v hv; rw [List.mem_singleton] at hv; rw [hv]; exact hv1)
          obtain ⟨r1, r2⟩ := o1.store (off := off) (ks := [.os k]) (vs := (a.eval y).cells.toList) hob1 hbH1 (by rw [hvl]; rfl) b4 (by rw [hvl]; intro v hv; rw [List.mem_singleton] at hv; rw [hv]; exact hv1) (fun j s u hs hu => by
            rw [hvl] at hu
            cases j with
            | zero =>
              simp at hs hu
              subst hs hu
              have := SRel.os (c := c') (w := w) k
              rw [hHk] at this
              exact this
            | succ j => simp at hs) ⟨.inr ⟨Nat.le_refl _, by omega⟩, trivial⟩
          have eo : ovr m.ob [(id, some (.box (spl cs off [.os k]))), (k, some (.row e ty (l.take zb.toNat))), (rid, none)] = put (put (put m.ob rid none) k (some (.row e ty (l.take zb.toNat)))) id (some (.box (spl cs off [.os k]))) := by
            rw [ovr_cons, ovr_cons, ovr_cons, ovr_nil]
          refine wp_skip' (w' := w.setCells b off (a.eval y).cells.toList) (by simp [execOp, he, hbu, hst]) (hK _ c' _ ?_ ?_ (.un _) trivial trivial)
          · rw [eo]; exact r1
          · rw [eo]; exact t1.trans r2
      · cases h
    · cases h
  · cases h
def eopM (P : Program) (τ : TypeId → Option Ty) (m : Mem) (ρ : Operand → SV) (k : Nat) (o : Oper) : Option ERes := match o.op with
  | .store t x y => match eStoreSub P m k t (ρ x) (ρ y) with
    | some R => some R
    | none => none
  | _ => none
theorem eopM_ok {τ : TypeId → Option Ty} {m : Mem} {ρ : Operand → SV} {k : Nat} {o : Oper} {R : ERes} (h : eopM P τ m ρ k o = some R) : EffR P o m ρ k R := by
  unfold eopM at h
  split at h
  · rename_i t x y he
    split at h
    · rename_i R' hR'
      injection h with h
      subst h
      exact eStoreSub_ok he hR'
    · cases h
  · cases h
def eop (P : Program) (τ : TypeId → Option Ty) (m : Mem) (ρ : Operand → SV) (k : Nat) (o : Oper) : Option ERes := match eop1 P τ m ρ k o with
  | some R => some R
  | none => eopM P τ m ρ k o
theorem eop_ok {τ : TypeId → Option Ty} {m : Mem} {ρ : Operand → SV} {k : Nat} {o : Oper} {R : ERes} (h : eop P τ m ρ k o = some R) : EffR P o m ρ k R := by
  unfold eop at h
  split at h
  · rename_i R' hR'
    injection h with h
    subst h
    exact eop1_ok hR'
  · exact eopM_ok h
end RE
end Go.Proofs.Ytpnmiieohdkenaa
