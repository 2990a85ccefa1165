/-
  The engine: values in cells; structs and rows that are built.
-/
import Derived.Test.YtpeggkeenboacaaGreatTGA
import Derived.Great.BuildSlice
namespace Go.Proofs.YtpeggkeenboacaaGreat
open Go.RowKit
set_option linter.unusedVariables false
namespace RE
variable {P : Program}
/-- The cells that a word takes up in memory. -/
def cellsOf : SV → List SV
  | .d (.agg cs) => cs.map SV.d
  | .agg cs => cs
  | x => [x]
/-- What may be stored. -/
def okc : SV → Bool
  | .d (.v (.agg _)) => false
  | .d (.v x) => x.oneCell'
  | .d (.tup _) => false
  | .d _ => true
  | .tup _ => false
  | .cnd _ _ _ _ => false
  | .un => false
  | .sub _ _ _ _ => false
  | .ns _ => false
  | .inn _ _ => false
  | _ => true
/-- A row's handle takes one cell. -/
def hOne (m : Mem) : SV → Bool
  | .os id => (rowOf m id).isSome
  | _ => true
theorem hOne_spec {m : Mem} {w : World} {c : Cx} (ox : OX m.ob m.U m.tp w c) {s : SV} (h : hOne m s = true) : ∀ id, s = .os id → (c.H id).cells = #[c.H id] ∧ (c.H id).oneCell' = true := by
  rintro id rfl
  obtain ⟨⟨t, l⟩, hx⟩ := Option.isSome_iff_exists.1 h
  obtain ⟨ad, cap, hv, _⟩ := rowOf_rel ox hx
  rw [hv]; exact ⟨rfl, rfl⟩
theorem cells_rd {c : Cx} {w : World} {x : SV} {u : Value} (h : SRel c w x u) (h1 : okc x = true) (hO : ∀ id, x = .os id → (c.H id).cells = #[c.H id] ∧ (c.H id).oneCell' = true) :
    u.cells.toList.length = (cellsOf x).length ∧ (∀ v ∈ u.cells.toList, v.oneCell' = true) ∧ ∀ (j : Nat) (s : SV) (v : Value), (cellsOf x)[j]? = some s → u.cells.toList[j]? = some v → SRel c w s v := by
  have one : ∀ (u : Value), (∀ cs, u ≠ .agg cs) → u.cells = #[u] := fun u h => by cases u <;> first | rfl | exact absurd rfl (h _)
  have fin : ∀ (x : SV) (u : Value), cellsOf x = [x] → SRel c w x u → u.cells = #[u] → u.oneCell' = true → u.cells.toList.length = (cellsOf x).length ∧ (∀ v ∈ u.cells.toList, v.oneCell' = true) ∧ ∀ (j : Nat) (s : SV) (v : Value), (cellsOf x)[j]? = some s → u.cells.toList[j]? = some v → SRel c w s v := by
    intro x u hx hr hu ho
    rw [hx, hu]
    refine ⟨rfl, fun v hv => by simp at hv; rw [hv]; exact ho, fun j s v hs hv => ?_⟩
    cases j with
    | zero => simp at hs hv; rw [← hs, ← hv]; exact hr
    | succ j => simp at hs
  cases h with
  | d x u h =>
    cases h with
    | v =>
      have hne : ∀ cs, u ≠ .agg cs := fun cs e => by subst e; simp [okc] at h1
      refine fin _ _ rfl (.d _ _ (.v u)) (one u hne) ?_
      cases u <;> first | rfl | (exfalso; exact hne _ rfl) | (simp [okc, Value.oneCell'] at h1)
    | fn f cs us hl h => exact fin _ _ rfl (.d _ _ (.fn f cs us hl h)) rfl rfl
    | agg cs us hl ho h =>
      refine ⟨by simpa [Value.cells, cellsOf] using hl, fun v hv => ho v (by simpa [Value.cells] using hv), fun j s v hs hv => ?_⟩
      simp only [cellsOf, List.getElem?_map, Option.map_eq_some_iff] at hs
      obtain ⟨y, hy, rfl⟩ := hs
      exact .d _ _ (h j y v hy (by simpa [Value.cells] using hv))
    | tup cs us hl h => simp [okc] at h1
    | sl t l ad cap b off f hc hm ha hx h => exact fin _ _ rfl (.d _ _ (.sl t l ad cap b off f hc hm ha hx h)) rfl rfl
    | p cs b off f hx h => exact fin _ _ rfl (.d _ _ (.p cs b off f hx h)) rfl rfl
  | bx id off b h => exact fin _ _ rfl (.bx id off b h) rfl rfl
  | os id =>
    obtain ⟨e1, e2⟩ := hO id rfl
    exact fin _ _ rfl (.os id) e1 e2
  | sub id sz a b ad n cap h hab => simp [okc] at h1
  | op id i sz j g n cap h hi => exact fin _ _ rfl (.op id i sz j g n cap h hi) rfl rfl
  | agg cs us hl ho h => exact ⟨by simpa [Value.cells, cellsOf] using hl, fun v hv => ho v (by simpa [Value.cells] using hv), fun j s v hs hv => h j s v hs (by simpa [Value.cells] using hv)⟩
  | tup cs us hl h => simp [okc] at h1
  | fn f cs us hl h => exact fin _ _ rfl (.fn f cs us hl h) rfl rfl
  | cnd q wt g x u h h' => simp [okc] at h1
  | tp T h => exact fin _ _ rfl (.tp T h) rfl rfl
  | un => simp [okc] at h1
  | ns => simp [okc] at h1
  | inn => simp [okc] at h1
  | np id i sz j g n cap vs h hi => exact fin _ _ rfl (.np id i sz j g n cap vs h hi) rfl rfl
  | ip id i z sz j g n cap v vs h hi hu hz => exact fin _ _ rfl (.ip id i z sz j g n cap v vs h hi hu hz) rfl rfl
theorem cellsOf_inU {U : Nat → Prop} {x : SV} (h : x.inU U) : inUL U (cellsOf x) := by
  cases x with
  | d y => cases y <;> first | exact inUL_map _ _ | exact ⟨trivial, trivial⟩
  | agg cs => exact h
  | _ => exact ⟨h, trivial⟩
theorem foldl_set : ∀ (vs : List Value) (k off : Nat) (cs : Array Value), off + k + vs.length ≤ cs.size →
    ((vs.zipIdx k).foldl (fun (cs : Array Value) (p : Value × Nat) => cs.setIfInBounds (off + p.2) p.1) cs).toList = spl cs.toList (off + k) vs
  | [], k, off, cs, h => by simp [spl]
  | v :: vs, k, off, cs, h => by
    simp at h
    rw [List.zipIdx_cons, List.foldl_cons, foldl_set vs (k + 1) off _ (by simp; omega)]
    apply List.ext_getElem?
    intro j
    rw [spl_get (by simp; omega), spl_get (by simp; omega)]
    simp only [Array.toList_setIfInBounds, List.getElem?_set, List.length_cons, Array.length_toList]
    by_cases h1 : j < off + k
    · rw [if_pos (by omega), if_neg (by omega), if_pos h1]
    · by_cases h2 : j = off + k
      · subst h2
        rw [if_pos (by omega), if_pos rfl, if_pos (by omega), if_neg (by omega), if_pos (by omega)]; simp
      · by_cases h3 : j < off + k + (vs.length + 1)
        · rw [if_neg (by omega), if_pos (by omega), if_neg h1, if_pos h3, show j - (off + k) = (j - (off + (k + 1))) + 1 by omega]; simp
        · rw [if_neg (by omega), if_neg (by omega), if_neg (by omega), if_neg h1, if_neg h3]
/-- The cells of a struct or a row of which some parts are given. -/
def fillS (pl : List (Nat × Nat)) : List SV → List (Nat × SV) → Option (List SV)
  | cells, [] => some cells
  | cells, (i, s) :: rest => match pl[i]? with
    | some (off, sz) => bif Nat.beq (cellsOf s).length sz && Nat.ble (off + sz) cells.length && okc s then fillS pl (spl cells off (cellsOf s)) rest else none
    | none => none
theorem fill_rel {c : Cx} {w : World} {pl : List (Nat × Nat)} {place : Nat → Option (Nat × Nat)} (hp : ∀ i p, pl[i]? = some p → place i = some p) : ∀ (parts : List (Nat × SV)) (vals : List (Nat × Value)) (cells : List SV) (arr : Array Value) (cs : List SV),
    vals.length = parts.length → (∀ (i : Nat) (p : Nat × SV) (q : Nat × Value), parts[i]? = some p → vals[i]? = some q → p.1 = q.1 ∧ SRel c w p.2 q.2 ∧ ∀ id, p.2 = .os id → (c.H id).cells = #[c.H id] ∧ (c.H id).oneCell' = true) →
    arr.toList.length = cells.length → (∀ u ∈ arr.toList, u.oneCell' = true) → (∀ (j : Nat) (s : SV) (u : Value), cells[j]? = some s → arr.toList[j]? = some u → SRel c w s u) → fillS pl cells parts = some cs →
    ∃ arr', Instr.fill place arr vals = some arr' ∧ arr'.toList.length = cs.length ∧ (∀ u ∈ arr'.toList, u.oneCell' = true) ∧ ∀ (j : Nat) (s : SV) (u : Value), cs[j]? = some s → arr'.toList[j]? = some u → SRel c w s u
  | [], vals, cells, arr, cs, hl, hv, h1, h2, h3, h4 => by
    have : vals = [] := List.eq_nil_of_length_eq_zero (by simpa using hl)
    subst this
    simp only [fillS, Option.some.injEq] at h4
    subst h4
    exact ⟨arr, rfl, h1, h2, h3⟩
  | (i, s) :: parts, [], cells, arr, cs, hl, _, _, _, _, _ => by simp at hl
  | (i, s) :: parts, (i', u) :: vals, cells, arr, cs, hl, hv, h1, h2, h3, h4 => by
    obtain ⟨e, hs, hos⟩ := hv 0 (i, s) (i', u) rfl rfl
    simp only at e hs hos
    subst e
    unfold fillS at h4
    cases hpl : pl[i]? with
    | none => rw [hpl] at h4; cases h4
    | some p =>
      obtain ⟨off, sz⟩ := p
      rw [hpl] at h4
      cases hb : (Nat.beq (cellsOf s).length sz && Nat.ble (off + sz) cells.length && okc s) with
      | false => simp only [hb, cond_false] at h4; cases h4
      | true =>
        simp only [hb, cond_true] at h4
        simp only [Bool.and_eq_true] at hb
        obtain ⟨⟨hb1, hb2⟩, hb3⟩ := hb
        have hb1 := beq_eq hb1
        have hb2 := Nat.le_of_ble_eq_true hb2
        obtain ⟨k1, k2, k3⟩ := cells_rd hs hb3 hos
        have hsz : u.cells.size = sz := by rw [← Array.length_toList]; omega
        have hfold : (u.cells.zipIdx.foldl (fun (cs : Array Value) (p : Value × Nat) => cs.setIfInBounds (off + p.2) p.1) arr).toList = spl arr.toList off u.cells.toList := by
          rw [← Array.foldl_toList, Array.toList_zipIdx]
          exact foldl_set u.cells.toList 0 off arr (by rw [Array.length_toList, hsz, ← Array.length_toList, h1]; omega)
        obtain ⟨arr', q1, q2, q3, q4⟩ := fill_rel hp parts vals (spl cells off (cellsOf s)) (u.cells.zipIdx.foldl (fun (cs : Array Value) (p : Value × Nat) => cs.setIfInBounds (off + p.2) p.1) arr) cs (by simpa using hl) (fun j p q hj hq => hv (j + 1) p q (by simpa using hj) (by simpa using hq)) (by rw [hfold, spl_len (by omega), spl_len (by omega)]; exact h1) (fun v hv' => by
            rw [hfold] at hv'
            simp only [spl, List.mem_append] at hv'
            rcases hv' with (hv' | hv') | hv'
            · exact h2 v (List.mem_of_mem_take hv')
            · exact k2 v hv'
            · exact h2 v (List.mem_of_mem_drop hv')) (fun j s' v hs' hv' => by
            rw [hfold, spl_get (by omega)] at hv'
            rw [spl_get (by omega)] at hs'
            by_cases g1 : j < off
            · rw [if_pos g1] at hs' hv'; exact h3 j s' v hs' hv'
            · by_cases g2 : j < off + (cellsOf s).length
              · rw [if_neg g1, if_pos g2] at hs'
                rw [if_neg g1, if_pos (by omega)] at hv'
                exact k3 _ s' v hs' hv'
              · rw [if_neg g1, if_neg g2] at hs'
                rw [if_neg g1, if_neg (by omega)] at hv'
                exact h3 j s' v hs' hv') h4
        refine ⟨arr', ?_, q2, q3, q4⟩
        unfold Instr.fill
        rw [hp i _ hpl]
        have hnot : ¬ (u.cells.size ≠ sz ∨ arr.size < off + u.cells.size) := by
          rw [hsz]
          have : arr.size = cells.length := by rw [← Array.length_toList]; exact h1
          omega
        simp only [hsz, ne_eq, not_true_eq_false, decide_false, Bool.false_or]
        rw [if_neg (by simp; have : arr.size = cells.length := by rw [← Array.length_toList]; exact h1
                       omega)]
        exact q1
theorem fillS_inU {U : Nat → Prop} {pl : List (Nat × Nat)} : ∀ (parts : List (Nat × SV)) (cells cs : List SV), inUL U cells → (∀ p ∈ parts, p.2.inU U) → fillS pl cells parts = some cs → inUL U cs
  | [], cells, cs, h, _, h4 => by simp only [fillS, Option.some.injEq] at h4; subst h4; exact h
  | (i, s) :: parts, cells, cs, h, hp, h4 => by
    unfold fillS at h4
    split at h4
    · rename_i off sz _
      cases hb : (Nat.beq (cellsOf s).length sz && Nat.ble (off + sz) cells.length && okc s) with
      | false => rw [hb] at h4; cases h4
      | true =>
        rw [hb] at h4
        simp only [Bool.and_eq_true] at hb
        have hb1 := beq_eq hb.1.1
        have hb2 := Nat.le_of_ble_eq_true hb.1.2
        refine fillS_inU parts _ cs (inUL_of fun j s' hs' => ?_) (fun p hp' => hp p (by simp [hp'])) h4
        rw [spl_get (by omega)] at hs'
        split at hs'
        · exact inUL_get h hs'
        · split at hs'
          · exact inUL_get (cellsOf_inU (hp (i, s) (by simp))) hs'
          · exact inUL_get h hs'
    · cases h4
/-- The places of a composite's parts. -/
def places (P : Program) (t : TypeId) (n : Nat) : Option (List (Nat × Nat)) := match P.underlying t with
  | some (.struct fs) => fs.toList.mapM (fun f => (P.info? f.type).map fun i => (f.offset, i.size))
  | some (.array _ e) => match P.info? e with
    | some i => some ((List.range n).map fun k => (k * i.size, i.size))
    | none => none
  | _ => none
theorem places_spec {t n : Nat} {pl : List (Nat × Nat)} {z : Value} (h : places P t n = some pl) (hz : (P.info? t).bind (·.zero) = some z) : ∃ place : Nat → Option (Nat × Nat), (∀ i p, pl[i]? = some p → place i = some p) ∧ ∀ vals arr, Instr.fill place z.cells vals = some arr → P.built t vals = some arr := by
  cases hi : P.info? t with
  | none => rw [hi] at hz; cases hz
  | some it =>
    rw [hi] at hz
    simp only [Option.bind_some] at hz
    unfold places at h
    split at h
    · rename_i fs hu
      refine ⟨fun i => pl.toArray[i]?, fun i p hp => by simpa using hp, fun vals arr hf => ?_⟩
      unfold Program.built
      simp only [hi, hu, hz, h]
      exact hf
    · rename_i m e hu
      split at h
      · rename_i ie hie
        injection h with h
        subst h
        refine ⟨fun i => some (i * ie.size, ie.size), fun i p hp => ?_, fun vals arr hf => ?_⟩
        · have hl := (List.getElem?_eq_some_iff.1 hp).1
          simp only [List.length_map, List.length_range] at hl
          simp [hl] at hp
          rw [← hp]
        · unfold Program.built
          simp only [hi, hu, hz, hie]
          exact hf
      · cases h
    · cases h
def zeroOf (P : Program) (t : TypeId) : Option (List Value) := match P.info? t with
  | some i => match i.zero with
    | some z => bif z.cells.toList.all (·.oneCell') then some z.cells.toList else none
    | none => none
  | none => none
theorem zeroOf_spec {t : TypeId} {zs : List Value} (h : zeroOf P t = some zs) : ∃ i z, P.info? t = some i ∧ i.zero = some z ∧ z.cells.toList = zs ∧ ∀ u ∈ zs, u.oneCell' = true := by
  unfold zeroOf at h
  split at h
  · rename_i i hi
    split at h
    · rename_i z hz
      cases hb : z.cells.toList.all (·.oneCell') with
      | false => rw [hb] at h; cases h
      | true =>
        rw [hb] at h
        injection h with h
        exact ⟨i, z, hi, hz, h, fun u hu => List.all_eq_true.1 hb u (h ▸ hu)⟩
    · cases h
  · cases h
def partsOf (ρ : Operand → SV) (xs : List (Nat × Operand)) : List (Nat × SV) := xs.map fun y => (y.1, ρ y.2)
def pBuild (P : Program) (m : Mem) (ρ : Operand → SV) (t : TypeId) (xs : Array (Nat × Operand)) : Option SV :=
  match zeroOf P t, places P t xs.size with
  | some zs, some pl => bif (partsOf ρ xs.toList).all (fun p => hOne m p.2) then match fillS pl (zs.map fun u => SV.d (.v u)) (partsOf ρ xs.toList) with
      | some cs => some (mkAgg cs)
      | none => none
    else none
  | _, _ => none
theorem parts_rel {m : Mem} {ρ : Operand → SV} {a : Act} {w : World} {c : Cx} (hr : Rels m ρ a w c) {xs : List (Nat × Operand)} (h : (partsOf ρ xs).all (fun p => hOne m p.2) = true) :
    ∀ (i : Nat) (p : Nat × SV) (q : Nat × Value), (partsOf ρ xs)[i]? = some p → (xs.map fun y => (y.1, a.eval y.2))[i]? = some q → p.1 = q.1 ∧ SRel c w p.2 q.2 ∧ ∀ id, p.2 = .os id → (c.H id).cells = #[c.H id] ∧ (c.H id).oneCell' = true := by
  intro i p q hp hq
  have hone : hOne m p.2 = true := List.all_eq_true.1 h p (List.mem_of_getElem? hp)
  unfold partsOf at hp
  rw [List.getElem?_map, Option.map_eq_some_iff] at hp hq
  obtain ⟨y, hy, rfl⟩ := hp
  obtain ⟨y', hy', rfl⟩ := hq
  rw [hy] at hy'
  injection hy' with hy'
  subst hy'
  exact ⟨rfl, hr.op y.2, hOne_spec hr.ox hone⟩
theorem pBuild_run {m : Mem} {ρ : Operand → SV} {t : TypeId} {xs : Array (Nat × Operand)} {r : SV} (h : pBuild P m ρ t xs = some r) {a : Act} {w : World} {c : Cx} (hr : Rels m ρ a w c) : ∃ v, (Instr.build t (xs.map fun (i, x) => (i, a.eval x))).run P w = .ok v w ∧ SRel c w r v ∧ r.inU m.U := by
  unfold pBuild at h
  split at h
  · rename_i zs pl hz hpl
    cases hb : (partsOf ρ xs.toList).all (fun p => hOne m p.2) with
    | false => rw [hb] at h; cases h
    | true =>
      rw [hb] at h
      simp only [cond_true] at h
      split at h
      · rename_i cs hf
        injection h with h
        subst h
        obtain ⟨i, z, hi, hz', hzc, h1⟩ := zeroOf_spec hz
        subst hzc
        obtain ⟨place, hp1, hp2⟩ := places_spec (z := z) hpl (by rw [hi]; exact hz')
        obtain ⟨arr, q1, q2, q3, q4⟩ := fill_rel (c := c) (w := w) (pl := pl) (place := place) hp1 (partsOf ρ xs.toList) (xs.toList.map fun y => (y.1, a.eval y.2)) _ z.cells cs (by simp [partsOf]) (parts_rel hr hb) (by simp) h1 (fun j s u hj hu => by
          rw [List.getElem?_map, hu] at hj; simp at hj; subst hj; exact .d _ _ (.v u)) hf
        have hparts : (xs.map fun (i, x) => (i, a.eval x)).toList = xs.toList.map fun y => (y.1, a.eval y.2) := by simp
        have hrun := run_build (P := P) w t (xs.map fun (i, x) => (i, a.eval x)) arr (by rw [hparts]; exact hp2 _ _ q1)
        refine ⟨_, hrun, ?_, mkAgg_inU (fillS_inU _ _ _ (by
          have := inUL_map m.U (z.cells.toList.map D.v)
          rwa [List.map_map] at this) (fun p hp => ?_) hf)⟩
        · have := srel_mkAgg (c := c) (w := w) q2 q3 q4
          simpa using this
        · unfold partsOf at hp
          obtain ⟨y, _, rfl⟩ := List.mem_map.1 hp
          exact hr.iu y.2
      · cases h
  · cases h
end RE
end Go.Proofs.YtpeggkeenboacaaGreat
namespace Go.Proofs.YtpeggkeenboacaaGreat
open Go.RowKit
set_option linter.unusedVariables false
namespace RE
variable {P : Program}
/-! ### updates of objects -/
def lookU : List (Nat × Option Ob) → Nat → Option (Option Ob)
  | [], _ => none
  | (k, o) :: r, x => bif Nat.beq k x then some o else lookU r x
def ovr (ob : Obs) (l : List (Nat × Option Ob)) : Obs := fun i => match lookU l i with
  | some o => o
  | none => ob i
theorem lookU_cons (k : Nat) (o : Option Ob) (r : List (Nat × Option Ob)) (i : Nat) : lookU ((k, o) :: r) i = if k = i then some o else lookU r i := by
  show (bif Nat.beq k i then _ else _) = _
  by_cases h : k = i
  · subst h; simp
  · have : Nat.beq k i = false := by
      cases hb : Nat.beq k i with
      | false => rfl
      | true => exact absurd (beq_eq hb) h
    rw [this, if_neg h]; rfl
theorem ovr_cons (ob : Obs) (k : Nat) (o : Option Ob) (r : List (Nat × Option Ob)) : ovr ob ((k, o) :: r) = put (ovr ob r) k o := by
  funext i
  unfold ovr put
  rw [lookU_cons]
  by_cases h : i = k
  · subst h; simp
  · rw [if_neg h, if_neg (fun e => h e.symm)]
theorem ovr_nil (ob : Obs) : ovr ob [] = ob := rfl
def addN (U : Nat → Prop) (k n : Nat) : Nat → Prop := fun i => U i ∨ (k ≤ i ∧ i < k + n)
theorem addN_zero (U : Nat → Prop) (k : Nat) : addN U k 0 = U := by
  funext i
  exact propext ⟨fun h => h.elim id (fun h => absurd h.2 (by omega)), .inl⟩
theorem addN_one (U : Nat → Prop) (k : Nat) : addN U k 1 = addU U k := by
  funext i
  exact propext ⟨fun h => h.elim .inl (fun h => .inr (by omega)), fun h => h.elim .inl (fun h => .inr (by omega))⟩
/-! ### rows as data -/
mutual
/-- A word as data, and the rows that must be given up for it. -/
def dataOf (m : Mem) : SV → Option (D × List Nat)
  | .d x => some (x, [])
  | .os id => match m.ob id with
    | some (.row _ t l) => some (.sl t l, [id])
    | some (.fro t l) => some (.sl t l, [])
    | _ => none
  | .ns id => match m.ob id with
    | some (.nst _ t _ _ _ l) => some (.sl t l, [id])
    | some (.nfr t l) => some (.sl t l, [])
    | _ => none
  | .agg cs => match dataL m cs with
    | some (ds, ids) => some (.agg ds, ids)
    | none => none
  | .fn f cs => match dataL m cs with
    | some (ds, ids) => some (.fn f ds, ids)
    | none => none
  | _ => none
def dataL (m : Mem) : List SV → Option (List D × List Nat)
  | [] => some ([], [])
  | s :: r => match dataOf m s, dataL m r with
    | some (d, i), some (ds, is) => some (d :: ds, i ++ is)
    | _, _ => none
end
/-- The updates that make rows stable. -/
def fzU (ob : Obs) : List Nat → List (Nat × Option Ob)
  | [] => []
  | id :: r => match ob id with
    | some (.row _ t l) => (id, some (.fro t l)) :: fzU ob r
    | some (.nst _ t _ _ _ l) => (id, some (.nfr t l)) :: fzU ob r
    | _ => fzU ob r
theorem fzU_at (ob : Obs) : ∀ (ids : List Nat) (i : Nat), (ovr ob (fzU ob ids) i = ob i ∧ (i ∈ ids → (∀ e t l, ob i ≠ some (.row e t l)) ∧ ∀ e t k e' t' l, ob i ≠ some (.nst e t k e' t' l))) ∨ (∃ e t l, ob i = some (.row e t l) ∧ ovr ob (fzU ob ids) i = some (.fro t l) ∧ i ∈ ids) ∨ ∃ e t k e' t' l, ob i = some (.nst e t k e' t' l) ∧ ovr ob (fzU ob ids) i = some (.nfr t l) ∧ i ∈ ids
  | [], i => .inl ⟨rfl, fun h => by cases h⟩
  | id :: r, i => by
    have ih := fzU_at ob r i
    unfold fzU
    split
    · rename_i e t l hid
      rw [ovr_cons]
      by_cases h : i = id
      · subst h
        exact .inr (.inl ⟨e, t, l, hid, put_same _ _ _, by simp⟩)
      · rw [put_ne _ _ h]
        rcases ih with ⟨h1, h2⟩ | ⟨e', t', l', h1, h2, h3⟩ | ⟨e', t', k, a1, a2, l', h1, h2, h3⟩
        · exact .inl ⟨h1, fun hm => h2 (by simpa [h] using hm)⟩
        · exact .inr (.inl ⟨e', t', l', h1, h2, by simp [h3]⟩)
        · exact .inr (.inr ⟨e', t', k, a1, a2, l', h1, h2, by simp [h3]⟩)
    · rename_i e t k a1 a2 l hid
      rw [ovr_cons]
      by_cases h : i = id
      · subst h
        exact .inr (.inr ⟨e, t, k, a1, a2, l, hid, put_same _ _ _, by simp⟩)
      · rw [put_ne _ _ h]
        rcases ih with ⟨h1, h2⟩ | ⟨e', t', l', h1, h2, h3⟩ | ⟨e', t', k, a1, a2, l', h1, h2, h3⟩
        · exact .inl ⟨h1, fun hm => h2 (by simpa [h] using hm)⟩
        · exact .inr (.inl ⟨e', t', l', h1, h2, by simp [h3]⟩)
        · exact .inr (.inr ⟨e', t', k, a1, a2, l', h1, h2, by simp [h3]⟩)
    · rename_i hn hn2
      rcases ih with ⟨h1, h2⟩ | ⟨e', t', l', h1, h2, h3⟩ | ⟨e', t', k, a1, a2, l', h1, h2, h3⟩
      · refine .inl ⟨h1, fun hm => ?_⟩
        rcases List.mem_cons.1 hm with e | e
        · subst e; exact ⟨fun e t l he => hn e t l he, fun e t k a b l he => hn2 e t k a b l he⟩
        · exact h2 e
      · exact .inr (.inl ⟨e', t', l', h1, h2, by simp [h3]⟩)
      · exact .inr (.inr ⟨e', t', k, a1, a2, l', h1, h2, by simp [h3]⟩)
theorem OX.freezes {ob : Obs} {U : Nat → Prop} {tp : Bool} {w : World} {c : Cx} (h : OX ob U tp w c) : ∀ (ids : List Nat), ∃ c', OX (ovr ob (fzU ob ids)) U tp w c' ∧ Tr ob U w c (ovr ob (fzU ob ids)) U w c' ∧ c'.H = c.H ∧ c'.T = c.T
  | [] => ⟨c, h, .refl, rfl, rfl⟩
  | id :: r => by
    obtain ⟨c1, h1, t1, e1, e2⟩ := h.freezes r
    unfold fzU
    split
    · rename_i e t l hid
      rw [ovr_cons]
      rcases fzU_at ob r id with ⟨q1, q2⟩ | ⟨e', t', l', q1, q2, q3⟩ | ⟨e', t', k, a1, a2, l', q1, q2, q3⟩
      · obtain ⟨c2, h2, t2, e3, e4⟩ := h1.freeze (id := id) (e := e) (t := t) (l := l) (q1.trans hid)
        exact ⟨c2, h2, t1.trans t2, e3.trans e1, e4.trans e2⟩
      · rw [hid] at q1
        injection q1 with q1
        injection q1 with a1 a2 a3
        subst a2
        have a3 := eq_of_heq a3
        subst a3
        have : put (ovr ob (fzU ob r)) id (some (.fro t l)) = ovr ob (fzU ob r) := by
          funext i
          by_cases hi : i = id
          · subst hi; rw [put_same, q2]
          · rw [put_ne _ _ hi]
        rw [this]
        exact ⟨c1, h1, t1, e1, e2⟩
      · rw [hid] at q1; cases q1
    · rename_i e t k b1 b2 l hid
      rw [ovr_cons]
      rcases fzU_at ob r id with ⟨q1, q2⟩ | ⟨e', t', l', q1, q2, q3⟩ | ⟨e', t', k, a1, a2, l', q1, q2, q3⟩
      · obtain ⟨c2, h2, t2, e3, e4⟩ := h1.freezeN (id := id) (e := e) (t := t) (l := l) (q1.trans hid)
        exact ⟨c2, h2, t1.trans t2, e3.trans e1, e4.trans e2⟩
      · rw [hid] at q1; cases q1
      · rw [hid] at q1
        injection q1 with q1
        injection q1 with d1 d2 d3 d4 d5 d6
        subst d2
        have d6 := eq_of_heq d6
        subst d6
        have : put (ovr ob (fzU ob r)) id (some (.nfr t l)) = ovr ob (fzU ob r) := by
          funext i
          by_cases hi : i = id
          · subst hi; rw [put_same, q2]
          · rw [put_ne _ _ hi]
        rw [this]
        exact ⟨c1, h1, t1, e1, e2⟩
    · exact ⟨c1, h1, t1, e1, e2⟩
mutual
theorem dataOf_rel {m : Mem} {c c' : Cx} {w : World} (h : OX m.ob m.U m.tp w c) {ids0 : List Nat} (h' : OX (ovr m.ob (fzU m.ob ids0)) m.U m.tp w c') (t : Tr m.ob m.U w c (ovr m.ob (fzU m.ob ids0)) m.U w c') (hH : c'.H = c.H) :
    ∀ (s : SV) {x : D} {ids : List Nat}, dataOf m s = some (x, ids) → (∀ i ∈ ids, i ∈ ids0) → ∀ {u : Value}, SRel c w s u → Rd c'.S w x u
  | .d y, x, ids, hd, _, u, hr => by
    simp only [dataOf, Option.some.injEq, Prod.mk.injEq] at hd
    rw [← hd.1]; exact t.rd h (srel_d hr)
  | .os id, x, ids, hd, hi, u, hr => by
    unfold dataOf at hd
    rw [srel_os hr, ← hH]
    split at hd
    · rename_i e ty l hob
      injection hd with hd
      injection hd with e1 e2
      subst e1 e2
      rcases fzU_at m.ob ids0 id with ⟨q1, q2⟩ | ⟨e', t', l', q1, q2, q3⟩ | ⟨e', t', k, a1, a2, l', q1, q2, q3⟩
      · exact absurd hob ((q2 (hi id (by simp))).1 e ty l)
      · rw [hob] at q1
        injection q1 with q1
        injection q1 with a1 a2 a3
        subst a2
        have a3 := eq_of_heq a3
        subst a3
        exact (h'.objs id _ q2).2.2.1
      · rw [hob] at q1; cases q1
    · rename_i ty l hob
      injection hd with hd
      injection hd with e1 e2
      subst e1 e2
      rcases fzU_at m.ob ids0 id with ⟨q1, q2⟩ | ⟨e', t', l', q1, q2, q3⟩ | ⟨e', t', k, a1, a2, l', q1, q2, q3⟩
      · exact (h'.objs id _ (q1.trans hob)).2.2.1
      · rw [hob] at q1; cases q1
      · rw [hob] at q1; cases q1
    · cases hd
  | .ns id, x, ids, hd, hi, u, hr => by
    unfold dataOf at hd
    obtain ⟨vs0, hH0⟩ := srel_ns hr
    rw [← hH] at hH0
    split at hd
    · rename_i e ty k e2 t2 l hob
      injection hd with hd
      injection hd with e1 e2
      subst e1 e2
      rcases fzU_at m.ob ids0 id with ⟨q1, q2⟩ | ⟨e', t', l', q1, q2, q3⟩ | ⟨e', t', k, a1, a2, l', q1, q2, q3⟩
      · exact absurd hob ((q2 (hi id (by simp))).2 _ _ _ _ _ _)
      · rw [hob] at q1; cases q1
      · rw [hob] at q1
        injection q1 with q1
        injection q1 with d1 d2 d3 d4 d5 d6
        subst d2
        have d6 := eq_of_heq d6
        subst d6
        obtain ⟨v, vs, g1, g2⟩ := (h'.objs id _ q2).2.2
        rw [hH0] at g1
        injection g1 with g1
        have g1 := congrArg Array.toList g1
        simp only [List.cons.injEq] at g1
        rw [g1.1]; exact g2
    · rename_i ty l hob
      injection hd with hd
      injection hd with e1 e2
      subst e1 e2
      rcases fzU_at m.ob ids0 id with ⟨q1, q2⟩ | ⟨e', t', l', q1, q2, q3⟩ | ⟨e', t', k, a1, a2, l', q1, q2, q3⟩
      · obtain ⟨v, vs, g1, g2⟩ := (h'.objs id _ (q1.trans hob)).2.2
        rw [hH0] at g1
        injection g1 with g1
        have g1 := congrArg Array.toList g1
        simp only [List.cons.injEq] at g1
        rw [g1.1]; exact g2
      · rw [hob] at q1; cases q1
      · rw [hob] at q1; cases q1
    · cases hd
  | .agg cs, x, ids, hd, hi, u, hr => by
    unfold dataOf at hd
    split at hd
    · rename_i ds is hl
      injection hd with hd
      injection hd with e1 e2
      subst e1 e2
      obtain ⟨us, rfl, h1, h2, h3⟩ := srel_agg hr
      obtain ⟨k1, k2⟩ := dataL_rel h h' t hH cs hl hi
      exact Rd.agg ds us (by omega) h2 fun i d u hd hu => by
        have hil : i < cs.length := by have := (List.getElem?_eq_some_iff.1 hd).1; omega
        exact k2 i cs[i] d (List.getElem?_eq_getElem hil) hd (h3 i cs[i] u (List.getElem?_eq_getElem hil) hu)
    · cases hd
  | .fn f cs, x, ids, hd, hi, u, hr => by
    unfold dataOf at hd
    split at hd
    · rename_i ds is hl
      injection hd with hd
      injection hd with e1 e2
      subst e1 e2
      obtain ⟨k1, k2⟩ := dataL_rel h h' t hH cs hl hi
      cases hr with
      | fn _ _ us h1 h3 =>
        exact Rd.fn f ds us (by omega) fun i d u hd hu => by
          have hil : i < cs.length := by have := (List.getElem?_eq_some_iff.1 hd).1; omega
          exact k2 i cs[i] d (List.getElem?_eq_getElem hil) hd (h3 i cs[i] u (List.getElem?_eq_getElem hil) hu)
    · cases hd
  | .bx _ _, _, _, hd, _, _, _ | .sub _ _ _ _, _, _, hd, _, _, _ | .op _ _ _ _, _, _, hd, _, _, _ | .tup _, _, _, hd, _, _, _ | .cnd _ _ _ _, _, _, hd, _, _, _ | .tp, _, _, hd, _, _, _ | .un, _, _, hd, _, _, _ | .np _ _ _ _, _, _, hd, _, _, _ | .inn _ _, _, _, hd, _, _, _ | .ip _ _ _ _ _, _, _, hd, _, _, _ => by simp [dataOf] at hd
theorem dataL_rel {m : Mem} {c c' : Cx} {w : World} (h : OX m.ob m.U m.tp w c) {ids0 : List Nat} (h' : OX (ovr m.ob (fzU m.ob ids0)) m.U m.tp w c') (t : Tr m.ob m.U w c (ovr m.ob (fzU m.ob ids0)) m.U w c') (hH : c'.H = c.H) :
    ∀ (ss : List SV) {ds : List D} {ids : List Nat}, dataL m ss = some (ds, ids) → (∀ i ∈ ids, i ∈ ids0) → ss.length = ds.length ∧ ∀ (i : Nat) (s : SV) (d : D), ss[i]? = some s → ds[i]? = some d → ∀ {u : Value}, SRel c w s u → Rd c'.S w d u
  | [], ds, ids, hd, _ => by
    simp only [dataL, Option.some.injEq, Prod.mk.injEq] at hd
    rw [← hd.1]
    exact ⟨rfl, fun i s d h => by simp at h⟩
  | s :: r, ds, ids, hd, hi => by
    unfold dataL at hd
    split at hd
    · rename_i d i1 ds' is h1 h2
      injection hd with hd
      injection hd with e1 e2
      subst e1 e2
      obtain ⟨k1, k2⟩ := dataL_rel h h' t hH r h2 (fun i hm => hi i (by simp [hm]))
      refine ⟨by simp [k1], fun i s' d' hs hd u hr => ?_⟩
      cases i with
      | zero => simp at hs hd; subst hs hd; exact dataOf_rel h h' t hH s h1 (fun i hm => hi i (by simp [hm])) hr
      | succ i => simp at hs hd; exact k2 i s' d' hs hd hr
    · cases hd
end
/-! ### the operations -/
structure ERes where
  ps : List Prop
  fs : List Prop
  r : SV
  ob : List (Nat × Option Ob)
  cnt : Nat
/-- An operation from the memory m: what it yields, which objects change; k is the first number that is free. -/
def EffR (P : Program) (o : Oper) (m : Mem) (ρ : Operand → SV) (k : Nat) (R : ERes) : Prop :=
  ∀ a w c, RelsC m ρ a w c → (∀ i, k ≤ i → i < k + R.cnt → ¬ m.U i) → allL R.ps → ∀ (K : Act → World → Prop) (Q : Exit → Act → World → Prop),
    (∀ v c' w', OX (ovr m.ob R.ob) (addN m.U k R.cnt) m.tp w' c' → Tr m.ob m.U w c (ovr m.ob R.ob) (addN m.U k R.cnt) w' c' → SRel c' w' R.r v → R.r.inU (addN m.U k R.cnt) → allL R.fs → K (a.put o.dst v) w') → o.wp P a w K Q
theorem wp_value {o : Oper} {a : Act} {w w' : World} {v : Value} {K : Act → World → Prop} {Q : Exit → Act → World → Prop} (h : (execOp a.eval o).run P w = .ok (.value v) w') (k : K (a.put o.dst v) w') : o.wp P a w K Q := by
  unfold Oper.wp; rw [h]; exact k
theorem wp_skip' {o : Oper} {a : Act} {w w' : World} {K : Act → World → Prop} {Q : Exit → Act → World → Prop} (h : (execOp a.eval o).run P w = .ok .skip w') (k : K (a.put o.dst undef) w') : o.wp P a w K Q := by
  unfold Oper.wp; rw [h]; exact k
def eBox (k : Nat) (cs : List SV) : ERes := ⟨[], [], .bx k 0, [(k, some (.box cs))], 1⟩
theorem box_fin {o : Oper} {m : Mem} {ρ : Operand → SV} {k : Nat} {cs : List SV} {a : Act} {w : World} {c : Cx} (hr : RelsC m ρ a w c) (hk : ∀ i, k ≤ i → i < k + 1 → ¬ m.U i) {arr : List Value} {t : TypeId} (hrun : (execOp a.eval o).run P w = .ok (.value (.pointer (some ⟨w.heap.size, 0, none⟩))) (w.alloc (.cells arr.toArray t)))
    (hl : arr.length = cs.length) (h1 : ∀ u ∈ arr, u.oneCell' = true) (hs : ∀ (j : Nat) (s : SV) (u : Value), cs[j]? = some s → arr[j]? = some u → SRel c w s u) (hU : inUL m.U cs) {K : Act → World → Prop} {Q : Exit → Act → World → Prop}
    (hK : ∀ v c' w', OX (ovr m.ob (eBox k cs).ob) (addN m.U k (eBox k cs).cnt) m.tp w' c' → Tr m.ob m.U w c (ovr m.ob (eBox k cs).ob) (addN m.U k (eBox k cs).cnt) w' c' → SRel c' w' (eBox k cs).r v → (eBox k cs).r.inU (addN m.U k (eBox k cs).cnt) → allL (eBox k cs).fs → K (a.put o.dst v) w') : o.wp P a w K Q := by
  obtain ⟨c', k1, k2, k3⟩ := hr.ox.box (hk k (Nat.le_refl _) (by omega)) t hl h1 hs hU
  refine wp_value hrun (hK _ c' _ ?_ ?_ (.bx k 0 _ k3) (.inr ⟨Nat.le_refl _, by show k < k + 1; omega⟩) trivial)
  · show OX (ovr m.ob [(k, some (.box cs))]) (addN m.U k 1) _ _ _
    rw [ovr_cons, ovr_nil, addN_one]; exact k1
  · show Tr _ _ _ _ (ovr m.ob [(k, some (.box cs))]) (addN m.U k 1) _ _
    rw [ovr_cons, ovr_nil, addN_one]; exact k2
def eAlloc (P : Program) (k : Nat) (e : TypeId) : Option ERes := match zeroOf P e with
  | some zs => some (eBox k (zs.map fun u => SV.d (.v u)))
  | none => none
theorem eAlloc_ok {o : Oper} {m : Mem} {ρ : Operand → SV} {k : Nat} {e : TypeId} {R : ERes} (he : o.op = .alloc e) (h : eAlloc P k e = some R) : EffR P o m ρ k R := by
  intro a w c hr hk hp K Q hK
  unfold eAlloc at h
  split at h
  · rename_i zs hz
    injection h with h
    subst h
    obtain ⟨i, z, hi, hz', hzc, h1⟩ := zeroOf_spec hz
    subst hzc
    refine box_fin (t := e) (arr := z.cells.toList) hr hk ?_ (by simp) h1 (fun j s u hs hu => ?_) ?_ hK
    · simp [execOp, he, Instr.alloc, zeroValue, typeInfo, hi, hz', newVar, newRow]
    · rw [List.getElem?_map, hu] at hs; simp at hs; subst hs; exact .d _ _ (.v u)
    · have := inUL_map m.U (z.cells.toList.map D.v)
      rwa [List.map_map] at this
  · cases h
def eBoxV (m : Mem) (k : Nat) (s : SV) : Option ERes := bif okc s && hOne m s then some (eBox k (cellsOf s)) else none
theorem eBoxV_ok {o : Oper} {m : Mem} {ρ : Operand → SV} {k : Nat} {e : TypeId} {x : Operand} {R : ERes} (he : o.op = .box e x) (h : eBoxV m k (ρ x) = some R) : EffR P o m ρ k R := by
  intro a w c hr hk hp K Q hK
  unfold eBoxV at h
  cases hb : (okc (ρ x) && hOne m (ρ x)) with
  | false => rw [hb] at h; cases h
  | true =>
    rw [hb] at h
    injection h with h
    subst h
    obtain ⟨b1, b2⟩ := Bool.and_eq_true_iff.1 hb
    obtain ⟨k1, k2, k3⟩ := cells_rd (hr.op x) b1 (hOne_spec hr.ox b2)
    refine box_fin (t := e) (arr := (a.eval x).cells.toList) hr hk ?_ k1 k2 k3 (cellsOf_inU (hr.iu x)) hK
    simp [execOp, he, Instr.box, newVar, newRow]
def szTy (P : Program) (t sz : Nat) : Bool := match P.info? t with
  | some i => Nat.beq i.size sz
  | none => false
theorem run_store (t : TypeId) (w : World) (b o : Nat) (u : Value) (h : szTy P t u.cells.toList.length = true) (hc : ∀ j, j < u.cells.toList.length → (w.cell? ⟨b, o + j, none⟩).isSome = true) (hf : ∀ j, j < u.cells.toList.length → w.frozen? ⟨b, o + j, none⟩ = false)
    (h1 : ∀ v ∈ u.cells.toList, v.oneCell' = true) : (Instr.storeAt t (.pointer (some ⟨b, o, none⟩)) u).run P w = .ok () (w.setCells b o u.cells.toList) := by
  unfold szTy at h
  cases hi : P.info? t with
  | none => rw [hi] at h; cases h
  | some i =>
    rw [hi] at h
    have hs : i.size = u.cells.size := by simpa using beq_eq h
    have := run_storeCells_cells (P := P) b o u.cells.toList 0 w (by simpa using hc) (by simpa using hf) h1
    rw [Nat.add_zero] at this
    simp [Instr.storeAt, Instr.sureAddr, storeVar, sizeOf, typeInfo, hi, hs, this]
/-- A store: into a box, or into an element of a row (rows in the value are given up then). -/
def eStore (P : Program) (m : Mem) (t : TypeId) (x y : SV) : Option ERes := match x with
  | .bx id off => match m.ob id with
    | some (.box cs) => bif okc y && hOne m y && szTy P t (cellsOf y).length && Nat.ble (off + (cellsOf y).length) cs.length then some ⟨[], [], .un, [(id, some (.box (spl cs off (cellsOf y))))], 0⟩ else none
    | _ => none
  | .op id z sz j => match dataOf m y with
    | some (d, ids) => match ovr m.ob (fzU m.ob ids) id with
      | some (.row e ty l) => match dec ty (spl (enc ty (ix l z)) j (dCells d)) with
        | some x' => bif okc (.d d) && Nat.beq sz (size ty) && szTy P t (dCells d).length && Nat.ble (j + (dCells d).length) sz then some ⟨[], [], .un, (id, some (.row e ty (l.set z.toNat x'))) :: fzU m.ob ids, 0⟩ else none
        | none => none
      | _ => none
    | none => none
  | .ip id i z sz j => match dataOf m y with
    | some (d, ids) => match ovr m.ob (fzU m.ob ids) id with
      | some (.nst e ty kk e' t' l) => match dec t' (spl (enc t' (ix (kth ty kk t' (ix l i)) z)) j (dCells d)) with
        | some y' => match dec ty ((enc ty (ix l i)).set kk (.sl t' ((kth ty kk t' (ix l i)).set z.toNat y'))) with
          | some x' => bif okc (.d d) && Nat.beq sz (size t') && szTy P t (dCells d).length && Nat.ble (j + (dCells d).length) sz then some ⟨[], [], .un, (id, some (.nst e ty kk e' t' (l.set i.toNat x'))) :: fzU m.ob ids, 0⟩ else none
          | none => none
        | none => none
      | _ => none
    | none => none
  | _ => none
where dCells : D → List D
  | .agg cs => cs
  | x => [x]
theorem dCells_eq (d : D) : cellsOf (.d d) = (eStore.dCells d).map SV.d := by cases d <;> rfl
theorem eStore_ok {o : Oper} {m : Mem} {ρ : Operand → SV} {k : Nat} {t : TypeId} {x y : Operand} {R : ERes} (he : o.op = .store t x y) (h : eStore P m t (ρ x) (ρ y) = some R) : EffR P o m ρ k R := by
  intro a w c hr hk hp K Q hK
  unfold eStore at h
  have hx := hr.op x
  split at h
  · rename_i id off hxe
    rw [hxe] at hx
    split at h
    · rename_i cs hob
      cases hb : (okc (ρ y) && hOne m (ρ y) && szTy P t (cellsOf (ρ y)).length && Nat.ble (off + (cellsOf (ρ y)).length) cs.length) with
      | false => rw [hb] at h; cases h
      | true =>
        rw [hb] at h
        injection h with h
        subst h
        simp only [Bool.and_eq_true] at hb
        obtain ⟨⟨⟨b1, b2⟩, b3⟩, b4⟩ := hb
        have b4 := Nat.le_of_ble_eq_true b4
        obtain ⟨k1, k2, k3⟩ := cells_rd (hr.op y) b1 (hOne_spec hr.ox b2)
        obtain ⟨b, hbH, hbu⟩ := srel_bx hx
        obtain ⟨_, _, b', arr, t', q1, q2, q3, q4, q5, q6⟩ := hr.ox.objs id _ hob
        rw [hbH] at q1
        injection q1 with q1
        injection q1 with q1
        injection q1 with q1
        subst q1
        have hst := run_store (P := P) t w b off (a.eval y) (by rw [k1]; exact b3) (fun j hj => by rw [cell_row q3, List.getElem?_toArray, List.getElem?_eq_getElem (by omega)]; rfl) (fun j hj => by simp [World.frozen?, q3]) k2
        obtain ⟨r1, r2⟩ := hr.ox.store (off := off) hob hbH k1 b4 k2 k3 (cellsOf_inU (hr.iu y))
        refine wp_skip' (w' := w.setCells b off (a.eval y).cells.toList) (by simp [execOp, he, hbu, hst]) (hK _ c _ ?_ ?_ (.un _) trivial trivial)
        · show OX (ovr m.ob [_]) (addN m.U k 0) _ _ _
          rw [ovr_cons, ovr_nil, addN_zero]; exact r1
        · show Tr _ _ _ _ (ovr m.ob [_]) (addN m.U k 0) _ _
          rw [ovr_cons, ovr_nil, addN_zero]; exact r2
    · cases h
  · rename_i id z sz j hxe
    rw [hxe] at hx
    split at h
    · rename_i d ids hd
      split at h
      · rename_i e ty l hob
        split at h
        · rename_i x' hx'
          cases hb : (okc (.d d) && Nat.beq sz (size ty) && szTy P t (eStore.dCells d).length && Nat.ble (j + (eStore.dCells d).length) sz) with
          | false => rw [hb] at h; cases h
          | true =>
            rw [hb] at h
            injection h with h
            subst h
            simp only [Bool.and_eq_true] at hb
            obtain ⟨⟨⟨b1, b2⟩, b3⟩, b4⟩ := hb
            have b4 := Nat.le_of_ble_eq_true b4
            have b2 := beq_eq b2
            subst b2
            obtain ⟨c1, ox1, t1, e1, e2⟩ := hr.ox.freezes ids
            have hrd := dataOf_rel hr.ox ox1 t1 e1 (ρ y) hd (fun _ h => h) (hr.op y)
            obtain ⟨k1, k2, k3⟩ := cells_rd (c := c1) (.d _ _ hrd) b1 (fun id e => by cases e)
            rw [dCells_eq, List.length_map] at k1
            rw [dCells_eq] at k3
            obtain ⟨g, n, cap, hH, hu, hz⟩ := srel_op hx
            rw [← e1] at hH
            have hnl : n = l.length := by
              obtain ⟨_, ⟨q0, ⟨ad, q1⟩, _⟩ | ⟨g', cap', cur, q1, _⟩⟩ := (ox1.objs id _ hob).2.2
              · rw [hH] at q1; injection q1 with a1 a2 a3; rw [a2, q0]; rfl
              · rw [hH] at q1; injection q1
            subst hnl
            obtain ⟨r0, r1, r2⟩ := ox1.storeRow (id := id) (i := z.toNat) (j := j) (vs := (a.eval y).cells.toList) hob hH (ix_get (l := l) (i := z) ⟨hz.1, hz.2⟩) k1 b4 k2 (fun q d' u hq hu => srel_d (k3 q (.d d') u (by rw [List.getElem?_map, hq]; rfl) hu)) hx'
            have hst := run_store (P := P) t w g (z.toNat * size ty + j) (a.eval y) (by rw [k1]; exact b3) (fun q hq => (r0 q hq).1) (fun q hq => (r0 q hq).2) k2
            refine wp_skip' (w' := w.setCells g (z.toNat * size ty + j) (a.eval y).cells.toList) (by simp [execOp, he, hu, hst]) (hK _ c1 _ ?_ ?_ (.un _) trivial trivial)
            · show OX (ovr m.ob (_ :: _)) (addN m.U k 0) _ _ _
              rw [ovr_cons, addN_zero]; exact r1
            · show Tr _ _ _ _ (ovr m.ob (_ :: _)) (addN m.U k 0) _ _
              rw [ovr_cons, addN_zero]; exact t1.trans r2
        · cases h
      · cases h
    · cases h
  · rename_i id i z sz j hxe
    rw [hxe] at hx
    split at h
    · rename_i d ids hd
      split at h
      · rename_i e ty kk e' t' l hob
        split at h
        · rename_i y' hy'
          split at h
          · rename_i x' hx'
            cases hb : (okc (.d d) && Nat.beq sz (size t') && szTy P t (eStore.dCells d).length && Nat.ble (j + (eStore.dCells d).length) sz) with
            | false => rw [hb] at h; cases h
            | true =>
              rw [hb] at h
              injection h with h
              subst h
              simp only [Bool.and_eq_true] at hb
              obtain ⟨⟨⟨b1, b2⟩, b3⟩, b4⟩ := hb
              have b4 := Nat.le_of_ble_eq_true b4
              have b2 := beq_eq b2
              subst b2
              obtain ⟨c1, ox1, t1, e1, e2⟩ := hr.ox.freezes ids
              have hrd := dataOf_rel hr.ox ox1 t1 e1 (ρ y) hd (fun _ h => h) (hr.op y)
              obtain ⟨k1, k2, k3⟩ := cells_rd (c := c1) (.d _ _ hrd) b1 (fun id e => by cases e)
              rw [dCells_eq, List.length_map] at k1
              rw [dCells_eq] at k3
              obtain ⟨v, vs, g, n, cap, hH, hi, hu, hue, hz⟩ := srel_ip hx
              rw [← e1] at hH
              have hnst : nstOf ⟨ovr m.ob (fzU m.ob ids), m.U, m.tp⟩ id = some ⟨ty, kk, t', l⟩ := by unfold nstOf; rw [show (Mem.mk (ovr m.ob (fzU m.ob ids)) m.U m.tp).ob id = some (.nst e ty kk e' t' l) from hob]
              obtain ⟨ad, cap', vs', hv, hc, hm, hl, hkk, hcell⟩ := nstOf_rel (m := ⟨ovr m.ob (fzU m.ob ids), m.U, m.tp⟩) ox1 hnst
              have hH0 := hH
              rw [hv] at hH0
              injection hH0 with hH0
              have hH0 := congrArg Array.toList hH0
              simp only [List.cons.injEq] at hH0
              obtain ⟨a0, a1⟩ := hH0
              subst a0 a1
              have hil : i.toNat < l.length := by have := (List.getElem?_eq_some_iff.1 hu).1; omega
              obtain ⟨_, _, _, _, ad', cap2, w1, _⟩ := hcell i.toNat _ (ix_get (l := l) (i := i) ⟨hi, by omega⟩)
              have w1' := w1
              rw [hu] at w1'
              injection w1' with w1'
              injection w1' with f1 f2 f3
              subst f1 f2 f3
              obtain ⟨r0, r1, r2⟩ := ox1.storeNst (id := id) (i := i.toNat) (z := z.toNat) (j := j) (vs := (a.eval y).cells.toList) hob hH hu (ix_get (l := l) (i := i) ⟨hi, by omega⟩) (ix_get (l := kth ty kk t' (ix l i)) (i := z) hz) k1 b4 k2 (fun q d' u hq hu => srel_d (k3 q (.d d') u (by rw [List.getElem?_map, hq]; rfl) hu)) hy' hx'
              have hst := run_store (P := P) t w g (z.toNat * size t' + j) (a.eval y) (by rw [k1]; exact b3) (fun q hq => (r0 q hq).1) (fun q hq => (r0 q hq).2) k2
              refine wp_skip' (w' := w.setCells g (z.toNat * size t' + j) (a.eval y).cells.toList) (by simp [execOp, he, hue, hst]) (hK _ c1 _ ?_ ?_ (.un _) trivial trivial)
              · show OX (ovr m.ob (_ :: _)) (addN m.U k 0) _ _ _
                rw [ovr_cons, addN_zero]; exact r1
              · show Tr _ _ _ _ (ovr m.ob (_ :: _)) (addN m.U k 0) _ _
                rw [ovr_cons, addN_zero]; exact t1.trans r2
          · cases h
        · cases h
      · cases h
    · cases h
  · cases h
end RE
end Go.Proofs.YtpeggkeenboacaaGreat
namespace Go.Proofs.YtpeggkeenboacaaGreat
open Go.RowKit
set_option linter.unusedVariables false
namespace RE
variable {P : Program}
/-! ### parts of slices -/
def sub {α : Type} (l : List α) (a b : Int) : List α := (l.take b.toNat).drop a.toNat
/-- The bounds of a part of a slice are right. -/
def SubOK (a b n : Int) : Prop := 0 ≤ a ∧ a ≤ b ∧ b ≤ n
theorem subV_len {sz a b : Nat} {ad : Option Addr} {n cap : Nat} : subV sz a b (.slice ad n cap) = .slice (if cap = a then ad else ad.map (·.add (a * sz))) (b - a) (cap - a) := rfl
theorem sub_get {α : Type} {l : List α} {a b : Int} {i : Nat} {x : α} (h : (sub l a b)[i]? = some x) : l[a.toNat + i]? = some x := by
  unfold sub at h
  rw [List.getElem?_drop, List.getElem?_take] at h
  split at h
  · exact h
  · cases h
theorem sub_len {α : Type} {l : List α} {a b : Int} (h : SubOK a b l.length) : (sub l a b).length = b.toNat - a.toNat := by
  obtain ⟨h1, h2, h3⟩ := h
  unfold sub
  rw [List.length_drop, List.length_take]
  omega
theorem Rd.sub {S : Cells} {w : World} {t : Ty} {l : List (den t)} {ad : Option Addr} {n cap : Nat} (h : Rd S w (.sl t l) (.slice ad n cap)) {a b : Int} (hab : SubOK a b l.length) : Rd S w (.sl t (RE.sub l a b)) (subV (size t) a.toNat b.toNat (.slice ad n cap)) := by
  obtain ⟨ad', cap', bl, off, f, e, hc, hm, ha, hx, hr⟩ := h.slInv
  injection e with e1 e2 e3
  subst e1 e2 e3
  have hl := sub_len hab
  obtain ⟨h1, h2, h3⟩ := hab
  rw [subV_len, ← hl]
  by_cases he : a.toNat = b.toNat
  · have e0 : RE.sub l a b = [] := List.eq_nil_of_length_eq_zero (by omega)
    rw [e0]
    exact Rd.nil _ _ _ (by simp only [maxLen] at hm ⊢; omega)
  · have hne : l ≠ [] := fun e => by rw [e] at h3; simp at h3; omega
    have had : ad = some ⟨bl, off, none⟩ := ha.resolve_left hne
    subst had
    rw [if_neg (by omega)]
    refine Rd.sl t _ _ (cap - a.toNat) bl (off + a.toNat * size t) (fun i j => f (a.toNat + i) j) (by omega) (by simp only [maxLen] at hm ⊢; omega) (.inr (by simp [addr_add])) (fun i hi j hj => ?_) (fun i x j d hi hd => hr (a.toNat + i) x j d (sub_get hi) hd)
    have e : off + a.toNat * size t + i * size t + j = off + (a.toNat + i) * size t + j := by rw [Nat.add_mul]; omega
    rw [e]
    exact hx (a.toNat + i) (by omega) j hj
def intS : SV → Option (Option Int)
  | .d (.v (.int .i64 z)) => some (some z)
  | _ => none
def optI (ρ : Operand → SV) : Option Operand → Option (Option Int)
  | none => some none
  | some x => intS (ρ x)
/-- s[lo:hi]: the bounds, and what comes out. -/
def pSlice (P : Program) (m : Mem) (ρ : Operand → SV) (t : TypeId) (x : SV) (lo hi : Option Operand) : Option PRes :=
  match elemOf P t, optI ρ lo, optI ρ hi with
  | some e, some lo, some hi => match x with
    | .d (.sl ty l) => bif Nat.beq (tsz P e) (size ty) then okp (SubOK (lo.getD 0) (hi.getD (l.length : Nat)) (l.length : Nat)) (.d (.sl ty (sub l (lo.getD 0) (hi.getD (l.length : Nat))))) else none
    | .os id => match rowOf m id with
      | some ⟨ty, l⟩ => bif Nat.beq (tsz P e) (size ty) then okp (SubOK (lo.getD 0) (hi.getD (l.length : Nat)) (l.length : Nat)) (.sub id (size ty) (lo.getD 0) (hi.getD (l.length : Nat))) else none
      | none => none
    | _ => none
  | _, _, _ => none
theorem slice_run {m : Mem} {ρ : Operand → SV} {t e : TypeId} (he : elemOf P t = some e) {lo hi : Option Operand} {zlo zhi : Option Int} (hlo : optI ρ lo = some zlo) (hhi : optI ρ hi = some zhi) {a : Act} {w : World} {c : Cx} (hop : ∀ x, SRel c w (ρ x) (a.eval x)) {ad : Option Addr} {n cap : Nat} (hc : n ≤ cap)
    (hb : SubOK (zlo.getD 0) (zhi.getD (n : Nat)) (n : Nat)) : (Instr.sliceAt t (.slice ad n cap) (lo.map a.eval) (hi.map a.eval) none).run P w = .ok (subV (tsz P e) (zlo.getD 0).toNat (zhi.getD (n : Nat)).toNat (.slice ad n cap)) w := by
  obtain ⟨inf, hu, hi', hs⟩ := elemOf_spec he
  have key : ∀ {o : Option Operand} {z : Option Int}, optI ρ o = some z → o.map a.eval = z.map (fun z => Value.int .i64 z) := fun {o z} h => by
    cases o with
    | none => simp only [optI, Option.some.injEq] at h; subst h; rfl
    | some x =>
      have hx := hop x
      have h : intS (ρ x) = some z := h
      unfold intS at h
      split at h
      · rename_i z' hz
        injection h with h
        subst h
        rw [hz] at hx
        simp [srel_v hx]
      · cases h
  rw [key hlo, key hhi]
  obtain ⟨h1, h2, h3⟩ := hb
  cases zlo with
  | none =>
    cases zhi with
    | none => simp at h1 h2 h3; simp [Instr.sliceAt, Instr.slice, run_underlying hu, Instr.sliceBounds, sizeOf, typeInfo, hi', subV]
    | some q =>
      simp at h1 h2 h3
      have b1 : 0 ≤ q ∧ q ≤ (cap : Int) := by omega
      simp [Instr.sliceAt, Instr.slice, run_underlying hu, Instr.sliceBounds, Instr.sliceBound, asIntOf, b1, sizeOf, typeInfo, hi', subV]
  | some p =>
    cases zhi with
    | none =>
      simp at h1 h2 h3
      have b2 : 0 ≤ p ∧ p ≤ (n : Int) := by omega
      simp [Instr.sliceAt, Instr.slice, run_underlying hu, Instr.sliceBounds, Instr.sliceBound, asIntOf, b2, sizeOf, typeInfo, hi', hs, subV]
    | some q =>
      simp at h1 h2 h3
      have b1 : 0 ≤ q ∧ q ≤ (cap : Int) := by omega
      have b2 : 0 ≤ p ∧ p ≤ ((q.toNat : Nat) : Int) := by omega
      simp [Instr.sliceAt, Instr.slice, run_underlying hu, Instr.sliceBounds, Instr.sliceBound, asIntOf, b1, b2, sizeOf, typeInfo, hi', hs, subV]
      exact fun hh => absurd hh (by omega)
theorem pSlice_run {m : Mem} {ρ : Operand → SV} {t : TypeId} {x : Operand} {lo hi : Option Operand} {R : PRes} (h : pSlice P m ρ t (ρ x) lo hi = some R) {a : Act} {w : World} {c : Cx} (hr : Rels m ρ a w c) (hp : allL R.ps) :
    ∃ v, (Instr.sliceAt t (a.eval x) (lo.map a.eval) (hi.map a.eval) none).run P w = .ok v w ∧ SRel c w R.r v ∧ R.r.inU m.U ∧ allL R.fs := by
  unfold pSlice at h
  have hx := hr.op x
  have hxu := hr.iu x
  split at h
  · rename_i e zlo zhi he hlo hhi
    split at h
    · rename_i ty l hxe
      rw [hxe] at hx
      cases hb : Nat.beq (tsz P e) (size ty) with
      | false => rw [hb] at h; cases h
      | true =>
        rw [hb] at h
        have hb := beq_eq hb
        cases okp_eq h
        have hrd := srel_d hx
        obtain ⟨ad, cap, b, off, f, hu, hc, hm, ha, h1, h2⟩ := hrd.slInv
        rw [hu] at hrd ⊢
        refine ⟨_, slice_run (m := m) he hlo hhi hr.op hc hp.1, ?_, trivial, trivial⟩
        rw [hb]
        exact .d _ _ (hrd.sub hp.1)
    · rename_i id hxe
      rw [hxe] at hx hxu
      split at h
      · rename_i ty l hrow
        cases hb : Nat.beq (tsz P e) (size ty) with
        | false => rw [hb] at h; cases h
        | true =>
          rw [hb] at h
          have hb := beq_eq hb
          cases okp_eq h
          obtain ⟨ad, cap, hv, hc, hm, hcell⟩ := rowOf_rel hr.ox hrow
          have hu := srel_os hx
          rw [hv] at hu
          rw [hu]
          refine ⟨_, slice_run (m := m) he hlo hhi hr.op hc hp.1, ?_, hxu, trivial⟩
          rw [hb]
          exact .sub id (size ty) _ _ ad _ cap hv hp.1
      · cases h
    · cases h
  · cases h
/-! ### appends -/
/-- What is appended, as a list of a type. -/
def srcOf (m : Mem) (ty : Ty) : SV → Option (List (den ty))
  | .d d => decL ty d
  | .os id => match rowOf m id with
    | some ⟨t', l⟩ => castL ty t' l
    | none => none
  | .sub id sz a b => match rowOf m id with
    | some ⟨t', l⟩ => bif Nat.beq sz (size t') then castL ty t' (sub l a b) else none
    | none => none
  | _ => none
theorem castL_eq {t t' : Ty} {l : List (den t')} {l' : List (den t)} (h : castL t t' l = some l') : ∃ _ : t' = t, HEq l l' := by
  unfold castL at h
  split at h
  · rename_i hb
    have e := Ty.beq_eq hb
    subst e
    injection h with h
    exact ⟨rfl, heq_of_eq h⟩
  · cases h
theorem srcOf_ok {m : Mem} {ty : Ty} {s : SV} {l : List (den ty)} (h : srcOf m ty s = some l) {w : World} {c : Cx} (ox : OX m.ob m.U m.tp w c) {v : Value} (hs : SRel c w s v) {t e : TypeId} (ht : P.underlying t = some (.slice e)) (h0 : 0 < size ty) : SrcOK P w c.S t ty l v ∧ l.length ≤ maxLen := by
  unfold srcOf at h
  split at h
  · have := decA_rd (t := .sl ty) (x := l) h (srel_d hs)
    have hrd : Rd c.S w (.sl ty l) v := this
    refine ⟨SrcOK.ofRd ht h0 hrd, ?_⟩
    obtain ⟨_, _, _, _, _, _, h1, h2, _⟩ := hrd.slInv
    omega
  · rename_i id
    split at h
    · rename_i t' l' hrow
      obtain ⟨e1, e2⟩ := castL_eq h
      subst e1
      have e2 := eq_of_heq e2
      subst e2
      obtain ⟨ad, cap, hv, hc, hm, hcell⟩ := rowOf_rel ox hrow
      rw [srel_os hs, hv]
      refine ⟨SrcOK.of ht h0 ?_, by show l'.length ≤ _; omega⟩
      rcases List.eq_nil_or_concat l' with hl | ⟨_, _, hl⟩
      · exact .inl hl
      · have hpos : 0 < l'.length := by rw [hl]; simp
        obtain ⟨g, hg, _⟩ := hcell 0 l'[0] (List.getElem?_eq_getElem hpos)
        obtain ⟨f, f1, f2⟩ := rowCells (w := w) (S := c.S) (l := l') (g := g) (fun i x hi j d hd => by
          obtain ⟨g', hg', hh⟩ := hcell i x hi
          rw [hg] at hg'
          injection hg' with hg'
          injection hg' with hg'
          subst hg'
          exact hh j d hd)
        exact .inr ⟨g, 0, hg, f, fun i hi j hj => by rw [Nat.zero_add]; exact f1 i hi j hj, f2⟩
    · cases h
  · rename_i id sz a b
    split at h
    · rename_i t' l' hrow
      cases hb : Nat.beq sz (size t') with
      | false => rw [hb] at h; cases h
      | true =>
        rw [hb] at h
        have hb := beq_eq hb
        subst hb
        obtain ⟨e1, e2⟩ := castL_eq h
        subst e1
        have e2 := eq_of_heq e2
        subst e2
        obtain ⟨ad, cap, hv, hc, hm, hcell⟩ := rowOf_rel ox hrow
        obtain ⟨ad', n', cap', hv', hu, hab⟩ := srel_sub hs
        rw [hv] at hv'
        injection hv' with q1 q2 q3
        subst q1 q2 q3
        have hl := sub_len hab
        rw [hu, subV_len, ← hl]
        have hll : (sub l' a b).length ≤ l'.length := by obtain ⟨_, _, _⟩ := hab; omega
        refine ⟨SrcOK.of ht h0 ?_, by show (sub l' a b).length ≤ _; omega⟩
        by_cases he : a.toNat = b.toNat
        · exact .inl (List.eq_nil_of_length_eq_zero (by omega))
        · obtain ⟨ha1, ha2, ha3⟩ := hab
          have hpos : 0 < l'.length := by omega
          obtain ⟨g, hg, _⟩ := hcell 0 l'[0] (List.getElem?_eq_getElem hpos)
          obtain ⟨f, f1, f2⟩ := rowCells (w := w) (S := c.S) (l := l') (g := g) (fun i x hi j d hd => by
            obtain ⟨g', hg', hh⟩ := hcell i x hi
            rw [hg] at hg'
            injection hg' with hg'
            injection hg' with hg'
            subst hg'
            exact hh j d hd)
          refine .inr ⟨g, a.toNat * size t', ?_, fun i j => f (a.toNat + i) j, fun i hi j hj => ?_, fun i x j d hi hd => f2 _ x j d (sub_get hi) hd⟩
          · rw [if_neg (by omega), hg]; simp [addr_add]
          · have := f1 (a.toNat + i) (by omega) j hj
            rwa [Nat.add_mul] at this
    · cases h
  · cases h
/-- There is room for so many elements. -/
def apOK (bs n m : Nat) : Prop := (n + m) * bs ≤ 140737488355328
structure AppTy (P : Program) (t : TypeId) where
  e : TypeId
  bs : Nat
def appTy (P : Program) (t : TypeId) (sz : Nat) : Option (TypeId × Nat) := match elemOf P t with
  | some e => match P.info? e with
    | some i => match i.zero with
      | some z => bif Nat.beq z.cells.size sz && Nat.beq i.size sz && Nat.ble 1 i.bytes && Nat.ble 1 sz then some (e, i.bytes) else none
      | none => none
    | none => none
  | none => none
theorem appTy_spec {t : TypeId} {sz : Nat} {e : TypeId} {bs : Nat} (h : appTy P t sz = some (e, bs)) : ∃ i z, P.underlying t = some (.slice e) ∧ P.info? e = some i ∧ i.zero = some z ∧ z.cells.size = sz ∧ i.size = sz ∧ i.bytes = bs ∧ 1 ≤ bs ∧ 1 ≤ sz := by
  unfold appTy at h
  split at h
  · rename_i e' he
    obtain ⟨_, hu, _⟩ := elemOf_spec he
    split at h
    · rename_i i hi
      split at h
      · rename_i z hz
        cases hb : (Nat.beq z.cells.size sz && Nat.beq i.size sz && Nat.ble 1 i.bytes && Nat.ble 1 sz) with
        | false => rw [hb] at h; cases h
        | true =>
          rw [hb] at h
          injection h with h
          injection h with h1 h2
          subst h1 h2
          simp only [Bool.and_eq_true] at hb
          exact ⟨i, z, hu, hi, hz, beq_eq hb.1.1.1, beq_eq hb.1.1.2, rfl, Nat.le_of_ble_eq_true hb.1.2, Nat.le_of_ble_eq_true hb.2⟩
      · cases h
    · cases h
  · cases h
def eApp (k : Nat) (e : TypeId) (ty : Ty) (bs : Nat) (l l2 : List (den ty)) (old : List (Nat × Option Ob)) : ERes := ⟨[apOK bs l.length l2.length], [], .os k, (k, some (.row e ty (l ++ l2))) :: old, 1⟩
/-- An append to a row that is read still. -/
def eAppF (k : Nat) (ty : Ty) (bs : Nat) (l l2 : List (den ty)) (id : Nat) : ERes := ⟨[apOK bs l.length l2.length], [], .os k, [(id, some (.fro ty l)), (k, some (.fro ty (l ++ l2))), (id, none)], 1⟩
def isSlD : SV → Bool
  | .d (.sl _ _) => true
  | _ => false
def inT : List Nat → Nat → Bool
  | [], _ => false
  | x :: r, y => Nat.beq x y || inT r y
def oldU : Option Nat → List (Nat × Option Ob)
  | some id => [(id, none)]
  | none => []
def eAppend (P : Program) (τ : TypeId → Option Ty) (m : Mem) (k : Nat) (t : TypeId) (x y : SV) : Option ERes := match x with
  | .os id => match m.ob id with
    | some (.row e ty l) => match appTy P t (size ty), srcOf m ty y with
      | some (e', bs), some l2 => bif Nat.beq e e' then (bif isSlD y && inT keepT t then some (eAppF k ty bs l l2 id) else some (eApp k e ty bs l l2 [(id, none)])) else none
      | _, _ => none
    | _ => none
  | .d (.v v) => bif isNil v then match elemOf P t with
      | some e0 => match τ e0 with
        | some ty => match appTy P t (size ty), srcOf m ty y with
          | some (e', bs), some l2 => some (eApp k e' ty bs [] l2 [])
          | _, _ => none
        | none => none
      | none => none
    else none
  | _ => none
theorem eAppend_ok {τ : TypeId → Option Ty} {o : Oper} {m : Mem} {ρ : Operand → SV} {k : Nat} {t : TypeId} {x y : Operand} {R : ERes} (he : o.op = .call ⟨.builtin .append, #[x, y], #[t, t]⟩) (h : eAppend P τ m k t (ρ x) (ρ y) = some R) : EffR P o m ρ k R := by
  intro a w c hr hk hp K Q hK
  have hx := hr.op x
  have hy := hr.op y
  have fin : ∀ (e : TypeId) (ty : Ty) (bs : Nat) (l l2 : List (den ty)) (old : Option Nat) (F : Nat → Prop), appTy P t (size ty) = some (e, bs) → srcOf m ty (ρ y) = some l2 → RowAt w c.S (a.eval x) F e ty l → (∀ b, F b → ∃ id y, old = some id ∧ m.ob id = some y ∧ y.own = true ∧ c.F id b) →
      R = eApp k e ty bs l l2 (oldU old) → o.wp P a w K Q := by
    intro e ty bs l l2 old F ha hs2 hrow hF hR
    subst hR
    obtain ⟨i, z, t1, t2, t3, t4, t5, t6, t7, t8⟩ := appTy_spec ha
    obtain ⟨hsrc, hl2⟩ := srcOf_ok (P := P) hs2 hr.ox hy t1 (by omega)
    have hroom := hp.1
    have h63 : l.length + l2.length ≤ maxLen := by
      unfold apOK at hroom
      have := Nat.le_mul_of_pos_right (l.length + l2.length) (show 0 < bs by omega)
      simp only [maxLen]; omega
    obtain ⟨v', w', c', r1, r2, r3, r4⟩ := hr.ox.append (hk k (Nat.le_refl _) (by show k < k + 1; omega)) (old := old) t o.type e i z ty t1 t2 t3 t5 t4 hrow hF hsrc h63 (by rw [t6]; exact hroom)
    have eob : ovr m.ob (eApp k e ty bs l l2 (oldU old)).ob = put (dropO m.ob old) k (some (.row e ty (l ++ l2))) := by
      cases old with
      | none => show ovr m.ob [_] = _; rw [ovr_cons, ovr_nil]; rfl
      | some id => show ovr m.ob [_, _] = _; rw [ovr_cons, ovr_cons, ovr_nil]; rfl
    refine wp_value (v := v') (w' := w') ?_ (hK _ c' _ ?_ ?_ ?_ ?_ trivial)
    · simp [execOp, he, resolve, invoke, builtin, r1]
    · rw [eob]; show OX _ (addN m.U k 1) _ _ _; rw [addN_one]; exact r3
    · rw [eob]; show Tr _ _ _ _ _ (addN m.U k 1) _ _; rw [addN_one]; exact r4
    · rw [← r2]; exact .os k
    · exact .inr ⟨Nat.le_refl _, by show k < k + 1; omega⟩
  unfold eAppend at h
  split at h
  · rename_i id hxe
    rw [hxe] at hx
    split at h
    · rename_i e ty l hob
      split at h
      · rename_i e' bs l2 ha hs2
        cases hb : Nat.beq e e' with
        | false => rw [hb] at h; cases h
        | true =>
          rw [hb] at h
          have hb := beq_eq hb
          subst hb
          have hu := srel_os hx
          simp only [cond_true] at h
          cases hkp : (isSlD (ρ y) && inT keepT t) with
          | true =>
            rw [hkp] at h
            injection h with h
            subst h
            obtain ⟨i, z, t1, t2, t3, t4, t5, t6, t7, t8⟩ := appTy_spec ha
            obtain ⟨hsrc, hl2⟩ := srcOf_ok (P := P) hs2 hr.ox hy t1 (by omega)
            have hroom := hp.1
            have h63 : l.length + l2.length ≤ maxLen := by
              have hroom : apOK bs l.length l2.length := hroom
              unfold apOK at hroom
              have := Nat.le_mul_of_pos_right (l.length + l2.length) (show 0 < bs by omega)
              simp only [maxLen]; omega
            obtain ⟨v', w', c', r1, r2, r3, r4⟩ := hr.ox.appendF (hk k (Nat.le_refl _) (by show k < k + 1; omega)) t o.type e i z ty t1 t2 t3 t5 t4 hob hsrc h63 (by rw [t6]; exact hroom)
            have eob : ovr m.ob (eAppF k ty bs l l2 id).ob = put (put (dropO m.ob (some id)) k (some (.fro ty (l ++ l2)))) id (some (.fro ty l)) := by
              show ovr m.ob [_, _, _] = _
              rw [ovr_cons, ovr_cons, ovr_cons, ovr_nil]; rfl
            refine wp_value (v := v') (w' := w') ?_ (hK _ c' _ ?_ ?_ ?_ ?_ trivial)
            · simp [execOp, he, resolve, invoke, builtin, hu, r1]
            · rw [eob]; show OX _ (addN m.U k 1) _ _ _; rw [addN_one]; exact r3
            · rw [eob]; show Tr _ _ _ _ _ (addN m.U k 1) _ _; rw [addN_one]; exact r4
            · rw [← r2]; exact .os k
            · exact .inr ⟨Nat.le_refl _, by show k < k + 1; omega⟩
          | false =>
          rw [hkp] at h
          injection h with h
          exact fin e ty bs l l2 (some id) (c.F id) ha hs2 (by rw [hu]; exact (hr.ox.objs id _ hob).2.2) (fun b hb => ⟨id, _, rfl, hob, rfl, hb⟩) h.symm
      · cases h
    · cases h
  · rename_i v hxe
    rw [hxe] at hx
    cases hn : isNil v with
    | false => rw [hn] at h; cases h
    | true =>
      rw [hn] at h
      simp only [cond_true] at h
      split at h
      · split at h
        · rename_i ty _
          split at h
          · rename_i e' bs l2 ha hs2
            injection h with h
            have hu := srel_v hx
            rw [isNil_eq hn] at hu
            obtain ⟨_, _, _, _, _, _, _, _, _, h1⟩ := appTy_spec ha
            exact fin e' ty bs [] l2 none (fun _ => False) ha hs2 (by rw [hu]; exact ⟨h1, .inl ⟨rfl, ⟨none, rfl⟩, fun _ h => h⟩⟩) (fun _ h => h.elim) h.symm
          · cases h
        · cases h
      · cases h
  · cases h
end RE
end Go.Proofs.YtpeggkeenboacaaGreat
namespace Go.Proofs.YtpeggkeenboacaaGreat
open Go.RowKit
set_option linter.unusedVariables false
namespace RE
variable {P : Program}
def zeroRow (z : List Value) (k : Nat) : List SV := (List.range k).map fun q => SV.d (.v (z.getD (q % z.length) undef))
def rowPl (sz n : Nat) : List (Nat × Nat) := (List.range n).map fun k => (k * sz, sz)
/-- The elements of a type out of their cells. -/
def decRows (ty : Ty) : Nat → List D → Option (List (den ty))
  | 0, [] => some []
  | 0, _ :: _ => none
  | n + 1, ds => match dec ty (ds.take (size ty)), decRows ty n (ds.drop (size ty)) with
    | some x, some r => some (x :: r)
    | _, _ => none
theorem decRows_spec {ty : Ty} : ∀ {n : Nat} {ds : List D} {l : List (den ty)}, decRows ty n ds = some l → l.length = n ∧ ds.length = n * size ty ∧ ∀ (i : Nat) (x : den ty), l[i]? = some x → ∀ (j : Nat) (c : D), (enc ty x)[j]? = some c → ∃ d, ds[i * size ty + j]? = some d ∧ ∀ {S : Cells} {w : World} {u : Value}, Rd S w d u → Rd S w c u
  | 0, [], l, h => by
    simp only [decRows, Option.some.injEq] at h
    subst h
    exact ⟨rfl, by simp, fun i x hi => by simp at hi⟩
  | 0, _ :: _, l, h => by simp [decRows] at h
  | n + 1, ds, l, h => by
    unfold decRows at h
    split at h
    · rename_i x r h1 h2
      injection h with h
      subst h
      obtain ⟨q1, q2⟩ := dec_rd h1
      obtain ⟨k1, k2, k3⟩ := decRows_spec h2
      rw [List.length_take] at q1
      rw [List.length_drop] at k2
      have hs : (n + 1) * size ty = n * size ty + size ty := Nat.succ_mul _ _
      have hd : ds.length = (n + 1) * size ty := by
        rcases Nat.eq_zero_or_pos (n * size ty) with e | e
        · have : size ty ≤ ds.length := by omega
          omega
        · omega
      refine ⟨by simp [k1], hd, fun i y hi j c hc => ?_⟩
      have hj := enc_lt hc
      cases i with
      | zero =>
        simp at hi
        subst hi
        have hjd : j < ds.length := by omega
        refine ⟨ds[j], by rw [Nat.zero_mul, Nat.zero_add, List.getElem?_eq_getElem hjd], fun {S w u} hr => q2 j c ds[j] hc ?_ hr⟩
        rw [List.getElem?_take, if_pos hj, List.getElem?_eq_getElem hjd]
      | succ i =>
        simp at hi
        obtain ⟨d, d1, d2⟩ := k3 i y hi j c hc
        refine ⟨d, ?_, d2⟩
        rw [List.getElem?_drop] at d1
        rw [Nat.succ_mul, ← d1]
        congr 1; omega
    · cases h
theorem buildSlice_run {a : Act} {w : World} {c : Cx} {t e sz len : Nat} {zs : List Value} {z : Value} {i : TypeInfo} {xs : Array (Nat × Operand)} {ss : List (Nat × SV)} {cs : List SV} (hu : P.underlying t = some (.slice e)) (hi : P.info? e = some i) (hsz : i.size = sz) (hz : i.zero = some z) (hzs : z.cells.toList = zs)
    (h1 : ∀ u ∈ zs, u.oneCell' = true) (hzl : zs.length = sz) (hsm : len * sz ≤ 16777216) (l1 : xs.size = ss.length) (l2 : ∀ (i : Nat) (p : Nat × SV) (q : Nat × Value), ss[i]? = some p → (xs.toList.map fun y => (y.1, a.eval y.2))[i]? = some q → p.1 = q.1 ∧ SRel c w p.2 q.2 ∧ ∀ id, p.2 = .os id → (c.H id).cells = #[c.H id] ∧ (c.H id).oneCell' = true)
    (hf : fillS (rowPl sz len) (zeroRow zs (len * sz)) ss = some cs) :
    ∃ us : List Value, (Instr.buildSlice t len (xs.map fun (i, x) => (i, a.eval x))).run P w = .ok (.slice (some ⟨w.heap.size, 0, none⟩) len len) (w.alloc (.cells us.toArray e)) ∧ us.length = cs.length ∧ (∀ u ∈ us, u.oneCell' = true) ∧ ∀ (j : Nat) (s : SV) (u : Value), cs[j]? = some s → us[j]? = some u → SRel c w s u := by
  subst hzs
  have hparts : (xs.map fun (i, x) => (i, a.eval x)).toList = xs.toList.map fun y => (y.1, a.eval y.2) := by simp
  have hzget : ∀ q, q < len * sz → 0 < sz := fun q hq => by
    rcases Nat.eq_zero_or_pos sz with h | h
    · rw [h] at hq; omega
    · exact h
  have harr : ∀ q, q < len * sz → ((Array.range (len * sz)).map (z.cells[· % z.cells.size]!)).toList[q]? = some (z.cells.toList.getD (q % z.cells.toList.length) undef) := fun q hq => by
    have hp := hzget q hq
    have hm : q % z.cells.size < z.cells.size := Nat.mod_lt _ (by rw [← Array.length_toList]; omega)
    simp [hq]
    rw [getElem!_pos z.cells _ hm, Array.getElem?_eq_getElem hm]
    rfl
  obtain ⟨arr, q1, q2, q3, q4⟩ := fill_rel (c := c) (w := w) (pl := rowPl sz len) (place := fun i => some (i * sz, sz)) (fun i p hp => by
      have hl := (List.getElem?_eq_some_iff.1 hp).1
      simp only [rowPl, List.length_map, List.length_range] at hl
      simp [rowPl, hl] at hp
      rw [← hp]) ss (xs.toList.map fun y => (y.1, a.eval y.2)) (zeroRow z.cells.toList (len * sz)) ((Array.range (len * sz)).map (z.cells[· % z.cells.size]!)) cs (by simp [l1]) l2 (by simp [zeroRow]) (fun u hu => by
      obtain ⟨q, hq, rfl⟩ := List.getElem_of_mem hu
      have hql : q < len * sz := by simpa using hq
      have := harr q hql
      rw [List.getElem?_eq_getElem hq] at this
      injection this with this
      rw [this]
      have hm : q % z.cells.toList.length < z.cells.toList.length := Nat.mod_lt _ (by have := hzget q hql; omega)
      rw [List.getD_eq_getElem?_getD, List.getElem?_eq_getElem hm]
      exact h1 _ (List.getElem_mem hm)) (fun j s u hj hu => by
      have hjl : j < len * sz := by have := (List.getElem?_eq_some_iff.1 hj).1; simpa [zeroRow] using this
      rw [harr j hjl] at hu
      injection hu with hu
      simp only [zeroRow, List.getElem?_map, List.getElem?_range hjl, Option.map_some, Option.some.injEq] at hj
      subst hj; subst hu
      exact .d _ _ (.v _)) hf
  refine ⟨arr.toList, ?_, q2, q3, q4⟩
  rw [Array.toArray_toList]
  by_cases h0 : len * sz = 0
  · have hfe : Instr.fill (fun i => some (i * sz, sz)) #[] (xs.toList.map fun y => (y.1, a.eval y.2)) = some arr := by
      rw [h0] at q1
      have e : (Array.range 0).map (fun x => z.cells[x % z.cells.size]!) = #[] := by simp
      rw [e] at q1; exact q1
    have er : Array.range 0 = #[] := rfl
    simp [Instr.buildSlice, run_underlying hu, sizeOf, typeInfo, hi, hsz, h0, newRow, hfe, er]
  · exact run_buildSlice w t e len _ arr i z hu hi hz (by rw [hsz]; omega) (by rw [hsz]; exact h0) (by rw [hsz, hparts]; exact q1)
/-- The parts as data, and the rows that are given up for them. -/
def partsD (m : Mem) (ρ : Operand → SV) : List (Nat × Operand) → Option (List (Nat × SV) × List Nat)
  | [] => some ([], [])
  | (i, x) :: r => match dataOf m (ρ x), partsD m ρ r with
    | some (d, is), some (ds, js) => some ((i, .d d) :: ds, is ++ js)
    | _, _ => none
theorem partsD_rel {m : Mem} {ρ : Operand → SV} {a : Act} {w : World} {c c' : Cx} (hop : ∀ x, SRel c w (ρ x) (a.eval x)) (h : OX m.ob m.U m.tp w c) {ids0 : List Nat} (h' : OX (ovr m.ob (fzU m.ob ids0)) m.U m.tp w c') (t : Tr m.ob m.U w c (ovr m.ob (fzU m.ob ids0)) m.U w c') (hH : c'.H = c.H) :
    ∀ {xs : List (Nat × Operand)} {ss : List (Nat × SV)} {ids : List Nat}, partsD m ρ xs = some (ss, ids) → (∀ i ∈ ids, i ∈ ids0) → xs.length = ss.length ∧ ∀ (i : Nat) (p : Nat × SV) (q : Nat × Value), ss[i]? = some p → (xs.map fun y => (y.1, a.eval y.2))[i]? = some q → p.1 = q.1 ∧ SRel c' w p.2 q.2 ∧ ∀ id, p.2 = .os id → (c'.H id).cells = #[c'.H id] ∧ (c'.H id).oneCell' = true
  | [], ss, ids, hd, _ => by
    simp only [partsD, Option.some.injEq, Prod.mk.injEq] at hd
    rw [← hd.1]
    exact ⟨rfl, fun i p q hp => by simp at hp⟩
  | (i0, x) :: r, ss, ids, hd, hi => by
    unfold partsD at hd
    split at hd
    · rename_i d is ds js h1 h2
      injection hd with hd
      injection hd with e1 e2
      subst e1 e2
      obtain ⟨k1, k2⟩ := partsD_rel hop h h' t hH h2 (fun i hm => hi i (by simp [hm]))
      refine ⟨by simp [k1], fun i p q hp hq => ?_⟩
      cases i with
      | zero =>
        simp at hp hq
        subst hp hq
        exact ⟨rfl, .d _ _ (dataOf_rel h h' t hH (ρ x) h1 (fun i hm => hi i (by simp [hm])) (hop x)), fun id e => by cases e⟩
      | succ i => simp at hp hq; exact k2 i p q hp (by simpa using hq)
    · cases hd
def eBuildSlice (P : Program) (τ : TypeId → Option Ty) (m : Mem) (ρ : Operand → SV) (k : Nat) (t : TypeId) (len : Nat) (xs : Array (Nat × Operand)) : Option ERes :=
  match elemOf P t with
  | none => none
  | some e => match τ e, zeroOf P e, partsD m ρ xs.toList with
    | some ty, some zs, some (ss, ids) => match fillS (rowPl (size ty) len) (zeroRow zs (len * size ty)) ss with
      | some cs => match dOf cs with
        | some ds => match decRows ty len ds with
          | some l => bif Nat.beq (tsz P e) (size ty) && Nat.beq zs.length (size ty) && Nat.ble (len * size ty) 16777216 && Nat.ble len 16777216 && Nat.ble 1 (size ty) then some ⟨[], [], .os k, (k, some (.row e ty l)) :: fzU m.ob ids, 1⟩ else none
          | none => none
        | none => none
      | none => none
    | _, _, _ => none
theorem eBuildSlice_ok {τ : TypeId → Option Ty} {o : Oper} {m : Mem} {ρ : Operand → SV} {k : Nat} {t : TypeId} {len : Nat} {xs : Array (Nat × Operand)} {R : ERes} (he : o.op = .buildSlice t len xs) (h : eBuildSlice P τ m ρ k t len xs = some R) : EffR P o m ρ k R := by
  intro a w c hr hk hp K Q hK
  unfold eBuildSlice at h
  split at h
  · cases h
  · rename_i e hel
    split at h
    · rename_i ty zs ss ids hty hz hparts
      split at h
      · rename_i cs hf
        split at h
        · rename_i ds hds
          split at h
          · rename_i l hl
            cases hb : (Nat.beq (tsz P e) (size ty) && Nat.beq zs.length (size ty) && Nat.ble (len * size ty) 16777216 && Nat.ble len 16777216 && Nat.ble 1 (size ty)) with
            | false => rw [hb] at h; cases h
            | true =>
              rw [hb] at h
              injection h with h
              subst h
              simp only [Bool.and_eq_true] at hb
              obtain ⟨⟨⟨⟨b1, b2⟩, b3⟩, b4⟩, b5⟩ := hb
              have b1 := beq_eq b1
              have b2 := beq_eq b2
              have b3 := Nat.le_of_ble_eq_true b3
              have b4 := Nat.le_of_ble_eq_true b4
              have b5 := Nat.le_of_ble_eq_true b5
              obtain ⟨i, hu, hi, hsz⟩ := elemOf_spec hel
              obtain ⟨i', z, hi', hz', hzc, h1⟩ := zeroOf_spec hz
              rw [hi] at hi'
              injection hi' with hi'
              subst hi'
              obtain ⟨c1, ox1, t1, e1, e2⟩ := hr.ox.freezes ids
              obtain ⟨p1, p2⟩ := partsD_rel hr.op hr.ox ox1 t1 e1 hparts (fun _ h => h)
              obtain ⟨us, q1, q2, q3, q4⟩ := buildSlice_run (P := P) (a := a) (w := w) (c := c1) (xs := xs) hu hi (hsz.trans b1) hz' hzc h1 b2 b3 (by simpa using p1) p2 hf
              have hcs := dOf_spec hds
              obtain ⟨d1, d2, d3⟩ := decRows_spec hl
              have hk' : ¬ m.U k := hk k (Nat.le_refl _) (by show k < k + 1; omega)
              obtain ⟨r1, r2⟩ := ox1.new hk' (x := .row e ty l) (v := .slice (some ⟨w.heap.size, 0, none⟩) len len) (.cells us.toArray e) trivial (fun c' g1 g2 g3 g4 g5 => by
                show RowAt _ _ _ _ _ _ _
                refine ⟨by omega, .inr ⟨w.heap.size, len, us.toArray, by rw [g1, d1], g2, heap_alloc_new w _, by omega, by simp only [maxLen]; omega, ?_, fun i x hx j d hd => ?_⟩⟩
                · rw [List.size_toArray, q2, hcs, List.length_map, d2]
                · obtain ⟨d', hd', hrd⟩ := d3 i x hx j d hd
                  have hlt : i * size ty + j < us.length := by
                    have := (List.getElem?_eq_some_iff.1 hd').1
                    rw [q2, hcs, List.length_map]; exact this
                  have := q4 (i * size ty + j) (.d d') _ (by rw [hcs, List.getElem?_map, hd']; rfl) (List.getElem?_eq_getElem hlt)
                  refine ⟨us[i * size ty + j], by simp [hlt], q3 _ (List.getElem_mem hlt), hrd ?_⟩
                  rw [g3]
                  exact (srel_d this).mono (fun _ _ h => h) (fun b o' hs => World.cell?_of_block (heap_alloc_old w _ (ox1.sb b o' hs))))
              refine wp_value (v := .slice (some ⟨w.heap.size, 0, none⟩) len len) (w' := w.alloc (.cells us.toArray e)) (by simp only [execOp, he, Sem.run_bind, q1, Result.andThen_ok]; rfl) (hK _ ⟨c1.S, put c1.H k (.slice (some ⟨w.heap.size, 0, none⟩) len len), put c1.F k (· = w.heap.size), c1.T⟩ _ ?_ ?_ ?_ (.inr ⟨Nat.le_refl _, by show k < k + 1; omega⟩) trivial)
              · show OX (ovr m.ob (_ :: _)) (addN m.U k 1) _ _ _
                rw [ovr_cons, addN_one]; exact r1
              · show Tr _ _ _ _ (ovr m.ob (_ :: _)) (addN m.U k 1) _ _
                rw [ovr_cons, addN_one]; exact t1.trans r2
              · have := SRel.os (c := ⟨c1.S, put c1.H k (.slice (some ⟨w.heap.size, 0, none⟩) len len), put c1.F k (· = w.heap.size), c1.T⟩) (w := w.alloc (.cells us.toArray e)) k
                dsimp only at this
                rw [put_same] at this
                exact this
          · cases h
        · cases h
      · cases h
    · cases h
/-- What an operation does, computed: a call apart. -/
def liftE : Option PRes → Option ERes
  | some R => some ⟨R.ps, R.fs, R.r, [], 0⟩
  | none => none
theorem pure_ok {o : Oper} {m : Mem} {ρ : Operand → SV} {k : Nat} {R : ERes} {R' : PRes} (hR : R = ⟨R'.ps, R'.fs, R'.r, [], 0⟩) (h : ∀ a w c, RelsC m ρ a w c → allL R'.ps → ∃ v, (execOp a.eval o).run P w = .ok (.value v) w ∧ SRel c w R'.r v ∧ R'.r.inU m.U ∧ allL R'.fs) : EffR P o m ρ k R := by
  subst hR
  intro a w c hr hk hp K Q hK
  obtain ⟨v, h1, h2, h3, h4⟩ := h a w c hr hp
  refine wp_value h1 (hK v c w ?_ ?_ h2 ?_ h4)
  · show OX (ovr m.ob []) (addN m.U k 0) _ _ _
    rw [addN_zero]; exact hr.ox
  · show Tr _ _ _ _ (ovr m.ob []) (addN m.U k 0) _ _
    rw [addN_zero]; exact .refl
  · show R'.r.inU (addN m.U k 0)
    rw [addN_zero]; exact h3
def isAppend : Op → Option (TypeId × Operand × Operand)
  | .call ⟨.builtin .append, args, tys⟩ => match args.toList, tys.toList with
    | [x, y], [t, t'] => bif Nat.beq t t' then some (t, x, y) else none
    | _, _ => none
  | _ => none
theorem isAppend_spec {o : Op} {t : TypeId} {x y : Operand} (h : isAppend o = some (t, x, y)) : o = .call ⟨.builtin .append, #[x, y], #[t, t]⟩ := by
  unfold isAppend at h
  split at h
  · rename_i args tys
    split at h
    · rename_i x' y' t' t'' ha ht
      cases hb : Nat.beq t' t'' with
      | false => rw [hb] at h; cases h
      | true =>
        rw [hb] at h
        have hb := beq_eq hb
        subst hb
        injection h with h
        injection h with h1 h2
        injection h2 with h2 h3
        subst h1 h2 h3
        rw [arr1 ha, arr1 ht]
    · cases h
  · cases h
def eop0 (P : Program) (τ : TypeId → Option Ty) (m : Mem) (ρ : Operand → SV) (k : Nat) (o : Oper) : Option ERes :=
  match o.op with
  | .alloc e => eAlloc P k e
  | .box _ x => eBoxV m k (ρ x)
  | .build t xs => match pBuild P m ρ t xs with
    | some r => some ⟨[], [], r, [], 0⟩
    | none => none
  | .buildSlice t len xs => eBuildSlice P τ m ρ k t len xs
  | .store t x y => eStore P m t (ρ x) (ρ y)
  | .slice t x lo hi none => liftE (pSlice P m ρ t (ρ x) lo hi)
  | _ => match isAppend o.op with
    | some (t, x, y) => eAppend P τ m k t (ρ x) (ρ y)
    | none => liftE (pop P m ρ o)
theorem liftE_eq {x : Option PRes} {R : ERes} (h : liftE x = some R) : ∃ R', x = some R' ∧ R = ⟨R'.ps, R'.fs, R'.r, [], 0⟩ := by
  cases x with
  | none => cases h
  | some R' => exact ⟨R', rfl, (Option.some.inj h).symm⟩
theorem eop0_ok {τ : TypeId → Option Ty} {m : Mem} {ρ : Operand → SV} {k : Nat} {o : Oper} {R : ERes} (h : eop0 P τ m ρ k o = some R) : EffR P o m ρ k R := by
  unfold eop0 at h
  split at h
  · rename_i e he; exact eAlloc_ok he h
  · rename_i e x he; exact eBoxV_ok he h
  · rename_i t xs he
    split at h
    · rename_i r hr
      injection h with h
      subst h
      refine pure_ok (R' := ⟨[], [], r⟩) rfl fun a w c hrel _ => ?_
      obtain ⟨v, h1, h2, h3⟩ := pBuild_run (P := P) hr hrel.toRels
      exact ⟨v, by simp [execOp, he, h1], h2, h3, trivial⟩
    · cases h
  · rename_i t len xs he; exact eBuildSlice_ok he h
  · rename_i t x y he; exact eStore_ok he h
  · rename_i t x lo hi he
    obtain ⟨R', hR', rfl⟩ := liftE_eq h
    refine pure_ok rfl fun a w c hrel hp => ?_
    obtain ⟨v, h1, h2, h3, h4⟩ := pSlice_run (P := P) hR' hrel.toRels hp
    exact ⟨v, by simp [execOp, he, h1], h2, h3, h4⟩
  · split at h
    · rename_i t x y ha
      exact eAppend_ok (isAppend_spec ha) h
    · obtain ⟨R', hR', rfl⟩ := liftE_eq h
      exact pure_ok rfl fun a w c hrel hp => pop_run (P := P) hR' hrel hp
end RE
end Go.Proofs.YtpeggkeenboacaaGreat
namespace Go.Proofs.YtpeggkeenboacaaGreat
open Go.RowKit
set_option linter.unusedVariables false
namespace RE
variable {P : Program}
/-- A write into a row. -/
theorem OX.writeRow {ob : Obs} {U : Nat → Prop} {tp : Bool} {w : World} {c : Cx} (h : OX ob U tp w c) {id g n cap : Nat} {e : TypeId} {t : Ty} {l l' : List (den t)} (hid : ob id = some (.row e t l)) (hH : c.H id = .slice (some ⟨g, 0, none⟩) n cap) {o : Nat} {vs : List Value} (hlen : l'.length = l.length) (hfit : o + vs.length ≤ l.length * size t) (hne : l ≠ [])
    (h1 : ∀ u ∈ vs, u.oneCell' = true)
    (hnew : ∀ i x, l'[i]? = some x → ∀ j d, (enc t x)[j]? = some d → (o ≤ i * size t + j ∧ ∃ u, vs[i * size t + j - o]? = some u ∧ Rd c.S w d u) ∨ ((i * size t + j < o ∨ o + vs.length ≤ i * size t + j) ∧ ∃ (i' : Nat) (x' : den t), i' = i ∧ l[i']? = some x' ∧ (enc t x')[j]? = some d)) :
    (∀ q, q < vs.length → (w.cell? ⟨g, o + q, none⟩).isSome = true ∧ w.frozen? ⟨g, o + q, none⟩ = false) ∧
    OX (put ob id (some (.row e t l'))) U tp (w.setCells g o vs) c ∧ Tr ob U w c (put ob id (some (.row e t l'))) U (w.setCells g o vs) c := by
  obtain ⟨hUid, _, h0, ⟨e1, _⟩ | ⟨g', cap', cur, hv, hF, hg, k1, k2, k3, k4⟩⟩ := h.objs id _ hid
  · exact absurd e1 hne
  rw [hH] at hv
  injection hv with e1 e2 e3
  injection e1 with e1
  injection e1 with e1
  subst e1 e2 e3
  have hf := h.fb id _ hid rfl g ((hF g).2 rfl)
  obtain ⟨o1, o2, o3, o4, o5⟩ := setCells_os g vs o w
  have hfit' : o + vs.length ≤ cur.size := by
    rw [k3]
    exact Nat.le_trans hfit (Nat.mul_le_mul_right _ k1)
  refine ⟨fun q hq => ⟨by rw [cell_row hg, Array.getElem?_eq_getElem (by omega)]; rfl, by simp [World.frozen?, hg]⟩, ?_⟩
  refine h.upd id (.row e t l') (fun i => i ≠ id) (fun _ h => h) hUid (put_same _ _ _) (fun i y hi e => ⟨e, by rw [put_ne _ _ e] at hi; exact hi⟩) (fun e => e rfl) (fun _ _ => ⟨rfl, rfl⟩) (fun _ _ h => h) (fun _ _ h => .inl h) (fun b' o hb' => by rw [o4]; exact h.sb b' o hb') rfl o1 o2 o3 (Nat.le_of_eq o4.symm)
    (fun k hk hn => o5 k (fun e => hn id _ hid rfl (fun e => e rfl) (by rw [e]; exact (hF g).2 rfl))) ?_ trivial (fun _ k hk => .inl ⟨id, _, hid, rfl, fun e => e rfl, hk⟩) (fun _ k hk => by rw [o4]; exact ⟨(h.fb id _ hid rfl k hk).1, (h.fb id _ hid rfl k hk).2.1⟩)
  have hrd : ∀ {d : D} {u : Value}, Rd c.S w d u → Rd c.S (w.setCells g o vs) d u := fun hr => hr.mono (fun _ _ h => h) (fun b' o hs => World.cell?_of_block (o5 b' (fun e => hf.2.1 o (e ▸ hs))))
  have hg' : w.heap[g]? = some (.cells cur.toList.toArray e (0, 0)) := by simpa using hg
  have hh := heap_setCells_at g vs o w cur.toList e (0, 0) hg' (by simpa using hfit')
  refine ⟨h0, .inr ⟨g, cap, _, by rw [hH, hlen], hF, hh, by rw [hlen]; exact k1, k2, ?_, fun q y hq p d hd => ?_⟩⟩
  · rw [List.size_toArray, spl_len (by simpa using hfit')]; simpa using k3
  · rw [List.getElem?_toArray, spl_get (by simpa using hfit')]
    rcases hnew q y hq p d hd with ⟨a1, u, a2, a3⟩ | ⟨a1, i', x', a0, a2, a3⟩
    · have hl : q * size t + p - o < vs.length := (List.getElem?_eq_some_iff.1 a2).1
      refine ⟨u, ?_, h1 u (List.mem_of_getElem? a2), hrd a3⟩
      rw [if_neg (by omega), if_pos (by omega)]; exact a2
    · subst a0
      obtain ⟨u, u1, u2, u3⟩ := k4 i' x' a2 p d a3
      refine ⟨u, ?_, u2, hrd u3⟩
      rcases a1 with c1 | c1
      · rw [if_pos c1]; simpa using u1
      · rw [if_neg (by omega), if_neg (by omega)]; simpa using u1
theorem put_self {ob : Obs} {id : Nat} {x : Option Ob} (h : ob id = x) : put ob id x = ob := by
  funext i
  by_cases e : i = id
  · subst e; rw [put_same, h]
  · rw [put_ne _ _ e]
/-- A row's handle. -/
theorem row_handle {ob : Obs} {U : Nat → Prop} {tp : Bool} {w : World} {c : Cx} (h : OX ob U tp w c) {id : Nat} {e : TypeId} {t : Ty} {l : List (den t)} (hid : ob id = some (.row e t l)) : ∃ ad cap, c.H id = .slice ad l.length cap ∧ l.length ≤ cap ∧ (l = [] ∨ ∃ g, ad = some ⟨g, 0, none⟩) := by
  obtain ⟨_, _, h0, ⟨e1, ⟨ad, e2⟩, e3⟩ | ⟨g', cap', cur, hv, hF, hg, k1, k2, k3, k4⟩⟩ := h.objs id _ hid
  · exact ⟨ad, 0, by rw [e2, e1]; rfl, by rw [e1]; exact Nat.le_refl _, .inl e1⟩
  · exact ⟨_, _, hv, k1, .inr ⟨g', rfl⟩⟩
theorem ovr_one (ob : Obs) (id : Nat) (x : Option Ob) : ovr ob [(id, x)] = put ob id x := by rw [ovr_cons, ovr_nil]
theorem castL_same' (t : Ty) (l : List (den t)) : castL t t l = some l := by
  have hb : ∀ t : Ty, t.beq t = true := fun t => by
    induction t with
    | int _ => simp [Ty.beq]
    | bool => rfl
    | str => rfl
    | sl t ih => exact ih
    | st _ => exact Nat.beq_refl _
  unfold castL
  rw [dif_pos (hb t)]
/-! ### clear -/
def isClear : Op → Option (TypeId × Operand)
  | .call ⟨.builtin .clear, args, tys⟩ => match args.toList, tys.toList with
    | [x], [t] => some (t, x)
    | _, _ => none
  | _ => none
theorem isClear_spec {o : Op} {t : TypeId} {x : Operand} (h : isClear o = some (t, x)) : o = .call ⟨.builtin .clear, #[x], #[t]⟩ := by
  unfold isClear at h
  split at h
  · rename_i args tys
    split at h
    · rename_i x' t' ha ht
      injection h with h
      injection h with h1 h2
      subst h1 h2
      rw [arr1 ha, arr1 ht]
    · cases h
  · cases h
def eClear (P : Program) (m : Mem) (t : TypeId) : SV → Option ERes
  | .sub id sz a b => match m.ob id, elemOf P t with
    | some (.row e ty l), some e' => match zeroOf P e' with
      | some zs => match dec ty (zs.map D.v) with
        | some z => bif Nat.beq sz (size ty) && Nat.beq zs.length (size ty) then some ⟨[], [], .d (.v (.tuple #[])), [(id, some (.row e ty (l.take a.toNat ++ (List.replicate (b.toNat - a.toNat) z ++ l.drop b.toNat))))], 0⟩ else none
        | none => none
      | none => none
    | _, _ => none
  | _ => none
theorem zeroCells_list (z : Array Value) (n : Nat) : (Builtin.zeroCells z n).toList = (List.range (n * z.size)).map fun i => z[i % z.size]! := by
  simp [Builtin.zeroCells]
theorem eClear_ok {o : Oper} {m : Mem} {ρ : Operand → SV} {k : Nat} {t : TypeId} {x : Operand} {R : ERes} (he : o.op = .call ⟨.builtin .clear, #[x], #[t]⟩) (h : eClear P m t (ρ x) = some R) : EffR P o m ρ k R := by
  intro ac w c hr hk hp K Q hK
  have hx := hr.op x
  unfold eClear at h
  split at h
  · rename_i id sz a b hxe
    rw [hxe] at hx
    split at h
    · rename_i e ty l e' hob hel
      split at h
      · rename_i zs hz
        split at h
        · rename_i z hdz
          cases hb : (Nat.beq sz (size ty) && Nat.beq zs.length (size ty)) with
          | false => rw [hb] at h; cases h
          | true =>
            rw [hb] at h
            injection h with h
            subst h
            obtain ⟨b1, b2⟩ := Bool.and_eq_true_iff.1 hb
            have b1 := beq_eq b1
            have b2 := beq_eq b2
            subst b1
            obtain ⟨ad, cap, hH, hcap, had⟩ := row_handle hr.ox hob
            obtain ⟨ad', n', cap', hH', hu, hab1, hab2, hab3⟩ := srel_sub hx
            rw [hH] at hH'
            injection hH' with q1 q2 q3
            subst q1 q2 q3
            obtain ⟨inf, hund, hinf, hsz⟩ := elemOf_spec hel
            obtain ⟨i2, z2, hi2, hz2, hzc0, hone⟩ := zeroOf_spec hz
            have hzc := hzc0
            have eob : ∀ l', ovr m.ob [(id, some (.row e ty l'))] = put m.ob id (some (.row e ty l')) := fun l' => ovr_one _ _ _
            by_cases hlt : a.toNat < b.toNat
            · have hne : l ≠ [] := by intro e0; rw [e0] at hab3; simp at hab3; omega
              obtain ⟨g, rfl⟩ := had.resolve_left hne
              rw [subV_len, if_neg (by omega)] at hu
              have hzsize : z2.cells.size = size ty := by rw [← b2, ← hzc, Array.length_toList]
              have hcl := zeroCells_list z2.cells (b.toNat - a.toNat)
              have hvl : (Builtin.zeroCells z2.cells (b.toNat - a.toNat)).toList.length = (b.toNat - a.toNat) * size ty := by rw [hcl]; simp [hzsize]
              have hpos : 0 < size ty := (hr.ox.objs id _ hob).2.2.1
              have hvget : ∀ q, q < (b.toNat - a.toNat) * size ty → (Builtin.zeroCells z2.cells (b.toNat - a.toNat)).toList[q]? = zs[q % size ty]? := fun q hq => by
                have hm : q % size ty < size ty := Nat.mod_lt _ hpos
                rw [hcl, ← hzc, List.getElem?_map, List.getElem?_range (by rw [hzsize]; exact hq)]
                simp only [Option.map_some, hzsize]
                rw [getElem!_pos _ _ (by rw [hzsize]; exact hm)]
                rw [Array.getElem?_toList, Array.getElem?_eq_getElem (by rw [hzsize]; exact hm)]
              have hzin : ∀ q, q < (b.toNat - a.toNat) * size ty → ∃ u, zs[q % size ty]? = some u := fun q hq => ⟨_, List.getElem?_eq_getElem (by rw [b2]; exact Nat.mod_lt _ hpos)⟩
              have hv1 : ∀ u ∈ (Builtin.zeroCells z2.cells (b.toNat - a.toNat)).toList, u.oneCell' = true := fun u hu => by
                obtain ⟨q, hq⟩ := List.getElem?_of_mem hu
                have hql : q < (b.toNat - a.toNat) * size ty := by rw [← hvl]; exact (List.getElem?_eq_some_iff.1 hq).1
                rw [hvget q hql] at hq
                have := List.mem_of_getElem? hq
                exact hone u (by first | exact this | (rw [hzc]; exact this) | (rw [← hzc] at this; exact this))
              obtain ⟨d1, d2⟩ := dec_rd hdz
              have hbl : b.toNat ≤ l.length := by omega
              have hlen : (l.take a.toNat ++ (List.replicate (b.toNat - a.toNat) z ++ l.drop b.toNat)).length = l.length := by simp; omega
              have hfit : a.toNat * size ty + (Builtin.zeroCells z2.cells (b.toNat - a.toNat)).toList.length ≤ l.length * size ty := by
                rw [hvl, ← Nat.add_mul]; exact Nat.mul_le_mul_right _ (by omega)
              obtain ⟨r0, r1, r2⟩ := hr.ox.writeRow hob hH hlen hfit hne hv1 (fun i y hi j d hd => by
                have hj := enc_lt hd
                by_cases c1 : i < a.toNat
                · right
                  rw [List.getElem?_append_left (by simp; omega), List.getElem?_take, if_pos c1] at hi
                  exact ⟨.inl (row_lt c1 hj), i, y, rfl, hi, hd⟩
                · rw [List.getElem?_append_right (by simp; omega)] at hi
                  rw [show i - (l.take a.toNat).length = i - a.toNat by simp; omega] at hi
                  by_cases c2 : i < b.toNat
                  · left
                    rw [List.getElem?_append_left (by simp; omega), List.getElem?_replicate, if_pos (by omega)] at hi
                    injection hi with hi
                    subst hi
                    have e1 : i * size ty = a.toNat * size ty + (i - a.toNat) * size ty := by rw [← Nat.add_mul]; congr 1; omega
                    have hq : (i - a.toNat) * size ty + j < (b.toNat - a.toNat) * size ty := row_lt (by omega) hj
                    refine ⟨by omega, ?_⟩
                    rw [show i * size ty + j - a.toNat * size ty = (i - a.toNat) * size ty + j by omega, hvget _ hq, (div_mod_at hj).2]
                    obtain ⟨u, hu⟩ : ∃ u, zs[j]? = some u := ⟨_, List.getElem?_eq_getElem (by rw [b2]; exact hj)⟩
                    exact ⟨u, hu, d2 j d (.v u) hd (by rw [List.getElem?_map, hu]; rfl) (.v u)⟩
                  · right
                    rw [List.getElem?_append_right (by simp; omega), List.length_replicate, List.getElem?_drop, show b.toNat + (i - a.toNat - (b.toNat - a.toNat)) = i by omega] at hi
                    refine ⟨.inr ?_, i, y, rfl, hi, hd⟩
                    rw [hvl, ← Nat.add_mul, show a.toNat + (b.toNat - a.toNat) = b.toNat by omega]
                    exact Nat.le_trans (Nat.mul_le_mul_right _ (by omega)) (Nat.le_add_right _ _))
              have hst := run_storeCells_cells (P := P) g (a.toNat * size ty) (Builtin.zeroCells z2.cells (b.toNat - a.toNat)).toList 0 w (fun q hq => by have := (r0 q hq).1; simpa using this) (fun q hq => by have := (r0 q hq).2; simpa using this) hv1
              rw [Nat.add_zero] at hst
              have hnz : b.toNat - a.toNat ≠ 0 := by omega
              obtain ⟨nn, hnn⟩ : ∃ nn, b.toNat - a.toNat = nn + 1 := ⟨b.toNat - a.toNat - 1, by omega⟩
              have hst2 : (storeCells { block := g, off := a.toNat * size ty, spot := none } (Builtin.zeroCells z2.cells (nn + 1)).toList).run P w = .ok () (w.setCells g (a.toNat * size ty) (Builtin.zeroCells z2.cells (b.toNat - a.toNat)).toList) := by rw [← hnn]; exact hst
              refine wp_value (v := .tuple #[]) (w' := w.setCells g (a.toNat * size ty) (Builtin.zeroCells z2.cells (b.toNat - a.toNat)).toList) ?_ (hK _ c _ ?_ ?_ (.d _ _ (.v _)) trivial trivial)
              · rw [hnn] at hu
                simp [execOp, he, resolve, invoke, builtin, hu, Builtin.clear_, run_underlying hund, zeroValue, typeInfo, hi2, hz2, addr_add, hst2]
              · rw [eob, addN_zero]; exact r1
              · rw [eob, addN_zero]; exact r2
            · have hz0 : b.toNat - a.toNat = 0 := by omega
              have hl' : l.take a.toNat ++ (List.replicate (b.toNat - a.toNat) z ++ l.drop b.toNat) = l := by
                rw [hz0, show b.toNat = a.toNat by omega]; simp
              rw [subV_len, hz0] at hu
              refine wp_value (v := .tuple #[]) (w' := w) ?_ (hK _ c _ ?_ ?_ (.d _ _ (.v _)) trivial trivial)
              · cases had2 : (if cap = a.toNat then ad else ad.map (·.add (a.toNat * size ty))) <;> rw [had2] at hu <;> simp [execOp, he, resolve, invoke, builtin, hu, Builtin.clear_, run_underlying hund]
              · rw [eob, hl', put_self hob, addN_zero]; exact hr.ox
              · rw [eob, hl', put_self hob, addN_zero]; exact .refl
        · cases h
      · cases h
    · cases h
  · cases h
/-! ### an append into the row that it reads -/
def eAppIn (P : Program) (m : Mem) (t : TypeId) : SV → SV → Option ERes
  | .sub id sz a b, .sub id' sz' a' b' => match m.ob id with
    | some (.row e ty l) => match appTy P t (size ty) with
      | some (e', bs) => bif Nat.beq id id' && Nat.beq sz (size ty) && Nat.beq sz' (size ty) then some ⟨[a = 0 ∧ b ≤ a'], [], .sub id sz 0 (b + (b' - a')), [(id, some (.row e ty (l.take b.toNat ++ (sub l a' b' ++ l.drop (b.toNat + (b'.toNat - a'.toNat))))))], 0⟩ else none
      | none => none
    | _ => none
  | _, _ => none
theorem eAppIn_ok {o : Oper} {m : Mem} {ρ : Operand → SV} {k : Nat} {t : TypeId} {x y : Operand} {R : ERes} (he : o.op = .call ⟨.builtin .append, #[x, y], #[t, t]⟩) (h : eAppIn P m t (ρ x) (ρ y) = some R) : EffR P o m ρ k R := by
  intro ac w c hr hk hp K Q hK
  have hx := hr.op x
  have hxu := hr.iu x
  have hy := hr.op y
  unfold eAppIn at h
  split at h
  · rename_i id sz a b id' sz' a' b' hxe hye
    rw [hxe] at hx hxu
    rw [hye] at hy
    split at h
    · rename_i e ty l hob
      split at h
      · rename_i e' bs hat
        cases hb : (Nat.beq id id' && Nat.beq sz (size ty) && Nat.beq sz' (size ty)) with
        | false => rw [hb] at h; cases h
        | true =>
          rw [hb] at h
          injection h with h
          subst h
          simp only [Bool.and_eq_true] at hb
          have b1 := beq_eq hb.1.1
          have b2 := beq_eq hb.1.2
          have b3 := beq_eq hb.2
          subst b1 b2 b3
          obtain ⟨⟨p1, p2⟩, _⟩ := hp
          subst p1
          obtain ⟨i, z, t1, t2, t3, t4, t5, t6, t7, t8⟩ := appTy_spec hat
          have hrow : rowOf m id = some ⟨ty, l⟩ := by unfold rowOf; rw [hob]
          have hsrc0 : srcOf m ty (.sub id (size ty) a' b') = some (sub l a' b') := by
            simp [srcOf, hrow, castL_same']
          obtain ⟨⟨fy, hsrc, hy1, hy2⟩, hl2⟩ := srcOf_ok (P := P) hsrc0 hr.ox hy t1 (by omega)
          obtain ⟨ad, cap, hH, hcap, had⟩ := row_handle hr.ox hob
          obtain ⟨ad', n', cap', hH', hu, hab1, hab2, hab3⟩ := srel_sub hx
          rw [hH] at hH'
          injection hH' with q1 q2 q3
          subst q1 q2 q3
          obtain ⟨ad', n', cap', hH', hv, hab1', hab2', hab3'⟩ := srel_sub hy
          rw [hH] at hH'
          injection hH' with q1 q2 q3
          subst q1 q2 q3
          have hsl := sub_len (l := l) ⟨hab1', hab2', hab3'⟩
          have eob : ∀ l', ovr m.ob [(id, some (.row e ty l'))] = put m.ob id (some (.row e ty l')) := fun l' => ovr_one _ _ _
          have hB : (b + (b' - a')).toNat = b.toNat + (b'.toNat - a'.toNat) := by omega
          rw [subV_len, Int.toNat_zero, Nat.zero_mul, Nat.sub_zero, Nat.sub_zero] at hu
          have e0 : (if cap = 0 then ad else ad.map (·.add 0)) = ad := by split <;> cases ad <;> simp [Addr.add]
          rw [e0] at hu
          have hres : SRel c w (.sub id (size ty) 0 (b + (b' - a'))) (.slice ad (b.toNat + (b'.toNat - a'.toNat)) cap) := by
            have := SRel.sub (c := c) (w := w) id (size ty) 0 (b + (b' - a')) ad l.length cap hH (by omega)
            rw [subV_len, Int.toNat_zero, Nat.zero_mul, Nat.sub_zero, Nat.sub_zero, e0, hB] at this
            exact this
          by_cases hl0 : l = []
          · have hb0 : b.toNat = 0 := by rw [hl0] at hab3; simp at hab3; omega
            have hm0 : (sub l a' b').length = 0 := by rw [hsl]; rw [hl0] at hab3'; simp at hab3'; omega
            have hs0 : sub l a' b' = [] := List.eq_nil_of_length_eq_zero hm0
            rw [hm0] at hsrc
            simp only [Nat.zero_mul, List.range_zero, List.map_nil] at hsrc
            have hm1 : b'.toNat - a'.toNat = 0 := by omega
            have hl' : l.take b.toNat ++ (sub l a' b' ++ l.drop (b.toNat + (b'.toNat - a'.toNat))) = l := by rw [hs0, hm1, hl0]; simp
            have hrun := run_append_nothing (P := P) w t t o.type e' i t1 t2 ad b.toNat cap (by omega) (ac.eval y) (by rw [t5]; exact hsrc)
            rw [hb0] at hu
            refine wp_value (v := .slice ad 0 cap) (w' := w) ?_ (hK _ c _ ?_ ?_ ?_ (.inl hxu) trivial)
            · rw [hb0] at hrun
              simp [execOp, he, resolve, invoke, builtin, hu, hrun]
            · rw [eob, hl', put_self hob, addN_zero]; exact hr.ox
            · rw [eob, hl', put_self hob, addN_zero]; exact .refl
            · rw [hb0, hm1] at hres; exact hres
          · obtain ⟨g, rfl⟩ := had.resolve_left hl0
            have hvl : ((List.range ((sub l a' b').length * size ty)).map (fun q => fy (q / size ty) (q % size ty))).length = (b'.toNat - a'.toNat) * size ty := by simp [hsl]
            have hv1 : ∀ u ∈ ((List.range ((sub l a' b').length * size ty)).map (fun q => fy (q / size ty) (q % size ty))), u.oneCell' = true := by
              have := hsrc.one; exact this
            have hlen : (l.take b.toNat ++ (sub l a' b' ++ l.drop (b.toNat + (b'.toNat - a'.toNat)))).length = l.length := by simp only [List.length_append, List.length_take, List.length_drop, hsl]; omega
            have hfit : b.toNat * size ty + ((List.range ((sub l a' b').length * size ty)).map (fun q => fy (q / size ty) (q % size ty))).length ≤ l.length * size ty := by
              rw [hvl, ← Nat.add_mul]; exact Nat.mul_le_mul_right _ (by omega)
            obtain ⟨r0, r1, r2⟩ := hr.ox.writeRow hob hH hlen hfit hl0 hv1 (fun i y hi j d hd => by
              have hj := enc_lt hd
              by_cases c1 : i < b.toNat
              · right
                rw [List.getElem?_append_left (by simp; omega), List.getElem?_take, if_pos c1] at hi
                exact ⟨.inl (row_lt c1 hj), i, y, rfl, hi, hd⟩
              · rw [List.getElem?_append_right (by simp; omega)] at hi
                rw [show i - (l.take b.toNat).length = i - b.toNat by simp; omega] at hi
                by_cases c2 : i < b.toNat + (b'.toNat - a'.toNat)
                · left
                  rw [List.getElem?_append_left (by rw [hsl]; omega)] at hi
                  have e1 : i * size ty = b.toNat * size ty + (i - b.toNat) * size ty := by rw [← Nat.add_mul]; congr 1; omega
                  refine ⟨by omega, fy (i - b.toNat) j, ?_, hy2 _ y j d hi hd⟩
                  rw [show i * size ty + j - b.toNat * size ty = (i - b.toNat) * size ty + j by omega, getElem?_flat (row_lt (by rw [hsl]; omega) hj), (div_mod_at hj).1, (div_mod_at hj).2]
                · right
                  rw [List.getElem?_append_right (by rw [hsl]; omega), hsl, List.getElem?_drop, show b.toNat + (b'.toNat - a'.toNat) + (i - b.toNat - (b'.toNat - a'.toNat)) = i by omega] at hi
                  refine ⟨.inr ?_, i, y, rfl, hi, hd⟩
                  rw [hvl, ← Nat.add_mul]
                  exact Nat.le_trans (Nat.mul_le_mul_right _ (by omega)) (Nat.le_add_right _ _))
            have hrun := run_append_room_src (P := P) (w := w) t t o.type e' i t1 t2 g 0 b.toNat cap (ac.eval y) (sub l a' b').length _ (by rw [t5]; exact hsrc) (by rw [hsl]; omega) (fun q hq => by rw [t5, Nat.zero_add]; exact (r0 q hq).1) (fun q hq => by rw [t5, Nat.zero_add]; exact (r0 q hq).2)
            rw [t5, Nat.zero_add, hsl] at hrun
            rw [← hsl] at hrun
            refine wp_value (v := .slice (some ⟨g, 0, none⟩) (b.toNat + (b'.toNat - a'.toNat)) cap) (w' := w.setCells g (b.toNat * size ty) ((List.range ((sub l a' b').length * size ty)).map (fun q => fy (q / size ty) (q % size ty)))) ?_ (hK _ c _ ?_ ?_ ?_ (.inl hxu) trivial)
            · rw [hsl] at hrun ⊢
              simp [execOp, he, resolve, invoke, builtin, hu, hrun]
            · rw [eob, addN_zero]; exact r1
            · rw [eob, addN_zero]; exact r2
            · have := SRel.sub (c := c) (w := w.setCells g (b.toNat * size ty) ((List.range ((sub l a' b').length * size ty)).map (fun q => fy (q / size ty) (q % size ty)))) id (size ty) 0 (b + (b' - a')) (some ⟨g, 0, none⟩) l.length cap hH (by omega)
              rw [subV_len, Int.toNat_zero, Nat.zero_mul, Nat.sub_zero, Nat.sub_zero, e0, hB] at this
              exact this
      · cases h
    · cases h
  · cases h
/-! ### slices of a front part; full slices -/
def pSliceX (P : Program) (m : Mem) (ρ : Operand → SV) (t : TypeId) (x : SV) (lo hi : Option Operand) : Option PRes :=
  match elemOf P t, optI ρ lo, optI ρ hi with
  | some e, some lo, some hi => match x with
    | .sub id sz a b => match rowOf m id with
      | some ⟨ty, l⟩ => bif Nat.beq (tsz P e) sz then okp (a = 0 ∧ 0 ≤ lo.getD 0 ∧ lo.getD 0 ≤ hi.getD b ∧ hi.getD b ≤ (l.length : Nat)) (.sub id sz (lo.getD 0) (hi.getD b)) else none
      | none => none
    | _ => none
  | _, _, _ => none
theorem slice_run2 {ρ : Operand → SV} {t e : TypeId} (he : elemOf P t = some e) {lo hi : Option Operand} {zlo zhi : Option Int} (hlo : optI ρ lo = some zlo) (hhi : optI ρ hi = some zhi) {a : Act} {w : World} {c : Cx} (hop : ∀ x, SRel c w (ρ x) (a.eval x)) {ad : Option Addr} {n cap : Nat} (hc : n ≤ cap)
    (hb : SubOK (zlo.getD 0) (zhi.getD (n : Nat)) (cap : Nat)) : (Instr.sliceAt t (.slice ad n cap) (lo.map a.eval) (hi.map a.eval) none).run P w = .ok (subV (tsz P e) (zlo.getD 0).toNat (zhi.getD (n : Nat)).toNat (.slice ad n cap)) w := by
  obtain ⟨inf, hu, hi', hs⟩ := elemOf_spec he
  have key : ∀ {o : Option Operand} {z : Option Int}, optI ρ o = some z → o.map a.eval = z.map (fun z => Value.int .i64 z) := fun {o z} h => by
    cases o with
    | none => simp only [optI, Option.some.injEq] at h; subst h; rfl
    | some x =>
      have hx := hop x
      have h : intS (ρ x) = some z := h
      unfold intS at h
      split at h
      · rename_i z' hz
        injection h with h
        subst h
        rw [hz] at hx
        simp [srel_v hx]
      · cases h
  rw [key hlo, key hhi]
  obtain ⟨h1, h2, h3⟩ := hb
  cases zlo with
  | none =>
    cases zhi with
    | none => simp at h1 h2 h3; simp [Instr.sliceAt, Instr.slice, run_underlying hu, Instr.sliceBounds, sizeOf, typeInfo, hi', subV]
    | some q =>
      simp at h1 h2 h3
      have b1 : 0 ≤ q ∧ q ≤ (cap : Int) := by omega
      simp [Instr.sliceAt, Instr.slice, run_underlying hu, Instr.sliceBounds, Instr.sliceBound, asIntOf, b1, sizeOf, typeInfo, hi', subV]
  | some p =>
    cases zhi with
    | none =>
      simp at h1 h2 h3
      have b2 : 0 ≤ p ∧ p ≤ (n : Int) := by omega
      simp [Instr.sliceAt, Instr.slice, run_underlying hu, Instr.sliceBounds, Instr.sliceBound, asIntOf, b2, sizeOf, typeInfo, hi', hs, subV]
    | some q =>
      simp at h1 h2 h3
      have b1 : 0 ≤ q ∧ q ≤ (cap : Int) := by omega
      have b2 : 0 ≤ p ∧ p ≤ ((q.toNat : Nat) : Int) := by omega
      simp [Instr.sliceAt, Instr.slice, run_underlying hu, Instr.sliceBounds, Instr.sliceBound, asIntOf, b1, b2, sizeOf, typeInfo, hi', hs, subV]
      exact fun hh => absurd hh (by omega)
theorem rowOf_handle {m : Mem} {w : World} {c : Cx} (ox : OX m.ob m.U m.tp w c) {id : Nat} {t : Ty} {l : List (den t)} (h : rowOf m id = some ⟨t, l⟩) : ∃ ad cap, c.H id = .slice ad l.length cap ∧ l.length ≤ cap := by
  obtain ⟨ad, cap, hv, hc, hm, _⟩ := rowOf_rel ox h
  exact ⟨ad, cap, hv, hc⟩
theorem pSliceX_run {m : Mem} {ρ : Operand → SV} {t : TypeId} {x : Operand} {lo hi : Option Operand} {R : PRes} (h : pSliceX P m ρ t (ρ x) lo hi = some R) {a : Act} {w : World} {c : Cx} (hr : Rels m ρ a w c) (hp : allL R.ps) :
    ∃ v, (Instr.sliceAt t (a.eval x) (lo.map a.eval) (hi.map a.eval) none).run P w = .ok v w ∧ SRel c w R.r v ∧ R.r.inU m.U ∧ allL R.fs := by
  unfold pSliceX at h
  have hx := hr.op x
  have hxu := hr.iu x
  split at h
  · rename_i e zlo zhi he hlo hhi
    split at h
    · rename_i id sz a0 b0 hxe
      rw [hxe] at hx hxu
      split at h
      · rename_i ty l hrow
        cases hb : Nat.beq (tsz P e) sz with
        | false => rw [hb] at h; cases h
        | true =>
          rw [hb] at h
          have hb := beq_eq hb
          cases okp_eq h
          obtain ⟨⟨p0, p1, p2, p3⟩, _⟩ := hp
          subst p0
          obtain ⟨ad, cap, hH, hcap⟩ := rowOf_handle hr.ox hrow
          obtain ⟨ad', n', cap', hH', hu, hab1, hab2, hab3⟩ := srel_sub hx
          rw [hH] at hH'
          injection hH' with q1 q2 q3
          subst q1 q2 q3
          rw [subV_len, Int.toNat_zero, Nat.zero_mul, Nat.sub_zero, Nat.sub_zero] at hu
          have e0 : (if cap = 0 then ad else ad.map (·.add 0)) = ad := by split <;> cases ad <;> simp [Addr.add]
          rw [e0] at hu
          have hbn : ((b0.toNat : Nat) : Int) = b0 := Int.toNat_of_nonneg hab2
          refine ⟨_, by rw [hu]; exact slice_run2 he hlo hhi hr.op (by omega) (n := b0.toNat) (cap := cap) (by rw [hbn]; exact ⟨p1, p2, by omega⟩), ?_, hxu, trivial⟩
          rw [hbn, hb]
          have := SRel.sub (c := c) (w := w) id sz (zlo.getD 0) (zhi.getD b0) ad l.length cap hH ⟨p1, p2, p3⟩
          have e2 : subV sz (zlo.getD 0).toNat (zhi.getD b0).toNat (.slice ad b0.toNat cap) = subV sz (zlo.getD 0).toNat (zhi.getD b0).toNat (.slice ad l.length cap) := rfl
          rw [e2]; exact this
      · cases h
    · cases h
  · cases h
/-- s[lo:hi:max], of which nothing more is asked. -/
def pSlice3 (P : Program) (m : Mem) (ρ : Operand → SV) (t : TypeId) (x : SV) (lo hi mx : Operand) : Option PRes :=
  match elemOf P t, intS (ρ lo), intS (ρ hi), intS (ρ mx) with
  | some e, some (some lo), some (some hi), some (some mx) => match x with
    | .os id => match rowOf m id with
      | some ⟨ty, l⟩ => okp (0 ≤ lo ∧ lo ≤ hi ∧ hi ≤ mx ∧ mx ≤ (l.length : Nat)) .un
      | none => none
    | _ => none
  | _, _, _, _ => none
theorem intS_rel {s : SV} {z : Int} (h : intS s = some (some z)) {c : Cx} {w : World} {u : Value} (hs : SRel c w s u) : u = .int .i64 z := by
  unfold intS at h
  split at h
  · rename_i z'
    injection h with h
    injection h with h
    subst h
    exact srel_v hs
  · cases h
theorem pSlice3_run {m : Mem} {ρ : Operand → SV} {t : TypeId} {x lo hi mx : Operand} {R : PRes} (h : pSlice3 P m ρ t (ρ x) lo hi mx = some R) {a : Act} {w : World} {c : Cx} (hr : Rels m ρ a w c) (hp : allL R.ps) :
    ∃ v, (Instr.sliceAt t (a.eval x) (some (a.eval lo)) (some (a.eval hi)) (some (a.eval mx))).run P w = .ok v w ∧ SRel c w R.r v ∧ R.r.inU m.U ∧ allL R.fs := by
  unfold pSlice3 at h
  have hx := hr.op x
  split at h
  · rename_i e zlo zhi zmx he hlo hhi hmx
    split at h
    · rename_i id hxe
      rw [hxe] at hx
      split at h
      · rename_i ty l hrow
        cases okp_eq h
        obtain ⟨⟨p0, p1, p2, p3⟩, _⟩ := hp
        obtain ⟨ad, cap, hH, hcap⟩ := rowOf_handle hr.ox hrow
        rw [srel_os hx, hH, intS_rel hlo (hr.op lo), intS_rel hhi (hr.op hi), intS_rel hmx (hr.op mx)]
        obtain ⟨inf, hu, hi', hs⟩ := elemOf_spec he
        have c1 : 0 ≤ zmx ∧ zmx ≤ (cap : Int) := by omega
        have c2 : 0 ≤ zhi ∧ zhi ≤ ((zmx.toNat : Nat) : Int) := by omega
        have c3 : 0 ≤ zlo ∧ zlo ≤ ((zhi.toNat : Nat) : Int) := by omega
        have d2 : zhi ≤ max zmx 0 := by omega
        have d3 : zlo ≤ max zhi 0 := by omega
        exact ⟨_, by simp only [Instr.sliceAt, Instr.slice, Instr.sliceBounds, Instr.sliceBound, asIntOf, sizeOf, typeInfo]; simp [run_underlying hu, hi', c1, c2, c3, d2, d3]; rfl, .un _, trivial, trivial⟩
      · cases h
    · cases h
  · cases h
def isLen : Op → Option (TypeId × Operand)
  | .call ⟨.builtin .len, args, tys⟩ => match args.toList, tys.toList with
    | [x], [t] => some (t, x)
    | _, _ => none
  | _ => none
theorem isLen_spec {o : Op} {t : TypeId} {x : Operand} (h : isLen o = some (t, x)) : o = .call ⟨.builtin .len, #[x], #[t]⟩ := by
  unfold isLen at h
  split at h
  · rename_i args tys
    split at h
    · rename_i x' t' ha ht
      injection h with h
      injection h with h1 h2
      subst h1 h2
      rw [arr1 ha, arr1 ht]
    · cases h
  · cases h
def pLenX (P : Program) (t : TypeId) : SV → Option PRes
  | .sub id sz a b => match elemOf P t with
    | some _ => okf (0 ≤ a ∧ a ≤ b) (bI .i64 (b - a))
    | none => none
  | _ => none
theorem pLenX_run {t ty0 : TypeId} {x : SV} {R : PRes} (h : pLenX P t x = some R) {c : Cx} {w : World} {u : Value} (hx : SRel c w x u) : ∃ v, (Builtin.len_ #[t] ty0 #[u]).run P w = .ok v w ∧ R.r = .d (.v v) ∧ allL R.fs := by
  unfold pLenX at h
  split at h
  · rename_i id sz a b
    split at h
    · rename_i e he
      obtain ⟨inf, hu', _⟩ := elemOf_spec he
      cases okf_eq h
      obtain ⟨ad, n, cap, hH, hu, h1, h2, h3⟩ := srel_sub hx
      rw [subV_len] at hu
      have e1 : ((b.toNat - a.toNat : Nat) : Int) = b - a := by omega
      exact ⟨_, by simp [Builtin.len_, goInt, run_underlying hu', hu]; rfl, by rw [e1]; rfl, ⟨h1, h2⟩, trivial⟩
    · cases h
  · cases h
/-- Pure operations, parts of slices with them. -/
def popS (P : Program) (m : Mem) (ρ : Operand → SV) (o : Oper) : Option PRes := match o.op with
  | .slice t x lo hi none => pSlice P m ρ t (ρ x) lo hi
  | _ => pop P m ρ o
theorem popS_run {m : Mem} {ρ : Operand → SV} {o : Oper} {R : PRes} (h : popS P m ρ o = some R) {a : Act} {w : World} {c : Cx} (hr : RelsC m ρ a w c) (hp : allL R.ps) : ∃ v, (execOp a.eval o).run P w = .ok (.value v) w ∧ SRel c w R.r v ∧ R.r.inU m.U ∧ allL R.fs := by
  unfold popS at h
  split at h
  · rename_i t x lo hi he
    obtain ⟨v, h1, h2, h3, h4⟩ := pSlice_run (P := P) h hr.toRels hp
    exact ⟨v, by simp [execOp, he, h1], h2, h3, h4⟩
  · exact pop_run h hr hp
theorem popS_pop {m : Mem} {ρ : Operand → SV} {o : Oper} {R : PRes} (h : popS P m ρ o = some R) (hs : ∀ t x lo hi, o.op ≠ .slice t x lo hi none) : pop P m ρ o = some R := by
  unfold popS at h
  split at h
  · rename_i t x lo hi he
    exact absurd he (hs t x lo hi)
  · exact h
/-! ### all operations but calls -/
def eopX (P : Program) (m : Mem) (ρ : Operand → SV) (o : Oper) : Option ERes :=
  match o.op with
  | .slice t x lo hi none => match ρ x with
    | .sub _ _ _ _ => liftE (pSliceX P m ρ t (ρ x) lo hi)
    | _ => none
  | .slice t x (some lo) (some hi) (some mx) => liftE (pSlice3 P m ρ t (ρ x) lo hi mx)
  | _ => match isClear o.op with
    | some (t, x) => eClear P m t (ρ x)
    | none => match isAppend o.op with
      | some (t, x, y) => eAppIn P m t (ρ x) (ρ y)
      | none => match isLen o.op with
        | some (t, x) => liftE (pLenX P t (ρ x))
        | none => none
theorem eopX_ok {m : Mem} {ρ : Operand → SV} {k : Nat} {o : Oper} {R : ERes} (h : eopX P m ρ o = some R) : EffR P o m ρ k R := by
  unfold eopX at h
  split at h
  · rename_i t x lo hi he
    split at h
    · obtain ⟨R', hR', rfl⟩ := liftE_eq h
      refine pure_ok rfl fun a w c hrel hp => ?_
      obtain ⟨v, h1, h2, h3, h4⟩ := pSliceX_run (P := P) hR' hrel.toRels hp
      exact ⟨v, by simp [execOp, he, h1], h2, h3, h4⟩
    · cases h
  · rename_i t x lo hi mx he
    obtain ⟨R', hR', rfl⟩ := liftE_eq h
    refine pure_ok rfl fun a w c hrel hp => ?_
    obtain ⟨v, h1, h2, h3, h4⟩ := pSlice3_run (P := P) hR' hrel.toRels hp
    exact ⟨v, by simp [execOp, he, h1], h2, h3, h4⟩
  · split at h
    · rename_i t x hc
      exact eClear_ok (isClear_spec hc) h
    · split at h
      · rename_i t x y ha
        exact eAppIn_ok (isAppend_spec ha) h
      · split at h
        · rename_i t x hl
          have he := isLen_spec hl
          obtain ⟨R', hR', rfl⟩ := liftE_eq h
          refine pure_ok rfl fun a w c hrel hp => ?_
          obtain ⟨v, h1, h2, h3⟩ := pLenX_run (P := P) (ty0 := o.type) hR' (hrel.toRels.op x)
          exact ⟨v, by simp [execOp, he, resolve, invoke, builtin, h1], by rw [h2]; exact v_srel v, by rw [h2]; trivial, h3⟩
        · cases h
def eop1 (P : Program) (τ : TypeId → Option Ty) (m : Mem) (ρ : Operand → SV) (k : Nat) (o : Oper) : Option ERes := match eopX P m ρ o with
  | some R => some R
  | none => eop0 P τ m ρ k o
theorem eop1_ok {τ : TypeId → Option Ty} {m : Mem} {ρ : Operand → SV} {k : Nat} {o : Oper} {R : ERes} (h : eop1 P τ m ρ k o = some R) : EffR P o m ρ k R := by
  unfold eop1 at h
  split at h
  · rename_i R' hR'
    injection h with h
    subst h
    exact eopX_ok hR'
  · exact eop0_ok h
end RE
end Go.Proofs.YtpeggkeenboacaaGreat
namespace Go.Proofs.YtpeggkeenboacaaGreat
open Go.RowKit
set_option linter.unusedVariables false
namespace RE
variable {P : Program}
def isZ0 : Int → Bool
  | .ofNat 0 => true
  | _ => false
theorem isZ0_eq {a : Int} (h : isZ0 a = true) : a = 0 := by
  unfold isZ0 at h
  split at h
  · rfl
  · cases h
theorem OX.front {ob : Obs} {U : Nat → Prop} {tp : Bool} {w : World} {c : Cx} (hox : OX ob U tp w c) {k id sz : Nat} {b : Int} {e : TypeId} {ty : Ty} {l : List (den ty)} {v : Value} (hk : ¬ U k) (hob : ob id = some (.row e ty l)) (hsz : sz = size ty) (hs : SRel c w (.sub id sz 0 b) v) :
    ∃ c', OX (put (put ob id none) k (some (.row e ty (l.take b.toNat)))) (addN U k 1) tp w c' ∧ Tr ob U w c (put (put ob id none) k (some (.row e ty (l.take b.toNat)))) (addN U k 1) w c' ∧ c'.H k = v ∧ (∀ i, U i → c'.H i = c.H i) ∧ v.cells = #[v] ∧ v.oneCell' = true := by
  subst hsz
  obtain ⟨ad, n, cap, hH, hv, hab1, hab2, hab3⟩ := srel_sub hs
  have hid : U id := (hox.objs id _ hob).1
  have hne : id ≠ k := fun e => hk (e ▸ hid)
  have e0 : (if cap = 0 then ad else ad.map (·.add 0)) = ad := by split <;> cases ad <;> simp [Addr.add]
  rw [subV_len, Int.toNat_zero, Nat.zero_mul, Nat.sub_zero, Nat.sub_zero, e0] at hv
  obtain ⟨_, _, hrow⟩ := hox.objs id _ hob
  have hrow' : RowAt w c.S v (c.F id) e ty (l.take b.toNat) := by
    obtain ⟨h0, ⟨e1, ⟨ad', e2⟩, e3⟩ | ⟨g, cap', cur, e2, e3, e4, e5, e6, e7, e8⟩⟩ := hrow
    · rw [hH] at e2
      injection e2 with q1 q2 q3
      subst q1 q2 q3
      refine ⟨h0, .inl ⟨by rw [e1]; simp, ⟨ad, ?_⟩, e3⟩⟩
      rw [hv]; congr 1; omega
    · rw [hH] at e2
      injection e2 with q1 q2 q3
      subst q1 q2 q3
      have hl : (l.take b.toNat).length = b.toNat := by rw [List.length_take]; omega
      refine ⟨h0, .inr ⟨g, cap, cur, by rw [hv, hl], e3, e4, by rw [hl]; omega, e6, e7, fun i x hx j d hd => e8 i x ?_ j d hd⟩⟩
      rw [List.getElem?_take] at hx
      split at hx
      · exact hx
      · cases hx
  have hUk : addN U k 1 k := .inr ⟨Nat.le_refl _, by omega⟩
  have main := hox.upd (c' := ⟨c.S, put c.H k v, put c.F k (c.F id), c.T⟩) (w' := w) (ob' := put (put ob id none) k (some (.row e ty (l.take b.toNat)))) (U' := addN U k 1) k (.row e ty (l.take b.toNat)) (fun i => i ≠ id ∧ i ≠ k)
    (fun i hi => .inl hi) hUk (put_same _ _ _) (fun i y hi e1 => by
      rw [put_ne _ _ e1] at hi
      by_cases e2 : i = id
      · subst e2; rw [put_same] at hi; cases hi
      · rw [put_ne _ _ e2] at hi; exact ⟨⟨e2, e1⟩, hi⟩) (fun e1 => e1.2 rfl) (fun i hi => by
        have : i ≠ k := fun e => hk (e ▸ hi)
        exact ⟨put_ne _ _ this, put_ne _ _ this⟩) (fun _ _ h => h) (fun _ _ h => .inl h) (fun b o hb => hox.sb b o hb)
    rfl rfl rfl rfl (Nat.le_refl _) (fun _ _ _ => rfl) (by
      show RowAt w c.S (put c.H k v k) (put c.F k (c.F id) k) e ty (l.take b.toNat)
      rw [put_same, put_same]; exact hrow') trivial (fun _ x hk => by
      have hk : put c.F k (c.F id) k x := hk
      rw [put_same] at hk
      exact .inl ⟨id, _, hob, rfl, fun q => q.1 rfl, hk⟩) (fun _ x hk => by
      have hk : put c.F k (c.F id) k x := hk
      rw [put_same] at hk
      exact ⟨(hox.fb id _ hob rfl x hk).1, (hox.fb id _ hob rfl x hk).2.1⟩)
  refine ⟨_, main.1, main.2, put_same _ _ _, fun i hi => put_ne _ _ (fun e => hk (e ▸ hi)), ?_, ?_⟩
  · rw [hv]; rfl
  · rw [hv]; rfl
def eStoreSub (P : Program) (m : Mem) (k : Nat) (t : TypeId) : SV → SV → Option ERes
  | .bx id off, .sub rid sz a b => match m.ob id with
    | some (.box cs) => match m.ob rid with
      | some (.row e ty l) => bif isZ0 a && Nat.beq sz (size ty) && szTy P t 1 && Nat.ble (off + 1) cs.length then some ⟨[], [], .un, [(id, some (.box (spl cs off [.os k]))), (k, some (.row e ty (l.take b.toNat))), (rid, none)], 1⟩ else none
      | _ => none
    | _ => none
  | _, _ => none
theorem eStoreSub_ok {o : Oper} {m : Mem} {ρ : Operand → SV} {k : Nat} {t : TypeId} {x y : Operand} {R : ERes} (he : o.op = .store t x y) (h : eStoreSub P m k t (ρ x) (ρ y) = some R) : EffR P o m ρ k R := by
  intro a w c hr hk hp K Q hK
  have hx := hr.op x
  have hy := hr.op y
  unfold eStoreSub at h
  split at h
  · rename_i id off rid sz za zb hxe hye
    rw [hxe] at hx
    rw [hye] at hy
    split at h
    · rename_i cs hob
      split at h
      · rename_i e ty l hrob
        cases hb : (isZ0 za && Nat.beq sz (size ty) && szTy P t 1 && Nat.ble (off + 1) cs.length) with
        | false => rw [hb] at h; cases h
        | true =>
          rw [hb] at h
          injection h with h
          subst h
          simp only [Bool.and_eq_true] at hb
          obtain ⟨⟨⟨b1, b2⟩, b3⟩, b4⟩ := hb
          have b1 := isZ0_eq b1
          have b2 := beq_eq b2
          have b4 := Nat.le_of_ble_eq_true b4
          subst b1
          have hkU : ¬ m.U k := hk k (Nat.le_refl _) (by show k < k + 1; omega)
          obtain ⟨c', o1, t1, hHk, hHi, hvc, hv1⟩ := hr.ox.front hkU hrob b2 hy
          obtain ⟨b, hbH, hbu⟩ := srel_bx hx
          have hidU : m.U id := (hr.ox.objs id _ hob).1
          have hidk : id ≠ k := fun e => hkU (e ▸ hidU)
          have hidr : id ≠ rid := fun e => by rw [e, hrob] at hob; cases hob
          have hob1 : put (put m.ob rid none) k (some (.row e ty (l.take zb.toNat))) id = some (.box cs) := by
            rw [put_ne _ _ hidk, put_ne _ _ hidr]; exact hob
          have hbH1 : c'.H id = .pointer (some ⟨b, 0, none⟩) := (hHi id hidU).trans hbH
          obtain ⟨_, _, b', arr, t', q1, q2, q3, q4, q5, q6⟩ := o1.objs id _ hob1
          rw [hbH1] at q1
          injection q1 with q1
          injection q1 with q1
          injection q1 with q1
          subst q1
          have hvl : (a.eval y).cells.toList = [a.eval y] := by rw [hvc]
          have hst := run_store (P := P) t w b off (a.eval y) (by rw [hvl]; exact b3) (fun j hj => by rw [hvl] at hj; simp at hj; rw [cell_row q3, List.getElem?_toArray, List.getElem?_eq_getElem (by omega)]; rfl) (fun j hj => by simp [World.frozen?, q3]) (by rw [hvl]; intro v hv; rw [List.mem_singleton] at hv; rw [hv]; exact hv1)
          obtain ⟨r1, r2⟩ := o1.store (off := off) (ks := [.os k]) (vs := (a.eval y).cells.toList) hob1 hbH1 (by rw [hvl]; rfl) b4 (by rw [hvl]; intro v hv; rw [List.mem_singleton] at hv; rw [hv]; exact hv1) (fun j s u hs hu => by
            rw [hvl] at hu
            cases j with
            | zero =>
              simp at hs hu
              subst hs hu
              have := SRel.os (c := c') (w := w) k
              rw [hHk] at this
              exact this
            | succ j => simp at hs) ⟨.inr ⟨Nat.le_refl _, by omega⟩, trivial⟩
          have eo : ovr m.ob [(id, some (.box (spl cs off [.os k]))), (k, some (.row e ty (l.take zb.toNat))), (rid, none)] = put (put (put m.ob rid none) k (some (.row e ty (l.take zb.toNat)))) id (some (.box (spl cs off [.os k]))) := by
            rw [ovr_cons, ovr_cons, ovr_cons, ovr_nil]
          refine wp_skip' (w' := w.setCells b off (a.eval y).cells.toList) (by simp [execOp, he, hbu, hst]) (hK _ c' _ ?_ ?_ (.un _) trivial trivial)
          · rw [eo]; exact r1
          · rw [eo]; exact t1.trans r2
      · cases h
    · cases h
  · cases h
def eopM (P : Program) (τ : TypeId → Option Ty) (m : Mem) (ρ : Operand → SV) (k : Nat) (o : Oper) : Option ERes := match o.op with
  | .store t x y => match eStoreSub P m k t (ρ x) (ρ y) with
    | some R => some R
    | none => none
  | _ => none
theorem eopM_ok {τ : TypeId → Option Ty} {m : Mem} {ρ : Operand → SV} {k : Nat} {o : Oper} {R : ERes} (h : eopM P τ m ρ k o = some R) : EffR P o m ρ k R := by
  unfold eopM at h
  split at h
  · rename_i t x y he
    split at h
    · rename_i R' hR'
      injection h with h
      subst h
      exact eStoreSub_ok he hR'
    · cases h
  · cases h
def eop (P : Program) (τ : TypeId → Option Ty) (m : Mem) (ρ : Operand → SV) (k : Nat) (o : Oper) : Option ERes := match eop1 P τ m ρ k o with
  | some R => some R
  | none => eopM P τ m ρ k o
theorem eop_ok {τ : TypeId → Option Ty} {m : Mem} {ρ : Operand → SV} {k : Nat} {o : Oper} {R : ERes} (h : eop P τ m ρ k o = some R) : EffR P o m ρ k R := by
  unfold eop at h
  split at h
  · rename_i R' hR'
    injection h with h
    subst h
    exact eop1_ok hR'
  · exact eopM_ok h
end RE
end Go.Proofs.YtpeggkeenboacaaGreat
namespace Go.Proofs.YtpeggkeenboacaaGreat
open Go.RowKit
set_option linter.unusedVariables false
namespace RE
variable {P : Program}
def look : List (Nat × SV) → Nat → SV
  | [], _ => .un
  | (k, v) :: r, x => bif Nat.beq k x then v else look r x
def lookO : List (Nat × Option Ob) → Obs
  | [], _ => none
  | (k, v) :: r, x => bif Nat.beq k x then v else lookO r x
theorem beq_ne {a b : Nat} (h : a ≠ b) : Nat.beq a b = false := by
  cases hb : Nat.beq a b with
  | false => rfl
  | true => exact absurd (beq_eq hb) h
theorem look_cons (k : Nat) (v : SV) (l : List (Nat × SV)) (x : Nat) : look ((k, v) :: l) x = if k = x then v else look l x := by
  show (bif Nat.beq k x then v else look l x) = _
  by_cases h : k = x
  · subst h; simp
  · rw [beq_ne h, if_neg h]; rfl
theorem lookO_cons (k : Nat) (v : Option Ob) (l : List (Nat × Option Ob)) : lookO ((k, v) :: l) = put (lookO l) k v := by
  funext x
  show (bif Nat.beq k x then v else lookO l x) = _
  by_cases h : x = k
  · subst h; rw [put_same]; simp
  · rw [beq_ne (fun e => h e.symm), put_ne _ _ h]; rfl
theorem lookO_app : ∀ (l r : List (Nat × Option Ob)), lookO (l ++ r) = ovr (lookO r) l
  | [], r => rfl
  | (k, v) :: l, r => by rw [List.cons_append, lookO_cons, ovr_cons, lookO_app l r]
mutual
/-- The objects that are named have numbers below n. -/
def SV.lowN (n : Nat) : SV → Bool
  | .bx id _ => Nat.blt id n
  | .os id => Nat.blt id n
  | .sub id _ _ _ => Nat.blt id n
  | .op id _ _ _ => Nat.blt id n
  | .agg cs => belowL n cs
  | .tup cs => belowL n cs
  | .fn _ cs => belowL n cs
  | .cnd _ _ _ x => x.lowN n
  | .d _ => true
  | .tp => true
  | .un => true
  | .ns id => Nat.blt id n
  | .np id _ _ _ => Nat.blt id n
  | .inn id _ => Nat.blt id n
  | .ip id _ _ _ _ => Nat.blt id n
def belowL (n : Nat) : List SV → Bool
  | [] => true
  | s :: r => s.lowN n && belowL n r
end
mutual
theorem SV.lowN_inU {n : Nat} : ∀ (s : SV), s.lowN n = true → s.inU (fun i => i < n)
  | .bx id _, h => Nat.le_of_ble_eq_true h
  | .os id, h => Nat.le_of_ble_eq_true h
  | .sub id _ _ _, h => Nat.le_of_ble_eq_true h
  | .op id _ _ _, h => Nat.le_of_ble_eq_true h
  | .agg cs, h => belowL_inU cs h
  | .tup cs, h => belowL_inU cs h
  | .fn _ cs, h => belowL_inU cs h
  | .cnd _ _ _ x, h => SV.lowN_inU x h
  | .d _, _ => trivial
  | .tp, _ => trivial
  | .un, _ => trivial
  | .ns id, h => Nat.le_of_ble_eq_true h
  | .np id _ _ _, h => Nat.le_of_ble_eq_true h
  | .inn id _, h => Nat.le_of_ble_eq_true h
  | .ip id _ _ _ _, h => Nat.le_of_ble_eq_true h
theorem belowL_inU {n : Nat} : ∀ (cs : List SV), belowL n cs = true → inUL (fun i => i < n) cs
  | [], _ => trivial
  | s :: r, h => ⟨SV.lowN_inU s (Bool.and_eq_true_iff.1 h).1, belowL_inU r (Bool.and_eq_true_iff.1 h).2⟩
end
/-- The objects of a state; the next number that is free; is the tape at hand. -/
structure MS where
  ob : List (Nat × Option Ob)
  nx : Nat
  tp : Bool
def MS.obs (m : MS) : Obs := lookO m.ob
def MS.U (m : MS) : Nat → Prop := fun i => i < m.nx
def MS.mem (m : MS) : Mem := ⟨m.obs, m.U, m.tp⟩
structure St where
  sl : List (Nat × SV)
  ms : MS
  n : Nat
  gs : List Nat
  gd : List Nat
def St.ev (st : St) : Operand → SV
  | .tmp t => bif Nat.blt t st.n then look st.sl t else .un
  | .const v => .d (.v v)
  | .func f => .d (.v (.func (.func f) #[] #[]))
  | .global _ => .un
abbrev TrM (m : MS) (w : World) (c : Cx) (m' : MS) (w' : World) (c' : Cx) : Prop := Tr m.obs m.U w c m'.obs m'.U w' c'
abbrev OXM (m : MS) (w : World) (c : Cx) : Prop := OX m.obs m.U m.tp w c
def has (l : List Nat) (x : Nat) : Bool := match l with
  | [] => false
  | y :: r => Nat.beq y x || has r x
theorem has_cons {y x : Nat} {r : List Nat} : has (y :: r) x = true ↔ y = x ∨ has r x = true := by
  show (Nat.beq y x || has r x) = true ↔ _
  rw [Bool.or_eq_true]
  exact ⟨fun h => h.imp beq_eq id, fun h => h.imp (fun e => by rw [e]; simp) id⟩
/-- The guard's condition, as the slot of the bool has it. -/
def guardG (want : Bool) : SV → Option Bool
  | .d (.v (.bool b)) => some (gx want b)
  | .cnd _ _ g (.d (.v (.bool b))) => some (g && gx want b)
  | _ => none
/-- The frame and the world are as the state says. -/
structure RX (st : St) (a : Act) (w : World) (c : Cx) : Prop where
  ox : OXM st.ms w c
  sz : a.tmps.size = st.n
  sl : ∀ (x : Nat) (u : Value), a.tmps[x]? = some u → SRel c w (look st.sl x) u
  us : ∀ x, (look st.sl x).inU st.ms.U
  cn : ∀ x q wt g y, look st.sl x = .cnd q wt g y → has st.gs q = true ∧ has st.gd x = true ∧ ∀ G, guardG wt (look st.sl q) = some G → g = G
theorem RX.ev {st : St} {a : Act} {w : World} {c : Cx} (h : RX st a w c) (x : Operand) : SRel c w (st.ev x) (a.eval x) := by
  cases x with
  | tmp t =>
    show SRel c w (bif Nat.blt t st.n then look st.sl t else .un) (a.tmps.getD t undef)
    cases hb : Nat.blt t st.n with
    | false => exact .un _
    | true =>
      have hlt : t < a.tmps.size := by rw [h.sz]; exact Nat.le_of_ble_eq_true hb
      have := h.sl t _ (Array.getElem?_eq_getElem hlt)
      rw [Array.getD_eq_getD_getElem?, Array.getElem?_eq_getElem hlt]
      exact this
  | const v => exact .d _ _ (.v v)
  | func f => exact .d _ _ (.v _)
  | global g => exact .un _
theorem RX.evU {st : St} {a : Act} {w : World} {c : Cx} (h : RX st a w c) (x : Operand) : (st.ev x).inU st.ms.U := by
  cases x with
  | tmp t =>
    show (bif Nat.blt t st.n then look st.sl t else .un).inU _
    cases hb : Nat.blt t st.n with
    | false => exact trivial
    | true => exact h.us t
  | const v => trivial
  | func f => trivial
  | global g => trivial
theorem RX.evC {st : St} {a : Act} {w : World} {c : Cx} (h : RX st a w c) : CnOK st.ev := by
  intro x q wt g y b hx hq
  cases x with
  | tmp t =>
    have hx : (bif Nat.blt t st.n then look st.sl t else .un) = .cnd q wt g y := hx
    have hq : (bif Nat.blt q st.n then look st.sl q else .un) = .d (.v (.bool b)) := hq
    cases hb : Nat.blt t st.n with
    | false => rw [hb] at hx; cases hx
    | true =>
      rw [hb] at hx
      cases hc : Nat.blt q st.n with
      | false => rw [hc] at hq; cases hq
      | true => rw [hc] at hq; exact (h.cn t q wt g y hx).2.2 (gx wt b) (by simp only [cond_true] at hq; rw [hq]; rfl)
  | const v => cases hx
  | func f => cases hx
  | global g => cases hx
theorem RX.rels {st : St} {a : Act} {w : World} {c : Cx} (h : RX st a w c) : RelsC st.ms.mem st.ev a w c := ⟨⟨h.ox, h.ev, h.evU⟩, h.evC⟩
/-- A word that is under no guard. -/
def noC : SV → SV
  | .cnd _ _ _ _ => .un
  | s => s
theorem noC_rel {c : Cx} {w : World} {s : SV} {u : Value} (h : SRel c w s u) : SRel c w (noC s) u := by
  unfold noC
  split
  · exact .un _
  · exact h
theorem noC_inU {U : Nat → Prop} {s : SV} (h : s.inU U) : (noC s).inU U := by
  unfold noC
  split
  · trivial
  · exact h
theorem noC_ne {s : SV} {q : Nat} {wt g : Bool} {y : SV} : noC s ≠ .cnd q wt g y := by
  unfold noC
  split
  · exact fun e => by cases e
  · rename_i h; exact fun e => h _ _ _ _ e
/-- The slot that a result goes to. -/
def dstOK (st : St) : Option Nat → Bool
  | none => true
  | some d => Nat.blt d st.n && !(has st.gs d)
def putD (d : Option Nat) (r : SV) (l : List (Nat × SV)) : List (Nat × SV) := match d with
  | some d => (d, r) :: l
  | none => l
def St.set (st : St) (d : Option Nat) (r : SV) (m : MS) : St := ⟨putD d (noC r) st.sl, m, st.n, st.gs, st.gd⟩
/-- A result and a new memory. -/
theorem RX.set {st : St} {a : Act} {w w' : World} {c c' : Cx} (h : RX st a w c) {m : MS} (ht : TrM st.ms w c m w' c') (hox : OXM m w' c') {d : Option Nat} (hd : dstOK st d = true) {r : SV} {v : Value} (hr : SRel c' w' r v) (hu : r.inU m.U) : RX (st.set d r m) (a.put d v) w' c' := by
  have hs : ∀ (x : Nat) (u : Value), a.tmps[x]? = some u → SRel c' w' (look st.sl x) u := fun x u hx => ht.srel h.ox (h.sl x u hx) (h.us x)
  have hU : ∀ x, (look st.sl x).inU m.U := fun x => SV.inU_mono ht.uU _ (h.us x)
  cases d with
  | none => exact ⟨hox, h.sz, hs, hU, h.cn⟩
  | some d =>
    obtain ⟨d1, d2⟩ := Bool.and_eq_true_iff.1 hd
    have hdl : d < a.tmps.size := by rw [h.sz]; exact Nat.le_of_ble_eq_true d1
    have d2 : has st.gs d = false := by simpa using d2
    refine ⟨hox, ?_, fun x u hx => ?_, fun x => ?_, fun x q wt g y hx => ?_⟩
    · show (a.tmps.setIfInBounds d v).size = _
      rw [Array.size_setIfInBounds]; exact h.sz
    · show SRel c' w' (look ((d, noC r) :: st.sl) x) u
      have hx : (a.tmps.setIfInBounds d v)[x]? = some u := hx
      rw [Array.getElem?_setIfInBounds] at hx
      rw [look_cons]
      split at hx
      · rename_i e
        rw [if_pos e]
        injection hx with hx
        rw [← hx]; exact noC_rel hr
      · rename_i e
        rw [if_neg e]
        exact hs x u hx
    · show (look ((d, noC r) :: st.sl) x).inU m.U
      rw [look_cons]
      split
      · exact noC_inU hu
      · exact hU x
    · have hx : look ((d, noC r) :: st.sl) x = .cnd q wt g y := hx
      rw [look_cons] at hx
      split at hx
      · exact absurd hx noC_ne
      · obtain ⟨k1, k2, k3⟩ := h.cn x q wt g y hx
        refine ⟨k1, k2, fun G hb => k3 G ?_⟩
        have hb : guardG wt (look ((d, noC r) :: st.sl) q) = some G := hb
        rw [look_cons] at hb
        split at hb
        · rename_i e; rw [← e, d2] at k1; cases k1
        · exact hb
/-- A result under a guard (slot q), in an unchanged memory. -/
def St.setG (st : St) (d : Nat) (q : Nat) (want g : Bool) (r : SV) : St := ⟨(d, .cnd q want g (noC r)) :: st.sl, st.ms, st.n, q :: st.gs, d :: st.gd⟩
theorem RX.setG {st : St} {a : Act} {w w' : World} {c c' : Cx} (h : RX st a w c) (ht : TrM st.ms w c st.ms w' c') (hox : OXM st.ms w' c') {d : Nat} (hd : dstOK st (some d) = true) {q : Nat} {want g : Bool} (hqd : q ≠ d) (hg : guardG want (look st.sl q) = some g) {r : SV} {v : Value} (hr : g = true → SRel c' w' r v) (hv : g = false → v = undef) (hu : r.inU st.ms.U) : RX (st.setG d q want g r) (a.put (some d) v) w' c' := by
  have hs : ∀ (x : Nat) (u : Value), a.tmps[x]? = some u → SRel c' w' (look st.sl x) u := fun x u hx => ht.srel h.ox (h.sl x u hx) (h.us x)
  obtain ⟨d1, d2⟩ := Bool.and_eq_true_iff.1 hd
  have hdl : d < a.tmps.size := by rw [h.sz]; exact Nat.le_of_ble_eq_true d1
  have d2 : has st.gs d = false := by simpa using d2
  refine ⟨hox, ?_, fun x u hx => ?_, fun x => ?_, fun x q' wt g' y hx => ?_⟩
  · show (a.tmps.setIfInBounds d v).size = _
    rw [Array.size_setIfInBounds]; exact h.sz
  · show SRel c' w' (look ((d, .cnd q want g (noC r)) :: st.sl) x) u
    have hx : (a.tmps.setIfInBounds d v)[x]? = some u := hx
    rw [Array.getElem?_setIfInBounds] at hx
    rw [look_cons]
    split at hx
    · rename_i e
      rw [if_pos e]
      injection hx with hx
      rw [← hx]; exact .cnd q want g _ v (fun e => noC_rel (hr e)) hv
    · rename_i e
      rw [if_neg e]
      exact hs x u hx
  · show (look ((d, .cnd q want g (noC r)) :: st.sl) x).inU st.ms.U
    rw [look_cons]
    split
    · exact noC_inU hu
    · exact h.us x
  · have hx : look ((d, .cnd q want g (noC r)) :: st.sl) x = .cnd q' wt g' y := hx
    rw [look_cons] at hx
    split at hx
    · rename_i e
      injection hx with e1 e2 e3 e4
      subst e1 e2 e3
      refine ⟨has_cons.2 (.inl rfl), has_cons.2 (.inl e), fun G hb => ?_⟩
      have hb : guardG want (look ((d, .cnd q want g (noC r)) :: st.sl) q) = some G := hb
      rw [look_cons, if_neg (fun e => hqd e.symm), hg] at hb
      exact Option.some.inj hb
    · obtain ⟨k1, k2, k3⟩ := h.cn x q' wt g' y hx
      refine ⟨has_cons.2 (.inr k1), has_cons.2 (.inr k2), fun G hb => k3 G ?_⟩
      have hb : guardG wt (look ((d, .cnd q want g (noC r)) :: st.sl) q') = some G := hb
      rw [look_cons] at hb
      split at hb
      · rename_i e; rw [← e, d2] at k1; cases k1
      · exact hb
theorem wanted_of {ops : Array Oper} {st : St} {a : Act} {w : World} {c : Cx} {o : Oper} {j dj : Nat} {want G : Bool} (ho : o.guard = some (j, want)) (hj : (ops[j]?).bind (·.dst) = some dj) (hlt : dj < st.n) (hr : RX st a w c) (hg : guardG want (look st.sl dj) = some G) : Region.wanted o (yielded ops a.tmps) = G := by
  have hdl : dj < a.tmps.size := by rw [hr.sz]; exact hlt
  have hv := hr.sl dj _ (Array.getElem?_eq_getElem hdl)
  unfold Region.wanted yielded
  simp only [ho, hj, Option.bind_some, Array.getElem?_eq_getElem hdl]
  unfold guardG at hg
  split at hg
  · rename_i b hb
    rw [hb] at hv
    rw [srel_v hv]
    injection hg with hg
    subst hg
    cases b <;> cases want <;> rfl
  · rename_i q' w' g b hb
    rw [hb] at hv
    injection hg with hg
    subst hg
    obtain ⟨h1, h2⟩ := srel_cnd hv
    cases g with
    | true =>
      rw [srel_v (h1 rfl)]
      cases b <;> cases want <;> rfl
    | false =>
      rw [h2 rfl]
      rfl
  · cases hg
/-- What an operation under a guard (slot q) sees of the others under it. -/
def stripS (q : Nat) (want : Bool) : SV → SV
  | .cnd q' w' g x => bif Nat.beq q' q && (w' == want) then noC x else .cnd q' w' g x
  | s => s
end RE
end Go.Proofs.YtpeggkeenboacaaGreat
namespace Go.Proofs.YtpeggkeenboacaaGreat
open Go.RowKit
set_option linter.unusedVariables false
namespace RE
variable {P : Program}
/-! ### what is printed -/
def Cur : List Ty → Type
  | [] => Prop
  | t :: ts => den t → Cur ts
def lam : (ts : List Ty) → (dens ts → Prop) → Cur ts
  | [], f => f ()
  | _ :: ts, f => fun x => lam ts fun r => f (x, r)
def app : (ts : List Ty) → Cur ts → dens ts → Prop
  | [], p, _ => p
  | _ :: ts, f, x => app ts (f x.1) x.2
theorem app_lam : ∀ (ts : List Ty) (f : dens ts → Prop) (x : dens ts), app ts (lam ts f) x = f x
  | [], f, x => rfl
  | _ :: ts, f, x => app_lam ts _ x.2
/-- What follows, once; then the way to it. -/
structure JOIN (ts : List Ty) (J : Cur ts) (B : Cur ts → Prop) : Prop where
  h : B J
/-- A case. -/
structure IFB (b : Bool) (x y : Prop) : Prop where
  t : b = true → x
  f : b = false → y
/-- A loop: some statement holds at its head, and each round makes a number less. -/
structure LOOP (ts : List Ty) (F : Cur ts → Cur ts) (v : dens ts) : Prop where
  h : ∃ (I : dens ts → Prop) (μ : dens ts → Nat), I v ∧ ∀ x, I x → app ts (F (lam ts fun y => I y ∧ μ y < μ x)) x
def andL : List Prop → Prop → Prop
  | [], k => k
  | p :: r, k => p ∧ andL r k
def impL : List Prop → Prop → Prop
  | [], k => k
  | p :: r, k => p → impL r k
theorem andL_spec : ∀ {l : List Prop} {k : Prop}, andL l k → allL l ∧ k
  | [], _, h => ⟨trivial, h⟩
  | p :: r, k, h => by
    obtain ⟨h1, h2⟩ := h
    obtain ⟨h3, h4⟩ := andL_spec h2
    exact ⟨⟨h1, h3⟩, h4⟩
theorem impL_spec : ∀ {l : List Prop} {k : Prop}, impL l k → allL l → k
  | [], _, h, _ => h
  | p :: r, k, h, a => impL_spec (h a.1) a.2
/-! ### calls -/
def callable (P : Program) (f : FuncId) : Bool := match P.funcs[f]? with
  | some fn => fn.body.isSome && !(fn.name == "runtime.NumGoroutine")
  | none => false
theorem run_call {f : FuncId} (hf : callable P f = true) (vals : Array Value) (w : World) : (callFunc f vals).run P w = .ok (.enter f vals) w := by
  unfold callable at hf
  split at hf
  · rename_i fn hfn
    simp only [Bool.and_eq_true, Bool.not_eq_true'] at hf
    obtain ⟨h1, h2⟩ := hf
    obtain ⟨c, hc⟩ := Option.isSome_iff_exists.1 h1
    have h3 : fn.name ≠ "runtime.NumGoroutine" := by simpa using h2
    simp [callFunc, hfn, h3, hc]
  · cases hf
/-- What was said of the objects stands behind what is new. -/
def FrM (m m' : MS) : Prop := (∃ l, m'.ob = l ++ m.ob) ∧ (m.tp = true → m'.tp = true)
theorem FrM.refl (m : MS) : FrM m m := ⟨⟨[], rfl⟩, id⟩
theorem FrM.trans {a b c : MS} (h : FrM a b) (k : FrM b c) : FrM a c := by
  obtain ⟨⟨l, h1⟩, h2⟩ := h
  obtain ⟨⟨l', k1⟩, k2⟩ := k
  exact ⟨⟨l' ++ l, by rw [k1, h1, List.append_assoc]⟩, fun e => k2 (h2 e)⟩
abbrev CP := FuncId → List SV → MS → (SV → MS → Prop) → Prop
def CallOK (P : Program) (cp : CP) : Prop := ∀ f ss m k, cp f ss m k → ∀ (us : List Value) w c, OXM m w c → us.length = ss.length → (∀ (i : Nat) (s : SV) (u : Value), ss[i]? = some s → us[i]? = some u → SRel c w s u ∧ s.inU m.U) →
  Calls P f us.toArray w fun e w' => ∃ v r m' c', e = .returned v ∧ k r m' ∧ FrM m m' ∧ OXM m' w' c' ∧ TrM m w c m' w' c' ∧ SRel c' w' r v ∧ r.inU m'.U
def fnVal : Value → Option FuncId
  | .func (.func f) a b => bif a.toList.isEmpty && b.toList.isEmpty then some f else none
  | _ => none
/-- A function value: the function, and what it captured. -/
def fnOf : SV → Option (FuncId × List SV)
  | .d (.v v) => match fnVal v with
    | some f => some (f, [])
    | none => none
  | .fn f cs => some (f, cs)
  | .d (.fn f ds) => some (f, ds.map SV.d)
  | _ => none
theorem fnOf_rel {s : SV} {f : FuncId} {cs : List SV} (h : fnOf s = some (f, cs)) {c : Cx} {w : World} {u : Value} {U : Nat → Prop} (hr : SRel c w s u) (hu : s.inU U) : ∃ us : List Value, u = .func (.func f) #[] us.toArray ∧ us.length = cs.length ∧ ∀ (i : Nat) (s : SV) (u : Value), cs[i]? = some s → us[i]? = some u → SRel c w s u ∧ s.inU U := by
  unfold fnOf at h
  split at h
  · rename_i v
    split at h
    · rename_i f' hf
      injection h with h
      injection h with h1 h2
      subst h1 h2
      refine ⟨[], ?_, rfl, fun i s u hs => by simp at hs⟩
      rw [srel_v hr]
      unfold fnVal at hf
      split at hf
      · rename_i f'' a b
        cases hb : (a.toList.isEmpty && b.toList.isEmpty) with
        | false => rw [hb] at hf; cases hf
        | true =>
          rw [hb] at hf
          injection hf with hf
          subst hf
          simp only [Bool.and_eq_true, List.isEmpty_iff] at hb
          rw [arr1 hb.1, arr1 hb.2]
      · cases hf
    · cases h
  · injection h with h
    injection h with h1 h2
    subst h1 h2
    cases hr with
    | fn _ _ us hl h => exact ⟨us, rfl, hl, fun i s u hs hv => ⟨h i s u hs hv, inUL_get hu hs⟩⟩
  · injection h with h
    injection h with h1 h2
    subst h1 h2
    cases srel_d hr with
    | fn _ _ us hl h =>
      refine ⟨us, rfl, by simp [hl], fun i s u hs hv => ?_⟩
      rw [List.getElem?_map, Option.map_eq_some_iff] at hs
      obtain ⟨x, hx, rfl⟩ := hs
      exact ⟨.d _ _ (h i x u hx hv), trivial⟩
  · cases h
/-- The function that is called, and its arguments. -/
def callT (ρ : Operand → SV) : Op → Option (FuncId × List SV)
  | .call ⟨.value x, args, _⟩ => match fnOf (ρ x) with
    | some (f, cs) => some (f, (args.toList.map ρ) ++ cs)
    | none => none
  | _ => none
theorem callT_run {m : Mem} {ρ : Operand → SV} {o : Oper} {f : FuncId} {ss : List SV} (h : callT ρ o.op = some (f, ss)) (hf : callable P f = true) {a : Act} {w : World} {c : Cx} (hop : ∀ x, SRel c w (ρ x) (a.eval x)) (hiu : ∀ x, (ρ x).inU m.U) :
    ∃ us : List Value, (execOp a.eval o).run P w = .ok (.enter f us.toArray) w ∧ us.length = ss.length ∧ ∀ (i : Nat) (s : SV) (u : Value), ss[i]? = some s → us[i]? = some u → SRel c w s u ∧ s.inU m.U := by
  unfold callT at h
  split at h
  · rename_i x args tys he
    split at h
    · rename_i f' cs hfn
      injection h with h
      injection h with h1 h2
      subst h1 h2
      obtain ⟨us, hu, hl, hr⟩ := fnOf_rel hfn (hop x) (hiu x)
      refine ⟨args.toList.map a.eval ++ us, ?_, by simp [hl], fun i s u hs hv => ?_⟩
      · have e1 : (args.toList.map a.eval ++ us).toArray = args.map a.eval ++ us.toArray := by
          apply Array.ext'; simp
        rw [e1]
        simp [execOp, he, resolve, hu, Deferred.ofValue, invoke, run_call hf]
      · by_cases hi : i < args.toList.length
        · rw [List.getElem?_append_left (by simpa using hi)] at hs hv
          rw [List.getElem?_map, Option.map_eq_some_iff] at hs hv
          obtain ⟨y, hy, rfl⟩ := hs
          obtain ⟨y', hy', rfl⟩ := hv
          rw [hy] at hy'
          injection hy' with hy'
          subst hy'
          exact ⟨hop y, hiu y⟩
        · rw [List.getElem?_append_right (by simpa using hi)] at hs hv
          simp only [List.length_map] at hs hv
          exact hr _ s u hs hv
    · cases h
  · cases h
/-! ### one operation -/
def MS.upd (m : MS) (R : ERes) : MS := ⟨R.ob ++ m.ob, m.nx + R.cnt, m.tp⟩
theorem upd_obs (m : MS) (R : ERes) : (m.upd R).obs = ovr m.obs R.ob := lookO_app _ _
theorem upd_U (m : MS) (R : ERes) : (m.upd R).U = addN m.U m.nx R.cnt := by
  funext i
  refine propext ⟨fun h => ?_, fun h => ?_⟩
  · have h : i < m.nx + R.cnt := h
    by_cases hi : i < m.nx
    · exact .inl hi
    · exact .inr ⟨by omega, h⟩
  · show i < m.nx + R.cnt
    rcases h with h | h
    · have h : i < m.nx := h
      omega
    · exact h.2
def isC0 (R : ERes) : Bool := R.ob.isEmpty && Nat.beq R.cnt 0
/-- Is a slice nil? Its data do not tell, but that a slice which is nil is empty. -/
def nilOf (m : Mem) : SV → Option Prop
  | .d (.sl _ l) => some (l = [])
  | .d (.v v) => bif isNil v then some True else none
  | .os id => match rowOf m id with
    | some ⟨_, l⟩ => some (l = [])
    | none => none
  | _ => none
def nilTest (P : Program) (m : Mem) (ρ : Operand → SV) : Op → Option (Bool × Prop)
  | .binOp .eql t x (.const v) _ => bif isNil v && (elemOf P t).isSome then (nilOf m (ρ x)).map fun p => (true, p) else none
  | .binOp .neq t x (.const v) _ => bif isNil v && (elemOf P t).isSome then (nilOf m (ρ x)).map fun p => (false, p) else none
  | _ => none
theorem nilOf_ok {m : Mem} {s : SV} {p : Prop} (h : nilOf m s = some p) {c : Cx} {w : World} {u : Value} (ox : OX m.ob m.U m.tp w c) (hr : SRel c w s u) : ∃ ad n cap, u = .slice ad n cap ∧ (ad = none → p) := by
  unfold nilOf at h
  split at h
  · rename_i t l
    injection h with h
    subst h
    obtain ⟨ad, cap, b, off, f, rfl, hc, hm, ha, h1, h2⟩ := (srel_d hr).slInv
    refine ⟨ad, _, cap, rfl, fun e => ?_⟩
    rcases ha with ha | ha
    · first | exact ha | exact List.eq_nil_of_length_eq_zero ha
    · rw [e] at ha; cases ha
  · rename_i v
    cases hn : isNil v with
    | false => rw [hn] at h; cases h
    | true =>
      rw [hn] at h
      simp only [cond_true, Option.some.injEq] at h
      subst h
      exact ⟨none, 0, 0, (srel_v hr).trans (isNil_eq hn), fun _ => trivial⟩
  · split at h
    · rename_i id t l hrow
      injection h with h
      subst h
      obtain ⟨ad, cap, hv, hc, hm, hcell⟩ := rowOf_rel ox hrow
      refine ⟨ad, _, cap, (srel_os hr).trans hv, fun e => ?_⟩
      cases l with
      | nil => rfl
      | cons x r =>
        obtain ⟨g, hg, _⟩ := hcell 0 x rfl
        rw [e] at hg; cases hg
    · cases h
  · cases h
theorem run_nilEq {t e : TypeId} (ht : elemOf P t = some e) (ad : Option Addr) (n cap : Nat) (w : World) : (Op.equal t (.slice ad n cap) (.slice none 0 0)).run P w = .ok ad.isNone w := by
  obtain ⟨inf, hu, _⟩ := elemOf_spec ht
  have key : ∀ d, (Op.equalIn (d + 1) t (.slice ad n cap) (.slice none 0 0)).run P w = .ok ad.isNone w := fun d => by
    unfold Op.equalIn
    cases ad <;> simp [run_underlying hu]
  exact key _
theorem nilTest_ok {m : Mem} {ρ : Operand → SV} {o : Oper} {pos : Bool} {p : Prop} (h : nilTest P m ρ o.op = some (pos, p)) {a : Act} {w : World} {c : Cx} (ox : OX m.ob m.U m.tp w c) (hop : ∀ x, SRel c w (ρ x) (a.eval x)) :
    ∃ b : Bool, (b = true → p) ∧ ∀ w, (execOp a.eval o).run P w = .ok (.value (.bool (bif pos then b else !b))) w := by
  unfold nilTest at h
  split at h
  · rename_i t x v y he
    cases hb : (isNil v && (elemOf P t).isSome) with
    | false => rw [hb] at h; cases h
    | true =>
      rw [hb] at h
      obtain ⟨b1, b2⟩ := Bool.and_eq_true_iff.1 hb
      obtain ⟨e, ht⟩ := Option.isSome_iff_exists.1 b2
      simp only [cond_true, Option.map_eq_some_iff, Prod.mk.injEq] at h
      obtain ⟨q, hq, rfl, rfl⟩ := h
      obtain ⟨ad, n, cap, hu, hp⟩ := nilOf_ok hq ox (hop x)
      have hv := isNil_eq b1
      refine ⟨ad.isNone, fun e => hp (by simpa using e), fun w => ?_⟩
      subst hv
      have hc : a.eval (.const (.slice none 0 0)) = .slice none 0 0 := rfl
      simp [execOp, he, hu, hc, eqGuard, binOp, run_nilEq ht]
  · rename_i t x v y he
    cases hb : (isNil v && (elemOf P t).isSome) with
    | false => rw [hb] at h; cases h
    | true =>
      rw [hb] at h
      obtain ⟨b1, b2⟩ := Bool.and_eq_true_iff.1 hb
      obtain ⟨e, ht⟩ := Option.isSome_iff_exists.1 b2
      simp only [cond_true, Option.map_eq_some_iff, Prod.mk.injEq] at h
      obtain ⟨q, hq, rfl, rfl⟩ := h
      obtain ⟨ad, n, cap, hu, hp⟩ := nilOf_ok hq ox (hop x)
      have hv := isNil_eq b1
      refine ⟨ad.isNone, fun e => hp (by simpa using e), fun w => ?_⟩
      subst hv
      have hc : a.eval (.const (.slice none 0 0)) = .slice none 0 0 := rfl
      simp [execOp, he, hu, hc, eqGuard, binOp, run_nilEq ht]
  · cases h
/-! ### lookup in a map with integers for keys -/
def dOfV : Value → Option D
  | .agg cs => bif cs.toList.all (·.oneCell') then some (.agg (cs.toList.map D.v)) else none
  | v => some (.v v)
theorem dOfV_rd {v : Value} {d : D} (h : dOfV v = some d) (S : Cells) (w : World) : Rd S w d v := by
  unfold dOfV at h
  split at h
  · rename_i cs
    cases hb : cs.toList.all (·.oneCell') with
    | false => rw [hb] at h; cases h
    | true =>
      rw [hb] at h
      injection h with h
      subst h
      have := Rd.agg (S := S) (w := w) (cs.toList.map D.v) cs.toList (by simp) (fun u hu => List.all_eq_true.1 hb u hu) (fun i c u hc hu => by
        rw [List.getElem?_map, hu] at hc
        injection hc with hc
        subst hc
        exact .v u)
      simpa using this
  · injection h with h
    subst h
    exact .v _
def zeroD (P : Program) (t : TypeId) : Option D := match P.info? t with
  | some i => match i.zero with
    | some z => dOfV z
    | none => none
  | none => none
def intKey (P : Program) (t : TypeId) : Option TypeId := match P.underlying t with
  | some (.map kt et) => match P.underlying kt with
    | some (.int _) => some et
    | _ => none
  | _ => none
def mapOf (m : Mem) : SV → Option (Bool × List (Int × D))
  | .os id => match m.ob id with
    | some (.mp sym es) => some (sym, es)
    | _ => none
  | _ => none
def intOf' : SV → Option Int
  | .d (.v (.int .i64 z)) => some z
  | _ => none
/-- A lookup: with or without a second result; by words; the entries; the key; what there is without an entry. -/
def mapT (P : Program) (m : Mem) (ρ : Operand → SV) : Op → Option (Bool × Bool × List (Int × D) × Int × D)
  | .lookup t x k ok => match mapOf m (ρ x), intOf' (ρ k), intKey P t with
    | some (sym, es), some z, some et => match zeroD P et with
      | some d => some (sym, ok, es, z, d)
      | none => none
    | _, _, _ => none
  | _ => none
def mapR (ok b : Bool) (d : D) : SV := bif ok then .d (.tup [d, .v (.bool b)]) else .d d
/-- By the keys, one after the other. -/
def mapB (ok : Bool) (z : Int) (d0 : D) (K : SV → Prop) : List (Int × D) → Prop
  | [] => K (mapR ok false d0)
  | (k, d) :: r => bif decide (z = k) then K (mapR ok true d) else mapB ok z d0 K r
/-- The number in a cell, by the key. -/
def cellZ (j : Nat) : D → Int
  | .agg cs => match cs[j]? with
    | some (.v (.int .i64 z)) => z
    | _ => 0
  | _ => 0
def selZ (z : Int) (j : Nat) (d0 : D) : List (Int × D) → Int
  | [] => cellZ j d0
  | (k, d) :: r => if z = k then cellZ j d else selZ z j d0 r
def hasZ (z : Int) : List (Int × D) → Bool
  | [] => false
  | (k, _) :: r => decide (z = k) || hasZ z r
def isInt64 : D → Bool
  | .v (.int .i64 _) => true
  | _ => false
def isAggN (n : Nat) : D → Bool
  | .agg cs => Nat.beq cs.length n
  | _ => false
def cellI (j : Nat) : D → Bool
  | .agg cs => match cs[j]? with
    | some d => isInt64 d
    | none => false
  | _ => false
/-- All entries told at once: the numbers by the key, of other cells nothing. -/
def symW (z : Int) (d0 : D) (es : List (Int × D)) : Nat → Nat → List SV
  | _, 0 => []
  | j, n + 1 => (bif cellI j d0 && es.all (fun e => cellI j e.2) then .d (.v (.int .i64 (selZ z j d0 es))) else .un) :: symW z d0 es (j + 1) n
def mapS (ok : Bool) (z : Int) (d0 : D) (es : List (Int × D)) (K : SV → Prop) : Prop := match d0 with
  | .agg cs => bif es.all (fun e => isAggN cs.length e.2) then (bif ok then K (.tup [.agg (symW z d0 es 0 cs.length), .d (.v (.bool (hasZ z es)))]) else K (.agg (symW z d0 es 0 cs.length))) else False
  | _ => False
def mapK (sym ok : Bool) (z : Int) (d0 : D) (es : List (Int × D)) (K : SV → Prop) : Prop := bif sym then mapS ok z d0 es K else mapB ok z d0 K es
def findD (z : Int) (d0 : D) : List (Int × D) → Bool × D
  | [] => (false, d0)
  | (k, d) :: r => if z = k then (true, d) else findD z d0 r
theorem mapB_eq {ok : Bool} {z : Int} {d0 : D} {K : SV → Prop} : ∀ {es : List (Int × D)}, mapB ok z d0 K es → K (mapR ok (findD z d0 es).1 (findD z d0 es).2)
  | [], h => h
  | (k, d) :: r, h => by
    have h : (bif decide (z = k) then K (mapR ok true d) else mapB ok z d0 K r) := h
    unfold findD
    by_cases e : z = k
    · rw [decide_eq_true e] at h; rw [if_pos e]; exact h
    · rw [decide_eq_false e] at h; rw [if_neg e]; exact mapB_eq h
theorem hasZ_eq {z : Int} {d0 : D} : ∀ {es : List (Int × D)}, hasZ z es = (findD z d0 es).1
  | [] => rfl
  | (k, d) :: r => by
    unfold hasZ findD
    by_cases e : z = k
    · rw [decide_eq_true e, if_pos e]; rfl
    · rw [decide_eq_false e, if_neg e, hasZ_eq (d0 := d0)]; rfl
theorem selZ_eq {z : Int} {j : Nat} {d0 : D} : ∀ {es : List (Int × D)}, selZ z j d0 es = cellZ j (findD z d0 es).2
  | [] => rfl
  | (k, d) :: r => by
    unfold selZ findD
    by_cases e : z = k
    · rw [if_pos e, if_pos e]
    · rw [if_neg e, if_neg e, selZ_eq]
theorem findD_all {z : Int} {d0 : D} {q : D → Bool} (h0 : q d0 = true) : ∀ {es : List (Int × D)}, es.all (fun e => q e.2) = true → q (findD z d0 es).2 = true
  | [], _ => h0
  | (k, d) :: r, h => by
    simp only [List.all_cons, Bool.and_eq_true] at h
    unfold findD
    split
    · exact h.1
    · exact findD_all h0 h.2
theorem cellI_eq {j : Nat} {d : D} (h : cellI j d = true) : ∃ cs, d = .agg cs ∧ cs[j]? = some (.v (.int .i64 (cellZ j d))) := by
  unfold cellI at h
  split at h
  · rename_i cs
    split at h
    · rename_i x hx
      unfold isInt64 at h
      split at h
      · rename_i z
        exact ⟨cs, rfl, by rw [hx]; unfold cellZ; simp [hx]⟩
      · cases h
    · cases h
  · cases h
theorem symW_len {z : Int} {d0 : D} {es : List (Int × D)} : ∀ (n j : Nat), (symW z d0 es j n).length = n
  | 0, _ => rfl
  | n + 1, j => by show (_ :: symW z d0 es (j + 1) n).length = _; rw [List.length_cons, symW_len n]
theorem symW_get {z : Int} {d0 : D} {es : List (Int × D)} : ∀ (n j i : Nat) (s : SV), (symW z d0 es j n)[i]? = some s → s = .un ∨ (s = .d (.v (.int .i64 (selZ z (j + i) d0 es))) ∧ cellI (j + i) d0 = true ∧ es.all (fun e => cellI (j + i) e.2) = true)
  | 0, _, i, s, h => by simp [symW] at h
  | n + 1, j, 0, s, h => by
    have h : some (bif cellI j d0 && es.all (fun e => cellI j e.2) then SV.d (.v (.int .i64 (selZ z j d0 es))) else .un) = some s := h
    injection h with h
    cases hb : (cellI j d0 && es.all (fun e => cellI j e.2)) with
    | true =>
      rw [hb] at h
      obtain ⟨b1, b2⟩ := Bool.and_eq_true_iff.1 hb
      exact .inr ⟨h.symm, b1, b2⟩
    | false => rw [hb] at h; exact .inl h.symm
  | n + 1, j, i + 1, s, h => by
    have h : (symW z d0 es (j + 1) n)[i]? = some s := h
    have := symW_get n (j + 1) i s h
    rw [show j + 1 + i = j + (i + 1) by omega] at this
    exact this
theorem symW_inU {U : Nat → Prop} {z : Int} {d0 : D} {es : List (Int × D)} {n j : Nat} : inUL U (symW z d0 es j n) := inUL_of fun i s hs => by
  rcases symW_get n j i s hs with rfl | ⟨rfl, _⟩ <;> trivial
theorem symW_rel {c : Cx} {w : World} {z : Int} {d0 : D} {es : List (Int × D)} {cs0 : List D} (h0 : d0 = .agg cs0) (ha : es.all (fun e => isAggN cs0.length e.2) = true) {v : Value} (hr : Rd c.S w (findD z d0 es).2 v) : SRel c w (.agg (symW z d0 es 0 cs0.length)) v := by
  have hn : isAggN cs0.length (findD z d0 es).2 = true := findD_all (q := isAggN cs0.length) (by rw [h0]; simp [isAggN]) ha
  have key : ∀ j, cellI j d0 = true → es.all (fun e => cellI j e.2) = true → cellI j (findD z d0 es).2 = true := fun j h1 h2 => findD_all (q := cellI j) h1 h2
  have hsel : ∀ j, selZ z j d0 es = cellZ j (findD z d0 es).2 := fun j => selZ_eq
  generalize hd : (findD z d0 es).2 = d at *
  unfold isAggN at hn
  split at hn
  rotate_left
  · cases hn
  rename_i cs
  have hn := beq_eq hn
  cases hr with
  | agg _ us hl h1 h2 =>
    refine .agg _ us (by rw [symW_len, hl, hn]) h1 fun i s u hs hu => ?_
    rcases symW_get _ _ i s hs with rfl | ⟨rfl, k1, k2⟩
    · exact .un u
    · rw [Nat.zero_add] at k1 k2 ⊢
      obtain ⟨cs2, e1, e2⟩ := cellI_eq (key i k1 k2)
      injection e1 with e1
      subst e1
      rw [hsel]
      exact .d _ _ (h2 i _ u e2 hu)
theorem find_run {S : Cells} {w : World} {z : Int} {d0 : D} {kk : IntKind} : ∀ (ms : List MapEntry) (es : List (Int × D)) (n : Nat), ms.length = es.length → (∀ (i : Nat) (k : Int) (d : D) (m : MapEntry), es[i]? = some (k, d) → ms[i]? = some m → m.key = .int .i64 k ∧ Rd S w d m.val) →
    (∃ (j : Nat) (v : Value), Instr.findNow (.int kk) (.int .i64 z) ms n = some (some (j, v)) ∧ Rd S w (findD z d0 es).2 v ∧ (findD z d0 es).1 = true) ∨ (Instr.findNow (.int kk) (.int .i64 z) ms n = some none ∧ findD z d0 es = (false, d0))
  | [], [], n, _, _ => .inr ⟨rfl, rfl⟩
  | [], _ :: _, _, h, _ => by simp at h
  | _ :: _, [], _, h, _ => by simp at h
  | m :: ms, (k, d) :: es, n, hl, hr => by
    obtain ⟨h1, h2⟩ := hr 0 k d m rfl rfl
    have hs : Instr.sameNow (.int kk) (.int .i64 z) m.key = some (z == k) := by rw [h1]; simp [Instr.sameNow]
    cases hb : (z == k) with
    | true =>
      have e : z = k := by simpa using hb
      refine .inl ⟨n, m.val, by unfold Instr.findNow; rw [hs, hb], ?_, ?_⟩
      · unfold findD; rw [if_pos e]; exact h2
      · unfold findD; rw [if_pos e]
    | false =>
      have e : ¬ z = k := by simpa using hb
      have ih := find_run (S := S) (w := w) (z := z) (d0 := d0) (kk := kk) ms es (n + 1) (by simpa using hl) (fun i k d m hi hm => hr (i + 1) k d m (by simpa using hi) (by simpa using hm))
      have hf : Instr.findNow (.int kk) (.int .i64 z) (m :: ms) n = Instr.findNow (.int kk) (.int .i64 z) ms (n + 1) := by
        conv => lhs; unfold Instr.findNow
        rw [hs, hb]
      have hd : findD z d0 ((k, d) :: es) = findD z d0 es := by
        conv => lhs; unfold findD
        rw [if_neg e]
      rw [hf, hd]
      exact ih
theorem mapT_ok {m : Mem} {ρ : Operand → SV} {o : Oper} {sym ok : Bool} {es : List (Int × D)} {z : Int} {d0 : D} (h : mapT P m ρ o.op = some (sym, ok, es, z, d0)) {a : Act} {w : World} {c : Cx} (ox : OX m.ob m.U m.tp w c) (hop : ∀ x, SRel c w (ρ x) (a.eval x)) {K : SV → Prop} (hK : mapK sym ok z d0 es K) :
    ∃ v r, K r ∧ SRel c w r v ∧ r.inU m.U ∧ (execOp a.eval o).run P w = .ok (.value v) w := by
  unfold mapT at h
  split at h
  rotate_left
  · cases h
  rename_i t x k ok' he
  split at h
  rotate_left
  · cases h
  rename_i sym' es' z' et hm hz ht
  split at h
  rotate_left
  · cases h
  rename_i d hd
  simp only [Option.some.injEq, Prod.mk.injEq] at h
  obtain ⟨rfl, rfl, rfl, rfl, rfl⟩ := h
  -- the map
  obtain ⟨id, hid, hob⟩ : ∃ id, ρ x = .os id ∧ m.ob id = some (.mp sym' es') := by
    unfold mapOf at hm
    split at hm
    · rename_i id hx
      split at hm
      · rename_i s2 es2 ho
        simp only [Option.some.injEq, Prod.mk.injEq] at hm
        obtain ⟨rfl, rfl⟩ := hm
        exact ⟨id, hx, ho⟩
      · cases hm
    · cases hm
  have hkey : a.eval k = .int .i64 z' := by
    unfold intOf' at hz
    split at hz
    · rename_i z2 hx
      injection hz with hz
      subst hz
      have := hop k
      rw [hx] at this
      exact srel_v this
    · cases hz
  obtain ⟨kt, kk, hu, hk⟩ : ∃ kt kk, P.underlying t = some (.map kt et) ∧ P.underlying kt = some (.int kk) := by
    unfold intKey at ht
    split at ht
    · rename_i kt et2 hu
      split at ht
      · rename_i kk hk
        injection ht with ht
        subst ht
        exact ⟨kt, kk, hu, hk⟩
      · cases ht
    · cases ht
  obtain ⟨i, zv, hi, hzv, hdz⟩ : ∃ i zv, P.info? et = some i ∧ i.zero = some zv ∧ dOfV zv = some d := by
    unfold zeroD at hd
    split at hd
    · rename_i i hi
      split at hd
      · rename_i zv hz2
        exact ⟨i, zv, hi, hz2, hd⟩
      · cases hd
    · cases hd
  obtain ⟨_, _, b, arr, clock, hv, _, hg, hl, hr⟩ := ox.objs id _ hob
  have hx : a.eval x = .map (some b) := by
    have := hop x
    rw [hid] at this
    exact (srel_os this).trans hv
  have hlen : arr.toList.length = es'.length := by simpa using hl
  have hget : (getObj b).run P w = .ok (.map arr clock) w := by simp [getObj, Sem.run, hg]
  have hck : ∀ q, (Instr.checkKey q 10000 kt (.int .i64 z')).run P w = .ok () w := fun q => by
    show (Instr.checkKey q (9999 + 1) kt (.int .i64 z')).run P w = _
    unfold Instr.checkKey
    simp [run_underlying hk]
  have hzero : (zeroValue et).run P w = .ok zv w := by simp [zeroValue, typeInfo, hi, hzv]
  -- what is found
  have key : ∃ u : Value, Rd c.S w (findD z' d es').2 u ∧ (execOp a.eval o).run P w = .ok (.value (if ok' then .tuple #[u, .bool (findD z' d es').1] else u)) w := by
    rcases find_run (S := c.S) (w := w) (z := z') (d0 := d) (kk := kk) arr.toList es' 0 hlen (fun i k d m h1 h2 => hr i k d m h1 (by simpa using h2)) with ⟨j, v, hf, hrd, hb⟩ | ⟨hf, he2⟩
    · have hfk : (Instr.findKey kt (.int .i64 z') arr.toList).run P w = .ok (some (j, v)) w := by
        unfold Instr.findKey
        simp [run_underlying hk, hf]
      exact ⟨v, hrd, by rw [hb]; simp [execOp, he, Instr.lookup, run_underlying hu, hx, hkey, hget, hck, hfk]⟩
    · have hfk : (Instr.findKey kt (.int .i64 z') arr.toList).run P w = .ok none w := by
        unfold Instr.findKey
        simp [run_underlying hk, hf]
      exact ⟨zv, by rw [he2]; exact dOfV_rd hdz c.S w, by rw [he2]; simp [execOp, he, Instr.lookup, run_underlying hu, hx, hkey, hget, hck, hfk, hzero]⟩
  obtain ⟨u, hrd, hrun⟩ := key
  unfold mapK at hK
  cases sym' with
  | false =>
    have hK := mapB_eq (show mapB ok' z' d K es' from hK)
    cases ok' with
    | false => exact ⟨u, _, hK, .d _ _ hrd, trivial, by simpa using hrun⟩
    | true =>
      refine ⟨.tuple #[u, .bool (findD z' d es').1], _, hK, .d _ _ (Rd.tup [_, .v (.bool _)] [u, .bool _] rfl fun i c u hc hu => ?_), trivial, by simpa using hrun⟩
      match i, hc, hu with
      | 0, hc, hu => cases hc; cases hu; exact hrd
      | 1, hc, hu => cases hc; cases hu; exact .v _
      | i + 2, hc, hu => cases hc
  | true =>
    have hK : mapS ok' z' d es' K := hK
    unfold mapS at hK
    split at hK
    rotate_left
    · exact hK.elim
    rename_i cs0 hd0
    cases ha : es'.all (fun e => isAggN cs0.length e.2) with
    | false => rw [ha] at hK; exact hK.elim
    | true =>
      rw [ha] at hK
      have hrel := symW_rel rfl ha hrd
      cases ok' with
      | false => exact ⟨u, _, hK, hrel, symW_inU, by simpa using hrun⟩
      | true =>
        refine ⟨.tuple #[u, .bool (findD z' (.agg cs0) es').1], _, hK, .tup _ [u, .bool _] rfl fun i s u hs hu => ?_, ⟨symW_inU, trivial, trivial⟩, by simpa using hrun⟩
        match i, hs, hu with
        | 0, hs, hu => cases hs; cases hu; exact hrel
        | 1, hs, hu => cases hs; cases hu; rw [hasZ_eq (d0 := .agg cs0)]; exact .d _ _ (.v _)
        | i + 2, hs, hu => cases hs
/-- An operation that is carried out. -/
def aop (P : Program) (τ : TypeId → Option Ty) (cp : CP) (o : Oper) (st : St) (K : St → Prop) : Prop :=
  match callT st.ev o.op with
  | some (f, ss) => bif callable P f && dstOK st o.dst then cp f (ss.map noC) st.ms (fun r m => K (st.set o.dst r m)) else False
  | none => match nilTest P st.ms.mem st.ev o.op with
  | some (pos, p) => bif dstOK st o.dst then ∀ b : Bool, (b = true → p) → K (st.set o.dst (.d (.v (.bool (bif pos then b else !b)))) st.ms) else False
  | none => match mapT P st.ms.mem st.ev o.op with
  | some (sym, ok, es, z, d0) => bif dstOK st o.dst then mapK sym ok z d0 es (fun r => K (st.set o.dst r st.ms)) else False
  | none => match eop P τ st.ms.mem st.ev st.ms.nx o with
    | some R => bif dstOK st o.dst then andL R.ps (impL R.fs (K (st.set o.dst R.r (st.ms.upd R)))) else False
    | none => False
/-- Only objects that are new, or none at all, were changed. -/
def onlyNew (n : Nat) : List (Nat × Option Ob) → Bool
  | [] => true
  | (k, _) :: r => Nat.ble n k && onlyNew n r
/-- The updates ahead of the objects that were. -/
def news (m m' : MS) : List (Nat × Option Ob) := m'.ob.take (m'.ob.length - m.ob.length)
/-- An operation under a guard. -/
def aopG (P : Program) (τ : TypeId → Option Ty) (cp : CP) (o : Oper) (d q : Nat) (want : Bool) (st : St) (K : St → Prop) : Prop :=
  match guardG want (look st.sl q) with
  | none => False
  | some G => bif dstOK st (some d) && !(Nat.beq q d) && Nat.blt q st.n then
      match callT (fun x => stripS q want (st.ev x)) o.op with
      | some (f, ss) => match τ o.type with
        | some ty => bif callable P f then
            JOIN [ty] (lam [ty] fun v => K (st.setG d q want G (.d (tv ty v.1)))) fun J => IFB G (cp f (ss.map noC) st.ms fun r m => match r with
              | .d x => match undoT ty x with
                | some y => bif onlyNew st.ms.nx (news st.ms m) && (m.tp == st.ms.tp) then app [ty] J (y, ()) else False
                | none => False
              | _ => False) (app [ty] J (dflt ty, ()))
          else False
        | none => False
      | none => match eop P τ st.ms.mem (fun x => stripS q want (st.ev x)) st.ms.nx o with
        | some R => bif isC0 R && R.r.lowN st.ms.nx then andL (R.ps.map (G = true → ·)) (impL (R.fs.map (G = true → ·)) (K (st.setG d q want G R.r))) else IFB G (andL R.ps (impL R.fs (K (st.set (some d) R.r (st.ms.upd R))))) (K (st.set (some d) .un st.ms))
        | none => False
    else False
end RE
end Go.Proofs.YtpeggkeenboacaaGreat
namespace Go.Proofs.YtpeggkeenboacaaGreat
open Go.RowKit
set_option linter.unusedVariables false
namespace RE
variable {P : Program}
def Fr (st st' : St) : Prop := st'.n = st.n ∧ (∃ l, st'.sl = l ++ st.sl) ∧ FrM st.ms st'.ms
theorem Fr.refl (st : St) : Fr st st := ⟨rfl, ⟨[], rfl⟩, .refl _⟩
theorem Fr.trans {a b c : St} (h : Fr a b) (k : Fr b c) : Fr a c := by
  obtain ⟨h0, ⟨l, h1⟩, h2⟩ := h
  obtain ⟨k0, ⟨l', k1⟩, k2⟩ := k
  exact ⟨k0.trans h0, ⟨l' ++ l, by rw [k1, h1, List.append_assoc]⟩, h2.trans k2⟩
theorem Fr.set {st : St} {d : Option Nat} {r : SV} {m : MS} (h : FrM st.ms m) : Fr st (st.set d r m) := by
  refine ⟨rfl, ?_, h⟩
  cases d with
  | none => exact ⟨[], rfl⟩
  | some d => exact ⟨[(d, noC r)], rfl⟩
theorem Fr.setG {st : St} {d q : Nat} {want g : Bool} {r : SV} : Fr st (st.setG d q want g r) := ⟨rfl, ⟨[_], rfl⟩, .refl _⟩
theorem FrM.upd (m : MS) (R : ERes) : FrM m (m.upd R) := ⟨⟨R.ob, rfl⟩, id⟩
/-- The step from a state to the next. -/
structure Step (st : St) (a : Act) (w : World) (c : Cx) (st' : St) (a' : Act) (w' : World) (c' : Cx) : Prop where
  rx : RX st' a' w' c'
  tr : TrM st.ms w c st'.ms w' c'
  df : a'.defers = a.defers
  fr : Fr st st'
theorem Step.refl {st : St} {a : Act} {w : World} {c : Cx} (h : RX st a w c) : Step st a w c st a w c := ⟨h, .refl, rfl, .refl _⟩
theorem Step.trans {st st1 st2 : St} {a a1 a2 : Act} {w w1 w2 : World} {c c1 c2 : Cx} (h : Step st a w c st1 a1 w1 c1) (k : Step st1 a1 w1 c1 st2 a2 w2 c2) : Step st a w c st2 a2 w2 c2 :=
  ⟨k.rx, h.tr.trans k.tr, k.df.trans h.df, h.fr.trans k.fr⟩
theorem defers_put (a : Act) (d : Option Nat) (v : Value) : (a.put d v).defers = a.defers := by cases d <;> rfl
/-- One operation, carried out. -/
def OpS (P : Program) (o : Oper) (st : St) (Q : St → Prop) : Prop := ∀ a w c, RX st a w c → ∀ (K : Act → World → Prop) (Qx : Exit → Act → World → Prop), (∀ st' a' w' c', Step st a w c st' a' w' c' → Q st' → K a' w') → o.wp P a w K Qx
theorem noC_args {ss : List SV} {us : List Value} {c : Cx} {w : World} {U : Nat → Prop} (h : ∀ (i : Nat) (s : SV) (u : Value), ss[i]? = some s → us[i]? = some u → SRel c w s u ∧ s.inU U) : ∀ (i : Nat) (s : SV) (u : Value), (ss.map noC)[i]? = some s → us[i]? = some u → SRel c w s u ∧ s.inU U := fun i s u hs hu => by
  rw [List.getElem?_map, Option.map_eq_some_iff] at hs
  obtain ⟨x, hx, rfl⟩ := hs
  obtain ⟨h1, h2⟩ := h i x u hx hu
  exact ⟨noC_rel h1, noC_inU h2⟩
theorem aop_ok {τ : TypeId → Option Ty} {cp : CP} (hcp : CallOK P cp) {o : Oper} {st : St} {K : St → Prop} (h : aop P τ cp o st K) : OpS P o st K := by
  intro a w c hr KK Qx hQ
  unfold aop at h
  split at h
  · rename_i f ss hc
    cases hb : (callable P f && dstOK st o.dst) with
    | false => rw [hb] at h; exact h.elim
    | true =>
      rw [hb] at h
      obtain ⟨b1, b2⟩ := Bool.and_eq_true_iff.1 hb
      obtain ⟨us, hrun, hl, hrel⟩ := callT_run (m := st.ms.mem) hc b1 hr.ev hr.evU
      unfold Oper.wp
      rw [hrun]
      show Calls _ _ _ _ _
      refine (hcp f _ st.ms _ h us w c hr.ox (by simpa using hl) (noC_args hrel)).mono ?_
      rintro e w' ⟨v, r, m', c', rfl, hk, hf, hox, htr, hs, hu⟩
      exact hQ _ _ _ c' ⟨hr.set htr hox b2 hs hu, htr, defers_put _ _ _, .set hf⟩ hk
  · split at h
    · rename_i pos p hn
      cases hb : dstOK st o.dst with
      | false => rw [hb] at h; exact h.elim
      | true =>
        rw [hb] at h
        obtain ⟨b, b1, b2⟩ := nilTest_ok hn hr.ox hr.ev
        unfold Oper.wp
        rw [b2 w]
        exact hQ _ _ _ c ⟨hr.set .refl hr.ox hb (.d _ _ (.v _)) trivial, .refl, defers_put _ _ _, .set (.refl _)⟩ (h b b1)
    split at h
    · rename_i sym ok es z d0 hn
      cases hb : dstOK st o.dst with
      | false => rw [hb] at h; exact h.elim
      | true =>
        rw [hb] at h
        obtain ⟨v, r, hk, hs, hu, hrun⟩ := mapT_ok hn hr.ox hr.ev (show mapK sym ok z d0 es (fun r => K (st.set o.dst r st.ms)) from h)
        unfold Oper.wp
        rw [hrun]
        exact hQ _ _ _ c ⟨hr.set .refl hr.ox hb hs hu, .refl, defers_put _ _ _, .set (.refl _)⟩ hk
    split at h
    · rename_i R hR
      cases hb : dstOK st o.dst with
      | false => rw [hb] at h; exact h.elim
      | true =>
        rw [hb] at h
        obtain ⟨h1, h2⟩ := andL_spec (show andL R.ps _ from h)
        refine eop_ok (P := P) hR a w c hr.rels (fun i hi _ hu => by have hu : i < st.ms.nx := hu; omega) h1 KK Qx fun v c' w' hox htr hs hu hf => ?_
        have e1 := upd_obs st.ms R
        have e2 := upd_U st.ms R
        have htr' : TrM st.ms w c (st.ms.upd R) w' c' := by show Tr _ _ _ _ (st.ms.upd R).obs (st.ms.upd R).U _ _; rw [e1, e2]; exact htr
        have hox' : OXM (st.ms.upd R) w' c' := by show OX (st.ms.upd R).obs (st.ms.upd R).U _ _ _; rw [e1, e2]; exact hox
        exact hQ _ _ _ c' ⟨hr.set htr' hox' hb hs (by rw [e2]; exact hu), htr', defers_put _ _ _, .set (.upd _ _)⟩ (impL_spec h2 hf)
    · exact h.elim
/-- Objects that are new may be forgotten. -/
theorem forget {m m' : MS} {w w' : World} {c c' : Cx} (htpe : m'.tp = m.tp) (hf : FrM m m') (ho : onlyNew m.nx (news m m') = true) (hox0 : OXM m w c) (hox : OXM m' w' c') (htr : TrM m w c m' w' c') : OXM m w' c' ∧ TrM m w c m w' c' := by
  obtain ⟨⟨l, hl⟩, htp⟩ := hf
  have hn : news m m' = l := by
    unfold news
    rw [hl, List.length_append, show l.length + m.ob.length - m.ob.length = l.length by omega, List.take_left]
  rw [hn] at ho
  have hobs : m'.obs = ovr m.obs l := by show lookO m'.ob = _; rw [hl, lookO_app]; rfl
  have hold : ∀ i, i < m.nx → m'.obs i = m.obs i := by
    intro i hi
    rw [hobs]
    unfold ovr
    have : ∀ (l : List (Nat × Option Ob)), onlyNew m.nx l = true → lookU l i = none := fun l => by
      induction l with
      | nil => exact fun _ => rfl
      | cons p r ih =>
        intro h
        obtain ⟨k, o⟩ := p
        obtain ⟨h1, h2⟩ := Bool.and_eq_true_iff.1 h
        have h1 := Nat.le_of_ble_eq_true h1
        rw [lookU_cons, if_neg (by omega)]
        exact ih h2
    rw [this l ho]
  have hsub : ∀ id x, m.obs id = some x → m'.obs id = some x := fun id x hx => by
    rw [hold id (hox0.objs id x hx).1]; exact hx
  refine ⟨⟨hox.sb, fun id x hx => ?_, fun id x hx => hox.fb id x (hsub id x hx), fun i j x y hx o1 hy o2 => hox.dj i j x y (hsub i x hx) o1 (hsub j y hy) o2, hox.nT, fun e => hox.tpe (htp e), fun e => hox.tF (htpe.trans e)⟩, ⟨htr.os, htr.tape, htr.output, htr.sz, htr.tK, htr.tN, fun _ h => h, htr.hH, htr.sS, htr.sN, htr.blk, fun b hb => ?_⟩⟩
  · obtain ⟨k1, k2, _⟩ := hox0.objs id x hx
    exact ⟨k1, k2, (hox.objs id x (hsub id x hx)).2.2⟩
  · obtain ⟨id, x, hx, o1, hb⟩ := hb
    exact htr.fp b ⟨id, x, hsub id x hx, o1, hb⟩
theorem evG {q : Nat} {want G : Bool} {st : St} {a : Act} {w : World} {c : Cx} (hr : RX st a w c) {x : Operand} {g : Bool} {y : SV} (hs : st.ev x = .cnd q want g y) (hg : guardG want (look st.sl q) = some G) (hG : G = true) : g = true := by
  cases x with
  | tmp t =>
    have hs : (bif Nat.blt t st.n then look st.sl t else .un) = .cnd q want g y := hs
    cases hbt : Nat.blt t st.n with
    | false => rw [hbt] at hs; cases hs
    | true => rw [hbt] at hs; exact ((hr.cn t q want g y hs).2.2 G hg).trans hG
  | const v => cases hs
  | func f => cases hs
  | global g => cases hs
theorem stripS_rel {q : Nat} {want G : Bool} {st : St} {a : Act} {w : World} {c : Cx} (hr : RX st a w c) (hlt : q < st.n) (hg : guardG want (look st.sl q) = some G) (hG : G = true) : RelsC st.ms.mem (fun x => stripS q want (st.ev x)) a w c := by
  have key : ∀ x, SRel c w (stripS q want (st.ev x)) (a.eval x) ∧ (stripS q want (st.ev x)).inU st.ms.U := fun x => by
    have h1 := hr.ev x
    have h2 := hr.evU x
    generalize hs : st.ev x = s at h1 h2
    unfold stripS
    split
    · rename_i q' w' g y
      cases hb : (Nat.beq q' q && (w' == want)) with
      | false => exact ⟨h1, h2⟩
      | true =>
        obtain ⟨b1, b2⟩ := Bool.and_eq_true_iff.1 hb
        have b1 := beq_eq b1
        have b2 : w' = want := by simpa using b2
        subst b1 b2
        simp only [cond_true]
        refine ⟨noC_rel ((srel_cnd h1).1 ?_), noC_inU h2⟩
        exact evG hr hs hg hG
    · exact ⟨h1, h2⟩
  refine ⟨⟨hr.ox, fun x => (key x).1, fun x => (key x).2⟩, fun x q1 w1 g1 y1 b hx hq => ?_⟩
  have hx' : st.ev x = .cnd q1 w1 g1 y1 := by
    generalize st.ev x = s at hx
    unfold stripS at hx
    split at hx
    · rename_i q' w' g y
      cases hb : (Nat.beq q' q && (w' == want)) with
      | false => rw [hb] at hx; exact hx
      | true => rw [hb] at hx; exact absurd hx noC_ne
    · exact hx
  have hG1 : guardG w1 (st.ev (.tmp q1)) = some (gx w1 b) := by
    generalize hs : st.ev (.tmp q1) = s at hq
    unfold stripS at hq
    split at hq
    · rename_i q' w' g y
      cases hb : (Nat.beq q' q && (w' == want)) with
      | false => rw [hb] at hq; cases hq
      | true =>
        rw [hb] at hq
        obtain ⟨b1, b2⟩ := Bool.and_eq_true_iff.1 hb
        have b1 := beq_eq b1
        have b2 : w' = want := by simpa using b2
        subst b1 b2
        have hg1 : g = true := evG hr hs hg hG
        have hy : y = .d (.v (.bool b)) := by
          simp only [cond_true] at hq
          unfold noC at hq
          split at hq
          · cases hq
          · exact hq
        rw [hy, hg1]; simp [guardG]
    · rw [hq]; rfl
  cases x with
  | tmp t =>
    have hx' : (bif Nat.blt t st.n then look st.sl t else .un) = .cnd q1 w1 g1 y1 := hx'
    have hG1 : guardG w1 (bif Nat.blt q1 st.n then look st.sl q1 else .un) = some (gx w1 b) := hG1
    cases hbt : Nat.blt t st.n with
    | false => rw [hbt] at hx'; cases hx'
    | true =>
      rw [hbt] at hx'
      cases hbq : Nat.blt q1 st.n with
      | false => rw [hbq] at hG1; cases hG1
      | true => rw [hbq] at hG1; exact (hr.cn t q1 w1 g1 y1 hx').2.2 _ hG1
  | const v => cases hx'
  | func f => cases hx'
  | global g => cases hx'
/-- An operation under a guard: carried out where it holds, else nothing is known of its slot. -/
def OpG (P : Program) (o : Oper) (G : Bool) (st : St) (Q : St → Prop) : Prop := ∀ a w c, RX st a w c → ∀ (K : Act → World → Prop) (Qx : Exit → Act → World → Prop), (∀ st' a' w' c', Step st a w c st' a' w' c' → Q st' → K a' w') → if G = true then o.wp P a w K Qx else K (a.put o.dst undef) w
theorem andL_map {G : Bool} (hG : G = true) : ∀ {l : List Prop}, allL (l.map (G = true → ·)) → allL l
  | [], _ => trivial
  | p :: r, h => ⟨h.1 hG, andL_map hG h.2⟩
theorem allL_map {G : Bool} : ∀ {l : List Prop}, (G = true → allL l) → allL (l.map (G = true → ·))
  | [], _ => trivial
  | p :: r, h => ⟨fun e => (h e).1, allL_map fun e => (h e).2⟩
theorem aopG_ok {τ : TypeId → Option Ty} {cp : CP} (hcp : CallOK P cp) {o : Oper} {d q : Nat} {want : Bool} {st : St} {K : St → Prop} (hd : o.dst = some d) (h : aopG P τ cp o d q want st K) : ∃ G, q < st.n ∧ guardG want (look st.sl q) = some G ∧ OpG P o G st K := by
  unfold aopG at h
  split at h
  · exact h.elim
  · rename_i G hG
    cases hb : (dstOK st (some d) && !(Nat.beq q d) && Nat.blt q st.n) with
    | false => rw [hb] at h; exact h.elim
    | true =>
      rw [hb] at h
      simp only [Bool.and_eq_true, Bool.not_eq_true'] at hb
      obtain ⟨⟨b1, b2⟩, b3⟩ := hb
      have hqd : q ≠ d := fun e => by rw [e] at b2; simp at b2
      have hlt : q < st.n := Nat.le_of_ble_eq_true b3
      refine ⟨G, hlt, hG, fun a w c hr KK Qx hQ => ?_⟩
      simp only [cond_true] at h
      split at h
      · rename_i f ss hc
        split at h
        · rename_i ty hty
          cases hcl : callable P f with
          | false => rw [hcl] at h; exact h.elim
          | true =>
            rw [hcl] at h
            obtain ⟨⟨ht, hf⟩⟩ := h
            have hjoin : ∀ y : den ty, app [ty] (lam [ty] fun v => K (st.setG d q want G (.d (tv ty v.1)))) (y, ()) = K (st.setG d q want G (.d (tv ty y))) := fun y => app_lam [ty] _ (y, ())
            cases hGv : G with
            | true =>
              rw [if_pos rfl]
              have h := ht hGv
              have hrel := stripS_rel hr hlt hG hGv
              obtain ⟨us, hrun, hl, hargs⟩ := callT_run (m := st.ms.mem) hc hcl hrel.op hrel.iu
              unfold Oper.wp
              rw [hrun]
              show Calls _ _ _ _ _
              refine (hcp f _ st.ms _ h us w c hr.ox (by simpa using hl) (noC_args hargs)).mono ?_
              rintro e w' ⟨v, r, m', c', rfl, hk, hfr, hox, htr, hs, hu⟩
              split at hk
              · rename_i x
                split at hk
                · rename_i y hy
                  cases hon2 : (onlyNew st.ms.nx (news st.ms m') && (m'.tp == st.ms.tp)) with
                  | false => rw [hon2] at hk; exact hk.elim
                  | true =>
                    rw [hon2] at hk
                    obtain ⟨hon, htp2⟩ := Bool.and_eq_true_iff.1 hon2
                    have htp2 : m'.tp = st.ms.tp := by simpa using htp2
                    simp only [cond_true] at hk
                    rw [hjoin] at hk
                    obtain ⟨ox2, tr2⟩ := forget htp2 hfr hon hr.ox hox htr
                    rw [hd]
                    exact hQ _ _ _ c' ⟨hr.setG tr2 ox2 b1 hqd hG (v := v) (fun _ => .d _ _ (undoT_rd hy (srel_d hs))) (fun e => by rw [hGv] at e; cases e) trivial, tr2, defers_put _ _ _, .setG⟩ hk
                · exact hk.elim
              · exact hk.elim
            | false =>
              rw [if_neg (by decide)]
              have h := hf hGv
              rw [hjoin] at h
              rw [hd]
              exact hQ _ _ _ c ⟨hr.setG .refl hr.ox b1 hqd hG (r := .d (tv ty (dflt ty))) (v := undef) (fun e => by rw [hGv] at e; cases e) (fun _ => rfl) trivial, .refl, defers_put _ _ _, .setG⟩ h
        · exact h.elim
      · split at h
        · rename_i R hR
          cases hc1 : (isC0 R && R.r.lowN st.ms.nx) with
          | false =>
            rw [hc1] at h
            obtain ⟨ht, hf⟩ := (show IFB G _ _ from h)
            cases hGv : G with
            | true =>
              rw [if_pos rfl]
              obtain ⟨h1, h2⟩ := andL_spec (show andL R.ps _ from ht hGv)
              refine eop_ok (P := P) hR a w c (stripS_rel hr hlt hG hGv) (fun i hi _ hu => by have hu : i < st.ms.nx := hu; omega) h1 KK Qx fun v c' w' hox htr hs hu hf => ?_
              have e1 := upd_obs st.ms R
              have e2 := upd_U st.ms R
              have htr' : TrM st.ms w c (st.ms.upd R) w' c' := by show Tr _ _ _ _ (st.ms.upd R).obs (st.ms.upd R).U _ _; rw [e1, e2]; exact htr
              have hox' : OXM (st.ms.upd R) w' c' := by show OX (st.ms.upd R).obs (st.ms.upd R).U _ _ _; rw [e1, e2]; exact hox
              rw [hd]
              exact hQ _ _ _ c' ⟨hr.set htr' hox' b1 hs (by rw [e2]; exact hu), htr', defers_put _ _ _, .set (.upd _ _)⟩ (impL_spec h2 hf)
            | false =>
              rw [if_neg (by decide)]
              rw [hd]
              exact hQ _ _ _ c ⟨hr.set .refl hr.ox b1 (.un _) trivial, .refl, defers_put _ _ _, .set (.refl _)⟩ (hf hGv)
          | true =>
            rw [hc1] at h
            simp only [cond_true] at h
            obtain ⟨hc0, hbl⟩ := Bool.and_eq_true_iff.1 hc1
            obtain ⟨z1, z2⟩ := Bool.and_eq_true_iff.1 hc0
            have z1 : R.ob = [] := by simpa using z1
            have z2 := beq_eq z2
            obtain ⟨h1, h2⟩ := andL_spec h
            cases hGv : G with
            | true =>
              rw [if_pos rfl]
              have hrel := stripS_rel hr hlt hG hGv
              refine eop_ok (P := P) hR a w c hrel (fun i hi hi2 hu => by rw [z2] at hi2; omega) (andL_map hGv h1) KK Qx fun v c' w' hox htr hs hu hf => ?_
              rw [z1, z2] at hox htr
              rw [z2] at hu
              rw [addN_zero] at hox htr hu
              rw [hd]
              exact hQ _ _ _ c' ⟨hr.setG htr hox b1 hqd hG (v := v) (fun _ => hs) (fun e => by rw [hGv] at e; cases e) hu, htr, defers_put _ _ _, .setG⟩ (impL_spec h2 (allL_map fun _ => hf))
            | false =>
              rw [if_neg (by decide)]
              rw [hd]
              have hfs : allL (R.fs.map (G = true → ·)) := allL_map fun e => by rw [hGv] at e; cases e
              exact hQ _ _ _ c ⟨hr.setG .refl hr.ox b1 hqd hG (r := R.r) (v := undef) (fun e => by rw [hGv] at e; cases e) (fun _ => rfl) (SV.lowN_inU _ hbl), .refl, defers_put _ _ _, .setG⟩ (impL_spec h2 hfs)
        · exact h.elim
end RE
end Go.Proofs.YtpeggkeenboacaaGreat
namespace Go.Proofs.YtpeggkeenboacaaGreat
open Go.RowKit
set_option linter.unusedVariables false
namespace RE
variable {P : Program}
inductive Sh where
  | dat (t : Ty)
  | own (e : TypeId) (t : Ty)
  | bx (id off : Nat)
  | rf (id : Nat)
  | tp
  | un
  | agg (cs : List Sh)
  | tup (cs : List Sh)
mutual
def shT : Sh → List Ty → List Ty
  | .dat t, acc => t :: acc
  | .own _ t, acc => .sl t :: acc
  | .agg cs, acc => shTL cs acc
  | .tup cs, acc => shTL cs acc
  | .bx _ _, acc => acc
  | .rf _, acc => acc
  | .tp, acc => acc
  | .un, acc => acc
def shTL : List Sh → List Ty → List Ty
  | [], acc => acc
  | s :: r, acc => shT s (shTL r acc)
end
abbrev Row := TypeId × Sigma fun t : Ty => List (den t)
mutual
/-- A word of a shape, its parts given; the rows of its own (numbers from k on). -/
def instS : (s : Sh) → (acc : List Ty) → dens (shT s acc) → Nat → SV × List Row × dens acc
  | .dat t, _, v, _ => (.d (tv t v.1), [], v.2)
  | .own e t, _, v, k => (.os k, [(e, ⟨t, v.1⟩)], v.2)
  | .bx id off, _, v, _ => (.bx id off, [], v)
  | .rf id, _, v, _ => (.os id, [], v)
  | .tp, _, v, _ => (.tp, [], v)
  | .un, _, v, _ => (.un, [], v)
  | .agg cs, acc, v, k => match instL cs acc v k with
    | (ss, rs, r) => (mkAgg ss, rs, r)
  | .tup cs, acc, v, k => match instL cs acc v k with
    | (ss, rs, r) => (.tup ss, rs, r)
def instL : (ss : List Sh) → (acc : List Ty) → dens (shTL ss acc) → Nat → List SV × List Row × dens acc
  | [], _, v, _ => ([], [], v)
  | s :: r, acc, v, k => match instS s (shTL r acc) v k with
    | (x, rs, v') => match instL r acc v' (k + rs.length) with
      | (xs, rs', v'') => (x :: xs, rs ++ rs', v'')
end
/-- What a fit finds: the parts' values; the rows that are taken over; those that become stable. -/
structure Got (ts : List Ty) where
  v : dens ts
  own : List (Option Nat)
  fz : List Nat
def tupOf : SV → Option (List SV)
  | .tup ss => some ss
  | _ => none
mutual
def fitS (m : Mem) (n : Nat) : (s : Sh) → (acc : List Ty) → SV → dens acc → Option (Got (shT s acc))
  | .dat t, _, x, r => match dataOf m x with
    | some (d, ids) => match undoT t d with
      | some y => some ⟨(y, r), [], ids⟩
      | none => none
    | none => none
  | .own e t, _, x, r => match x with
    | .os id => match m.ob id with
      | some (.row e' t' l) => bif Nat.beq e e' then match castL t t' l with
          | some l' => some ⟨(l', r), [some id], []⟩
          | none => none
        else none
      | _ => none
    | .d (.v y) => bif isNil y && Nat.ble 1 (size t) then some ⟨(([] : List (den t)), r), [none], []⟩ else none
    | _ => none
  | .bx id off, _, x, r => match x with
    | .bx id' off' => bif Nat.beq id id' && Nat.beq off off' && Nat.blt id n then some ⟨r, [], []⟩ else none
    | _ => none
  | .rf id, _, x, r => match x with
    | .os id' => bif Nat.beq id id' && Nat.blt id n then some ⟨r, [], []⟩ else none
    | _ => none
  | .tp, _, x, r => match x with
    | .tp => some ⟨r, [], []⟩
    | _ => none
  | .un, _, _, r => some ⟨r, [], []⟩
  | .agg cs, acc, x, r => match aggOf x with
    | some ss => fitL m n cs acc ss r
    | none => none
  | .tup cs, acc, x, r => match tupOf x with
    | some ss => fitL m n cs acc ss r
    | none => none
def fitL (m : Mem) (n : Nat) : (ss : List Sh) → (acc : List Ty) → List SV → dens acc → Option (Got (shTL ss acc))
  | [], _, [], r => some ⟨r, [], []⟩
  | s :: ss, acc, x :: xs, r => match fitL m n ss acc xs r with
    | some g => match fitS m n s (shTL ss acc) x g.v with
      | some h => some ⟨h.v, h.own ++ g.own, h.fz ++ g.fz⟩
      | none => none
    | none => none
  | _, _, _, _ => none
end
/-- The handle that a row taken over has. -/
def ownH (H : Nat → Value) : Option Nat → Value
  | some id => H id
  | none => .slice none 0 0
def ownF (F : Nat → Nat → Prop) : Option Nat → Nat → Prop
  | some id => F id
  | none => fun _ => False
/-- Where things are, the new rows under their new numbers. -/
def reCx (c : Cx) (k : Nat) (own : List (Option Nat)) : Cx := ⟨c.S, fun i => if i < k then c.H i else ownH c.H ((own[i - k]?).getD none), fun i => if i < k then c.F i else ownF c.F ((own[i - k]?).getD none), c.T⟩
/-- The rows are those that were found. -/
def RowsOK (m : Mem) (own : List (Option Nat)) (rs : List Row) : Prop := rs.length = own.length ∧ ∀ (j : Nat) (o : Option Nat) (r : Row), own[j]? = some o → rs[j]? = some r → match o with
  | some id => m.ob id = some (.row r.1 r.2.1 r.2.2)
  | none => r.2.2 = [] ∧ 1 ≤ size r.2.1
theorem RowsOK.app {m : Mem} {o1 o2 : List (Option Nat)} {r1 r2 : List Row} (h1 : RowsOK m o1 r1) (h2 : RowsOK m o2 r2) : RowsOK m (o1 ++ o2) (r1 ++ r2) := by
  refine ⟨by simp [h1.1, h2.1], fun j o r ho hr => ?_⟩
  by_cases hj : j < o1.length
  · rw [List.getElem?_append_left hj] at ho
    rw [List.getElem?_append_left (by rw [h1.1]; exact hj)] at hr
    exact h1.2 j o r ho hr
  · rw [List.getElem?_append_right (by omega)] at ho
    rw [List.getElem?_append_right (by rw [h1.1]; omega), h1.1] at hr
    exact h2.2 _ o r ho hr
mutual
theorem SV.inU_all : ∀ (s : SV), s.inU fun _ => True
  | .bx _ _ => trivial
  | .os _ => trivial
  | .sub _ _ _ _ => trivial
  | .op _ _ _ _ => trivial
  | .agg cs => inUL_all cs
  | .tup cs => inUL_all cs
  | .fn _ cs => inUL_all cs
  | .cnd _ _ _ x => SV.inU_all x
  | .d _ => trivial
  | .tp => trivial
  | .un => trivial
  | .ns _ => trivial
  | .np _ _ _ _ => trivial
  | .inn _ _ => trivial
  | .ip _ _ _ _ _ => trivial
theorem inUL_all : ∀ (cs : List SV), inUL (fun _ => True) cs
  | [] => trivial
  | s :: r => ⟨SV.inU_all s, inUL_all r⟩
end
structure Fz (m : Mem) (c c1 : Cx) (w : World) (ids0 : List Nat) : Prop where
  h : OX m.ob m.U m.tp w c
  h' : OX (ovr m.ob (fzU m.ob ids0)) m.U m.tp w c1
  t : Tr m.ob m.U w c (ovr m.ob (fzU m.ob ids0)) m.U w c1
  hH : c1.H = c.H
mutual
/-- A word that fits a shape is, under the new numbers, the shape's word. -/
theorem fitS_ok {m : Mem} {c c1 : Cx} {w : World} {ids0 : List Nat} (F : Fz m c c1 w ids0) {k0 : Nat} {own0 : List (Option Nat)} : ∀ (s : Sh) (acc : List Ty) (x : SV) (r : dens acc) (g : Got (shT s acc)), fitS m k0 s acc x r = some g → (∀ i ∈ g.fz, i ∈ ids0) → ∀ (k : Nat), k0 ≤ k → (∀ (j : Nat) (o : Option Nat), g.own[j]? = some o → own0[k - k0 + j]? = some o) →
    (instS s acc g.v k).2.2 = r ∧ RowsOK m g.own (instS s acc g.v k).2.1 ∧ ((instS s acc g.v k).1.inU fun i => i < k0 ∨ (k ≤ i ∧ i < k + g.own.length)) ∧ ∀ {u : Value}, SRel c w x u → SRel (reCx c1 k0 own0) w (instS s acc g.v k).1 u
  | .dat ty, acc, x, r, g, hg, hz, k, hk, ho => by
    unfold fitS at hg
    split at hg
    · rename_i d ids hd
      split at hg
      · rename_i y hy
        injection hg with hg
        subst hg
        refine ⟨rfl, ⟨rfl, fun j o r ho => by simp at ho⟩, trivial, fun {u} hr => .d _ _ ?_⟩
        exact undoT_rd hy (dataOf_rel F.h F.h' F.t F.hH x hd hz hr)
      · cases hg
    · cases hg
  | .own e ty, acc, x, r, g, hg, hz, k, hk, ho => by
    unfold fitS at hg
    split at hg
    · rename_i id
      split at hg
      · rename_i e' t' l hob
        cases hb : Nat.beq e e' with
        | false => rw [hb] at hg; cases hg
        | true =>
          rw [hb] at hg
          have hb := beq_eq hb
          subst hb
          simp only [cond_true] at hg
          split at hg
          · rename_i l' hl
            obtain ⟨e1, e2⟩ := castL_eq hl
            subst e1
            have e2 := eq_of_heq e2
            subst e2
            injection hg with hg
            subst hg
            refine ⟨rfl, ⟨rfl, fun j o r ho hr => ?_⟩, .inr ⟨Nat.le_refl _, by show k < k + 1; omega⟩, fun {u} hr => ?_⟩
            · cases j with
              | zero =>
                simp at ho
                subst ho
                have hr : [(e, (⟨t', l⟩ : Sigma fun t : Ty => List (den t)))][0]? = some r := hr
                simp at hr
                subst hr
                exact hob
              | succ j => simp at ho
            · rw [srel_os hr, ← F.hH]
              have := SRel.os (c := reCx c1 k0 own0) (w := w) k
              have e : (reCx c1 k0 own0).H k = c1.H id := by
                show (if k < k0 then c1.H k else ownH c1.H ((own0[k - k0]?).getD none)) = _
                have := ho 0 (some id) rfl
                rw [Nat.add_zero] at this
                rw [if_neg (by omega), this]; rfl
              rw [e] at this
              exact this
          · cases hg
      · cases hg
    · rename_i y
      cases hb : (isNil y && Nat.ble 1 (size ty)) with
      | false => rw [hb] at hg; cases hg
      | true =>
        rw [hb] at hg
        obtain ⟨b1, b2⟩ := Bool.and_eq_true_iff.1 hb
        injection hg with hg
        subst hg
        refine ⟨rfl, ⟨rfl, fun j o r ho hr => ?_⟩, .inr ⟨Nat.le_refl _, by show k < k + 1; omega⟩, fun {u} hr => ?_⟩
        · cases j with
          | zero =>
            simp at ho
            subst ho
            have hr : [(e, (⟨ty, []⟩ : Sigma fun t : Ty => List (den t)))][0]? = some r := hr
            simp at hr
            subst hr
            exact ⟨rfl, Nat.le_of_ble_eq_true b2⟩
          | succ j => simp at ho
        · rw [srel_v hr, isNil_eq b1]
          have := SRel.os (c := reCx c1 k0 own0) (w := w) k
          have e : (reCx c1 k0 own0).H k = .slice none 0 0 := by
            show (if k < k0 then c1.H k else ownH c1.H ((own0[k - k0]?).getD none)) = _
            have := ho 0 none rfl
            rw [Nat.add_zero] at this
            rw [if_neg (by omega), this]; rfl
          rw [e] at this
          exact this
    · cases hg
  | .bx id off, acc, x, r, g, hg, hz, k, hk, ho => by
    unfold fitS at hg
    split at hg
    · rename_i id' off'
      cases hb : (Nat.beq id id' && Nat.beq off off' && Nat.blt id k0) with
      | false => rw [hb] at hg; cases hg
      | true =>
        rw [hb] at hg
        simp only [Bool.and_eq_true] at hb
        have b1 := beq_eq hb.1.1
        have b2 := beq_eq hb.1.2
        have b3 : id < k0 := Nat.le_of_ble_eq_true hb.2
        subst b1 b2
        injection hg with hg
        subst hg
        refine ⟨rfl, ⟨rfl, fun j o r ho => by simp at ho⟩, .inl b3, fun {u} hr => ?_⟩
        obtain ⟨b, hb, rfl⟩ := srel_bx hr
        refine .bx id off b ?_
        show (if id < k0 then c1.H id else _) = _
        rw [if_pos b3, F.hH]; exact hb
    · cases hg
  | .rf id, acc, x, r, g, hg, hz, k, hk, ho => by
    unfold fitS at hg
    split at hg
    · rename_i id'
      cases hb : (Nat.beq id id' && Nat.blt id k0) with
      | false => rw [hb] at hg; cases hg
      | true =>
        rw [hb] at hg
        simp only [Bool.and_eq_true] at hb
        have b1 := beq_eq hb.1
        have b3 : id < k0 := Nat.le_of_ble_eq_true hb.2
        subst b1
        injection hg with hg
        subst hg
        refine ⟨rfl, ⟨rfl, fun j o r ho => by simp at ho⟩, .inl b3, fun {u} hr => ?_⟩
        have e1 : (reCx c1 k0 own0).H id = c.H id := by
          show (if id < k0 then c1.H id else _) = _
          rw [if_pos b3, F.hH]
        rw [srel_os hr, ← e1]
        exact .os id
    · cases hg
  | .tp, acc, x, r, g, hg, hz, k, hk, ho => by
    unfold fitS at hg
    split at hg
    · injection hg with hg
      subst hg
      refine ⟨rfl, ⟨rfl, fun j o r ho => by simp at ho⟩, trivial, fun {u} hr => ?_⟩
      obtain ⟨T, hT, rfl⟩ := srel_tp hr
      exact .tp T (F.t.tK T hT)
    · cases hg
  | .un, acc, x, r, g, hg, hz, k, hk, ho => by
    unfold fitS at hg
    injection hg with hg
    subst hg
    exact ⟨rfl, ⟨rfl, fun j o r ho => by simp at ho⟩, trivial, fun {u} _ => .un u⟩
  | .agg cs, acc, x, r, g, hg, hz, k, hk, ho => by
    unfold fitS at hg
    split at hg
    · rename_i ss hs
      obtain ⟨q1, q2, q3, q4, q5⟩ := fitL_ok F cs acc ss r g hg hz k hk ho
      refine ⟨q1, q2, mkAgg_inU q3, fun {u} hr => ?_⟩
      obtain ⟨us, rfl, hl, h1, h2, _⟩ := aggOf_rel hs hr (SV.inU_all x)
      exact srel_mkAgg (by omega) h1 fun i s u hs hu => by
        have hi : i < ss.length := by have := (List.getElem?_eq_some_iff.1 hs).1; omega
        exact q5 i ss[i] s (List.getElem?_eq_getElem hi) hs (h2 i _ u (List.getElem?_eq_getElem hi) hu)
    · cases hg
  | .tup cs, acc, x, r, g, hg, hz, k, hk, ho => by
    unfold fitS at hg
    split at hg
    · rename_i ss hs
      have hx : x = .tup ss := by
        unfold tupOf at hs
        split at hs
        · injection hs with hs; rw [hs]
        · cases hs
      subst hx
      obtain ⟨q1, q2, q3, q4, q5⟩ := fitL_ok F cs acc ss r g hg hz k hk ho
      refine ⟨q1, q2, q3, fun {u} hr => ?_⟩
      cases hr with
      | tup _ us hl h2 =>
        exact .tup _ us (by omega) fun i s u hs hu => by
          have hi : i < ss.length := by have := (List.getElem?_eq_some_iff.1 hs).1; omega
          exact q5 i ss[i] s (List.getElem?_eq_getElem hi) hs (h2 i _ u (List.getElem?_eq_getElem hi) hu)
    · cases hg
theorem fitL_ok {m : Mem} {c c1 : Cx} {w : World} {ids0 : List Nat} (F : Fz m c c1 w ids0) {k0 : Nat} {own0 : List (Option Nat)} : ∀ (ss : List Sh) (acc : List Ty) (xs : List SV) (r : dens acc) (g : Got (shTL ss acc)), fitL m k0 ss acc xs r = some g → (∀ i ∈ g.fz, i ∈ ids0) → ∀ (k : Nat), k0 ≤ k → (∀ (j : Nat) (o : Option Nat), g.own[j]? = some o → own0[k - k0 + j]? = some o) →
    (instL ss acc g.v k).2.2 = r ∧ RowsOK m g.own (instL ss acc g.v k).2.1 ∧ inUL (fun i => i < k0 ∨ (k ≤ i ∧ i < k + g.own.length)) (instL ss acc g.v k).1 ∧ xs.length = (instL ss acc g.v k).1.length ∧ ∀ (i : Nat) (x y : SV), xs[i]? = some x → (instL ss acc g.v k).1[i]? = some y → ∀ {u : Value}, SRel c w x u → SRel (reCx c1 k0 own0) w y u
  | [], acc, [], r, g, hg, hz, k, hk, ho => by
    unfold fitL at hg
    injection hg with hg
    subst hg
    exact ⟨rfl, ⟨rfl, fun j o r ho => by simp at ho⟩, trivial, rfl, fun i x y hx => by simp at hx⟩
  | [], acc, _ :: _, r, g, hg, hz, k, hk, ho => by simp [fitL] at hg
  | _ :: _, acc, [], r, g, hg, hz, k, hk, ho => by simp [fitL] at hg
  | s :: ss, acc, x :: xs, r, g, hg, hz, k, hk, ho => by
    unfold fitL at hg
    split at hg
    · rename_i g1 h1
      split at hg
      · rename_i g2 h2
        injection hg with hg
        subst hg
        obtain ⟨p1, p2, p3, p4⟩ := fitS_ok F s (shTL ss acc) x g1.v g2 h2 (fun i hi => hz i (by simp [hi])) k hk (fun j o hj => ho j o (by
          have hjl := (List.getElem?_eq_some_iff.1 hj).1
          show (g2.own ++ g1.own)[j]? = some o
          rw [List.getElem?_append_left hjl]; exact hj))
        have hl : (instS s (shTL ss acc) g2.v k).2.1.length = g2.own.length := p2.1
        obtain ⟨q1, q2, q3, q4, q5⟩ := fitL_ok F ss acc xs r g1 h1 (fun i hi => hz i (by simp [hi])) (k + g2.own.length) (by omega) (fun j o hj => by
          have := ho (g2.own.length + j) o (by
            show (g2.own ++ g1.own)[g2.own.length + j]? = some o
            rw [List.getElem?_append_right (by omega), show g2.own.length + j - g2.own.length = j by omega]; exact hj)
          rw [show k + g2.own.length - k0 + j = k - k0 + (g2.own.length + j) by omega]; exact this)
        have e : instL (s :: ss) acc g2.v k = ((instS s (shTL ss acc) g2.v k).1 :: (instL ss acc g1.v (k + g2.own.length)).1, (instS s (shTL ss acc) g2.v k).2.1 ++ (instL ss acc g1.v (k + g2.own.length)).2.1, (instL ss acc g1.v (k + g2.own.length)).2.2) := by
          show (match instS s (shTL ss acc) g2.v k with | (x, rs, v') => match instL ss acc v' (k + rs.length) with | (xs, rs', v'') => (x :: xs, rs ++ rs', v'')) = _
          dsimp only
          rw [hl, p1]
        rw [e]
        refine ⟨q1, p2.app q2, ⟨SV.inU_mono (fun i hi => hi.imp id fun hi => ⟨hi.1, by rw [List.length_append]; omega⟩) _ p3, inUL_mono (fun i hi => hi.imp id fun hi => ⟨by omega, by rw [List.length_append]; omega⟩) _ q3⟩, by simp [q4], fun i x' y hx hy u hr => ?_⟩
        cases i with
        | zero => simp at hx hy; subst hx hy; exact p4 hr
        | succ i => simp at hx hy; exact q5 i x' y hx hy hr
      · cases hg
    · cases hg
end
end RE
end Go.Proofs.YtpeggkeenboacaaGreat
namespace Go.Proofs.YtpeggkeenboacaaGreat
open Go.RowKit
set_option linter.unusedVariables false
namespace RE
variable {P : Program}
structure Shape where
  sl : List (Nat × Sh)
  bx : List (Nat × List Sh)
  kl : List Nat
  ko : List Nat
  rw : List (Nat × TypeId × Ty)
def Shape.all (s : Shape) : List Sh := s.sl.map (·.2) ++ (s.bx.map (fun b => Sh.tup b.2) ++ s.rw.map (fun r => Sh.dat (.sl r.2.2)))
def Shape.tys (s : Shape) : List Ty := shTL s.all []
def rowsOb : Nat → List Row → List (Nat × Option Ob)
  | _, [] => []
  | k, r :: rs => (k, some (.row r.1 r.2.1 r.2.2)) :: rowsOb (k + 1) rs
def zipS : List (Nat × Sh) → List SV → List (Nat × SV)
  | p :: r, x :: xs => (p.1, x) :: zipS r xs
  | _, _ => []
def tupL : SV → List SV
  | .tup cs => cs
  | _ => []
def zipB : List (Nat × List Sh) → List SV → List (Nat × Option Ob)
  | p :: r, x :: xs => (p.1, some (.box (tupL x))) :: zipB r xs
  | _, _ => []
def listOf (t : Ty) : SV → List (den t)
  | .d d => (decL t d).getD []
  | _ => []
/-- A row (or a nest, where the base has one) with other elements. -/
def reOb (b : Option Ob) (e : TypeId) (t : Ty) (l : List (den t)) : Ob := match b with
  | some (.nst e0 _ k e' t' _) => .nst e0 t k e' t' l
  | _ => .row e t l
/-- Rows that were changed where they lie. -/
def zipR (B : Nat → Option Ob) : List (Nat × TypeId × Ty) → List SV → List (Nat × Option Ob)
  | p :: r, x :: xs => (p.1, some (reOb (B p.1) p.2.1 p.2.2 (listOf p.2.2 x))) :: zipR B r xs
  | _, _ => []
/-- The state of a shape over a base. -/
def Shape.inst (s : Shape) (base : St) (v : dens s.tys) : St :=
  ⟨zipS s.sl (instL s.all [] v base.ms.nx).1 ++ (s.kl.map (fun x => (x, SV.un)) ++ base.sl),
   ⟨zipB s.bx ((instL s.all [] v base.ms.nx).1.drop s.sl.length) ++ (zipR base.ms.obs s.rw ((instL s.all [] v base.ms.nx).1.drop (s.sl.length + s.bx.length)) ++ (rowsOb base.ms.nx (instL s.all [] v base.ms.nx).2.1 ++ (s.ko.map (fun x => (x, none)) ++ base.ms.ob))), base.ms.nx + (instL s.all [] v base.ms.nx).2.1.length, base.ms.tp⟩, base.n, [], []⟩
def boxOf (m : Mem) (id : Nat) : SV := match m.ob id with
  | some (.box cs) => .tup cs
  | _ => .un
def rowW (m : Mem) (id : Nat) : SV := match m.ob id with
  | some (.row _ t l) => .d (.sl t l)
  | some (.nst _ t _ _ _ l) => .d (.sl t l)
  | _ => .un
def isRow (m : Mem) (id : Nat) (e : TypeId) (t : Ty) : Bool := match m.ob id with
  | some (.row e' t' _) => Nat.beq e e' && t.beq t'
  | _ => false
def isNst : Option Ob → Bool
  | some (.nst _ _ _ _ _ _) => true
  | _ => false
/-- A row that is a row still, a nest that is a nest still. -/
def isRow2 (b s : Option Ob) (e : TypeId) (t : Ty) : Bool := match s with
  | some (.row e' t' _) => Nat.beq e e' && t.beq t' && !isNst b
  | some (.nst e1 t1 k1 f1 u1 _) => match b with
    | some (.nst e2 t2 k2 f2 u2 _) => t.beq t1 && Nat.beq e1 e2 && Nat.beq k1 k2 && Nat.beq f1 f2 && u1.beq u2
    | _ => false
  | _ => false
theorem isRow2_spec {b s : Option Ob} {e : TypeId} {t : Ty} (h : isRow2 b s e t = true) : ∃ l : List (den t), s = some (reOb b e t l) ∧ ((∃ l', s = some (.row e t l')) ∨ ∃ e1 k f u l', s = some (.nst e1 t k f u l')) ∧ (match s with | some (.row _ t l) => SV.d (.sl t l) | some (.nst _ t _ _ _ l) => .d (.sl t l) | _ => .un) = .d (.sl t l) := by
  unfold isRow2 at h
  split at h
  · rename_i e' t' l
    simp only [Bool.and_eq_true, Bool.not_eq_true'] at h
    obtain ⟨⟨b1, b2⟩, b3⟩ := h
    have b1 := beq_eq b1
    have b2 := Ty.beq_eq b2
    subst b1 b2
    refine ⟨l, ?_, .inl ⟨l, rfl⟩, rfl⟩
    unfold reOb
    split
    · cases b3
    · rfl
  · rename_i e1 t1 k1 f1 u1 l
    split at h
    · rename_i e2 t2 k2 f2 u2 l2
      simp only [Bool.and_eq_true] at h
      obtain ⟨⟨⟨⟨b1, b2⟩, b3⟩, b4⟩, b5⟩ := h
      have b1 := Ty.beq_eq b1
      have b2 := beq_eq b2
      have b3 := beq_eq b3
      have b4 := beq_eq b4
      have b5 := Ty.beq_eq b5
      subst b1 b2 b3 b4 b5
      exact ⟨l, rfl, .inr ⟨e1, k1, f1, u1, l, rfl⟩, rfl⟩
    · cases h
  · cases h
def isBox (m : Mem) (id : Nat) : Bool := match m.ob id with
  | some (.box _) => true
  | _ => false
def memK {α : Type} : List (Nat × α) → Nat → Bool
  | [], _ => false
  | p :: r, x => Nat.beq p.1 x || memK r x
def newsS (base st : St) : List (Nat × SV) := st.sl.take (st.sl.length - base.sl.length)
def oldOK (n : Nat) (ko : List Nat) (id : Nat) : Bool := Nat.ble n id || has ko id
def ownOK (n : Nat) (ko fz : List Nat) : List (Option Nat) → Bool
  | [] => true
  | none :: r => ownOK n ko fz r
  | some id :: r => oldOK n ko id && !(has fz id) && r.all (fun o => match o with
    | some j => !(Nat.beq id j)
    | none => true) && ownOK n ko fz r
def Shape.fit (s : Shape) (base st : St) : Option (dens s.tys) :=
  match fitL st.ms.mem base.ms.nx s.all [] (s.sl.map (fun p => look st.sl p.1) ++ (s.bx.map (fun b => boxOf st.ms.mem b.1) ++ s.rw.map (fun r => rowW st.ms.mem r.1))) () with
  | some g => bif (newsS base st).all (fun p => memK s.sl p.1 || has s.kl p.1) && (news base.ms st.ms).all (fun p => Nat.ble base.ms.nx p.1 || memK s.bx p.1 || has s.ko p.1 || memK s.rw p.1) && g.fz.all (oldOK base.ms.nx s.ko) && ownOK base.ms.nx s.ko g.fz g.own && s.bx.all (fun b => Nat.blt b.1 base.ms.nx && isBox st.ms.mem b.1) && s.rw.all (fun r => Nat.blt r.1 base.ms.nx && !(has s.ko r.1) && isRow2 (base.ms.obs r.1) (st.ms.obs r.1) r.2.1 r.2.2) && base.gs.isEmpty && (st.ms.tp == base.ms.tp) then some g.v else none
  | none => none
def lookK {α : Type} : List (Nat × α) → Nat → Option α
  | [], _ => none
  | p :: r, x => bif Nat.beq p.1 x then some p.2 else lookK r x
theorem lookK_cons {α : Type} (p : Nat × α) (r : List (Nat × α)) (x : Nat) : lookK (p :: r) x = if p.1 = x then some p.2 else lookK r x := by
  show (bif Nat.beq p.1 x then _ else _) = _
  by_cases h : p.1 = x
  · rw [h]; simp
  · rw [beq_ne h, if_neg h]; rfl
theorem look_app : ∀ (l r : List (Nat × SV)) (x : Nat), look (l ++ r) x = (lookK l x).getD (look r x)
  | [], r, x => rfl
  | (k, v) :: l, r, x => by
    rw [List.cons_append, look_cons, lookK_cons]
    by_cases h : k = x
    · rw [if_pos h, if_pos h]; rfl
    · rw [if_neg h, if_neg h]; exact look_app l r x
theorem lookO_app' : ∀ (l r : List (Nat × Option Ob)) (x : Nat), lookO (l ++ r) x = (lookK l x).getD (lookO r x)
  | [], r, x => rfl
  | (k, v) :: l, r, x => by
    rw [List.cons_append, lookO_cons, lookK_cons]
    by_cases h : k = x
    · subst h; rw [if_pos rfl, put_same]; rfl
    · rw [if_neg h, put_ne _ _ (fun e => h e.symm)]; exact lookO_app' l r x
theorem lookK_mem {α : Type} : ∀ {l : List (Nat × α)} {x : Nat} {v : α}, lookK l x = some v → (x, v) ∈ l
  | p :: r, x, v, h => by
    rw [lookK_cons] at h
    split at h
    · rename_i e
      injection h with h
      subst e h
      exact List.mem_cons_self
    · exact List.mem_cons_of_mem _ (lookK_mem h)
theorem lookK_un {α : Type} (f : Nat → α) : ∀ (l : List Nat) (x : Nat), lookK (l.map fun y => (y, f y)) x = if has l x = true then some (f x) else none
  | [], x => rfl
  | y :: r, x => by
    rw [List.map_cons, lookK_cons]
    by_cases h : y = x
    · subst h; rw [if_pos rfl, if_pos (has_cons.2 (.inl rfl))]
    · rw [if_neg h, lookK_un f r x]
      by_cases h2 : has r x = true
      · rw [if_pos h2, if_pos (has_cons.2 (.inr h2))]
      · rw [if_neg h2, if_neg (fun e => (has_cons.1 e).elim h h2)]
theorem zipS_some : ∀ {l : List (Nat × Sh)} {xs : List SV} {x : Nat} {v : SV}, lookK (zipS l xs) x = some v → ∃ (i : Nat) (p : Nat × Sh), l[i]? = some p ∧ p.1 = x ∧ xs[i]? = some v
  | [], _, x, v, h => by simp [zipS, lookK] at h
  | p :: r, [], x, v, h => by simp [zipS, lookK] at h
  | p :: r, y :: xs, x, v, h => by
    rw [zipS, lookK_cons] at h
    split at h
    · rename_i e
      injection h with h
      exact ⟨0, p, rfl, e, by rw [← h]; rfl⟩
    · obtain ⟨i, q, h1, h2, h3⟩ := zipS_some h
      exact ⟨i + 1, q, h1, h2, h3⟩
theorem zipS_none : ∀ {l : List (Nat × Sh)} {xs : List SV} {x : Nat}, l.length ≤ xs.length → lookK (zipS l xs) x = none → memK l x = false
  | [], _, x, _, h => rfl
  | p :: r, [], x, hl, h => by simp at hl
  | p :: r, y :: xs, x, hl, h => by
    rw [zipS, lookK_cons] at h
    split at h
    · cases h
    · rename_i e
      show (Nat.beq p.1 x || memK r x) = false
      rw [beq_ne e, zipS_none (by simpa using hl) h]; rfl
theorem zipB_some : ∀ {l : List (Nat × List Sh)} {xs : List SV} {x : Nat} {v : Option Ob}, lookK (zipB l xs) x = some v → ∃ (i : Nat) (p : Nat × List Sh) (y : SV), l[i]? = some p ∧ p.1 = x ∧ xs[i]? = some y ∧ v = some (.box (tupL y))
  | [], _, x, v, h => by simp [zipB, lookK] at h
  | p :: r, [], x, v, h => by simp [zipB, lookK] at h
  | p :: r, y :: xs, x, v, h => by
    rw [zipB, lookK_cons] at h
    split at h
    · rename_i e
      injection h with h
      exact ⟨0, p, y, rfl, e, rfl, h.symm⟩
    · obtain ⟨i, q, y', h1, h2, h3, h4⟩ := zipB_some h
      exact ⟨i + 1, q, y', h1, h2, h3, h4⟩
theorem zipB_none : ∀ {l : List (Nat × List Sh)} {xs : List SV} {x : Nat}, l.length ≤ xs.length → lookK (zipB l xs) x = none → memK l x = false
  | [], _, x, _, h => rfl
  | p :: r, [], x, hl, h => by simp at hl
  | p :: r, y :: xs, x, hl, h => by
    rw [zipB, lookK_cons] at h
    split at h
    · cases h
    · rename_i e
      show (Nat.beq p.1 x || memK r x) = false
      rw [beq_ne e, zipB_none (by simpa using hl) h]; rfl
theorem zipR_some {B : Nat → Option Ob} : ∀ {l : List (Nat × TypeId × Ty)} {xs : List SV} {x : Nat} {v : Option Ob}, lookK (zipR B l xs) x = some v → ∃ (i : Nat) (p : Nat × TypeId × Ty) (y : SV), l[i]? = some p ∧ p.1 = x ∧ xs[i]? = some y ∧ v = some (reOb (B p.1) p.2.1 p.2.2 (listOf p.2.2 y))
  | [], _, x, v, h => by simp [zipR, lookK] at h
  | p :: r, [], x, v, h => by simp [zipR, lookK] at h
  | p :: r, y :: xs, x, v, h => by
    rw [zipR, lookK_cons] at h
    split at h
    · rename_i e
      injection h with h
      exact ⟨0, p, y, rfl, e, rfl, h.symm⟩
    · obtain ⟨i, q, y', h1, h2, h3, h4⟩ := zipR_some h
      exact ⟨i + 1, q, y', h1, h2, h3, h4⟩
theorem zipR_none {B : Nat → Option Ob} : ∀ {l : List (Nat × TypeId × Ty)} {xs : List SV} {x : Nat}, l.length ≤ xs.length → lookK (zipR B l xs) x = none → memK l x = false
  | [], _, x, _, h => rfl
  | p :: r, [], x, hl, h => by simp at hl
  | p :: r, y :: xs, x, hl, h => by
    rw [zipR, lookK_cons] at h
    split at h
    · cases h
    · rename_i e
      show (Nat.beq p.1 x || memK r x) = false
      rw [beq_ne e, zipR_none (by simpa using hl) h]; rfl
theorem Ty.beq_refl : ∀ t : Ty, t.beq t = true
  | .int _ => by simp [Ty.beq]
  | .bool => rfl
  | .str => rfl
  | .sl t => Ty.beq_refl t
  | .st _ => Nat.beq_refl _
mutual
theorem fitS_rest {m : Mem} {n : Nat} : ∀ (s : Sh) (acc : List Ty) (x : SV) (r : dens acc) (g : Got (shT s acc)), fitS m n s acc x r = some g → ∀ k, (instS s acc g.v k).2.2 = r
  | .dat t, acc, x, r, g, hg, k => by
    unfold fitS at hg
    split at hg
    · split at hg
      · injection hg with hg; subst hg; rfl
      · cases hg
    · cases hg
  | .own e t, acc, x, r, g, hg, k => by
    unfold fitS at hg
    split at hg
    · split at hg
      · rename_i e' t' l hl
        cases hb : Nat.beq e e' with
        | false => rw [hb] at hg; cases hg
        | true =>
          rw [hb] at hg
          simp only [cond_true] at hg
          split at hg
          · injection hg with hg; subst hg; rfl
          · cases hg
      · cases hg
    · rename_i y
      cases hb : (isNil y && Nat.ble 1 (size t)) with
      | false => rw [hb] at hg; cases hg
      | true =>
        rw [hb] at hg
        simp only [cond_true] at hg
        injection hg with hg; subst hg; rfl
    · cases hg
  | .bx id off, acc, x, r, g, hg, k => by
    unfold fitS at hg
    split at hg
    · rename_i id' off'
      cases hb : (Nat.beq id id' && Nat.beq off off' && Nat.blt id n) with
      | false => rw [hb] at hg; cases hg
      | true =>
        rw [hb] at hg
        simp only [cond_true] at hg
        injection hg with hg; subst hg; rfl
    · cases hg
  | .rf id, acc, x, r, g, hg, k => by
    unfold fitS at hg
    split at hg
    · rename_i id'
      cases hb : (Nat.beq id id' && Nat.blt id n) with
      | false => rw [hb] at hg; cases hg
      | true =>
        rw [hb] at hg
        simp only [cond_true] at hg
        injection hg with hg; subst hg; rfl
    · cases hg
  | .tp, acc, x, r, g, hg, k => by
    unfold fitS at hg
    split at hg
    · injection hg with hg; subst hg; rfl
    · cases hg
  | .un, acc, x, r, g, hg, k => by
    unfold fitS at hg
    injection hg with hg; subst hg; rfl
  | .agg cs, acc, x, r, g, hg, k => by
    unfold fitS at hg
    split at hg
    · exact fitL_rest cs acc _ r g hg k
    · cases hg
  | .tup cs, acc, x, r, g, hg, k => by
    unfold fitS at hg
    split at hg
    · exact fitL_rest cs acc _ r g hg k
    · cases hg
theorem fitL_rest {m : Mem} {n : Nat} : ∀ (ss : List Sh) (acc : List Ty) (xs : List SV) (r : dens acc) (g : Got (shTL ss acc)), fitL m n ss acc xs r = some g → ∀ k, (instL ss acc g.v k).2.2 = r
  | [], acc, [], r, g, hg, k => by
    unfold fitL at hg
    injection hg with hg; subst hg; rfl
  | [], acc, _ :: _, r, g, hg, k => by simp [fitL] at hg
  | s :: ss, acc, [], r, g, hg, k => by simp [fitL] at hg
  | s :: ss, acc, x :: xs, r, g, hg, k => by
    unfold fitL at hg
    split at hg
    · rename_i g1 h1
      split at hg
      · rename_i g2 h2
        injection hg with hg
        subst hg
        have e1 := fitS_rest s (shTL ss acc) x g1.v g2 h2 k
        show (instL ss acc (instS s (shTL ss acc) g2.v k).2.2 _).2.2 = r
        rw [e1]
        exact fitL_rest ss acc xs r g1 h1 _
      · cases hg
    · cases hg
end
theorem castL_same (t : Ty) (l : List (den t)) : castL t t l = some l := by
  unfold castL
  split
  · rfl
  · rename_i h; exact absurd (Ty.beq_refl t) h
/-- What fits as data is the data. -/
theorem fitL_dat {m : Mem} {n : Nat} : ∀ (ss : List Sh) (acc : List Ty) (xs : List SV) (r : dens acc) (g : Got (shTL ss acc)), fitL m n ss acc xs r = some g → ∀ (i k : Nat) (t : Ty) (l : List (den t)), ss[i]? = some (.dat (.sl t)) → xs[i]? = some (.d (.sl t l)) → (instL ss acc g.v k).1[i]? = some (.d (.sl t l))
  | [], acc, xs, r, g, hg, i, k, t, l, hs, hx => by simp at hs
  | s :: ss, acc, [], r, g, hg, i, k, t, l, hs, hx => by simp at hx
  | s :: ss, acc, x :: xs, r, g, hg, i, k, t, l, hs, hx => by
    unfold fitL at hg
    split at hg
    · rename_i g1 h1
      split at hg
      · rename_i g2 h2
        injection hg with hg
        subst hg
        cases i with
        | zero =>
          simp at hs hx
          subst hs hx
          unfold fitS at h2
          have e1 : dataOf m (.d (.sl t l)) = some (.sl t l, []) := by unfold dataOf; rfl
          simp only [e1] at h2
          have e2 : undoT (.sl t) (.sl t l) = some l := castL_same t l
          simp only [e2] at h2
          injection h2 with h2
          subst h2
          rfl
        | succ i =>
          have hrec := fun k => fitL_dat ss acc xs r g1 h1 i k t l (by simpa using hs) (by simpa using hx)
          have e := (fitS_rest s (shTL ss acc) x g1.v g2 h2 k)
          show (_ :: _)[i + 1]? = _
          rw [List.getElem?_cons_succ]
          show (instL ss acc (instS s (shTL ss acc) g2.v k).2.2 _).1[i]? = _
          rw [e]
          exact hrec _
      · cases hg
    · cases hg
theorem rowsOb_some : ∀ {rs : List Row} {k x : Nat} {v : Option Ob}, lookK (rowsOb k rs) x = some v → ∃ (j : Nat) (r : Row), x = k + j ∧ rs[j]? = some r ∧ v = some (.row r.1 r.2.1 r.2.2)
  | [], k, x, v, h => by simp [rowsOb, lookK] at h
  | r :: rs, k, x, v, h => by
    rw [rowsOb, lookK_cons] at h
    split at h
    · rename_i e
      injection h with h
      exact ⟨0, r, e.symm, rfl, h.symm⟩
    · obtain ⟨j, q, h1, h2, h3⟩ := rowsOb_some h
      exact ⟨j + 1, q, by omega, h2, h3⟩
mutual
theorem instS_noC : ∀ (s : Sh) (acc : List Ty) (v : dens (shT s acc)) (k : Nat) {q : Nat} {wt g : Bool} {y : SV}, (instS s acc v k).1 ≠ .cnd q wt g y
  | .dat t, acc, v, k, _, _, _, _ => fun e => by cases e
  | .own e t, acc, v, k, _, _, _, _ => fun e => by cases e
  | .bx id off, acc, v, k, _, _, _, _ => fun e => by cases e
  | .rf id, acc, v, k, _, _, _, _ => fun e => by cases e
  | .tp, acc, v, k, _, _, _, _ => fun e => by cases e
  | .un, acc, v, k, _, _, _, _ => fun e => by cases e
  | .agg cs, acc, v, k, _, _, _, _ => fun e => by
    have e : mkAgg (instL cs acc v k).1 = .cnd _ _ _ _ := e
    unfold mkAgg at e
    split at e <;> cases e
  | .tup cs, acc, v, k, _, _, _, _ => fun e => by cases e
theorem instL_noC : ∀ (ss : List Sh) (acc : List Ty) (v : dens (shTL ss acc)) (k i : Nat) {q : Nat} {wt g : Bool} {y : SV}, (instL ss acc v k).1[i]? ≠ some (.cnd q wt g y)
  | [], acc, v, k, i, _, _, _, _ => fun e => by simp [instL] at e
  | s :: ss, acc, v, k, i, _, _, _, _ => fun e => by
    cases i with
    | zero => exact instS_noC s (shTL ss acc) v k (by simpa [instL] using e)
    | succ i => exact instL_noC ss acc _ _ i (by simpa [instL] using e)
end
theorem instL_tup : ∀ (ss : List Sh) (acc : List Ty) (v : dens (shTL ss acc)) (k i : Nat) {cs : List Sh} {y : SV}, ss[i]? = some (.tup cs) → (instL ss acc v k).1[i]? = some y → ∃ ys, y = .tup ys
  | [], acc, v, k, i, _, _, h, _ => by simp at h
  | s :: ss, acc, v, k, i, _, _, h, e => by
    cases i with
    | zero =>
      simp at h
      subst h
      exact ⟨_, (by simpa [instL, instS] using e.symm)⟩
    | succ i => exact instL_tup ss acc _ _ i (by simpa using h) (by simpa [instL] using e)
theorem all_has {l : List Nat} {p : Nat → Bool} (h : l.all p = true) {x : Nat} (hx : x ∈ l) : p x = true := List.all_eq_true.1 h x hx
theorem has_mem {l : List Nat} {x : Nat} (h : x ∈ l) : has l x = true := by
  induction l with
  | nil => cases h
  | cons y r ih =>
    rcases List.mem_cons.1 h with e | e
    · exact has_cons.2 (.inl e.symm)
    · exact has_cons.2 (.inr (ih e))
theorem ownOK_spec {n : Nat} {ko fz : List Nat} : ∀ {own : List (Option Nat)}, ownOK n ko fz own = true → (∀ (j id : Nat), own[j]? = some (some id) → oldOK n ko id = true ∧ has fz id = false) ∧ ∀ (i j id : Nat), i ≠ j → own[i]? = some (some id) → own[j]? ≠ some (some id)
  | [], _ => ⟨fun j id h => by simp at h, fun i j id _ h => by simp at h⟩
  | none :: r, h => by
    obtain ⟨h1, h2⟩ := ownOK_spec (own := r) h
    refine ⟨fun j id hj => ?_, fun i j id hne hi hj => ?_⟩
    · cases j with
      | zero => simp at hj
      | succ j => exact h1 j id (by simpa using hj)
    · cases i with
      | zero => simp at hi
      | succ i =>
        cases j with
        | zero => simp at hj
        | succ j => exact h2 i j id (by omega) (by simpa using hi) (by simpa using hj)
  | some id0 :: r, h => by
    unfold ownOK at h
    simp only [Bool.and_eq_true, Bool.not_eq_true'] at h
    obtain ⟨⟨⟨a1, a2⟩, a3⟩, a4⟩ := h
    obtain ⟨h1, h2⟩ := ownOK_spec (own := r) a4
    have hn : ∀ j id, r[j]? = some (some id) → id0 ≠ id := fun j id hj e => by
      have := List.all_eq_true.1 a3 (some id) (List.mem_of_getElem? hj)
      rw [e] at this
      simp at this
    refine ⟨fun j id hj => ?_, fun i j id hne hi hj => ?_⟩
    · cases j with
      | zero => simp at hj; subst hj; exact ⟨a1, a2⟩
      | succ j => exact h1 j id (by simpa using hj)
    · cases i with
      | zero =>
        simp at hi
        subst hi
        cases j with
        | zero => exact hne rfl
        | succ j => exact hn j id0 (by simpa using hj) rfl
      | succ i =>
        cases j with
        | zero => simp at hj; subst hj; exact hn i id0 (by simpa using hi) rfl
        | succ j => exact h2 i j id (by omega) (by simpa using hi) (by simpa using hj)
end RE
end Go.Proofs.YtpeggkeenboacaaGreat
