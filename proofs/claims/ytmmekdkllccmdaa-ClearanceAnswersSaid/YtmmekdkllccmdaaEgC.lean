/-
  The engine's pure operations, second part: loads, fields, elements, lengths, structs.
-/
import Derived.Test.YtmmekdkllccmdaaEgB
namespace Go.Proofs.Ytmmekdkllccmdaa
open Go.RowKit
set_option linter.unusedVariables false
namespace Eng
variable {P : Program}
def oneTy (P : Program) (t : TypeId) : Bool := match P.underlying t with
  | some (.struct _) | some (.array _ _) | none => false
  | _ => true
def aggTy (P : Program) (t : TypeId) (sz : Nat) : Bool := (match P.underlying t with
  | some (.struct _) | some (.array _ _) => true
  | _ => false) && (match P.info? t with
  | some i => Nat.beq i.size sz
  | none => false)
def fldTy (P : Program) (s f k : Nat) : Bool := match P.underlying s with
  | some (.struct fs) => match fs[f]? with
    | some fd => Nat.beq fd.offset k && (match P.info? fd.type with
      | some i => !(Nat.beq i.size 0)
      | none => false)
    | none => false
  | _ => false
def slTy (P : Program) (t e sz : Nat) : Bool := match P.underlying t with
  | some (.slice e') => Nat.beq e' e && (match P.info? e with
    | some i => Nat.beq i.size sz
    | none => false)
  | _ => false
theorem fldTy_spec {s f k : Nat} (h : fldTy P s f k = true) : ∃ fs fd i, P.underlying s = some (.struct fs) ∧ fs[f]? = some fd ∧ fd.offset = k ∧ P.info? fd.type = some i ∧ i.size ≠ 0 := by
  unfold fldTy at h
  split at h
  · rename_i fs hu
    split at h
    · rename_i fd hf
      simp only [Bool.and_eq_true] at h
      obtain ⟨h1, h2⟩ := h
      split at h2
      · rename_i i hi
        exact ⟨fs, fd, i, hu, hf, beq_eq h1, hi, fun e => by rw [e] at h2; simp at h2⟩
      · cases h2
    · cases h
  · cases h
theorem slTy_spec {t e sz : Nat} (h : slTy P t e sz = true) : ∃ i, P.underlying t = some (.slice e) ∧ P.info? e = some i ∧ i.size = sz := by
  unfold slTy at h
  split at h
  · rename_i e' hu
    simp only [Bool.and_eq_true] at h
    obtain ⟨h1, h2⟩ := h
    have := beq_eq h1
    subst this
    split at h2
    · rename_i i hi
      exact ⟨i, hu, hi, beq_eq h2⟩
    · cases h2
  · cases h
theorem aggTy_spec {t sz : Nat} (h : aggTy P t sz = true) : ∃ d i, P.underlying t = some d ∧ d.isRow = true ∧ P.info? t = some i ∧ i.size = sz := by
  unfold aggTy at h
  simp only [Bool.and_eq_true] at h
  obtain ⟨h1, h2⟩ := h
  split at h2
  · rename_i i hi
    split at h1
    · rename_i fs hu; exact ⟨_, i, hu, rfl, hi, beq_eq h2⟩
    · rename_i n e hu; exact ⟨_, i, hu, rfl, hi, beq_eq h2⟩
    · cases h1
  · cases h2
theorem run_load_one {t : TypeId} (ht : oneTy P t = true) {w : World} {b o : Nat} {u : Value} (h : w.cell? ⟨b, o, none⟩ = some u) : (Instr.loadAt t (.pointer (some ⟨b, o, none⟩))).run P w = .ok u w := by
  unfold oneTy at ht
  cases hu : P.underlying t with
  | none => rw [hu] at ht; cases ht
  | some d =>
    rw [hu] at ht
    cases d <;> simp_all [Instr.loadAt, Instr.sureAddr, loadVar, isAgg, run_underlying hu, load, Sem.run]
theorem addr_add (b o j : Nat) : (⟨b, o, none⟩ : Addr).add j = ⟨b, o + j, none⟩ := by unfold Addr.add; split <;> simp_all
theorem run_load_agg {t : TypeId} {cs : List Value} (ht : aggTy P t cs.length = true) {w : World} {b o : Nat} (h : ∀ j u, cs[j]? = some u → w.cell? ⟨b, o + j, none⟩ = some u) : (Instr.loadAt t (.pointer (some ⟨b, o, none⟩))).run P w = .ok (.agg cs.toArray) w := by
  obtain ⟨d, i, hu, hd, hi, hs⟩ := aggTy_spec ht
  have := run_loadVar_mid (P := P) w b o t cs d (fun j v hv => h j v hv) hu hd (by rw [hi]; simp [hs])
  simp [Instr.loadAt, Instr.sureAddr, this]
/-- A box's cells as data, if they are. -/
def dOf : List SV → Option (List D)
  | [] => some []
  | .d x :: r => (dOf r).map (x :: ·)
  | _ :: _ => none
theorem dOf_spec : ∀ {ss : List SV} {ds : List D}, dOf ss = some ds → ss = ds.map SV.d
  | [], ds, h => by simp [dOf] at h; subst h; rfl
  | .d x :: r, ds, h => by
    simp only [dOf, Option.map_eq_some_iff] at h
    obtain ⟨a, h1, rfl⟩ := h
    rw [dOf_spec h1]; rfl
  | .bx _ _ :: _, _, h => by simp [dOf] at h
  | .os _ :: _, _, h => by simp [dOf] at h
  | .op _ _ :: _, _, h => by simp [dOf] at h
  | .agg _ :: _, _, h => by simp [dOf] at h
  | .tup _ :: _, _, h => by simp [dOf] at h
  | .fn _ _ :: _, _, h => by simp [dOf] at h
  | .cnd _ _ :: _, _, h => by simp [dOf] at h
  | .tp :: _, _, h => by simp [dOf] at h
  | .un :: _, _, h => by simp [dOf] at h

section ops
variable {ρ : Operand → SV} {bx : List (Nat × List SV)} {own : List (Nat × OwnE)} {dst : Option Tmp} {ty : TypeId} {pos : String} {after : Array Edge} {gd : Option (Nat × Bool)}
theorem PureOp.load1 {t : TypeId} {x : Operand} {cs : List D} {c : D} (hx : SLe (ρ x) (.d (.p cs))) (hc : cs[0]? = some c) (ht : oneTy P t = true) : PureOp P ⟨dst, .load t x, ty, pos, after, gd⟩ ρ bx own (.d c) :=
  .of_run fun _ a w cx hs => by
    have h := srel_d (hx cx w _ (hs.op x (by simp [Op.operands])))
    generalize hu : a.eval x = u at h
    cases h with
    | p _ b off f h1 h2 =>
      have hl : 0 < cs.length := (List.getElem?_eq_some_iff.1 hc).1
      refine ⟨f 0, ?_, .d _ _ (h2 0 c hc)⟩
      have h3 := (h1 0 hl).2.1
      rw [Nat.add_zero] at h3
      simp [execOp, hu, run_load_one ht h3]
theorem PureOp.loadN {t : TypeId} {x : Operand} {cs ks : List D} {sz : Nat} (hx : SLe (ρ x) (.d (.p cs))) (hk : cs.take sz = ks) (hl : Nat.beq ks.length sz = true) (ht : aggTy P t sz = true) : PureOp P ⟨dst, .load t x, ty, pos, after, gd⟩ ρ bx own (.d (.agg ks)) :=
  .of_run fun _ a w cx hs => by
    have h := srel_d (hx cx w _ (hs.op x (by simp [Op.operands])))
    have hl := beq_eq hl
    generalize hu : a.eval x = u at h
    cases h with
    | p _ b off f h1 h2 =>
      have hsz : sz ≤ cs.length := by rw [← hk, List.length_take] at hl; omega
      have hlen : ((List.range sz).map f).length = sz := by simp
      refine ⟨.agg ((List.range sz).map f).toArray, ?_, .d _ _ ?_⟩
      · have := run_load_agg (P := P) (t := t) (cs := (List.range sz).map f) (by rw [hlen]; exact ht) (w := w) (b := b) (o := off) (fun j u hj => by
          have hjl : j < sz := by have := (List.getElem?_eq_some_iff.1 hj).1; rwa [hlen] at this
          simp [hjl] at hj
          subst hj
          exact (h1 j (by omega)).2.1)
        simp [execOp, hu, this]
      · refine Rd.agg ks _ (by rw [hlen, hl]) (fun u hu => ?_) (fun i c u hc hu => ?_)
        · simp at hu
          obtain ⟨j, hj, rfl⟩ := hu
          exact (h1 j (by omega)).2.2
        · have hi : i < sz := by have := (List.getElem?_eq_some_iff.1 hc).1; omega
          simp [hi] at hu
          subst hu
          refine h2 i c ?_
          rw [← hk, List.getElem?_take, if_pos hi] at hc
          exact hc
theorem PureOp.loadB1 {t : TypeId} {x : Operand} {id off : Nat} {cs : List SV} {s : SV} (hx : SLe (ρ x) (.bx id off)) (hb : lookA bx id = some cs) (hc : cs[off]? = some s) (ht : oneTy P t = true) : PureOp P ⟨dst, .load t x, ty, pos, after, gd⟩ ρ bx own s :=
  .of_run fun _ a w cx hs => by
    have h := srel_bx (hx cx w _ (hs.op x (by simp [Op.operands])))
    obtain ⟨_, _, arr, t', hh, hl, _, hr⟩ := hs.bx id cs hb
    have ho : off < arr.length := by rw [hl]; exact (List.getElem?_eq_some_iff.1 hc).1
    refine ⟨arr[off], ?_, hr off s _ hc (List.getElem?_eq_getElem ho)⟩
    have := run_load_one (P := P) ht (w := w) (b := cx.B id) (o := off) (u := arr[off]) (by rw [cell_of_row _ _ _ _ _ _ hh]; simp [ho])
    simp [execOp, h, this]
theorem box_agg {base : Nat} {w : World} {cx : Cx} {b off sz : Nat} {cs ks : List SV} (hb : BoxAt base w cx b cs) (hk : (cs.drop off).take sz = ks) (hl : ks.length = sz) :
    ∃ us : List Value, us.length = sz ∧ (∀ j u, us[j]? = some u → w.cell? ⟨b, off + j, none⟩ = some u) ∧ (∀ u ∈ us, u.oneCell' = true) ∧ ∀ (i : Nat) (s : SV) (u : Value), ks[i]? = some s → us[i]? = some u → SRel cx w s u := by
  obtain ⟨_, _, arr, t', hh, hl', h1, hr⟩ := hb
  have hsz : off + sz ≤ arr.length ∨ sz = 0 := by
    rw [← hk, List.length_take, List.length_drop] at hl
    omega
  have hlen : ((arr.drop off).take sz).length = sz := by rw [List.length_take, List.length_drop]; omega
  have hget : ∀ j, j < sz → ((arr.drop off).take sz)[j]? = arr[off + j]? := fun j hj => by rw [List.getElem?_take, if_pos hj, List.getElem?_drop]
  refine ⟨(arr.drop off).take sz, hlen, fun j u hj => ?_, fun u hu => h1 u (List.mem_of_mem_drop (List.mem_of_mem_take hu)), fun i s u hs hu => ?_⟩
  · have hjl : j < sz := by have := (List.getElem?_eq_some_iff.1 hj).1; rwa [hlen] at this
    rw [hget j hjl] at hj
    rw [cell_of_row _ _ _ _ _ _ hh]; simpa using hj
  · have hi : i < sz := by have := (List.getElem?_eq_some_iff.1 hs).1; omega
    rw [hget i hi] at hu
    refine hr (off + i) s u ?_ hu
    rw [← hk, List.getElem?_take, if_pos hi, List.getElem?_drop] at hs
    exact hs
theorem PureOp.loadBS {t : TypeId} {x : Operand} {id off : Nat} {cs ks : List SV} {sz : Nat} (hx : SLe (ρ x) (.bx id off)) (hb : lookA bx id = some cs) (hk : (cs.drop off).take sz = ks) (hl : Nat.beq ks.length sz = true) (ht : aggTy P t sz = true) :
    PureOp P ⟨dst, .load t x, ty, pos, after, gd⟩ ρ bx own (.agg ks) :=
  .of_run fun _ a w cx hs => by
    have h := srel_bx (hx cx w _ (hs.op x (by simp [Op.operands])))
    obtain ⟨us, h1, h2, h3, h4⟩ := box_agg (hs.bx id cs hb) hk (beq_eq hl)
    refine ⟨.agg us.toArray, ?_, .agg ks us (by rw [h1, beq_eq hl]) h3 h4⟩
    have := run_load_agg (P := P) (t := t) (cs := us) (by rw [h1]; exact ht) (w := w) (b := cx.B id) (o := off) h2
    simp [execOp, h, this]
theorem PureOp.loadBN {t : TypeId} {x : Operand} {id off : Nat} {cs ks : List SV} {ds : List D} {sz : Nat} (hx : SLe (ρ x) (.bx id off)) (hb : lookA bx id = some cs) (hk : (cs.drop off).take sz = ks) (hl : Nat.beq ks.length sz = true) (hd : dOf ks = some ds) (ht : aggTy P t sz = true) :
    PureOp P ⟨dst, .load t x, ty, pos, after, gd⟩ ρ bx own (.d (.agg ds)) :=
  .of_run fun _ a w cx hs => by
    have h := srel_bx (hx cx w _ (hs.op x (by simp [Op.operands])))
    obtain ⟨us, h1, h2, h3, h4⟩ := box_agg (hs.bx id cs hb) hk (beq_eq hl)
    have hds := dOf_spec hd
    refine ⟨.agg us.toArray, ?_, .d _ _ (Rd.agg ds us (by rw [h1, ← beq_eq hl, hds, List.length_map]) h3 fun i c u hc hu => ?_)⟩
    · have := run_load_agg (P := P) (t := t) (cs := us) (by rw [h1]; exact ht) (w := w) (b := cx.B id) (o := off) h2
      simp [execOp, h, this]
    · exact srel_d (h4 i (.d c) u (by rw [hds, List.getElem?_map, hc]; rfl) hu)
theorem PureOp.fld {s f k : Nat} {x : Operand} {cs : List D} (hx : SLe (ρ x) (.d (.p cs))) (ht : fldTy P s f k = true) : PureOp P ⟨dst, .fieldAddr s x f, ty, pos, after, gd⟩ ρ bx own (.d (.p (cs.drop k))) :=
  .of_run fun _ a w cx hs => by
    obtain ⟨fs, fd, i, hu', hf, hk, hi, hz⟩ := fldTy_spec ht
    have h := srel_d (hx cx w _ (hs.op x (by simp [Op.operands])))
    generalize hu : a.eval x = u at h
    cases h with
    | p _ b off g h1 h2 =>
      refine ⟨.pointer (some ⟨b, off + k, none⟩), ?_, .d _ _ ?_⟩
      · simp [execOp, hu, Instr.fieldAt, run_underlying hu', hf, Instr.sureAddr, fieldPlace, sizeOf, typeInfo, hi, hz, addr_add, hk]
      · refine Rd.p _ b (off + k) (fun j => g (k + j)) (fun j hj => ?_) (fun j c hc => ?_)
        · rw [List.length_drop] at hj
          have := h1 (k + j) (by omega)
          rw [show off + k + j = off + (k + j) by omega]
          exact this
        · rw [List.getElem?_drop] at hc
          exact h2 _ _ hc
theorem PureOp.fldB {s f k : Nat} {x : Operand} {id off : Nat} (hx : SLe (ρ x) (.bx id off)) (ht : fldTy P s f k = true) : PureOp P ⟨dst, .fieldAddr s x f, ty, pos, after, gd⟩ ρ bx own (.bx id (off + k)) :=
  .of_run fun _ a w cx hs => by
    obtain ⟨fs, fd, i, hu', hf, hk, hi, hz⟩ := fldTy_spec ht
    have h := srel_bx (hx cx w _ (hs.op x (by simp [Op.operands])))
    refine ⟨.pointer (some ⟨cx.B id, off + k, none⟩), ?_, .bx id (off + k)⟩
    simp [execOp, h, Instr.fieldAt, run_underlying hu', hf, Instr.sureAddr, fieldPlace, sizeOf, typeInfo, hi, hz, addr_add, hk]
theorem PureOp.fldO {s f k : Nat} {x : Operand} {id off : Nat} (hx : SLe (ρ x) (.op id off)) (ht : fldTy P s f k = true) : PureOp P ⟨dst, .fieldAddr s x f, ty, pos, after, gd⟩ ρ bx own (.op id (off + k)) :=
  .of_run fun _ a w cx hs => by
    obtain ⟨fs, fd, i, hu', hf, hk, hi, hz⟩ := fldTy_spec ht
    have h := hx cx w _ (hs.op x (by simp [Op.operands]))
    generalize hu : a.eval x = u at h
    cases h with
    | op _ _ g n cap h =>
      refine ⟨.pointer (some ⟨g, off + k, none⟩), ?_, .op id (off + k) g n cap h⟩
      simp [execOp, hu, Instr.fieldAt, run_underlying hu', hf, Instr.sureAddr, fieldPlace, sizeOf, typeInfo, hi, hz, addr_add, hk]
theorem PureOp.idx {t e sz : Nat} {x y : Operand} {xs : List (List D)} {k : IntKind} {i : Int} {n : Nat} {row : List D} (hx : SLe (ρ x) (.d (.sl sz xs))) (hy : SLe (ρ y) (.d (.v (.int k i)))) (hi : i = (n : Int)) (hn : xs[n]? = some row) (ht : slTy P t e sz = true) :
    PureOp P ⟨dst, .indexAddr t x y, ty, pos, after, gd⟩ ρ bx own (.d (.p row)) :=
  .of_run fun _ a w cx hs => by
    obtain ⟨inf, hu', hi', hz⟩ := slTy_spec ht
    have hyv := srel_v (hy cx w _ (hs.op y (by simp [Op.operands])))
    have h := srel_d (hx cx w _ (hs.op x (by simp [Op.operands])))
    generalize hu : a.eval x = u at h
    have hnl : n < xs.length := (List.getElem?_eq_some_iff.1 hn).1
    cases h with
    | sl _ _ ad cap b off f hc hm ha h1 h2 =>
      have had : ad = some ⟨b, off, none⟩ := by
        rcases ha with ha | ha
        · rw [ha] at hnl; simp at hnl
        · exact ha
      subst had
      have hb1 : (0 : Int) ≤ (n : Int) ∧ (n : Int) < (xs.length : Int) := ⟨by omega, by omega⟩
      refine ⟨.pointer (some ⟨b, off + n * sz, none⟩), ?_, .d _ _ ?_⟩
      · subst hi
        simp [execOp, hu, hyv, Instr.indexAt, asIntOf, run_underlying hu', sizeOf, typeInfo, hi', hz, addr_add]
        exact fun hh => absurd hh (by omega)
      · obtain ⟨hr1, hr2⟩ := h1 n row hn
        refine Rd.p _ b (off + n * sz) (f n) (fun j hj => ?_) (fun j c hc => h2 n row j c hn hc)
        rw [hr1] at hj
        exact hr2 j hj
/-- A pointer into an owned row. -/
theorem PureOp.idxO {t e sz : Nat} {x y : Operand} {id : Nat} {o : OwnE} {k : IntKind} {i : Int} {n : Nat} (hx : SLe (ρ x) (.os id)) (ho : lookA own id = some o) (hy : SLe (ρ y) (.d (.v (.int k i)))) (hi : i = (n : Int)) (hn : n < o.rows.length) (h0 : Nat.ble 1 o.sz = true) (ht : slTy P t e sz = true) :
    PureOp P ⟨dst, .indexAddr t x y, ty, pos, after, gd⟩ ρ bx own (.op id (n * sz)) :=
  .of_run fun _ a w cx hs => by
    obtain ⟨inf, hu', hi', hz⟩ := slTy_spec ht
    have hyv := srel_v (hy cx w _ (hs.op y (by simp [Op.operands])))
    have hu := srel_os (hx cx w _ (hs.op x (by simp [Op.operands])))
    rcases (hs.ow id o ho).slice (Nat.le_of_ble_eq_true h0) with ⟨h1, h2⟩ | ⟨g, cap, cur, hv, hbg, hg, hn', hcm, hcs, hS, hr⟩
    · rw [h2] at hn; simp at hn
    · have hb1 : (0 : Int) ≤ (n : Int) ∧ (n : Int) < (o.rows.length : Int) := ⟨by omega, by omega⟩
      refine ⟨.pointer (some ⟨g, n * sz, none⟩), ?_, .op id _ g _ cap hv⟩
      subst hi
      rw [hv] at hu
      simp [execOp, hu, hyv, Instr.indexAt, asIntOf, run_underlying hu', sizeOf, typeInfo, hi', hz, addr_add]
      exact fun hh => absurd hh (by omega)
theorem own_cells {base : Nat} {w : World} {S : Cells} {v : Value} {o : OwnE} (h : OwnX base w S v o) {g n cap : Nat} (hv : v = .slice (some ⟨g, 0, none⟩) n cap) {i : Nat} {row : List D} (hi : o.rows[i]? = some row) :
    row.length = o.sz ∧ ∀ (j : Nat) (c : D), row[j]? = some c → ∃ u : Value, w.cell? ⟨g, i * o.sz + j, none⟩ = some u ∧ u.oneCell' = true ∧ Rd S w c u := by
  rcases h with ⟨_, ⟨h1, h2⟩ | ⟨g', cap', cur, hv', hbg, hg, hn', hcm, hcs, hS, hr⟩⟩ | ⟨_, g', es, clock, hv', _⟩
  · rw [h2] at hi; simp at hi
  · rw [hv] at hv'
    injection hv' with e1 e2 e3
    injection e1 with e1
    injection e1 with e1
    subst e1
    obtain ⟨h1, h2⟩ := hr i row hi
    refine ⟨h1, fun j c hj => ?_⟩
    obtain ⟨u, h3, h4, h5⟩ := h2 j c hj
    exact ⟨u, by rw [cell_of_row _ _ _ _ _ _ hg]; exact h3, h4, h5⟩
  · rw [hv'] at hv; cases hv
theorem PureOp.loadO1 {t : TypeId} {x : Operand} {id i j off : Nat} {o : OwnE} {row : List D} {c : D} (hx : SLe (ρ x) (.op id off)) (ho : lookA own id = some o) (hoff : off = i * o.sz + j) (hi : o.rows[i]? = some row) (hj : row[j]? = some c) (ht : oneTy P t = true) : PureOp P ⟨dst, .load t x, ty, pos, after, gd⟩ ρ bx own (.d c) :=
  .of_run fun _ a w cx hs => by
    have h := hx cx w _ (hs.op x (by simp [Op.operands]))
    generalize hu : a.eval x = u at h
    cases h with
    | op _ _ g n cap h =>
      obtain ⟨h1, h2⟩ := own_cells (hs.ow id o ho) h hi
      obtain ⟨u, h3, _, h5⟩ := h2 j c hj
      refine ⟨u, ?_, .d _ _ h5⟩
      subst hoff
      simp [execOp, hu, run_load_one ht h3]
theorem PureOp.loadON {t : TypeId} {x : Operand} {id i off sz : Nat} {o : OwnE} {row : List D} (hx : SLe (ρ x) (.op id off)) (ho : lookA own id = some o) (hoff : off = i * o.sz) (hi : o.rows[i]? = some row) (hsz : o.sz = sz) (ht : aggTy P t sz = true) : PureOp P ⟨dst, .load t x, ty, pos, after, gd⟩ ρ bx own (.d (.agg row)) :=
  .of_run fun _ a w cx hs => by
    have h := hx cx w _ (hs.op x (by simp [Op.operands]))
    generalize hu : a.eval x = u at h
    cases h with
    | op _ _ g n cap h =>
      obtain ⟨h1, h2⟩ := own_cells (hs.ow id o ho) h hi
      have hex : ∀ j, j < row.length → ∃ u : Value, w.cell? ⟨g, i * o.sz + j, none⟩ = some u ∧ u.oneCell' = true ∧ Rd cx.S w row[j]! u := fun j hj => by
        obtain ⟨u, q⟩ := h2 j row[j] (List.getElem?_eq_getElem hj)
        exact ⟨u, by rw [getElem!_pos row j hj]; exact q⟩
      let us : List Value := (List.range row.length).map fun j => if hj : j < row.length then (hex j hj).choose else undef
      have hlen : us.length = row.length := by simp [us]
      have hget : ∀ j u, us[j]? = some u → w.cell? ⟨g, i * o.sz + j, none⟩ = some u ∧ u.oneCell' = true ∧ Rd cx.S w row[j]! u := fun j u hj => by
        have hjl : j < row.length := by have := (List.getElem?_eq_some_iff.1 hj).1; rwa [hlen] at this
        simp only [us, List.getElem?_map, List.getElem?_range hjl, Option.map_some, hjl, dif_pos, Option.some.injEq] at hj
        rw [← hj]
        exact (hex j hjl).choose_spec
      refine ⟨.agg us.toArray, ?_, .d _ _ (Rd.agg row us hlen (fun u hu => ?_) fun j c u hc hu => ?_)⟩
      · have := run_load_agg (P := P) (t := t) (cs := us) (by rw [hlen, h1, hsz]; exact ht) (w := w) (b := g) (o := i * o.sz) (fun j u hj => (hget j u hj).1)
        subst hoff
        simp [execOp, hu, this]
      · obtain ⟨j, hj, rfl⟩ := List.getElem_of_mem hu
        exact (hget j _ (List.getElem?_eq_getElem hj)).2.1
      · have := (hget j u hu).2.2
        have hjl := (List.getElem?_eq_some_iff.1 hc).1
        rw [getElem!_pos row j hjl] at this
        rw [List.getElem?_eq_getElem hjl] at hc
        injection hc with hc
        rw [← hc]; exact this
theorem PureOp.len {t e s' : TypeId} {x : Operand} {sz : Nat} {xs : List (List D)} (hx : SLe (ρ x) (.d (.sl sz xs))) (ht : slTy P t e s' = true) :
    PureOp P ⟨dst, .call ⟨.builtin .len, #[x], #[t]⟩, ty, pos, after, gd⟩ ρ bx own (.d (.v (.int .i64 xs.length))) :=
  .of_run fun _ a w cx hs => by
    have h := srel_d (hx cx w _ (hs.op x (by simp [Op.operands, Call.operands])))
    generalize hu : a.eval x = u at h
    cases h with
    | sl _ _ ad cap b off f hc hm ha h1 h2 =>
      obtain ⟨inf, hu', _⟩ := slTy_spec ht
      refine ⟨.int .i64 xs.length, ?_, v_srel _⟩
      simp [execOp, resolve, invoke, builtin, hu, Builtin.len_, goInt, run_underlying hu']
theorem PureOp.lenO {t e s' : TypeId} {x : Operand} {id : Nat} {o : OwnE} (hx : SLe (ρ x) (.os id)) (ho : lookA own id = some o) (h0 : Nat.ble 1 o.sz = true) (ht : slTy P t e s' = true) :
    PureOp P ⟨dst, .call ⟨.builtin .len, #[x], #[t]⟩, ty, pos, after, gd⟩ ρ bx own (.d (.v (.int .i64 o.rows.length))) :=
  .of_run fun _ a w cx hs => by
    have hu := srel_os (hx cx w _ (hs.op x (by simp [Op.operands, Call.operands])))
    obtain ⟨inf, hu', _⟩ := slTy_spec ht
    refine ⟨.int .i64 o.rows.length, ?_, v_srel _⟩
    rcases (hs.ow id o ho).slice (Nat.le_of_ble_eq_true h0) with ⟨h1, h2⟩ | ⟨g, cap, cur, hv, _⟩
    · rw [h1] at hu
      simp [execOp, resolve, invoke, builtin, hu, Builtin.len_, goInt, run_underlying hu', h2]
    · rw [hv] at hu
      simp [execOp, resolve, invoke, builtin, hu, Builtin.len_, goInt, run_underlying hu']
theorem PureOp.lenNil {t e s' : TypeId} {x : Operand} (hx : SLe (ρ x) (.d (.v (.slice none 0 0)))) (ht : slTy P t e s' = true) :
    PureOp P ⟨dst, .call ⟨.builtin .len, #[x], #[t]⟩, ty, pos, after, gd⟩ ρ bx own (.d (.v (.int .i64 0))) :=
  .of_run fun _ a w cx hs => by
    have h := srel_v (hx cx w _ (hs.op x (by simp [Op.operands, Call.operands])))
    obtain ⟨inf, hu', _⟩ := slTy_spec ht
    exact ⟨.int .i64 0, by simp [execOp, resolve, invoke, builtin, h, Builtin.len_, goInt, run_underlying hu'], v_srel _⟩
theorem PureOp.extract {x : Operand} {cs : List D} {c : D} {i : Nat} (hx : SLe (ρ x) (.d (.tup cs))) (hc : cs[i]? = some c) : PureOp P ⟨dst, .extract x i, ty, pos, after, gd⟩ ρ bx own (.d c) :=
  .of_run fun _ a w cx hs => by
    have h := srel_d (hx cx w _ (hs.op x (by simp [Op.operands])))
    generalize hu : a.eval x = u at h
    cases h with
    | tup _ us hl h1 =>
      have hi : i < us.length := by rw [hl]; exact (List.getElem?_eq_some_iff.1 hc).1
      refine ⟨us[i], ?_, .d _ _ (h1 i c _ hc (List.getElem?_eq_getElem hi))⟩
      simp [execOp, hu, Instr.extract, hi]
theorem PureOp.extractS {x : Operand} {cs : List SV} {s : SV} {i : Nat} (hx : SLe (ρ x) (.tup cs)) (hc : cs[i]? = some s) : PureOp P ⟨dst, .extract x i, ty, pos, after, gd⟩ ρ bx own s :=
  .of_run fun _ a w cx hs => by
    have h := hx cx w _ (hs.op x (by simp [Op.operands]))
    generalize hu : a.eval x = u at h
    cases h with
    | tup _ us hl h1 =>
      have hi : i < us.length := by rw [hl]; exact (List.getElem?_eq_some_iff.1 hc).1
      refine ⟨us[i], ?_, h1 i s _ hc (List.getElem?_eq_getElem hi)⟩
      simp [execOp, hu, Instr.extract, hi]
theorem PureOp.moveD {x : Operand} {y : D} (hx : SLe (ρ x) (.d y)) : PureOp P ⟨dst, .move x, ty, pos, after, gd⟩ ρ bx own (.d y) := .move hx
theorem PureOp.moveB {x : Operand} {i o : Nat} (hx : SLe (ρ x) (.bx i o)) : PureOp P ⟨dst, .move x, ty, pos, after, gd⟩ ρ bx own (.bx i o) := .move hx
theorem PureOp.moveT {x : Operand} (hx : SLe (ρ x) .tp) : PureOp P ⟨dst, .move x, ty, pos, after, gd⟩ ρ bx own .tp := .move hx
theorem PureOp.moveO {x : Operand} {i : Nat} (hx : SLe (ρ x) (.os i)) : PureOp P ⟨dst, .move x, ty, pos, after, gd⟩ ρ bx own (.os i) := .move hx
theorem PureOp.moveP {x : Operand} {i o : Nat} (hx : SLe (ρ x) (.op i o)) : PureOp P ⟨dst, .move x, ty, pos, after, gd⟩ ρ bx own (.op i o) := .move hx
theorem PureOp.moveA {x : Operand} {cs : List SV} (hx : SLe (ρ x) (.agg cs)) : PureOp P ⟨dst, .move x, ty, pos, after, gd⟩ ρ bx own (.agg cs) := .move hx
theorem PureOp.assignD {x : Operand} {y : D} (hx : SLe (ρ x) (.d y)) : PureOp P ⟨dst, .assign x, ty, pos, after, gd⟩ ρ bx own (.d y) := .assign hx
theorem PureOp.assignB {x : Operand} {i o : Nat} (hx : SLe (ρ x) (.bx i o)) : PureOp P ⟨dst, .assign x, ty, pos, after, gd⟩ ρ bx own (.bx i o) := .assign hx
theorem PureOp.assignT {x : Operand} (hx : SLe (ρ x) .tp) : PureOp P ⟨dst, .assign x, ty, pos, after, gd⟩ ρ bx own .tp := .assign hx
theorem PureOp.assignO {x : Operand} {i : Nat} (hx : SLe (ρ x) (.os i)) : PureOp P ⟨dst, .assign x, ty, pos, after, gd⟩ ρ bx own (.os i) := .assign hx
theorem PureOp.assignP {x : Operand} {i o : Nat} (hx : SLe (ρ x) (.op i o)) : PureOp P ⟨dst, .assign x, ty, pos, after, gd⟩ ρ bx own (.op i o) := .assign hx
theorem PureOp.assignA {x : Operand} {cs : List SV} (hx : SLe (ρ x) (.agg cs)) : PureOp P ⟨dst, .assign x, ty, pos, after, gd⟩ ρ bx own (.agg cs) := .assign hx
/-- A pointer that is there. -/
theorem PureOp.nilCheckP {x : Operand} {cs : List D} (hx : SLe (ρ x) (.d (.p cs))) : PureOp P ⟨dst, .nilCheck x, ty, pos, after, gd⟩ ρ bx own (.d (.p cs)) :=
  .of_run fun _ a w cx hs => by
    have h := hx cx w _ (hs.op x (by simp [Op.operands]))
    refine ⟨a.eval x, ?_, h⟩
    have h := srel_d h
    generalize hu : a.eval x = u at h
    cases h with
    | p _ b off f h1 h2 => simp [execOp, hu]
theorem PureOp.nilCheckB {x : Operand} {i o : Nat} (hx : SLe (ρ x) (.bx i o)) : PureOp P ⟨dst, .nilCheck x, ty, pos, after, gd⟩ ρ bx own (.bx i o) :=
  .of_run fun _ a w cx hs => by
    have h := hx cx w _ (hs.op x (by simp [Op.operands]))
    exact ⟨a.eval x, by simp [execOp, srel_bx h], h⟩
theorem PureOp.nilCheckT {x : Operand} (hx : SLe (ρ x) .tp) : PureOp P ⟨dst, .nilCheck x, ty, pos, after, gd⟩ ρ bx own .tp :=
  .of_run fun _ a w cx hs => by
    have h := hx cx w _ (hs.op x (by simp [Op.operands]))
    exact ⟨a.eval x, by simp [execOp, srel_tp h], h⟩
theorem PureOp.nilCheckO {x : Operand} {i o : Nat} (hx : SLe (ρ x) (.op i o)) : PureOp P ⟨dst, .nilCheck x, ty, pos, after, gd⟩ ρ bx own (.op i o) :=
  .of_run fun _ a w cx hs => by
    have h := hx cx w _ (hs.op x (by simp [Op.operands]))
    refine ⟨a.eval x, ?_, h⟩
    generalize hu : a.eval x = u at h
    cases h with
    | op _ _ g n cap h => simp [execOp, hu]
theorem PureOp.max {t t' : TypeId} {x y : Operand} {a b : Int} (hx : SLe (ρ x) (.d (.v (.int .i64 a)))) (hy : SLe (ρ y) (.d (.v (.int .i64 b)))) :
    PureOp P ⟨dst, .call ⟨.builtin .max, #[x, y], #[t, t']⟩, ty, pos, after, gd⟩ ρ bx own (.d (.v (.int .i64 (if a < b then b else a)))) :=
  .of_run fun _ c w cx hs => by
    have h1 := srel_v (hx cx w _ (hs.op x (by simp [Op.operands, Call.operands])))
    have h2 := srel_v (hy cx w _ (hs.op y (by simp [Op.operands, Call.operands])))
    refine ⟨.int .i64 (if a < b then b else a), ?_, v_srel _⟩
    simp [execOp, resolve, invoke, builtin, h1, h2, Builtin.max_, Builtin.max2]
theorem PureOp.min {t t' : TypeId} {x y : Operand} {a b : Int} (hx : SLe (ρ x) (.d (.v (.int .i64 a)))) (hy : SLe (ρ y) (.d (.v (.int .i64 b)))) :
    PureOp P ⟨dst, .call ⟨.builtin .min, #[x, y], #[t, t']⟩, ty, pos, after, gd⟩ ρ bx own (.d (.v (.int .i64 (if b < a then b else a)))) :=
  .of_run fun _ c w cx hs => by
    have h1 := srel_v (hx cx w _ (hs.op x (by simp [Op.operands, Call.operands])))
    have h2 := srel_v (hy cx w _ (hs.op y (by simp [Op.operands, Call.operands])))
    refine ⟨.int .i64 (if b < a then b else a), ?_, v_srel _⟩
    simp [execOp, resolve, invoke, builtin, h1, h2, Builtin.min_, Builtin.min2]
/-- A function with what it captures. -/
theorem PureOp.makeFunc {f : FuncId} {xs : List Operand} {ss : List SV} (hl : Nat.beq xs.length ss.length = true) (h : ∀ (i : Nat) (x : Operand) (s : SV), xs[i]? = some x → ss[i]? = some s → SLe (ρ x) s) : PureOp P ⟨dst, .makeFunc (.func f) #[] xs.toArray, ty, pos, after, gd⟩ ρ bx own (.fn f ss) :=
  .of_run fun _ a w cx hs => by
    refine ⟨.func (.func f) #[] (xs.map a.eval).toArray, ?_, .fn f ss _ (by rw [List.length_map]; exact beq_eq hl) fun i s u hi hu => ?_⟩
    · simp [execOp, Instr.makeFunc]
    · rw [List.getElem?_map] at hu
      cases hx : xs[i]? with
      | none => rw [hx] at hu; cases hu
      | some x =>
        rw [hx] at hu
        simp only [Option.map_some, Option.some.injEq] at hu
        subst hu
        exact h i x s hx hi cx w _ (hs.op x (by simp [Op.operands]; exact List.mem_of_getElem? hx))
end ops
end Eng
end Go.Proofs.Ytmmekdkllccmdaa
