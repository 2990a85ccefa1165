/-
  The engine: operations on typed lists, arithmetic that wraps, calls whose results may lie where their arguments lie.
-/
import Derived.Test.YtmmekdkllccmdaaEgX
namespace Go.Proofs.Ytmmekdkllccmdaa
open Go.RowKit
set_option linter.unusedVariables false
namespace Eng
variable {P : Program}
section ops
variable {ρ : Operand → SV} {bx : List (Nat × List SV)} {own : List (Nat × OwnE)} {dst : Option Tmp} {ty : TypeId} {pos : String} {aft : Array Edge} {gd : Option (Nat × Bool)}
/-! ### integers -/
section bin
variable {t t' : TypeId} {x y : Operand} {k k' : IntKind} {a b : Int}
theorem PureOp.addW (hx : SLe (ρ x) (.d (.v (.int .i64 a)))) (hy : SLe (ρ y) (.d (.v (.int .i64 b)))) : PureOp P ⟨dst, .binOp .add t x y t', ty, pos, aft, gd⟩ ρ bx own (.d (.v (.int .i64 (w64 (a + b))))) :=
  .bin hx hy fun w => by rw [bin_int rfl rfl]; simp [binOp, Op.intArith, w64]
theorem PureOp.subW (hx : SLe (ρ x) (.d (.v (.int .i64 a)))) (hy : SLe (ρ y) (.d (.v (.int .i64 b)))) : PureOp P ⟨dst, .binOp .sub t x y t', ty, pos, aft, gd⟩ ρ bx own (.d (.v (.int .i64 (w64 (a - b))))) :=
  .bin hx hy fun w => by rw [bin_int rfl rfl]; simp [binOp, Op.intArith, w64]
theorem PureOp.mulW (hx : SLe (ρ x) (.d (.v (.int .i64 a)))) (hy : SLe (ρ y) (.d (.v (.int .i64 b)))) : PureOp P ⟨dst, .binOp .mul t x y t', ty, pos, aft, gd⟩ ρ bx own (.d (.v (.int .i64 (w64 (a * b))))) :=
  .bin hx hy fun w => by rw [bin_int rfl rfl]; simp [binOp, Op.intArith, w64]
theorem PureOp.addK (hx : SLe (ρ x) (.d (.v (.int k a)))) (hy : SLe (ρ y) (.d (.v (.int k b)))) : PureOp P ⟨dst, .binOp .add t x y t', ty, pos, aft, gd⟩ ρ bx own (.d (.v (.int k (k.wrap (a + b))))) :=
  .bin hx hy fun w => by rw [bin_int rfl rfl]; simp [binOp, Op.intArith]
theorem PureOp.subK (hx : SLe (ρ x) (.d (.v (.int k a)))) (hy : SLe (ρ y) (.d (.v (.int k b)))) : PureOp P ⟨dst, .binOp .sub t x y t', ty, pos, aft, gd⟩ ρ bx own (.d (.v (.int k (k.wrap (a - b))))) :=
  .bin hx hy fun w => by rw [bin_int rfl rfl]; simp [binOp, Op.intArith]
theorem PureOp.mulK (hx : SLe (ρ x) (.d (.v (.int k a)))) (hy : SLe (ρ y) (.d (.v (.int k b)))) : PureOp P ⟨dst, .binOp .mul t x y t', ty, pos, aft, gd⟩ ρ bx own (.d (.v (.int k (k.wrap (a * b))))) :=
  .bin hx hy fun w => by rw [bin_int rfl rfl]; simp [binOp, Op.intArith]
theorem PureOp.quoW (hx : SLe (ρ x) (.d (.v (.int .i64 a)))) (hy : SLe (ρ y) (.d (.v (.int .i64 b)))) (h0 : b ≠ 0) : PureOp P ⟨dst, .binOp .quo t x y t', ty, pos, aft, gd⟩ ρ bx own (.d (.v (.int .i64 (w64 (a.tdiv b))))) :=
  .bin hx hy fun w => by rw [bin_int rfl rfl]; simp [binOp, Op.intDiv, h0, w64]
theorem PureOp.remW (hx : SLe (ρ x) (.d (.v (.int k a)))) (hy : SLe (ρ y) (.d (.v (.int k b)))) (h0 : b ≠ 0) : PureOp P ⟨dst, .binOp .rem t x y t', ty, pos, aft, gd⟩ ρ bx own (.d (.v (.int k (a.tmod b)))) :=
  .bin hx hy fun w => by rw [bin_int rfl rfl]; simp [binOp, Op.intDiv, h0]
/-- What shifts and bit operations yield. -/
def shrK (k : IntKind) (a b : Int) : Int := a.fdiv (2 ^ (min b.toNat k.bits))
def shlK (k : IntKind) (a b : Int) : Int := k.wrap (a * 2 ^ (min b.toNat k.bits))
def andK (k : IntKind) (a b : Int) : Int := k.wrap ((BitVec.ofInt k.bits a &&& BitVec.ofInt k.bits b).toNat : Int)
def orK (k : IntKind) (a b : Int) : Int := k.wrap ((BitVec.ofInt k.bits a ||| BitVec.ofInt k.bits b).toNat : Int)
def xorK (k : IntKind) (a b : Int) : Int := k.wrap ((BitVec.ofInt k.bits a ^^^ BitVec.ofInt k.bits b).toNat : Int)
def andNotK (k : IntKind) (a b : Int) : Int := k.wrap ((BitVec.ofInt k.bits a &&& ~~~(BitVec.ofInt k.bits b)).toNat : Int)
theorem PureOp.shr (hx : SLe (ρ x) (.d (.v (.int k a)))) (hy : SLe (ρ y) (.d (.v (.int k' b)))) (h0 : 0 ≤ b) : PureOp P ⟨dst, .binOp .shr t x y t', ty, pos, aft, gd⟩ ρ bx own (.d (.v (.int k (shrK k a b)))) :=
  .bin hx hy fun w => by rw [bin_int rfl rfl]; simp [binOp, Op.shift, shrK, Int.not_lt.2 h0]
theorem PureOp.shl (hx : SLe (ρ x) (.d (.v (.int k a)))) (hy : SLe (ρ y) (.d (.v (.int k' b)))) (h0 : 0 ≤ b) : PureOp P ⟨dst, .binOp .shl t x y t', ty, pos, aft, gd⟩ ρ bx own (.d (.v (.int k (shlK k a b)))) :=
  .bin hx hy fun w => by rw [bin_int rfl rfl]; simp [binOp, Op.shift, shlK, Int.not_lt.2 h0]
theorem PureOp.and (hx : SLe (ρ x) (.d (.v (.int k a)))) (hy : SLe (ρ y) (.d (.v (.int k b)))) : PureOp P ⟨dst, .binOp .and t x y t', ty, pos, aft, gd⟩ ρ bx own (.d (.v (.int k (andK k a b)))) :=
  .bin hx hy fun w => by rw [bin_int rfl rfl]; simp [binOp, Op.intBits, andK]
theorem PureOp.or (hx : SLe (ρ x) (.d (.v (.int k a)))) (hy : SLe (ρ y) (.d (.v (.int k b)))) : PureOp P ⟨dst, .binOp .or t x y t', ty, pos, aft, gd⟩ ρ bx own (.d (.v (.int k (orK k a b)))) :=
  .bin hx hy fun w => by rw [bin_int rfl rfl]; simp [binOp, Op.intBits, orK]
theorem PureOp.xor (hx : SLe (ρ x) (.d (.v (.int k a)))) (hy : SLe (ρ y) (.d (.v (.int k b)))) : PureOp P ⟨dst, .binOp .xor t x y t', ty, pos, aft, gd⟩ ρ bx own (.d (.v (.int k (xorK k a b)))) :=
  .bin hx hy fun w => by rw [bin_int rfl rfl]; simp [binOp, Op.intBits, xorK]
theorem PureOp.andNot (hx : SLe (ρ x) (.d (.v (.int k a)))) (hy : SLe (ρ y) (.d (.v (.int k b)))) : PureOp P ⟨dst, .binOp .andNot t x y t', ty, pos, aft, gd⟩ ρ bx own (.d (.v (.int k (andNotK k a b)))) :=
  .bin hx hy fun w => by rw [bin_int rfl rfl]; simp [binOp, Op.intBits, andNotK]
end bin
theorem PureOp.negW {t : TypeId} {x : Operand} {b : Int} (hx : SLe (ρ x) (.d (.v (.int .i64 b)))) : PureOp P ⟨dst, .unOp .neg t x, ty, pos, aft, gd⟩ ρ bx own (.d (.v (.int .i64 (w64 (-b))))) :=
  .of_run fun _ a w c hs => by
    have h := srel_v (hx c w _ (hs.op x (by simp [Op.operands])))
    refine ⟨.int .i64 (w64 (-b)), ?_, v_srel _⟩
    simp [execOp, h, Op.unary, Op.intArith, w64]
def intTy (P : Program) (t : TypeId) (k : IntKind) : Bool := match P.underlying t with
  | some (.int k') => decide (k' = k)
  | _ => false
theorem PureOp.convK {s d : TypeId} {x : Operand} {k k' : IntKind} {a : Int} (hx : SLe (ρ x) (.d (.v (.int k a)))) (ht : intTy P d k' = true) (hs' : (P.underlying s).isSome = true) : PureOp P ⟨dst, .convert s d x, ty, pos, aft, gd⟩ ρ bx own (.d (.v (.int k' (k'.wrap a)))) :=
  .of_run fun _ ac w c hs => by
    have h := srel_v (hx c w _ (hs.op x (by simp [Op.operands])))
    have hd : P.underlying d = some (.int k') := by
      unfold intTy at ht
      split at ht
      · rename_i k0 hu; rw [hu, of_decide_eq_true ht]
      · cases ht
    obtain ⟨ds, hds⟩ := Option.isSome_iff_exists.1 hs'
    refine ⟨.int k' (k'.wrap a), ?_, v_srel _⟩
    simp [execOp, h, convert, run_underlying hd, run_underlying hds, Conv.intToInt]
/-! ### typed lists -/
section lists
variable {α : Type} {av : α → List D} {l : List α}
theorem PureOp.lenL {t e s' sz : Nat} {x : Operand} (hx : SLe (ρ x) (.d (.sl sz (l.map av)))) (ht : slTy P t e s' = true) :
    PureOp P ⟨dst, .call ⟨.builtin .len, #[x], #[t]⟩, ty, pos, aft, gd⟩ ρ bx own (.d (.v (.int .i64 (l.length : Nat)))) := by
  have := PureOp.len (P := P) (ρ := ρ) (bx := bx) (own := own) (dst := dst) (ty := ty) (pos := pos) (after := aft) (gd := gd) hx ht
  rwa [List.length_map] at this
theorem PureOp.lenOL {t e s' e0 sz : TypeId} {x : Operand} {id : Nat} (hx : SLe (ρ x) (.os id)) (ho : lookA own id = some ⟨e0, sz, l.map av⟩) (h0 : Nat.ble 1 sz = true) (ht : slTy P t e s' = true) :
    PureOp P ⟨dst, .call ⟨.builtin .len, #[x], #[t]⟩, ty, pos, aft, gd⟩ ρ bx own (.d (.v (.int .i64 (l.length : Nat)))) := by
  have := PureOp.lenO (P := P) (ρ := ρ) (bx := bx) (own := own) (dst := dst) (ty := ty) (pos := pos) (after := aft) (gd := gd) hx ho h0 ht
  rwa [show (⟨e0, sz, l.map av⟩ : OwnE).rows = l.map av from rfl, List.length_map] at this
theorem map_get {n : Nat} {x : α} (h : l[n]? = some x) : (l.map av)[n]? = some (av x) := by rw [List.getElem?_map, h]; rfl
theorem PureOp.idxE {t e sz : Nat} {x y : Operand} {k : IntKind} {i : Int} {n : Nat} {z : α} (hx : SLe (ρ x) (.d (.sl sz (l.map av)))) (hy : SLe (ρ y) (.d (.v (.int k i)))) (hi : i = (n : Int)) (hn : l[n]? = some z) (ht : slTy P t e sz = true) :
    PureOp P ⟨dst, .indexAddr t x y, ty, pos, aft, gd⟩ ρ bx own (.d (.p (av z))) := PureOp.idx hx hy hi (map_get hn) ht
theorem PureOp.idxI [Inhabited α] {t e sz : Nat} {x y : Operand} {k : IntKind} {i : Int} (hx : SLe (ρ x) (.d (.sl sz (l.map av)))) (hy : SLe (ρ y) (.d (.v (.int k i)))) (hin : inb l i) (ht : slTy P t e sz = true) :
    PureOp P ⟨dst, .indexAddr t x y, ty, pos, aft, gd⟩ ρ bx own (.d (.p (av (ix l i)))) := PureOp.idx hx hy (ix_get hin).2.1 (map_get (ix_get hin).1) ht
theorem PureOp.idxOE {t e sz e0 : Nat} {x y : Operand} {id : Nat} {k : IntKind} {i : Int} {n : Nat} (hx : SLe (ρ x) (.os id)) (ho : lookA own id = some ⟨e0, sz, l.map av⟩) (hy : SLe (ρ y) (.d (.v (.int k i)))) (hi : i = (n : Int)) (hn : n < l.length) (h0 : Nat.ble 1 sz = true) (ht : slTy P t e sz = true) :
    PureOp P ⟨dst, .indexAddr t x y, ty, pos, aft, gd⟩ ρ bx own (.op id (n * sz + 0)) := PureOp.idxO hx ho hy hi (by show n < (l.map av).length; rw [List.length_map]; exact hn) h0 ht
theorem PureOp.idxOI {t e sz e0 : Nat} {x y : Operand} {id : Nat} {k : IntKind} {i : Int} (hx : SLe (ρ x) (.os id)) (ho : lookA own id = some ⟨e0, sz, l.map av⟩) (hy : SLe (ρ y) (.d (.v (.int k i)))) (hin : inb l i) (h0 : Nat.ble 1 sz = true) (ht : slTy P t e sz = true) :
    PureOp P ⟨dst, .indexAddr t x y, ty, pos, aft, gd⟩ ρ bx own (.op id (i.toNat * sz + 0)) := PureOp.idxOE hx ho hy (by obtain ⟨h1, h2⟩ := hin; omega) (by obtain ⟨h1, h2⟩ := hin; omega) h0 ht
theorem PureOp.fldOK {s f k j off : Nat} {x : Operand} {id : Nat} (hx : SLe (ρ x) (.op id (off + j))) (ht : fldTy P s f k = true) : PureOp P ⟨dst, .fieldAddr s x f, ty, pos, aft, gd⟩ ρ bx own (.op id (off + (j + k))) := by
  have := PureOp.fldO (P := P) (bx := bx) (own := own) (dst := dst) (ty := ty) (pos := pos) (after := aft) (gd := gd) hx ht
  rwa [Nat.add_assoc] at this
theorem PureOp.loadO1L {t : TypeId} {x : Operand} {id n j e0 sz : Nat} {z : α} {c : D} (hx : SLe (ρ x) (.op id (n * sz + j))) (ho : lookA own id = some ⟨e0, sz, l.map av⟩) (hn : l[n]? = some z) (hj : (av z)[j]? = some c) (ht : oneTy P t = true) : PureOp P ⟨dst, .load t x, ty, pos, aft, gd⟩ ρ bx own (.d c) :=
  PureOp.loadO1 hx ho rfl (map_get hn) hj ht
/-- A part of an element of an owned row. -/
theorem PureOp.loadONJ {t : TypeId} {x : Operand} {id i j off sz : Nat} {o : OwnE} {row ks : List D} (hx : SLe (ρ x) (.op id off)) (ho : lookA own id = some o) (hoff : off = i * o.sz + j) (hi : o.rows[i]? = some row) (hk : (row.drop j).take sz = ks) (hl : Nat.beq ks.length sz = true) (ht : aggTy P t sz = true) : PureOp P ⟨dst, .load t x, ty, pos, aft, gd⟩ ρ bx own (.d (.agg ks)) :=
  .of_run fun _ a w cx hs => by
    have hl := beq_eq hl
    have h := hx cx w _ (hs.op x (by simp [Op.operands]))
    generalize hu : a.eval x = u at h
    cases h with
    | op _ _ g n cap h =>
      obtain ⟨h1, h2⟩ := own_cells (hs.ow id o ho) h hi
      have hkr : ∀ q c, ks[q]? = some c → row[j + q]? = some c := fun q c hq => by
        rw [← hk, List.getElem?_take] at hq
        split at hq
        · rwa [List.getElem?_drop] at hq
        · cases hq
      have hex : ∀ q, q < ks.length → ∃ u : Value, w.cell? ⟨g, i * o.sz + j + q, none⟩ = some u ∧ u.oneCell' = true ∧ Rd cx.S w ks[q]! u := fun q hq => by
        obtain ⟨u, q1⟩ := h2 (j + q) ks[q] (hkr q _ (List.getElem?_eq_getElem hq))
        exact ⟨u, by rw [getElem!_pos ks q hq, Nat.add_assoc]; exact q1⟩
      let us : List Value := (List.range ks.length).map fun q => if hq : q < ks.length then (hex q hq).choose else undef
      have hlen : us.length = ks.length := by simp [us]
      have hget : ∀ q u, us[q]? = some u → w.cell? ⟨g, i * o.sz + j + q, none⟩ = some u ∧ u.oneCell' = true ∧ Rd cx.S w ks[q]! u := fun q u hq => by
        have hql : q < ks.length := by have := (List.getElem?_eq_some_iff.1 hq).1; rwa [hlen] at this
        simp only [us, List.getElem?_map, List.getElem?_range hql, Option.map_some, hql, dif_pos, Option.some.injEq] at hq
        rw [← hq]
        exact (hex q hql).choose_spec
      refine ⟨.agg us.toArray, ?_, .d _ _ (Rd.agg ks us hlen (fun u hu => ?_) fun q c u hc hu => ?_)⟩
      · have := run_load_agg (P := P) (t := t) (cs := us) (by rw [hlen, hl]; exact ht) (w := w) (b := g) (o := i * o.sz + j) (fun q u hq => (hget q u hq).1)
        subst hoff
        simp [execOp, hu, this]
      · obtain ⟨q, hq, rfl⟩ := List.getElem_of_mem hu
        exact (hget q _ (List.getElem?_eq_getElem hq)).2.1
      · have := (hget q u hu).2.2
        have hql := (List.getElem?_eq_some_iff.1 hc).1
        rw [getElem!_pos ks q hql] at this
        rw [List.getElem?_eq_getElem hql] at hc
        injection hc with hc
        rw [← hc]; exact this
theorem PureOp.loadONL {t : TypeId} {x : Operand} {id n j e0 sz s2 : Nat} {z : α} {ks : List D} (hx : SLe (ρ x) (.op id (n * sz + j))) (ho : lookA own id = some ⟨e0, sz, l.map av⟩) (hn : l[n]? = some z) (hk : ((av z).drop j).take s2 = ks) (hl : Nat.beq ks.length s2 = true) (ht : aggTy P t s2 = true) : PureOp P ⟨dst, .load t x, ty, pos, aft, gd⟩ ρ bx own (.d (.agg ks)) :=
  PureOp.loadONJ hx ho rfl (map_get hn) hk hl ht
end lists
/-! ### what is told of slots -/
theorem PureOp.moveF {x : Operand} {f : FuncId} {cs : List SV} (hx : SLe (ρ x) (.fn f cs)) : PureOp P ⟨dst, .move x, ty, pos, aft, gd⟩ ρ bx own (.fn f cs) := .move hx
theorem PureOp.assignF {x : Operand} {f : FuncId} {cs : List SV} (hx : SLe (ρ x) (.fn f cs)) : PureOp P ⟨dst, .assign x, ty, pos, aft, gd⟩ ρ bx own (.fn f cs) := .assign hx
theorem PureOp.moveU {x : Operand} {cs : List SV} (hx : SLe (ρ x) (.tup cs)) : PureOp P ⟨dst, .move x, ty, pos, aft, gd⟩ ρ bx own (.tup cs) := .move hx
theorem PureOp.assignU {x : Operand} {cs : List SV} (hx : SLe (ρ x) (.tup cs)) : PureOp P ⟨dst, .assign x, ty, pos, aft, gd⟩ ρ bx own (.tup cs) := .assign hx
/-! ### calls -/
/-- The operands are data that is stable. -/
inductive ArgsS (ρ : Operand → SV) : List Operand → List SV → Prop
  | nil : ArgsS ρ [] []
  | cons {x : Operand} {y : D} {xs : List Operand} {ss : List SV} (h : SLe (ρ x) (.d y)) (t : ArgsS ρ xs ss) : ArgsS ρ (x :: xs) (.d y :: ss)
  | tp {x : Operand} {xs : List Operand} {ss : List SV} (h : SLe (ρ x) .tp) (t : ArgsS ρ xs ss) : ArgsS ρ (x :: xs) (.tp :: ss)
theorem ArgsS.length {xs : List Operand} {ss : List SV} (h : ArgsS ρ xs ss) : xs.length = ss.length := by
  induction h with
  | nil => rfl
  | cons h t ih => simp [ih]
  | tp h t ih => simp [ih]
theorem ArgsS.rel {w : World} {c : Cx} {xs : List Operand} {ss : List SV} (h : ArgsS ρ xs ss) {ev : Operand → Value} :
    (∀ x ∈ xs, SRel c w (ρ x) (ev x)) → ∀ (i : Nat) (s : SV) (u : Value), ss[i]? = some s → (xs.map ev)[i]? = some u → SRel ⟨c.S, fun _ => 0, fun _ => undef, c.T⟩ w s u := by
  induction h with
  | nil => intro _ i s u hs; simp at hs
  | cons h t ih =>
    intro hρ i s u hs hu
    cases i with
    | zero =>
      simp at hs hu
      subst hs hu
      have := srel_d (h c w _ (hρ _ (by simp)))
      exact .d _ _ this
    | succ i => simp at hs hu; exact ih (fun x hx => hρ x (by simp [hx])) i s u hs (by simpa using hu)
  | tp h t ih =>
    intro hρ i s u hs hu
    cases i with
    | zero =>
      simp at hs hu
      subst hs hu
      rw [srel_tp (h c w _ (hρ _ (by simp)))]
      exact .tp (c := ⟨c.S, fun _ => 0, fun _ => undef, c.T⟩)
    | succ i => simp at hs hu; exact ih (fun x hx => hρ x (by simp [hx])) i s u hs (by simpa using hu)
/-- A function of what it reads; the result may lie where the arguments lie. -/
def FC (P : Program) (f : FuncId) (args : List D) (r : D) : Prop := ACalls P f false false (args.map SV.d) (· = r)
theorem ACalls.any {f : FuncId} {tp fr : Bool} {args : List SV} {Φ : D → Prop} (h : ACalls P f tp fr args Φ) : ACalls P f tp false args Φ :=
  fun w S Sτ T vals h1 h2 h3 h4 h5 h6 => (h w S Sτ T vals h1 h2 h3 h4 h5 h6).mono fun _ _ ⟨r, v, S', q1, q2, q3, q4, q5, q6, q7⟩ => ⟨r, v, S', q1, q2, q3, q4, q5, q6, q7.mono (fun b o hb => ⟨hb.1, fun e => by cases e⟩) (fun _ _ _ => rfl)⟩
theorem FCalls.any {f : FuncId} {args : List D} {r : D} (h : FCalls P f args r) : FC P f args r := ACalls.any h
theorem PureOp.callS {f : FuncId} {args : List Operand} {tys : Array TypeId} {ds : List D} {r : D} (ha : ArgsS ρ args (ds.map SV.d)) (hc : FC P f ds r) (hf : callable P f = true) : PureOp P ⟨dst, .call ⟨.value (.func f), args.toArray, tys⟩, ty, pos, aft, gd⟩ ρ bx own (.d r) := by
  intro base a w c hs K Q hK
  unfold Oper.wp
  rw [eval_fn hf]
  show Calls _ _ _ _ _
  have hl : (args.map a.eval).length = (ds.map SV.d).length := by rw [List.length_map, ha.length]
  have hrel := ha.rel (ev := a.eval) (fun x hx => hs.op x (by simp [Op.operands, Call.operands, hx]))
  refine (hc w c.S (fun _ _ => False) w.heap.size (args.map a.eval) hs.sb (fun _ _ h => h.elim) (fun h => by cases h) (fun _ => Nat.le_refl _) hl (fun i s u hi hu => ?_)).mono ?_
  · have h3 := hrel i s u hi hu
    rw [List.getElem?_map] at hi
    cases hd : ds[i]? with
    | none => rw [hd] at hi; cases hi
    | some d =>
      rw [hd] at hi
      simp only [Option.map_some, Option.some.injEq] at hi
      subst hi
      have h4 := srel_d h3
      exact .d _ _ h4
  · rintro e w' ⟨r', v, S', rfl, rfl, hg, ho, hs', _, hr⟩
    refine hK v w' S' ⟨⟨hg.os, hg.tape, hg.output, hg.size, fun k hk => hg.block k hk (fun e => by have := Option.some.inj e; omega)⟩, ho, hs'⟩ (.d _ _ (hr.mono (fun b o hb => hb.1) (fun _ _ _ => rfl)))
theorem PureOp.callSF {f : FuncId} {args : List Operand} {tys : Array TypeId} {ds : List D} {r : D} (ha : Args ρ bx own args (ds.map SV.d)) (hc : FC P f ds r) (hr : r.flat = true) (hf : callable P f = true) : PureOp P ⟨dst, .call ⟨.value (.func f), args.toArray, tys⟩, ty, pos, aft, gd⟩ ρ bx own (.d r) := by
  refine PureOp.call (r := r) ?_ ha hf
  exact fun w S Sτ T vals h1 h2 h3 h4 h5 h6 => (hc w S Sτ T vals h1 h2 h3 h4 h5 h6).mono fun _ _ ⟨r', v, S', q1, q2, q3, q4, q5, q6, q7⟩ => ⟨r', v, S', q1, q2, q3, q4, q5, q6, q7.flat (q1 ▸ hr)⟩
theorem FC.fresh {f : FuncId} {ds : List D} {r : D} (hc : FC P f ds r) (hr : r.flat = true) : FCalls P f ds r :=
  fun w S Sτ T vals h1 h2 h3 h4 h5 h6 => (hc w S Sτ T vals h1 h2 h3 h4 h5 h6).mono fun _ _ ⟨r', v, S', q1, q2, q3, q4, q5, q6, q7⟩ => ⟨r', v, S', q1, q2, q3, q4, q5, q6, q7.flat (q1 ▸ hr)⟩
theorem ACalls.fresh {f : FuncId} {tp : Bool} {args : List SV} {Φ : D → Prop} (hc : ACalls P f tp false args Φ) (hr : ∀ r, Φ r → r.flat = true) : ACalls P f tp true args Φ :=
  fun w S Sτ T vals h1 h2 h3 h4 h5 h6 => (hc w S Sτ T vals h1 h2 h3 h4 h5 h6).mono fun _ _ ⟨r', v, S', q1, q2, q3, q4, q5, q6, q7⟩ => ⟨r', v, S', q1, q2, q3, q4, q5, q6, q7.flat (hr r' q1)⟩
theorem PureOp.callVS {x : Operand} {g : D} {f : FuncId} {caps : List D} {args : List Operand} {tys : Array TypeId} {ds : List D} {r : D}
    (hx : SLe (ρ x) (.d g)) (ha : ArgsS ρ args (ds.map SV.d)) (hg : FnD g f caps) (hc : FC P f (ds ++ caps) r) (hf : callable P f = true) : PureOp P ⟨dst, .call ⟨.value x, args.toArray, tys⟩, ty, pos, aft, gd⟩ ρ bx own (.d r) := by
  intro base a w c hs K Q hK
  have hxr := srel_d (hx c w _ (hs.op x (by simp [Op.operands, Call.operands])))
  obtain ⟨us, hus, hul, hur⟩ : ∃ us : List Value, a.eval x = .func (.func f) #[] us.toArray ∧ us.length = caps.length ∧ ∀ (i : Nat) (s : D) (u : Value), caps[i]? = some s → us[i]? = some u → Rd c.S w s u := by
    cases hg with
    | fn =>
      generalize a.eval x = v at hxr
      cases hxr with
      | fn _ _ us hl h => exact ⟨us, rfl, hl, h⟩
    | bare =>
      generalize a.eval x = v at hxr
      cases hxr with
      | v => exact ⟨[], rfl, rfl, fun i s u hi => by simp at hi⟩
  unfold Oper.wp
  rw [eval_fnv hus hf]
  show Calls _ _ _ _ _
  have hla : args.length = ds.length := by simpa using ha.length
  have hl : (args.map a.eval ++ us).length = ((ds ++ caps).map SV.d).length := by simp [hla, hul]
  have hrel := ha.rel (ev := a.eval) (fun x hx => hs.op x (by simp [Op.operands, Call.operands, hx]))
  refine (hc w c.S (fun _ _ => False) w.heap.size (args.map a.eval ++ us) hs.sb (fun _ _ h => h.elim) (fun h => by cases h) (fun _ => Nat.le_refl _) hl (fun i s u hi hu => ?_)).mono ?_
  · rw [List.getElem?_map] at hi
    cases hd : (ds ++ caps)[i]? with
    | none => rw [hd] at hi; cases hi
    | some d =>
      rw [hd] at hi
      simp only [Option.map_some, Option.some.injEq] at hi
      subst hi
      by_cases hlt' : i < ds.length
      · rw [List.getElem?_append_left hlt'] at hd
        rw [List.getElem?_append_left (by simp [hla]; exact hlt')] at hu
        have h4 := srel_d (hrel i (.d d) u (by rw [List.getElem?_map, hd]; rfl) hu)
        exact .d _ _ h4
      · rw [List.getElem?_append_right (by omega)] at hd
        rw [List.getElem?_append_right (by simp [hla]; omega)] at hu
        have h4 := hur (i - ds.length) d u hd (by simpa [hla] using hu)
        exact .d _ _ h4
  · rintro e w' ⟨r', v, S', rfl, rfl, hg, ho, hs', _, hr⟩
    exact hK v w' S' ⟨⟨hg.os, hg.tape, hg.output, hg.size, fun k hk => hg.block k hk (fun e => by have := Option.some.inj e; omega)⟩, ho, hs'⟩ (.d _ _ (hr.mono (fun b o hb => hb.1) (fun _ _ _ => rfl)))
end ops
section
variable {w0 : World} {S0 : Ev} {T : Nat → Prop} {ops : Array Oper} {rest : List Oper} {st : St} {Q : St → Prop}
/-- A call, with or without the tape, whose result is not said exactly. -/
theorem AO.scall {tp : Bool} {f : FuncId} {args : List Operand} {tys : Array TypeId} {ty : TypeId} {pos : String} {aft : Array Edge} {d : Nat} {ss : List SV} {Φ : D → Prop} (ha : ArgsS st.ev args ss) (hc : ACalls P f tp false ss Φ) (htp : (!tp || st.tp) = true) (hnt : tp = true ∨ ∃ ds : List D, ss = ds.map SV.d) (hf : callable P f = true)
    (hd : Nat.ble (d + 1) st.n = true) (h : ∀ r, Φ r → AO P w0 S0 T ops rest (st.put d (.d r)) Q) : AO P w0 S0 T ops (⟨some d, .call ⟨.value (.func f), args.toArray, tys⟩, ty, pos, aft, none⟩ :: rest) st Q := by
  rintro a w ⟨c, hT, hr⟩ Qx hQ
  refine wpList_plain rfl fun K hK => ?_
  unfold Oper.wp
  rw [eval_fn hf]
  show Calls _ _ _ _ _
  have hl : (args.map a.eval).length = ss.length := by rw [List.length_map, ha.length]
  have hrel := ha.rel (ev := a.eval) (fun x _ => ev_rel hr x)
  cases tp with
  | true =>
    have htp : st.tp = true := by simpa using htp
    obtain ⟨t1, t3, t4, t5⟩ := hr.tp htp
    refine (hc w c.S S0.St c.T (args.map a.eval) hr.sb hr.stt (fun _ => ⟨t1, t3⟩) (fun h => by cases h) hl hrel).mono ?_
    rintro e w' ⟨r, v, S', hΦ, rfl, hg, ho, hs', hT', hrd⟩
    have h1 := hr.growT htp (S' := S') hg ho hs' (hT' rfl)
    exact hK _ _ (h r hΦ _ _ ⟨⟨S', c.B, c.O, c.T⟩, hT, h1.put (r := .d r) (v := v) (Nat.le_of_ble_eq_true hd) (.d _ _ (hrd.mono (fun b o hb => hb.1) (fun _ _ _ => rfl))) (Nat.zero_le _)⟩ Qx hQ)
  | false =>
    obtain ⟨ds, rfl⟩ := hnt.resolve_left (by decide)
    refine (hc w c.S (fun _ _ => False) w.heap.size (args.map a.eval) hr.sb (fun _ _ h => h.elim) (fun h => by cases h) (fun _ => Nat.le_refl _) hl (fun i s u hi hu => ?_)).mono ?_
    · have h3 := hrel i s u hi hu
      rw [List.getElem?_map] at hi
      cases hd' : ds[i]? with
      | none => rw [hd'] at hi; cases hi
      | some d' =>
        rw [hd'] at hi
        simp only [Option.map_some, Option.some.injEq] at hi
        subst hi
        have h4 := srel_d h3
        exact .d _ _ h4
    · rintro e w' ⟨r, v, S', hΦ, rfl, hg, ho, hs', _, hrd⟩
      have he : Ext c.S w S' w' := ⟨⟨hg.os, hg.tape, hg.output, hg.size, fun k hk => hg.block k hk (fun e => by have := Option.some.inj e; omega)⟩, ho, hs'⟩
      exact hK _ _ (h r hΦ _ _ ⟨⟨S', c.B, c.O, c.T⟩, hT, (hr.grow he).put (r := .d r) (v := v) (Nat.le_of_ble_eq_true hd) (.d _ _ (hrd.mono (fun b o hb => hb.1) (fun _ _ _ => rfl))) (Nat.zero_le _)⟩ Qx hQ)
theorem AO.tcallS {f : FuncId} {args : List Operand} {tys : Array TypeId} {ty : TypeId} {pos : String} {aft : Array Edge} {d : Nat} {ss : List SV} {Φ : D → Prop} (ha : ArgsS st.ev args ss) (hc : ACalls P f true false ss Φ) (htp : st.tp = true) (hf : callable P f = true)
    (hd : Nat.ble (d + 1) st.n = true) (h : ∀ r, Φ r → AO P w0 S0 T ops rest (st.put d (.d r)) Q) : AO P w0 S0 T ops (⟨some d, .call ⟨.value (.func f), args.toArray, tys⟩, ty, pos, aft, none⟩ :: rest) st Q := AO.scall ha hc (by rw [htp]; rfl) (.inl rfl) hf hd h
theorem AO.dcallS {f : FuncId} {args : List Operand} {tys : Array TypeId} {ty : TypeId} {pos : String} {aft : Array Edge} {d : Nat} {ds : List D} {Φ : D → Prop} (ha : ArgsS st.ev args (ds.map SV.d)) (hc : ACalls P f false false (ds.map SV.d) Φ) (hf : callable P f = true)
    (hd : Nat.ble (d + 1) st.n = true) (h : ∀ r, Φ r → AO P w0 S0 T ops rest (st.put d (.d r)) Q) : AO P w0 S0 T ops (⟨some d, .call ⟨.value (.func f), args.toArray, tys⟩, ty, pos, aft, none⟩ :: rest) st Q := AO.scall ha hc rfl (.inr ⟨ds, rfl⟩) hf hd h
/-! ### owned rows of typed lists -/
section
variable {α : Type} {av : α → List D}
theorem AO.appendL {t e sz bs d id : Nat} {x y : Operand} {ty : TypeId} {pos : String} {aft : Array Edge} (l l2 : List α) (hx : SLe (st.ev x) (.os id)) (ho : lookA st.own id = some ⟨e, sz, l.map av⟩) (hy : SLe (st.ev y) (.d (.sl sz (l2.map av))))
    (ht : appTy P t e sz bs = true) (hb : apOK bs l.length l2.length) (hd : Nat.ble (d + 1) st.n = true)
    (h : AO P w0 S0 T ops rest ⟨(d, .os st.nx) :: st.sl, st.bx, (st.nx, ⟨e, sz, (l ++ l2).map av⟩) :: delA st.own id, st.nx + 1, st.tp, st.n⟩ Q) :
    AO P w0 S0 T ops (⟨some d, .call ⟨.builtin .append, #[x, y], #[t, t]⟩, ty, pos, aft, none⟩ :: rest) st Q :=
  AO.append hx ho hy ht (by rw [List.length_map, List.length_map]; exact hb) hd (by rw [← List.map_append]; exact h)
theorem AO.appendE {t e sz bs d id : Nat} {x y : Operand} {ty : TypeId} {pos : String} {aft : Array Edge} (l : List α) (z : α) (hx : SLe (st.ev x) (.os id)) (ho : lookA st.own id = some ⟨e, sz, l.map av⟩) (hy : SLe (st.ev y) (.d (.sl sz [av z])))
    (ht : appTy P t e sz bs = true) (hb : apOK bs l.length 1) (hd : Nat.ble (d + 1) st.n = true)
    (h : AO P w0 S0 T ops rest ⟨(d, .os st.nx) :: st.sl, st.bx, (st.nx, ⟨e, sz, (l ++ [z]).map av⟩) :: delA st.own id, st.nx + 1, st.tp, st.n⟩ Q) :
    AO P w0 S0 T ops (⟨some d, .call ⟨.builtin .append, #[x, y], #[t, t]⟩, ty, pos, aft, none⟩ :: rest) st Q := AO.appendL l [z] hx ho hy ht hb hd h
theorem AO.storeL {t : TypeId} {x y : Operand} {ty : TypeId} {pos : String} {aft : Array Edge} {id n j e sz : Nat} {ks : List D} {s : D} (l : List α) {z : α} (z' : α) (hx : SLe (st.ev x) (.op id (n * sz + j))) (hy : SLe (st.ev y) (.d s)) (ho : lookA st.own id = some ⟨e, sz, l.map av⟩) (hks : cellsOf (.d s) = ks.map SV.d) (hc : (SV.d s).okc = true)
    (ht : szTy P t ks.length = true) (hn : l[n]? = some z) (hj : Nat.ble (j + ks.length) (av z).length = true) (hrow : spl (av z) j ks = av z') (h0 : Nat.ble 1 sz = true)
    (h : AO P w0 S0 T ops rest ⟨st.sl, st.bx, setA st.own id ⟨e, sz, (l.set n z').map av⟩, st.nx, st.tp, st.n⟩ Q) : AO P w0 S0 T ops (⟨none, .store t x y, ty, pos, aft, none⟩ :: rest) st Q :=
  AO.storeO (i := n) (j := j) (o := ⟨e, sz, l.map av⟩) hx hy ho hks hc ht rfl (map_get hn) (Nat.le_of_ble_eq_true hj) hrow h0 (by
    show AO P w0 S0 T ops rest ⟨st.sl, st.bx, setA st.own id ⟨e, sz, (l.map av).set n (av z')⟩, st.nx, st.tp, st.n⟩ Q
    rw [← List.map_set]; exact h)
end
end
/-- What a function's plain law says, as a contract. -/
theorem FC.of1 {f : FuncId} {ds : List D} {α : Type} {enc : α → D} {y : α} (h : ACalls P f false false (ds.map SV.d) (fun r => ∃ z, r = enc z ∧ z = y)) : FC P f ds (enc y) := h.mono fun r ⟨z, h1, h2⟩ => by rw [h1, h2]
theorem FC.of2 {f : FuncId} {ds : List D} {α β : Type} {e1 : α → D} {e2 : β → D} {y1 : α} {y2 : β} (h : ACalls P f false false (ds.map SV.d) (fun r => ∃ z1 z2, r = .tup [e1 z1, e2 z2] ∧ (z1 = y1 ∧ z2 = y2))) : FC P f ds (.tup [e1 y1, e2 y2]) := h.mono fun r ⟨z1, z2, h1, h2, h3⟩ => by rw [h1, h2, h3]
theorem FC.of3 {f : FuncId} {ds : List D} {α β γ : Type} {e1 : α → D} {e2 : β → D} {e3 : γ → D} {y1 : α} {y2 : β} {y3 : γ} (h : ACalls P f false false (ds.map SV.d) (fun r => ∃ z1 z2 z3, r = .tup [e1 z1, e2 z2, e3 z3] ∧ (z1 = y1 ∧ z2 = y2 ∧ z3 = y3))) : FC P f ds (.tup [e1 y1, e2 y2, e3 y3]) := h.mono fun r ⟨z1, z2, z3, h1, h2, h3, h4⟩ => by rw [h1, h2, h3, h4]
end Eng
end Go.Proofs.Ytmmekdkllccmdaa
