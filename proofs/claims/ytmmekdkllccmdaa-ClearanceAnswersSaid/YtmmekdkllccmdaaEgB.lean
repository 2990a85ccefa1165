/-
  The engine's pure operations: what one operation yields from what its operands read as.
-/
import Derived.Test.YtmmekdkllccmdaaEgA
namespace Go.Proofs.Ytmmekdkllccmdaa
open Go.RowKit
set_option linter.unusedVariables false
namespace Eng
def SLe (s r : SV) : Prop := ∀ c w u, SRel c w s u → SRel c w r u
theorem SLe.eq {s r : SV} (h : s = r) : SLe s r := fun _ _ _ k => h ▸ k
theorem SLe.cnd {s r : SV} {g : Bool} (h : s = .cnd g r) (hg : g = true) : SLe s r := fun _ _ _ k => by subst h; exact (srel_cnd k).1 hg
theorem SLe.nil {s : SV} {sz : Nat} (h : s = .d (.v (.slice none 0 0))) : SLe s (.d (.sl sz [])) := fun c w u k => by
  subst h
  have := srel_v k
  subst this
  exact .d _ _ (Rd.sl sz [] none 0 0 0 (fun _ _ => undef) (Nat.le_refl _) (by simp [maxLen]) (.inl rfl) (fun i row h => by simp at h) (fun i row j c h => by simp at h))
theorem SLe.un {s : SV} : SLe s .un := fun _ _ u _ => .un u
theorem SLe.int {s : SV} {k : IntKind} {a b : Int} (h : s = .d (.v (.int k a))) (he : a = b) : SLe s (.d (.v (.int k b))) := SLe.eq (by rw [h, he])
theorem SLe.bool {s : SV} {a b : Bool} (h : s = .d (.v (.bool a))) (he : a = b) : SLe s (.d (.v (.bool b))) := SLe.eq (by rw [h, he])
theorem SLe.sl {s : SV} {sz : Nat} {a b : List (List D)} (h : s = .d (.sl sz a)) (he : a = b) : SLe s (.d (.sl sz b)) := SLe.eq (by rw [h, he])
theorem SLe.dd {s : SV} {a b : D} (h : s = .d a) (he : a = b) : SLe s (.d b) := SLe.eq (by rw [h, he])
variable {P : Program}
/-- What an operation may look at: its operands, boxes and owned rows. -/
structure Sees (o : Oper) (ρ : Operand → SV) (bx : List (Nat × List SV)) (own : List (Nat × OwnE)) (base : Nat) (a : Act) (w : World) (c : Cx) : Prop where
  op : ∀ x, x ∈ o.op.operands → SRel c w (ρ x) (a.eval x)
  bx : ∀ id cs, lookA bx id = some cs → BoxAt base w c (c.B id) cs
  ow : ∀ id x, lookA own id = some x → OwnX base w c.S (c.O id) x
  sb : ∀ b o, c.S b o → b < w.heap.size
def PureOp (P : Program) (o : Oper) (ρ : Operand → SV) (bx : List (Nat × List SV)) (own : List (Nat × OwnE)) (r : SV) : Prop :=
  ∀ (base : Nat) (a : Act) (w : World) (c : Cx), Sees o ρ bx own base a w c →
    ∀ (K : Act → World → Prop) (Q : Exit → Act → World → Prop), (∀ v w' S', Ext c.S w S' w' → SRel ⟨S', c.B, c.O, c.T⟩ w' r v → K (a.put o.dst v) w') → o.wp P a w K Q
/-- An operation that yields a value and leaves the world as it is. -/
theorem PureOp.of_run {o : Oper} {ρ : Operand → SV} {bx : List (Nat × List SV)} {own : List (Nat × OwnE)} {r : SV}
    (h : ∀ (base : Nat) (a : Act) (w : World) (c : Cx), Sees o ρ bx own base a w c → ∃ v, (execOp a.eval o).run P w = .ok (.value v) w ∧ SRel c w r v) : PureOp P o ρ bx own r := by
  intro base a w c hs K Q hK
  obtain ⟨v, hv, hr⟩ := h base a w c hs
  unfold Oper.wp
  rw [hv]
  exact hK v w c.S (Ext.refl hs.sb) hr
theorem mem_ops1 {x : Operand} : x ∈ #[x] := by simp
section ops
variable {ρ : Operand → SV} {bx : List (Nat × List SV)} {own : List (Nat × OwnE)} {dst : Option Tmp} {ty : TypeId} {pos : String} {after : Array Edge} {gd : Option (Nat × Bool)}
theorem PureOp.move {x : Operand} {s : SV} (hx : SLe (ρ x) s) : PureOp P ⟨dst, .move x, ty, pos, after, gd⟩ ρ bx own s :=
  .of_run fun _ a w c hs => ⟨a.eval x, by simp [execOp], hx c w _ (hs.op x (by simp [Op.operands]))⟩
theorem PureOp.assign {x : Operand} {s : SV} (hx : SLe (ρ x) s) : PureOp P ⟨dst, .assign x, ty, pos, after, gd⟩ ρ bx own s :=
  .of_run fun _ a w c hs => ⟨a.eval x, by simp [execOp], hx c w _ (hs.op x (by simp [Op.operands]))⟩
theorem PureOp.pick {q x y : Operand} {t : Bool} {r : SV} (hc : SLe (ρ q) (.d (.v (.bool t)))) (ha : t = true → SLe (ρ x) r) (hb : t = false → SLe (ρ y) r) : PureOp P ⟨dst, .pick q x y, ty, pos, after, gd⟩ ρ bx own r :=
  .of_run fun _ a w c hs => by
    have h := srel_v (hc c w _ (hs.op q (by simp [Op.operands])))
    refine ⟨if t then a.eval x else a.eval y, by simp [execOp, h, asBool], ?_⟩
    cases t with
    | true => exact ha rfl c w _ (hs.op x (by simp [Op.operands]))
    | false => exact hb rfl c w _ (hs.op y (by simp [Op.operands]))
theorem sle_and {s : SV} {g t x : Bool} (h : s = .cnd g (.d (.v (.bool x)))) (ht : t = true) (hg : t = true → g = true) : SLe s (.d (.v (.bool (t && x)))) := fun c w u k => by
  subst h; have := (srel_cnd k).1 (hg ht); subst ht; simpa using this
theorem sle_and' {s : SV} {t x : Bool} (h : s = .d (.v (.bool false))) (ht : t = false) : SLe s (.d (.v (.bool (t && x)))) := fun c w u k => by
  subst h; subst ht; simpa using k
theorem sle_or {s : SV} {g t x : Bool} (h : s = .cnd g (.d (.v (.bool x)))) (ht : t = false) (hg : t = false → g = true) : SLe s (.d (.v (.bool (t || x)))) := fun c w u k => by
  subst h; have := (srel_cnd k).1 (hg ht); subst ht; simpa using this
theorem sle_or' {s : SV} {t x : Bool} (h : s = .d (.v (.bool true))) (ht : t = true) : SLe s (.d (.v (.bool (t || x)))) := fun c w u k => by
  subst h; subst ht; simpa using k
/-- 'c && x', x under the guard c. -/
theorem PureOp.pickAnd {q x y : Operand} {t g b : Bool} (hc : SLe (ρ q) (.d (.v (.bool t)))) (ha : ρ x = .cnd g (.d (.v (.bool b)))) (hb : ρ y = .d (.v (.bool false))) (hg : t = true → g = true) :
    PureOp P ⟨dst, .pick q x y, ty, pos, after, gd⟩ ρ bx own (.d (.v (.bool (t && b)))) := .pick hc (fun h => sle_and ha h hg) (fun h => sle_and' hb h)
theorem PureOp.pickOr {q x y : Operand} {t g b : Bool} (hc : SLe (ρ q) (.d (.v (.bool t)))) (ha : ρ y = .cnd g (.d (.v (.bool b)))) (hb : ρ x = .d (.v (.bool true))) (hg : t = false → g = true) :
    PureOp P ⟨dst, .pick q x y, ty, pos, after, gd⟩ ρ bx own (.d (.v (.bool (t || b)))) := .pick hc (fun h => sle_or' hb h) (fun h => sle_or ha h hg)

/-! integers and bools -/
theorem PureOp.bin {op : BinOp} {t t' : TypeId} {x y : Operand} {u v r : Value} (hx : SLe (ρ x) (.d (.v u))) (hy : SLe (ρ y) (.d (.v v)))
    (h : ∀ w, (do eqGuard op t x y u v; binOp op t u v : Sem Value).run P w = .ok r w) : PureOp P ⟨dst, .binOp op t x y t', ty, pos, after, gd⟩ ρ bx own (.d (.v r)) :=
  .of_run fun _ a w c hs => by
    have h1 := srel_v (hx c w _ (hs.op x (by simp [Op.operands])))
    have h2 := srel_v (hy c w _ (hs.op y (by simp [Op.operands])))
    refine ⟨r, ?_, v_srel r⟩
    have := h w
    simp only [execOp, h1, h2, Sem.run_bind, this, Result.andThen_ok]
    rfl
section bin
variable {t t' : TypeId} {x y : Operand} {k : IntKind} {a b : Int}
theorem bin_int {op : BinOp} {u v : Value} {k k' : IntKind} {a b : Int} (hu : u = .int k a) (hv : v = .int k' b) : ∀ w, (do eqGuard op t x y u v; binOp op t u v : Sem Value).run P w = (binOp op t u v).run P w := by
  intro w; subst hu hv
  unfold eqGuard
  split <;> simp
theorem PureOp.add (hx : SLe (ρ x) (.d (.v (.int .i64 a)))) (hy : SLe (ρ y) (.d (.v (.int .i64 b)))) (h1 : -9223372036854775808 ≤ a + b) (h2 : a + b ≤ 9223372036854775807) :
    PureOp P ⟨dst, .binOp .add t x y t', ty, pos, after, gd⟩ ρ bx own (.d (.v (.int .i64 (a + b)))) :=
  .bin hx hy fun w => by rw [bin_int rfl rfl]; simp [binOp, Op.intArith]; exact IntWalk.i64_in _ ⟨h1, h2⟩
theorem PureOp.sub (hx : SLe (ρ x) (.d (.v (.int .i64 a)))) (hy : SLe (ρ y) (.d (.v (.int .i64 b)))) (h1 : -9223372036854775808 ≤ a - b) (h2 : a - b ≤ 9223372036854775807) :
    PureOp P ⟨dst, .binOp .sub t x y t', ty, pos, after, gd⟩ ρ bx own (.d (.v (.int .i64 (a - b)))) :=
  .bin hx hy fun w => by rw [bin_int rfl rfl]; simp [binOp, Op.intArith]; exact IntWalk.i64_in _ ⟨h1, h2⟩
theorem PureOp.mul (hx : SLe (ρ x) (.d (.v (.int .i64 a)))) (hy : SLe (ρ y) (.d (.v (.int .i64 b)))) (h1 : -9223372036854775808 ≤ a * b) (h2 : a * b ≤ 9223372036854775807) :
    PureOp P ⟨dst, .binOp .mul t x y t', ty, pos, after, gd⟩ ρ bx own (.d (.v (.int .i64 (a * b)))) :=
  .bin hx hy fun w => by rw [bin_int rfl rfl]; simp [binOp, Op.intArith]; exact IntWalk.i64_in _ ⟨h1, h2⟩
theorem PureOp.lss (hx : SLe (ρ x) (.d (.v (.int k a)))) (hy : SLe (ρ y) (.d (.v (.int k b)))) : PureOp P ⟨dst, .binOp .lss t x y t', ty, pos, after, gd⟩ ρ bx own (.d (.v (.bool (decide (a < b))))) :=
  .bin hx hy fun w => by rw [bin_int rfl rfl]; simp [binOp, Op.intCmp]
theorem PureOp.leq (hx : SLe (ρ x) (.d (.v (.int k a)))) (hy : SLe (ρ y) (.d (.v (.int k b)))) : PureOp P ⟨dst, .binOp .leq t x y t', ty, pos, after, gd⟩ ρ bx own (.d (.v (.bool (decide (a ≤ b))))) :=
  .bin hx hy fun w => by rw [bin_int rfl rfl]; simp [binOp, Op.intCmp]
theorem PureOp.gtr (hx : SLe (ρ x) (.d (.v (.int k a)))) (hy : SLe (ρ y) (.d (.v (.int k b)))) : PureOp P ⟨dst, .binOp .gtr t x y t', ty, pos, after, gd⟩ ρ bx own (.d (.v (.bool (decide (b < a))))) :=
  .bin hx hy fun w => by rw [bin_int rfl rfl]; simp [binOp, Op.intCmp]
theorem PureOp.geq (hx : SLe (ρ x) (.d (.v (.int k a)))) (hy : SLe (ρ y) (.d (.v (.int k b)))) : PureOp P ⟨dst, .binOp .geq t x y t', ty, pos, after, gd⟩ ρ bx own (.d (.v (.bool (decide (b ≤ a))))) :=
  .bin hx hy fun w => by rw [bin_int rfl rfl]; simp [binOp, Op.intCmp]
theorem PureOp.eql (hx : SLe (ρ x) (.d (.v (.int k a)))) (hy : SLe (ρ y) (.d (.v (.int k b)))) : PureOp P ⟨dst, .binOp .eql t x y t', ty, pos, after, gd⟩ ρ bx own (.d (.v (.bool (decide (a = b))))) :=
  .bin hx hy fun w => by rw [bin_int rfl rfl]; simp [binOp, Op.intCmp]; rw [Bool.eq_iff_iff]; simp
theorem PureOp.neq (hx : SLe (ρ x) (.d (.v (.int k a)))) (hy : SLe (ρ y) (.d (.v (.int k b)))) : PureOp P ⟨dst, .binOp .neq t x y t', ty, pos, after, gd⟩ ρ bx own (.d (.v (.bool (!decide (a = b))))) :=
  .bin hx hy fun w => by rw [bin_int rfl rfl]; simp [binOp, Op.intCmp]; rw [Bool.eq_iff_iff]; simp
theorem PureOp.quo (hx : SLe (ρ x) (.d (.v (.int .i64 a)))) (hy : SLe (ρ y) (.d (.v (.int .i64 b)))) (h0 : 0 ≤ a) (h1 : 0 < b) (h2 : a ≤ 9223372036854775807) :
    PureOp P ⟨dst, .binOp .quo t x y t', ty, pos, after, gd⟩ ρ bx own (.d (.v (.int .i64 (a / b)))) :=
  .bin hx hy fun w => by
    rw [bin_int rfl rfl]
    have hb : ¬ b = 0 := by omega
    have hq : 0 ≤ a / b ∧ a / b ≤ a := ⟨Int.ediv_nonneg h0 (by omega), Int.ediv_le_self _ h0⟩
    simp [binOp, Op.intDiv, hb, Int.tdiv_eq_ediv_of_nonneg h0]
    exact IntWalk.i64_in _ ⟨by omega, by omega⟩
theorem PureOp.rem (hx : SLe (ρ x) (.d (.v (.int .i64 a)))) (hy : SLe (ρ y) (.d (.v (.int .i64 b)))) (h0 : 0 ≤ a) (h1 : 0 < b) (h2 : b ≤ 9223372036854775807) :
    PureOp P ⟨dst, .binOp .rem t x y t', ty, pos, after, gd⟩ ρ bx own (.d (.v (.int .i64 (a % b)))) :=
  .bin hx hy fun w => by
    rw [bin_int rfl rfl]
    have hb : ¬ b = 0 := by omega
    have hq : 0 ≤ a % b ∧ a % b < b := ⟨Int.emod_nonneg _ hb, Int.emod_lt_of_pos _ h1⟩
    simp [binOp, Op.intDiv, hb, Int.tmod_eq_emod_of_nonneg h0]
end bin
theorem PureOp.not {t : TypeId} {x : Operand} {b : Bool} (hx : SLe (ρ x) (.d (.v (.bool b)))) : PureOp P ⟨dst, .unOp .not t x, ty, pos, after, gd⟩ ρ bx own (.d (.v (.bool (!b)))) :=
  .of_run fun _ a w c hs => by
    have h := srel_v (hx c w _ (hs.op x (by simp [Op.operands])))
    exact ⟨.bool (!b), by simp [execOp, h, Op.unary], v_srel _⟩
theorem PureOp.neg {t : TypeId} {x : Operand} {b : Int} (hx : SLe (ρ x) (.d (.v (.int .i64 b)))) (h1 : -9223372036854775807 ≤ b) (h2 : b ≤ 9223372036854775807) : PureOp P ⟨dst, .unOp .neg t x, ty, pos, after, gd⟩ ρ bx own (.d (.v (.int .i64 (-b)))) :=
  .of_run fun _ a w c hs => by
    have h := srel_v (hx c w _ (hs.op x (by simp [Op.operands])))
    exact ⟨.int .i64 (-b), by simp [execOp, h, Op.unary, Op.intArith]; exact IntWalk.i64_in (-b) ⟨by omega, by omega⟩, v_srel _⟩
end ops
end Eng
end Go.Proofs.Ytmmekdkllccmdaa
