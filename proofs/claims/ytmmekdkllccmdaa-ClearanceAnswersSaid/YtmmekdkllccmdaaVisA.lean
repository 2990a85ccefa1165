/-
  Walks of package visit, part one: the library functions that it calls.
-/
import Derived.Test.YtmmekdkllccmdaaEgU
import Derived.Test.YtmmekdkllccmdaaEgM
namespace Go.Proofs.Ytmmekdkllccmdaa
open Go.RowKit
set_option linter.unusedVariables false
namespace Eng
namespace Vis
structure Rep where
  n : Int
  f : Int
  d : Int
  k : Int
  l : Int
  a : Int
  b : Int
def Rep.av (x : Rep) : List D := [iD x.n, iD x.f, iD x.d, iD x.k, iD x.l, iD x.a, iD x.b]
/-- Reports as rows. -/
def rr (l : List Rep) : List (List D) := l.map Rep.av
theorem rr_length (l : List Rep) : (rr l).length = l.length := by simp [rr]
theorem rr_get {l : List Rep} {i : Nat} {x : Rep} (h : l[i]? = some x) : (rr l)[i]? = some x.av := by simp [rr, h]
theorem rr_at {l : List Rep} {i : Nat} (h : decide ((i : Int) < ((rr l).length : Int)) = true) : ∃ x, l[i]? = some x ∧ (rr l)[i]? = some x.av := by
  have h1 : i < l.length := by rw [rr_length] at h; simpa using h
  exact ⟨l[i], List.getElem?_eq_getElem h1, rr_get (List.getElem?_eq_getElem h1)⟩
def idxD (l : List Rep) (p : Rep → Bool) : Int := match l.findIdx? p with
  | some i => i
  | none => -1
theorem idx_hit {l : List Rep} {p : Rep → Bool} {i : Nat} {x : Rep} (h : ∀ (j : Nat) (y : Rep), j < i → l[j]? = some y → p y = false) (hx : l[i]? = some x) (hp : p x = true) : idxD l p = i := by
  unfold idxD
  have hi := (List.getElem?_eq_some_iff.1 hx)
  obtain ⟨hlt, he⟩ := hi
  have : l.findIdx? p = some i := by
    rw [List.findIdx?_eq_some_iff_getElem]
    refine ⟨hlt, by rw [he]; exact hp, fun j hj => ?_⟩
    rw [h j _ hj (List.getElem?_eq_getElem (by omega))]; simp
  rw [this]
theorem idx_miss {l : List Rep} {p : Rep → Bool} (h : ∀ (j : Nat) (y : Rep), j < l.length → l[j]? = some y → p y = false) : idxD l p = -1 := by
  unfold idxD
  have : l.findIdx? p = none := by
    rw [List.findIdx?_eq_none_iff]
    intro x hx
    obtain ⟨j, hj, e⟩ := List.getElem_of_mem hx
    exact h j x hj (by rw [List.getElem?_eq_getElem hj, e])
  rw [this]
theorem idx_any (l : List Rep) (p : Rep → Bool) : decide (idxD l p ≥ 0) = l.any p := by
  unfold idxD
  cases h : l.findIdx? p with
  | none =>
    rw [List.findIdx?_eq_none_iff] at h
    have : l.any p = false := by rw [List.any_eq_false]; intro x hx; simp [h x hx]
    rw [this]; decide
  | some i =>
    obtain ⟨hlt, hp, _⟩ := List.findIdx?_eq_some_iff_getElem.1 h
    have : l.any p = true := List.any_eq_true.2 ⟨_, List.getElem_mem hlt, hp⟩
    rw [this]
    simp
set_option maxRecDepth 100000 in
set_option maxHeartbeats 4000000 in
theorem indexFunc_c {g : D} {f : FuncId} {caps : List D} (l : List Rep) (p : Rep → Bool) (hg : FnD g f caps) (hf : callable Try.prog f = true) (hn : l.length ≤ 4611686018427387904) (hc : ∀ x : Rep, FCalls Try.prog f ([.agg x.av] ++ caps) (bD (p x))) : FCalls Try.prog 128 [.sl 7 (rr l), g] (iD (idxD l p)) := by
  refine ACalls.of Try.func128 rfl rfl rfl rfl rfl fun w0 S0 T => ?_
  refine AC.seq ?_
  refine AC.region ?_
  first | refine AO.pure (PureOp.assignD (SLe.eq rfl)) rfl rfl ?_ | refine AO.pure (PureOp.assignB (SLe.eq rfl)) rfl rfl ?_ | refine AO.pure (PureOp.assignT (SLe.eq rfl)) rfl rfl ?_ | refine AO.pure (PureOp.assignO (SLe.eq rfl)) rfl rfl ?_ | refine AO.pure (PureOp.assignP (SLe.eq rfl)) rfl rfl ?_ | refine AO.pure (PureOp.assignA (SLe.eq rfl)) rfl rfl ?_
  refine AO.nil ?_
  refine thenQ_normal ?_
  refine AC.seq ?_
  refine AC.seq ?_
  refine AC.region ?_
  first | refine AO.pure (PureOp.moveD (SLe.eq rfl)) rfl rfl ?_ | refine AO.pure (PureOp.moveB (SLe.eq rfl)) rfl rfl ?_ | refine AO.pure (PureOp.moveT (SLe.eq rfl)) rfl rfl ?_ | refine AO.pure (PureOp.moveO (SLe.eq rfl)) rfl rfl ?_ | refine AO.pure (PureOp.moveP (SLe.eq rfl)) rfl rfl ?_ | refine AO.pure (PureOp.moveA (SLe.eq rfl)) rfl rfl ?_
  first | refine AO.pure (PureOp.len (e := 78) (s' := 7) (SLe.eq rfl) (by kernel_rfl)) rfl rfl ?_ | refine AO.pure (PureOp.lenR (e := 78) (s' := 7) (SLe.eq rfl) rfl rfl (by kernel_rfl)) rfl rfl ?_ | refine AO.pure (PureOp.lenNil (e := 78) (s' := 7) (SLe.eq rfl) (by kernel_rfl)) rfl rfl ?_
  first | refine AO.pure (PureOp.moveD (SLe.eq rfl)) rfl rfl ?_ | refine AO.pure (PureOp.moveB (SLe.eq rfl)) rfl rfl ?_ | refine AO.pure (PureOp.moveT (SLe.eq rfl)) rfl rfl ?_ | refine AO.pure (PureOp.moveO (SLe.eq rfl)) rfl rfl ?_ | refine AO.pure (PureOp.moveP (SLe.eq rfl)) rfl rfl ?_ | refine AO.pure (PureOp.moveA (SLe.eq rfl)) rfl rfl ?_
  refine AO.nil ?_
  refine thenQ_normal ?_
  refine AC.block ?_
  refine AC.loop (ι := Nat) (fun i => ⟨[(0, .d (.sl 7 (rr l))), (1, .d g), (7, .d (iD ((rr l).length : Int))), (8, .d (iD (i : Int)))], [], [], 0, false, 19⟩) (fun i => i ≤ l.length ∧ ∀ (j : Nat) (y : Rep), j < i → l[j]? = some y → p y = false) (fun i => l.length - i) 0 ?_ ⟨Nat.zero_le _, fun j y hj => absurd hj (Nat.not_lt_zero _)⟩ ?_
  · refine Le.mk [] ⟨(by first | exact ⟨SLe.eq rfl, rfl⟩ | exact rfl | exact ⟨SLe.nil rfl, rfl⟩ | exact ⟨SLe.int rfl (by omega), rfl⟩ | exact ⟨SLe.bool rfl (by simp_all), rfl⟩ | exact ⟨SLe.sl rfl (by simp_all), rfl⟩), (by first | exact ⟨SLe.eq rfl, rfl⟩ | exact rfl | exact ⟨SLe.nil rfl, rfl⟩ | exact ⟨SLe.int rfl (by omega), rfl⟩ | exact ⟨SLe.bool rfl (by simp_all), rfl⟩ | exact ⟨SLe.sl rfl (by simp_all), rfl⟩), (by first | exact ⟨SLe.eq rfl, rfl⟩ | exact rfl | exact ⟨SLe.nil rfl, rfl⟩ | exact ⟨SLe.int rfl (by omega), rfl⟩ | exact ⟨SLe.bool rfl (by simp_all), rfl⟩ | exact ⟨SLe.sl rfl (by simp_all), rfl⟩), (by first | exact ⟨SLe.eq rfl, rfl⟩ | exact rfl | exact ⟨SLe.nil rfl, rfl⟩ | exact ⟨SLe.int rfl (by omega), rfl⟩ | exact ⟨SLe.bool rfl (by simp_all), rfl⟩ | exact ⟨SLe.sl rfl (by simp_all), rfl⟩), trivial⟩ trivial trivial rfl rfl rfl rfl rfl
  · rintro i ⟨hi, hall⟩
    refine AC.seq ?_
    refine AC.region ?_
    refine AO.pure (PureOp.lss (SLe.eq rfl) (SLe.eq rfl)) rfl rfl ?_
    refine AO.nil ?_
    refine thenQ_normal ?_
    refine AC.seq ?_
    refine AC.cond (SLe.eq rfl) (fun hb => ?_) (fun hb => ?_)
    · skip
      obtain ⟨x, hx, hrow⟩ := rr_at hb
      have hlt := (List.getElem?_eq_some_iff.1 hx).1
      refine AC.skip ?_
      refine thenQ_normal ?_
      refine AC.seq ?_
      refine AC.block ?_
      refine AC.seq ?_
      refine AC.region ?_
      first | refine AO.pure (PureOp.moveD (SLe.eq rfl)) rfl rfl ?_ | refine AO.pure (PureOp.moveB (SLe.eq rfl)) rfl rfl ?_ | refine AO.pure (PureOp.moveT (SLe.eq rfl)) rfl rfl ?_ | refine AO.pure (PureOp.moveO (SLe.eq rfl)) rfl rfl ?_ | refine AO.pure (PureOp.moveP (SLe.eq rfl)) rfl rfl ?_ | refine AO.pure (PureOp.moveA (SLe.eq rfl)) rfl rfl ?_
      first | refine AO.pure (PureOp.assignD (SLe.eq rfl)) rfl rfl ?_ | refine AO.pure (PureOp.assignB (SLe.eq rfl)) rfl rfl ?_ | refine AO.pure (PureOp.assignT (SLe.eq rfl)) rfl rfl ?_ | refine AO.pure (PureOp.assignO (SLe.eq rfl)) rfl rfl ?_ | refine AO.pure (PureOp.assignP (SLe.eq rfl)) rfl rfl ?_ | refine AO.pure (PureOp.assignA (SLe.eq rfl)) rfl rfl ?_
      refine AO.nil ?_
      refine thenQ_normal ?_
      refine AC.seq ?_
      refine AC.region ?_
      first | refine AO.pure (PureOp.moveD (SLe.eq rfl)) rfl rfl ?_ | refine AO.pure (PureOp.moveB (SLe.eq rfl)) rfl rfl ?_ | refine AO.pure (PureOp.moveT (SLe.eq rfl)) rfl rfl ?_ | refine AO.pure (PureOp.moveO (SLe.eq rfl)) rfl rfl ?_ | refine AO.pure (PureOp.moveP (SLe.eq rfl)) rfl rfl ?_ | refine AO.pure (PureOp.moveA (SLe.eq rfl)) rfl rfl ?_
      first | refine AO.pure (PureOp.moveD (SLe.eq rfl)) rfl rfl ?_ | refine AO.pure (PureOp.moveB (SLe.eq rfl)) rfl rfl ?_ | refine AO.pure (PureOp.moveT (SLe.eq rfl)) rfl rfl ?_ | refine AO.pure (PureOp.moveO (SLe.eq rfl)) rfl rfl ?_ | refine AO.pure (PureOp.moveP (SLe.eq rfl)) rfl rfl ?_ | refine AO.pure (PureOp.moveA (SLe.eq rfl)) rfl rfl ?_
      first | refine AO.pure (PureOp.moveD (SLe.eq rfl)) rfl rfl ?_ | refine AO.pure (PureOp.moveB (SLe.eq rfl)) rfl rfl ?_ | refine AO.pure (PureOp.moveT (SLe.eq rfl)) rfl rfl ?_ | refine AO.pure (PureOp.moveO (SLe.eq rfl)) rfl rfl ?_ | refine AO.pure (PureOp.moveP (SLe.eq rfl)) rfl rfl ?_ | refine AO.pure (PureOp.moveA (SLe.eq rfl)) rfl rfl ?_
      first | refine AO.pure (PureOp.idx (e := 78) (sz := 7) (SLe.eq rfl) (SLe.eq rfl) rfl hrow (by kernel_rfl)) rfl rfl ?_ | refine AO.pure (PureOp.idxR (e := 78) (sz := 7) (SLe.eq rfl) rfl (SLe.eq rfl) rfl (by simp; omega) rfl (by kernel_rfl)) rfl rfl ?_
      first | refine AO.pure (PureOp.loadBN (sz := 7) (SLe.eq rfl) rfl rfl rfl rfl (by kernel_rfl)) rfl rfl ?_ | refine AO.pure (PureOp.loadN (sz := 7) (SLe.eq rfl) rfl rfl (by kernel_rfl)) rfl rfl ?_ | refine AO.pure (PureOp.loadON (sz := 7) (i := _) (SLe.eq rfl) rfl rfl (by assumption) rfl (by kernel_rfl)) rfl rfl ?_ | refine AO.pure (PureOp.loadBS (sz := 7) (SLe.eq rfl) rfl rfl rfl (by kernel_rfl)) rfl rfl ?_
      refine AO.pure (PureOp.callV (SLe.eq rfl) (.cons (SLe.eq rfl) (by first | exact .d _ | exact View.osr rfl rfl | exact .bx rfl rfl | exact .agg (by repeat (first | exact .nil | refine .cons (by first | exact .d _ | exact View.osr rfl rfl) ?_)) | exact .fn (by repeat (first | exact .nil | refine .cons (by first | exact .d _ | exact View.osr rfl rfl | exact .bx rfl rfl) ?_))) .nil) hg (hc x) hf) rfl rfl ?_
      refine AO.nil ?_
      refine thenQ_normal ?_
      refine AC.cond (SLe.eq rfl) (fun hb => ?_) (fun hb => ?_)
      · skip
        refine AC.seq ?_
        refine AC.region ?_
        first | refine AO.pure (PureOp.moveD (SLe.eq rfl)) rfl rfl ?_ | refine AO.pure (PureOp.moveB (SLe.eq rfl)) rfl rfl ?_ | refine AO.pure (PureOp.moveT (SLe.eq rfl)) rfl rfl ?_ | refine AO.pure (PureOp.moveO (SLe.eq rfl)) rfl rfl ?_ | refine AO.pure (PureOp.moveP (SLe.eq rfl)) rfl rfl ?_ | refine AO.pure (PureOp.moveA (SLe.eq rfl)) rfl rfl ?_
        first | refine AO.pure (PureOp.assignD (SLe.eq rfl)) rfl rfl ?_ | refine AO.pure (PureOp.assignB (SLe.eq rfl)) rfl rfl ?_ | refine AO.pure (PureOp.assignT (SLe.eq rfl)) rfl rfl ?_ | refine AO.pure (PureOp.assignO (SLe.eq rfl)) rfl rfl ?_ | refine AO.pure (PureOp.assignP (SLe.eq rfl)) rfl rfl ?_ | refine AO.pure (PureOp.assignA (SLe.eq rfl)) rfl rfl ?_
        refine AO.nil ?_
        refine thenQ_normal ?_
        refine AC.ret ?_
        refine blockQ_ret ?_
        refine thenQ_ret ?_
        refine thenQ_ret ?_
        refine blockQ_ret ?_
        refine thenQ_ret ?_
        refine ⟨rfl, _, ?_, ResOf.one (by first | exact GetR.flat (SLe.eq rfl) rfl | exact GetR.nil (SLe.eq rfl) | exact GetR.ownR (SLe.eq rfl) rfl rfl (by simp [flatRows, D.flat]) | exact GetR.any (SLe.eq rfl) | exact GetR.ownA (SLe.eq rfl) rfl rfl)⟩
        first | exact congrArg iD (idx_hit hall hx hb).symm | exact congrArg iD (idx_miss fun j y hj hy => hall j y (by omega) hy).symm
      · skip
        have hpx := hb
        refine AC.skip ?_
        refine blockQ_normal ?_
        refine thenQ_normal ?_
        refine AC.region ?_
        refine AO.pure (PureOp.add (SLe.eq rfl) (SLe.eq rfl) (by omega) (by omega)) rfl rfl ?_
        first | refine AO.pure (PureOp.moveD (SLe.eq rfl)) rfl rfl ?_ | refine AO.pure (PureOp.moveB (SLe.eq rfl)) rfl rfl ?_ | refine AO.pure (PureOp.moveT (SLe.eq rfl)) rfl rfl ?_ | refine AO.pure (PureOp.moveO (SLe.eq rfl)) rfl rfl ?_ | refine AO.pure (PureOp.moveP (SLe.eq rfl)) rfl rfl ?_ | refine AO.pure (PureOp.moveA (SLe.eq rfl)) rfl rfl ?_
        refine AO.nil ?_
        refine thenQ_normal ?_
        refine ⟨i + 1, ⟨hlt, fun j y hj hy => (by rcases Nat.lt_or_eq_of_le (Nat.le_of_lt_succ hj) with h | h; exact hall j y h hy; subst h; rw [hx] at hy; injection hy with hy; subst hy; exact hpx)⟩, (by omega), ?_⟩
        refine Le.mk [] ⟨(by first | exact ⟨SLe.eq rfl, rfl⟩ | exact rfl | exact ⟨SLe.nil rfl, rfl⟩ | exact ⟨SLe.int rfl (by omega), rfl⟩ | exact ⟨SLe.bool rfl (by simp_all), rfl⟩ | exact ⟨SLe.sl rfl (by simp_all), rfl⟩), (by first | exact ⟨SLe.eq rfl, rfl⟩ | exact rfl | exact ⟨SLe.nil rfl, rfl⟩ | exact ⟨SLe.int rfl (by omega), rfl⟩ | exact ⟨SLe.bool rfl (by simp_all), rfl⟩ | exact ⟨SLe.sl rfl (by simp_all), rfl⟩), (by first | exact ⟨SLe.eq rfl, rfl⟩ | exact rfl | exact ⟨SLe.nil rfl, rfl⟩ | exact ⟨SLe.int rfl (by omega), rfl⟩ | exact ⟨SLe.bool rfl (by simp_all), rfl⟩ | exact ⟨SLe.sl rfl (by simp_all), rfl⟩), (by first | exact ⟨SLe.eq rfl, rfl⟩ | exact rfl | exact ⟨SLe.nil rfl, rfl⟩ | exact ⟨SLe.int rfl (by omega), rfl⟩ | exact ⟨SLe.bool rfl (by simp_all), rfl⟩ | exact ⟨SLe.sl rfl (by simp_all), rfl⟩), trivial⟩ trivial trivial rfl rfl rfl rfl rfl
    · skip
      have hend := of_decide_eq_false hb
      rw [rr_length] at hend
      refine AC.exit ?_
      refine thenQ_exit ?_
      refine thenQ_exit ?_
      refine blockQ_hit ?_
      refine thenQ_normal ?_
      refine AC.seq ?_
      refine AC.region ?_
      first | refine AO.pure (PureOp.assignD (SLe.eq rfl)) rfl rfl ?_ | refine AO.pure (PureOp.assignB (SLe.eq rfl)) rfl rfl ?_ | refine AO.pure (PureOp.assignT (SLe.eq rfl)) rfl rfl ?_ | refine AO.pure (PureOp.assignO (SLe.eq rfl)) rfl rfl ?_ | refine AO.pure (PureOp.assignP (SLe.eq rfl)) rfl rfl ?_ | refine AO.pure (PureOp.assignA (SLe.eq rfl)) rfl rfl ?_
      refine AO.nil ?_
      refine thenQ_normal ?_
      refine AC.ret ?_
      refine ⟨rfl, _, ?_, ResOf.one (by first | exact GetR.flat (SLe.eq rfl) rfl | exact GetR.nil (SLe.eq rfl) | exact GetR.ownR (SLe.eq rfl) rfl rfl (by simp [flatRows, D.flat]) | exact GetR.any (SLe.eq rfl) | exact GetR.ownA (SLe.eq rfl) rfl rfl)⟩
      first | exact congrArg iD (idx_hit hall hx hb).symm | exact congrArg iD (idx_miss fun j y hj hy => hall j y (by omega) hy).symm

set_option maxRecDepth 100000 in
set_option maxHeartbeats 4000000 in
theorem containsFunc_c {g : D} {f : FuncId} {caps : List D} (l : List Rep) (p : Rep → Bool) (hg : FnD g f caps) (hf : callable Try.prog f = true) (hn : l.length ≤ 4611686018427387904) (hc : ∀ x : Rep, FCalls Try.prog f ([.agg x.av] ++ caps) (bD (p x))) : FCalls Try.prog 101 [.sl 7 (rr l), g] (bD (l.any p)) := by
  refine ACalls.of Try.func101 rfl rfl rfl rfl rfl fun w0 S0 T => ?_
  refine AC.seq ?_
  refine AC.region ?_
  first | refine AO.pure (PureOp.assignD (SLe.eq rfl)) rfl rfl ?_ | refine AO.pure (PureOp.assignB (SLe.eq rfl)) rfl rfl ?_ | refine AO.pure (PureOp.assignT (SLe.eq rfl)) rfl rfl ?_ | refine AO.pure (PureOp.assignO (SLe.eq rfl)) rfl rfl ?_ | refine AO.pure (PureOp.assignP (SLe.eq rfl)) rfl rfl ?_ | refine AO.pure (PureOp.assignA (SLe.eq rfl)) rfl rfl ?_
  refine AO.nil ?_
  refine thenQ_normal ?_
  refine AC.seq ?_
  refine AC.region ?_
  first | refine AO.pure (PureOp.moveD (SLe.eq rfl)) rfl rfl ?_ | refine AO.pure (PureOp.moveB (SLe.eq rfl)) rfl rfl ?_ | refine AO.pure (PureOp.moveT (SLe.eq rfl)) rfl rfl ?_ | refine AO.pure (PureOp.moveO (SLe.eq rfl)) rfl rfl ?_ | refine AO.pure (PureOp.moveP (SLe.eq rfl)) rfl rfl ?_ | refine AO.pure (PureOp.moveA (SLe.eq rfl)) rfl rfl ?_
  first | refine AO.pure (PureOp.moveD (SLe.eq rfl)) rfl rfl ?_ | refine AO.pure (PureOp.moveB (SLe.eq rfl)) rfl rfl ?_ | refine AO.pure (PureOp.moveT (SLe.eq rfl)) rfl rfl ?_ | refine AO.pure (PureOp.moveO (SLe.eq rfl)) rfl rfl ?_ | refine AO.pure (PureOp.moveP (SLe.eq rfl)) rfl rfl ?_ | refine AO.pure (PureOp.moveA (SLe.eq rfl)) rfl rfl ?_
  refine AO.pure (PureOp.pcall (.cons (SLe.eq rfl) (by first | exact .d _ | exact View.osr rfl rfl | exact .bx rfl rfl | exact .agg (by repeat (first | exact .nil | refine .cons (by first | exact .d _ | exact View.osr rfl rfl) ?_)) | exact .fn (by repeat (first | exact .nil | refine .cons (by first | exact .d _ | exact View.osr rfl rfl | exact .bx rfl rfl) ?_))) (.cons (SLe.eq rfl) (by first | exact .d _ | exact View.osr rfl rfl | exact .bx rfl rfl | exact .agg (by repeat (first | exact .nil | refine .cons (by first | exact .d _ | exact View.osr rfl rfl) ?_)) | exact .fn (by repeat (first | exact .nil | refine .cons (by first | exact .d _ | exact View.osr rfl rfl | exact .bx rfl rfl) ?_))) .nil)) (indexFunc_c l p hg hf hn hc) (by kernel_rfl)) rfl rfl ?_
  refine AO.pure (PureOp.geq (SLe.eq rfl) (SLe.eq rfl)) rfl rfl ?_
  first | refine AO.pure (PureOp.assignD (SLe.eq rfl)) rfl rfl ?_ | refine AO.pure (PureOp.assignB (SLe.eq rfl)) rfl rfl ?_ | refine AO.pure (PureOp.assignT (SLe.eq rfl)) rfl rfl ?_ | refine AO.pure (PureOp.assignO (SLe.eq rfl)) rfl rfl ?_ | refine AO.pure (PureOp.assignP (SLe.eq rfl)) rfl rfl ?_ | refine AO.pure (PureOp.assignA (SLe.eq rfl)) rfl rfl ?_
  refine AO.nil ?_
  refine thenQ_normal ?_
  refine AC.ret ?_
  refine ⟨rfl, _, ?_, ResOf.one (by first | exact GetR.flat (SLe.eq rfl) rfl | exact GetR.nil (SLe.eq rfl) | exact GetR.ownR (SLe.eq rfl) rfl rfl (by simp [flatRows, D.flat]) | exact GetR.any (SLe.eq rfl) | exact GetR.ownA (SLe.eq rfl) rfl rfl)⟩
  exact congrArg bD (idx_any l p)

/-- cmp.Compare. -/
def cmpZ (x y : Int) : Int := if decide (x < y) then -1 else if decide (x > y) then 1 else 0
set_option maxRecDepth 100000 in
set_option maxHeartbeats 4000000 in
theorem isNaN_c (x : Int) : FCalls Try.prog 111 [iD x] (bD false) := by
  refine ACalls.of Try.func111 rfl rfl rfl rfl rfl fun w0 S0 T => ?_
  refine AC.seq ?_
  refine AC.region ?_
  first | refine AO.pure (PureOp.assignD (SLe.eq rfl)) rfl rfl ?_ | refine AO.pure (PureOp.assignB (SLe.eq rfl)) rfl rfl ?_ | refine AO.pure (PureOp.assignT (SLe.eq rfl)) rfl rfl ?_ | refine AO.pure (PureOp.assignO (SLe.eq rfl)) rfl rfl ?_ | refine AO.pure (PureOp.assignP (SLe.eq rfl)) rfl rfl ?_ | refine AO.pure (PureOp.assignA (SLe.eq rfl)) rfl rfl ?_
  refine AO.nil ?_
  refine thenQ_normal ?_
  refine AC.seq ?_
  refine AC.region ?_
  first | refine AO.pure (PureOp.moveD (SLe.eq rfl)) rfl rfl ?_ | refine AO.pure (PureOp.moveB (SLe.eq rfl)) rfl rfl ?_ | refine AO.pure (PureOp.moveT (SLe.eq rfl)) rfl rfl ?_ | refine AO.pure (PureOp.moveO (SLe.eq rfl)) rfl rfl ?_ | refine AO.pure (PureOp.moveP (SLe.eq rfl)) rfl rfl ?_ | refine AO.pure (PureOp.moveA (SLe.eq rfl)) rfl rfl ?_
  first | refine AO.pure (PureOp.moveD (SLe.eq rfl)) rfl rfl ?_ | refine AO.pure (PureOp.moveB (SLe.eq rfl)) rfl rfl ?_ | refine AO.pure (PureOp.moveT (SLe.eq rfl)) rfl rfl ?_ | refine AO.pure (PureOp.moveO (SLe.eq rfl)) rfl rfl ?_ | refine AO.pure (PureOp.moveP (SLe.eq rfl)) rfl rfl ?_ | refine AO.pure (PureOp.moveA (SLe.eq rfl)) rfl rfl ?_
  refine AO.pure (PureOp.neq (SLe.eq rfl) (SLe.eq rfl)) rfl rfl ?_
  first | refine AO.pure (PureOp.assignD (SLe.eq rfl)) rfl rfl ?_ | refine AO.pure (PureOp.assignB (SLe.eq rfl)) rfl rfl ?_ | refine AO.pure (PureOp.assignT (SLe.eq rfl)) rfl rfl ?_ | refine AO.pure (PureOp.assignO (SLe.eq rfl)) rfl rfl ?_ | refine AO.pure (PureOp.assignP (SLe.eq rfl)) rfl rfl ?_ | refine AO.pure (PureOp.assignA (SLe.eq rfl)) rfl rfl ?_
  refine AO.nil ?_
  refine thenQ_normal ?_
  refine AC.ret ?_
  refine ⟨rfl, _, ?_, ResOf.one (by first | exact GetR.flat (SLe.eq rfl) rfl | exact GetR.nil (SLe.eq rfl) | exact GetR.ownR (SLe.eq rfl) rfl rfl (by simp [flatRows, D.flat]) | exact GetR.any (SLe.eq rfl) | exact GetR.ownA (SLe.eq rfl) rfl rfl)⟩
  exact congrArg bD (by simp)

set_option maxRecDepth 100000 in
set_option maxHeartbeats 4000000 in
theorem compare_c (x y : Int) : FCalls Try.prog 72 [iD x, iD y] (iD (cmpZ x y)) := by
  refine ACalls.of Try.func72 rfl rfl rfl rfl rfl fun w0 S0 T => ?_
  refine AC.seq ?_
  refine AC.region ?_
  first | refine AO.pure (PureOp.assignD (SLe.eq rfl)) rfl rfl ?_ | refine AO.pure (PureOp.assignB (SLe.eq rfl)) rfl rfl ?_ | refine AO.pure (PureOp.assignT (SLe.eq rfl)) rfl rfl ?_ | refine AO.pure (PureOp.assignO (SLe.eq rfl)) rfl rfl ?_ | refine AO.pure (PureOp.assignP (SLe.eq rfl)) rfl rfl ?_ | refine AO.pure (PureOp.assignA (SLe.eq rfl)) rfl rfl ?_
  refine AO.nil ?_
  refine thenQ_normal ?_
  refine AC.seq ?_
  refine AC.region ?_
  first | refine AO.pure (PureOp.moveD (SLe.eq rfl)) rfl rfl ?_ | refine AO.pure (PureOp.moveB (SLe.eq rfl)) rfl rfl ?_ | refine AO.pure (PureOp.moveT (SLe.eq rfl)) rfl rfl ?_ | refine AO.pure (PureOp.moveO (SLe.eq rfl)) rfl rfl ?_ | refine AO.pure (PureOp.moveP (SLe.eq rfl)) rfl rfl ?_ | refine AO.pure (PureOp.moveA (SLe.eq rfl)) rfl rfl ?_
  refine AO.pure (PureOp.pcall (.cons (SLe.eq rfl) (by first | exact .d _ | exact View.osr rfl rfl | exact .bx rfl rfl | exact .agg (by repeat (first | exact .nil | refine .cons (by first | exact .d _ | exact View.osr rfl rfl) ?_)) | exact .fn (by repeat (first | exact .nil | refine .cons (by first | exact .d _ | exact View.osr rfl rfl | exact .bx rfl rfl) ?_))) .nil) (isNaN_c _) (by kernel_rfl)) rfl rfl ?_
  first | refine AO.pure (PureOp.assignD (SLe.eq rfl)) rfl rfl ?_ | refine AO.pure (PureOp.assignB (SLe.eq rfl)) rfl rfl ?_ | refine AO.pure (PureOp.assignT (SLe.eq rfl)) rfl rfl ?_ | refine AO.pure (PureOp.assignO (SLe.eq rfl)) rfl rfl ?_ | refine AO.pure (PureOp.assignP (SLe.eq rfl)) rfl rfl ?_ | refine AO.pure (PureOp.assignA (SLe.eq rfl)) rfl rfl ?_
  refine AO.nil ?_
  refine thenQ_normal ?_
  refine AC.seq ?_
  refine AC.region ?_
  first | refine AO.pure (PureOp.moveD (SLe.eq rfl)) rfl rfl ?_ | refine AO.pure (PureOp.moveB (SLe.eq rfl)) rfl rfl ?_ | refine AO.pure (PureOp.moveT (SLe.eq rfl)) rfl rfl ?_ | refine AO.pure (PureOp.moveO (SLe.eq rfl)) rfl rfl ?_ | refine AO.pure (PureOp.moveP (SLe.eq rfl)) rfl rfl ?_ | refine AO.pure (PureOp.moveA (SLe.eq rfl)) rfl rfl ?_
  refine AO.pure (PureOp.pcall (.cons (SLe.eq rfl) (by first | exact .d _ | exact View.osr rfl rfl | exact .bx rfl rfl | exact .agg (by repeat (first | exact .nil | refine .cons (by first | exact .d _ | exact View.osr rfl rfl) ?_)) | exact .fn (by repeat (first | exact .nil | refine .cons (by first | exact .d _ | exact View.osr rfl rfl | exact .bx rfl rfl) ?_))) .nil) (isNaN_c _) (by kernel_rfl)) rfl rfl ?_
  first | refine AO.pure (PureOp.assignD (SLe.eq rfl)) rfl rfl ?_ | refine AO.pure (PureOp.assignB (SLe.eq rfl)) rfl rfl ?_ | refine AO.pure (PureOp.assignT (SLe.eq rfl)) rfl rfl ?_ | refine AO.pure (PureOp.assignO (SLe.eq rfl)) rfl rfl ?_ | refine AO.pure (PureOp.assignP (SLe.eq rfl)) rfl rfl ?_ | refine AO.pure (PureOp.assignA (SLe.eq rfl)) rfl rfl ?_
  refine AO.nil ?_
  refine thenQ_normal ?_
  refine AC.seq ?_
  refine AC.seq ?_
  refine AC.region ?_
  first | refine AO.pure (PureOp.moveD (SLe.eq rfl)) rfl rfl ?_ | refine AO.pure (PureOp.moveB (SLe.eq rfl)) rfl rfl ?_ | refine AO.pure (PureOp.moveT (SLe.eq rfl)) rfl rfl ?_ | refine AO.pure (PureOp.moveO (SLe.eq rfl)) rfl rfl ?_ | refine AO.pure (PureOp.moveP (SLe.eq rfl)) rfl rfl ?_ | refine AO.pure (PureOp.moveA (SLe.eq rfl)) rfl rfl ?_
  refine AO.nil ?_
  refine thenQ_normal ?_
  refine AC.cond (SLe.eq rfl) (fun hb => ?_) (fun hb => ?_)
  · skip
    cases hb
  · skip
    refine AC.skip ?_
    refine thenQ_normal ?_
    refine AC.seq ?_
    refine AC.seq ?_
    refine AC.region ?_
    first | refine AO.pure (PureOp.moveD (SLe.eq rfl)) rfl rfl ?_ | refine AO.pure (PureOp.moveB (SLe.eq rfl)) rfl rfl ?_ | refine AO.pure (PureOp.moveT (SLe.eq rfl)) rfl rfl ?_ | refine AO.pure (PureOp.moveO (SLe.eq rfl)) rfl rfl ?_ | refine AO.pure (PureOp.moveP (SLe.eq rfl)) rfl rfl ?_ | refine AO.pure (PureOp.moveA (SLe.eq rfl)) rfl rfl ?_
    refine AO.nil ?_
    refine thenQ_normal ?_
    refine AC.cond (SLe.eq rfl) (fun hb => ?_) (fun hb => ?_)
    · skip
      cases hb
    · skip
      refine AC.skip ?_
      refine thenQ_normal ?_
      refine AC.seq ?_
      refine AC.seq ?_
      refine AC.region ?_
      first | refine AO.pure (PureOp.moveD (SLe.eq rfl)) rfl rfl ?_ | refine AO.pure (PureOp.moveB (SLe.eq rfl)) rfl rfl ?_ | refine AO.pure (PureOp.moveT (SLe.eq rfl)) rfl rfl ?_ | refine AO.pure (PureOp.moveO (SLe.eq rfl)) rfl rfl ?_ | refine AO.pure (PureOp.moveP (SLe.eq rfl)) rfl rfl ?_ | refine AO.pure (PureOp.moveA (SLe.eq rfl)) rfl rfl ?_
      first | refine AO.pure (PureOp.moveD (SLe.eq rfl)) rfl rfl ?_ | refine AO.pure (PureOp.moveB (SLe.eq rfl)) rfl rfl ?_ | refine AO.pure (PureOp.moveT (SLe.eq rfl)) rfl rfl ?_ | refine AO.pure (PureOp.moveO (SLe.eq rfl)) rfl rfl ?_ | refine AO.pure (PureOp.moveP (SLe.eq rfl)) rfl rfl ?_ | refine AO.pure (PureOp.moveA (SLe.eq rfl)) rfl rfl ?_
      refine AO.pure (PureOp.lss (SLe.eq rfl) (SLe.eq rfl)) rfl rfl ?_
      refine AO.nil ?_
      refine thenQ_normal ?_
      refine AC.cond (SLe.eq rfl) (fun hb => ?_) (fun hb => ?_)
      · skip
        refine AC.seq ?_
        refine AC.region ?_
        first | refine AO.pure (PureOp.assignD (SLe.eq rfl)) rfl rfl ?_ | refine AO.pure (PureOp.assignB (SLe.eq rfl)) rfl rfl ?_ | refine AO.pure (PureOp.assignT (SLe.eq rfl)) rfl rfl ?_ | refine AO.pure (PureOp.assignO (SLe.eq rfl)) rfl rfl ?_ | refine AO.pure (PureOp.assignP (SLe.eq rfl)) rfl rfl ?_ | refine AO.pure (PureOp.assignA (SLe.eq rfl)) rfl rfl ?_
        refine AO.nil ?_
        refine thenQ_normal ?_
        refine AC.ret ?_
        refine thenQ_ret ?_
        refine ⟨rfl, _, ?_, ResOf.one (by first | exact GetR.flat (SLe.eq rfl) rfl | exact GetR.nil (SLe.eq rfl) | exact GetR.ownR (SLe.eq rfl) rfl rfl (by simp [flatRows, D.flat]) | exact GetR.any (SLe.eq rfl) | exact GetR.ownA (SLe.eq rfl) rfl rfl)⟩
        exact congrArg iD (by unfold cmpZ; simp only [decide_eq_true_eq, decide_eq_false_iff_not] at *; (repeat' split) <;> omega)
      · skip
        refine AC.skip ?_
        refine thenQ_normal ?_
        refine AC.seq ?_
        refine AC.seq ?_
        refine AC.region ?_
        first | refine AO.pure (PureOp.moveD (SLe.eq rfl)) rfl rfl ?_ | refine AO.pure (PureOp.moveB (SLe.eq rfl)) rfl rfl ?_ | refine AO.pure (PureOp.moveT (SLe.eq rfl)) rfl rfl ?_ | refine AO.pure (PureOp.moveO (SLe.eq rfl)) rfl rfl ?_ | refine AO.pure (PureOp.moveP (SLe.eq rfl)) rfl rfl ?_ | refine AO.pure (PureOp.moveA (SLe.eq rfl)) rfl rfl ?_
        first | refine AO.pure (PureOp.moveD (SLe.eq rfl)) rfl rfl ?_ | refine AO.pure (PureOp.moveB (SLe.eq rfl)) rfl rfl ?_ | refine AO.pure (PureOp.moveT (SLe.eq rfl)) rfl rfl ?_ | refine AO.pure (PureOp.moveO (SLe.eq rfl)) rfl rfl ?_ | refine AO.pure (PureOp.moveP (SLe.eq rfl)) rfl rfl ?_ | refine AO.pure (PureOp.moveA (SLe.eq rfl)) rfl rfl ?_
        refine AO.pure (PureOp.gtr (SLe.eq rfl) (SLe.eq rfl)) rfl rfl ?_
        refine AO.nil ?_
        refine thenQ_normal ?_
        refine AC.cond (SLe.eq rfl) (fun hb => ?_) (fun hb => ?_)
        · skip
          refine AC.seq ?_
          refine AC.region ?_
          first | refine AO.pure (PureOp.assignD (SLe.eq rfl)) rfl rfl ?_ | refine AO.pure (PureOp.assignB (SLe.eq rfl)) rfl rfl ?_ | refine AO.pure (PureOp.assignT (SLe.eq rfl)) rfl rfl ?_ | refine AO.pure (PureOp.assignO (SLe.eq rfl)) rfl rfl ?_ | refine AO.pure (PureOp.assignP (SLe.eq rfl)) rfl rfl ?_ | refine AO.pure (PureOp.assignA (SLe.eq rfl)) rfl rfl ?_
          refine AO.nil ?_
          refine thenQ_normal ?_
          refine AC.ret ?_
          refine thenQ_ret ?_
          refine ⟨rfl, _, ?_, ResOf.one (by first | exact GetR.flat (SLe.eq rfl) rfl | exact GetR.nil (SLe.eq rfl) | exact GetR.ownR (SLe.eq rfl) rfl rfl (by simp [flatRows, D.flat]) | exact GetR.any (SLe.eq rfl) | exact GetR.ownA (SLe.eq rfl) rfl rfl)⟩
          exact congrArg iD (by unfold cmpZ; simp only [decide_eq_true_eq, decide_eq_false_iff_not] at *; (repeat' split) <;> omega)
        · skip
          refine AC.skip ?_
          refine thenQ_normal ?_
          refine AC.seq ?_
          refine AC.region ?_
          first | refine AO.pure (PureOp.assignD (SLe.eq rfl)) rfl rfl ?_ | refine AO.pure (PureOp.assignB (SLe.eq rfl)) rfl rfl ?_ | refine AO.pure (PureOp.assignT (SLe.eq rfl)) rfl rfl ?_ | refine AO.pure (PureOp.assignO (SLe.eq rfl)) rfl rfl ?_ | refine AO.pure (PureOp.assignP (SLe.eq rfl)) rfl rfl ?_ | refine AO.pure (PureOp.assignA (SLe.eq rfl)) rfl rfl ?_
          refine AO.nil ?_
          refine thenQ_normal ?_
          refine AC.ret ?_
          refine ⟨rfl, _, ?_, ResOf.one (by first | exact GetR.flat (SLe.eq rfl) rfl | exact GetR.nil (SLe.eq rfl) | exact GetR.ownR (SLe.eq rfl) rfl rfl (by simp [flatRows, D.flat]) | exact GetR.any (SLe.eq rfl) | exact GetR.ownA (SLe.eq rfl) rfl rfl)⟩
          exact congrArg iD (by unfold cmpZ; simp only [decide_eq_true_eq, decide_eq_false_iff_not] at *; (repeat' split) <;> omega)

/-- cmp.Or of two. -/
def orZ (x y : Int) : Int := if x ≠ 0 then x else y
def orL : List Int → Int
  | [] => 0
  | x :: r => if x ≠ 0 then x else orL r
set_option maxRecDepth 100000 in
set_option maxHeartbeats 4000000 in
theorem or_c (zs : List Int) (hn : zs.length ≤ 4611686018427387904) : FCalls Try.prog 105 [.sl 1 (ir zs)] (iD (orL zs)) := by
  refine ACalls.of Try.func105 rfl rfl rfl rfl rfl fun w0 S0 T => ?_
  refine AC.seq ?_
  refine AC.region ?_
  first | refine AO.pure (PureOp.assignD (SLe.eq rfl)) rfl rfl ?_ | refine AO.pure (PureOp.assignB (SLe.eq rfl)) rfl rfl ?_ | refine AO.pure (PureOp.assignT (SLe.eq rfl)) rfl rfl ?_ | refine AO.pure (PureOp.assignO (SLe.eq rfl)) rfl rfl ?_ | refine AO.pure (PureOp.assignP (SLe.eq rfl)) rfl rfl ?_ | refine AO.pure (PureOp.assignA (SLe.eq rfl)) rfl rfl ?_
  refine AO.nil ?_
  refine thenQ_normal ?_
  refine AC.seq ?_
  refine AC.region ?_
  first | refine AO.pure (PureOp.assignD (SLe.eq rfl)) rfl rfl ?_ | refine AO.pure (PureOp.assignB (SLe.eq rfl)) rfl rfl ?_ | refine AO.pure (PureOp.assignT (SLe.eq rfl)) rfl rfl ?_ | refine AO.pure (PureOp.assignO (SLe.eq rfl)) rfl rfl ?_ | refine AO.pure (PureOp.assignP (SLe.eq rfl)) rfl rfl ?_ | refine AO.pure (PureOp.assignA (SLe.eq rfl)) rfl rfl ?_
  refine AO.nil ?_
  refine thenQ_normal ?_
  refine AC.seq ?_
  refine AC.seq ?_
  refine AC.region ?_
  first | refine AO.pure (PureOp.moveD (SLe.eq rfl)) rfl rfl ?_ | refine AO.pure (PureOp.moveB (SLe.eq rfl)) rfl rfl ?_ | refine AO.pure (PureOp.moveT (SLe.eq rfl)) rfl rfl ?_ | refine AO.pure (PureOp.moveO (SLe.eq rfl)) rfl rfl ?_ | refine AO.pure (PureOp.moveP (SLe.eq rfl)) rfl rfl ?_ | refine AO.pure (PureOp.moveA (SLe.eq rfl)) rfl rfl ?_
  first | refine AO.pure (PureOp.len (e := 3) (s' := 1) (SLe.eq rfl) (by kernel_rfl)) rfl rfl ?_ | refine AO.pure (PureOp.lenR (e := 3) (s' := 1) (SLe.eq rfl) rfl rfl (by kernel_rfl)) rfl rfl ?_ | refine AO.pure (PureOp.lenNil (e := 3) (s' := 1) (SLe.eq rfl) (by kernel_rfl)) rfl rfl ?_
  first | refine AO.pure (PureOp.moveD (SLe.eq rfl)) rfl rfl ?_ | refine AO.pure (PureOp.moveB (SLe.eq rfl)) rfl rfl ?_ | refine AO.pure (PureOp.moveT (SLe.eq rfl)) rfl rfl ?_ | refine AO.pure (PureOp.moveO (SLe.eq rfl)) rfl rfl ?_ | refine AO.pure (PureOp.moveP (SLe.eq rfl)) rfl rfl ?_ | refine AO.pure (PureOp.moveA (SLe.eq rfl)) rfl rfl ?_
  refine AO.nil ?_
  refine thenQ_normal ?_
  refine AC.block ?_
  refine AC.loop (ι := Nat) (fun i => ⟨[(0, .d (.sl 1 (ir zs))), (3, .d (iD 0)), (6, .d (.sl 1 (ir zs))), (7, .d (iD ((ir zs).length : Int))), (8, .d (iD (i : Int)))], [], [], 0, false, 18⟩) (fun i => i ≤ zs.length ∧ orL (zs.drop i) = orL zs) (fun i => zs.length - i) 0 ?_ ⟨Nat.zero_le _, rfl⟩ ?_
  · refine Le.mk [] ⟨(by first | exact ⟨SLe.eq rfl, rfl⟩ | exact rfl | exact ⟨SLe.nil rfl, rfl⟩ | exact ⟨SLe.int rfl (by omega), rfl⟩ | exact ⟨SLe.bool rfl (by simp_all), rfl⟩ | exact ⟨SLe.sl rfl (by simp_all), rfl⟩), (by first | exact ⟨SLe.eq rfl, rfl⟩ | exact rfl | exact ⟨SLe.nil rfl, rfl⟩ | exact ⟨SLe.int rfl (by omega), rfl⟩ | exact ⟨SLe.bool rfl (by simp_all), rfl⟩ | exact ⟨SLe.sl rfl (by simp_all), rfl⟩), (by first | exact ⟨SLe.eq rfl, rfl⟩ | exact rfl | exact ⟨SLe.nil rfl, rfl⟩ | exact ⟨SLe.int rfl (by omega), rfl⟩ | exact ⟨SLe.bool rfl (by simp_all), rfl⟩ | exact ⟨SLe.sl rfl (by simp_all), rfl⟩), (by first | exact ⟨SLe.eq rfl, rfl⟩ | exact rfl | exact ⟨SLe.nil rfl, rfl⟩ | exact ⟨SLe.int rfl (by omega), rfl⟩ | exact ⟨SLe.bool rfl (by simp_all), rfl⟩ | exact ⟨SLe.sl rfl (by simp_all), rfl⟩), (by first | exact ⟨SLe.eq rfl, rfl⟩ | exact rfl | exact ⟨SLe.nil rfl, rfl⟩ | exact ⟨SLe.int rfl (by omega), rfl⟩ | exact ⟨SLe.bool rfl (by simp_all), rfl⟩ | exact ⟨SLe.sl rfl (by simp_all), rfl⟩), trivial⟩ trivial trivial rfl rfl rfl rfl rfl
  · rintro i ⟨hi, hall⟩
    refine AC.seq ?_
    refine AC.region ?_
    refine AO.pure (PureOp.lss (SLe.eq rfl) (SLe.eq rfl)) rfl rfl ?_
    refine AO.nil ?_
    refine thenQ_normal ?_
    refine AC.seq ?_
    refine AC.cond (SLe.eq rfl) (fun hb => ?_) (fun hb => ?_)
    · skip
      have hlt : i < zs.length := by rw [ir_length] at hb; simpa using hb
      have hrow : (ir zs)[i]? = some [iD zs[i]] := by simp [ir, hlt]
      have hdr : zs.drop i = zs[i] :: zs.drop (i + 1) := List.drop_eq_getElem_cons hlt
      rw [hdr] at hall
      refine AC.skip ?_
      refine thenQ_normal ?_
      refine AC.seq ?_
      refine AC.block ?_
      refine AC.seq ?_
      refine AC.region ?_
      first | refine AO.pure (PureOp.idx (e := 3) (sz := 1) (SLe.eq rfl) (SLe.eq rfl) rfl hrow (by kernel_rfl)) rfl rfl ?_ | refine AO.pure (PureOp.idxR (e := 3) (sz := 1) (SLe.eq rfl) rfl (SLe.eq rfl) rfl (by simp; omega) rfl (by kernel_rfl)) rfl rfl ?_
      first | refine AO.pure (PureOp.loadB1 (SLe.eq rfl) rfl rfl (by kernel_rfl)) rfl rfl ?_ | refine AO.pure (PureOp.load1 (SLe.eq rfl) rfl (by kernel_rfl)) rfl rfl ?_ | refine AO.pure (PureOp.loadO1 (i := _) (j := _) (SLe.eq rfl) rfl rfl (by assumption) rfl (by kernel_rfl)) rfl rfl ?_
      first | refine AO.pure (PureOp.assignD (SLe.eq rfl)) rfl rfl ?_ | refine AO.pure (PureOp.assignB (SLe.eq rfl)) rfl rfl ?_ | refine AO.pure (PureOp.assignT (SLe.eq rfl)) rfl rfl ?_ | refine AO.pure (PureOp.assignO (SLe.eq rfl)) rfl rfl ?_ | refine AO.pure (PureOp.assignP (SLe.eq rfl)) rfl rfl ?_ | refine AO.pure (PureOp.assignA (SLe.eq rfl)) rfl rfl ?_
      refine AO.nil ?_
      refine thenQ_normal ?_
      refine AC.seq ?_
      refine AC.region ?_
      first | refine AO.pure (PureOp.moveD (SLe.eq rfl)) rfl rfl ?_ | refine AO.pure (PureOp.moveB (SLe.eq rfl)) rfl rfl ?_ | refine AO.pure (PureOp.moveT (SLe.eq rfl)) rfl rfl ?_ | refine AO.pure (PureOp.moveO (SLe.eq rfl)) rfl rfl ?_ | refine AO.pure (PureOp.moveP (SLe.eq rfl)) rfl rfl ?_ | refine AO.pure (PureOp.moveA (SLe.eq rfl)) rfl rfl ?_
      first | refine AO.pure (PureOp.moveD (SLe.eq rfl)) rfl rfl ?_ | refine AO.pure (PureOp.moveB (SLe.eq rfl)) rfl rfl ?_ | refine AO.pure (PureOp.moveT (SLe.eq rfl)) rfl rfl ?_ | refine AO.pure (PureOp.moveO (SLe.eq rfl)) rfl rfl ?_ | refine AO.pure (PureOp.moveP (SLe.eq rfl)) rfl rfl ?_ | refine AO.pure (PureOp.moveA (SLe.eq rfl)) rfl rfl ?_
      refine AO.pure (PureOp.neq (SLe.eq rfl) (SLe.eq rfl)) rfl rfl ?_
      refine AO.nil ?_
      refine thenQ_normal ?_
      refine AC.cond (SLe.eq rfl) (fun hb => ?_) (fun hb => ?_)
      · skip
        have hres : zs[i] = orL zs := by rw [← hall]; simp only [orL]; rw [if_pos (by simpa using hb)]
        refine AC.seq ?_
        refine AC.region ?_
        first | refine AO.pure (PureOp.moveD (SLe.eq rfl)) rfl rfl ?_ | refine AO.pure (PureOp.moveB (SLe.eq rfl)) rfl rfl ?_ | refine AO.pure (PureOp.moveT (SLe.eq rfl)) rfl rfl ?_ | refine AO.pure (PureOp.moveO (SLe.eq rfl)) rfl rfl ?_ | refine AO.pure (PureOp.moveP (SLe.eq rfl)) rfl rfl ?_ | refine AO.pure (PureOp.moveA (SLe.eq rfl)) rfl rfl ?_
        first | refine AO.pure (PureOp.assignD (SLe.eq rfl)) rfl rfl ?_ | refine AO.pure (PureOp.assignB (SLe.eq rfl)) rfl rfl ?_ | refine AO.pure (PureOp.assignT (SLe.eq rfl)) rfl rfl ?_ | refine AO.pure (PureOp.assignO (SLe.eq rfl)) rfl rfl ?_ | refine AO.pure (PureOp.assignP (SLe.eq rfl)) rfl rfl ?_ | refine AO.pure (PureOp.assignA (SLe.eq rfl)) rfl rfl ?_
        refine AO.nil ?_
        refine thenQ_normal ?_
        refine AC.ret ?_
        refine blockQ_ret ?_
        refine thenQ_ret ?_
        refine thenQ_ret ?_
        refine blockQ_ret ?_
        refine thenQ_ret ?_
        refine ⟨rfl, _, ?_, ResOf.one (by first | exact GetR.flat (SLe.eq rfl) rfl | exact GetR.nil (SLe.eq rfl) | exact GetR.ownR (SLe.eq rfl) rfl rfl (by simp [flatRows, D.flat]) | exact GetR.any (SLe.eq rfl) | exact GetR.ownA (SLe.eq rfl) rfl rfl)⟩
        first | exact congrArg iD hres | exact congrArg iD hall
      · skip
        have hnext : orL (zs.drop (i + 1)) = orL zs := by rw [← hall]; simp only [orL]; rw [if_neg (by simpa using hb)]
        refine AC.skip ?_
        refine blockQ_normal ?_
        refine thenQ_normal ?_
        refine AC.region ?_
        refine AO.pure (PureOp.add (SLe.eq rfl) (SLe.eq rfl) (by omega) (by omega)) rfl rfl ?_
        first | refine AO.pure (PureOp.moveD (SLe.eq rfl)) rfl rfl ?_ | refine AO.pure (PureOp.moveB (SLe.eq rfl)) rfl rfl ?_ | refine AO.pure (PureOp.moveT (SLe.eq rfl)) rfl rfl ?_ | refine AO.pure (PureOp.moveO (SLe.eq rfl)) rfl rfl ?_ | refine AO.pure (PureOp.moveP (SLe.eq rfl)) rfl rfl ?_ | refine AO.pure (PureOp.moveA (SLe.eq rfl)) rfl rfl ?_
        refine AO.nil ?_
        refine thenQ_normal ?_
        refine ⟨i + 1, ⟨hlt, hnext⟩, (by omega), ?_⟩
        refine Le.mk [] ⟨(by first | exact ⟨SLe.eq rfl, rfl⟩ | exact rfl | exact ⟨SLe.nil rfl, rfl⟩ | exact ⟨SLe.int rfl (by omega), rfl⟩ | exact ⟨SLe.bool rfl (by simp_all), rfl⟩ | exact ⟨SLe.sl rfl (by simp_all), rfl⟩), (by first | exact ⟨SLe.eq rfl, rfl⟩ | exact rfl | exact ⟨SLe.nil rfl, rfl⟩ | exact ⟨SLe.int rfl (by omega), rfl⟩ | exact ⟨SLe.bool rfl (by simp_all), rfl⟩ | exact ⟨SLe.sl rfl (by simp_all), rfl⟩), (by first | exact ⟨SLe.eq rfl, rfl⟩ | exact rfl | exact ⟨SLe.nil rfl, rfl⟩ | exact ⟨SLe.int rfl (by omega), rfl⟩ | exact ⟨SLe.bool rfl (by simp_all), rfl⟩ | exact ⟨SLe.sl rfl (by simp_all), rfl⟩), (by first | exact ⟨SLe.eq rfl, rfl⟩ | exact rfl | exact ⟨SLe.nil rfl, rfl⟩ | exact ⟨SLe.int rfl (by omega), rfl⟩ | exact ⟨SLe.bool rfl (by simp_all), rfl⟩ | exact ⟨SLe.sl rfl (by simp_all), rfl⟩), (by first | exact ⟨SLe.eq rfl, rfl⟩ | exact rfl | exact ⟨SLe.nil rfl, rfl⟩ | exact ⟨SLe.int rfl (by omega), rfl⟩ | exact ⟨SLe.bool rfl (by simp_all), rfl⟩ | exact ⟨SLe.sl rfl (by simp_all), rfl⟩), trivial⟩ trivial trivial rfl rfl rfl rfl rfl
    · skip
      have hend : zs.drop i = [] := by rw [List.drop_eq_nil_iff]; rw [ir_length] at hb; simpa using hb
      rw [hend] at hall
      refine AC.exit ?_
      refine thenQ_exit ?_
      refine thenQ_exit ?_
      refine blockQ_hit ?_
      refine thenQ_normal ?_
      refine AC.seq ?_
      refine AC.region ?_
      first | refine AO.pure (PureOp.moveD (SLe.eq rfl)) rfl rfl ?_ | refine AO.pure (PureOp.moveB (SLe.eq rfl)) rfl rfl ?_ | refine AO.pure (PureOp.moveT (SLe.eq rfl)) rfl rfl ?_ | refine AO.pure (PureOp.moveO (SLe.eq rfl)) rfl rfl ?_ | refine AO.pure (PureOp.moveP (SLe.eq rfl)) rfl rfl ?_ | refine AO.pure (PureOp.moveA (SLe.eq rfl)) rfl rfl ?_
      first | refine AO.pure (PureOp.assignD (SLe.eq rfl)) rfl rfl ?_ | refine AO.pure (PureOp.assignB (SLe.eq rfl)) rfl rfl ?_ | refine AO.pure (PureOp.assignT (SLe.eq rfl)) rfl rfl ?_ | refine AO.pure (PureOp.assignO (SLe.eq rfl)) rfl rfl ?_ | refine AO.pure (PureOp.assignP (SLe.eq rfl)) rfl rfl ?_ | refine AO.pure (PureOp.assignA (SLe.eq rfl)) rfl rfl ?_
      refine AO.nil ?_
      refine thenQ_normal ?_
      refine AC.ret ?_
      refine ⟨rfl, _, ?_, ResOf.one (by first | exact GetR.flat (SLe.eq rfl) rfl | exact GetR.nil (SLe.eq rfl) | exact GetR.ownR (SLe.eq rfl) rfl rfl (by simp [flatRows, D.flat]) | exact GetR.any (SLe.eq rfl) | exact GetR.ownA (SLe.eq rfl) rfl rfl)⟩
      first | exact congrArg iD hres | exact congrArg iD hall

theorem orL_two (x y : Int) : orL [x, y] = orZ x y := by simp only [orL, orZ]; by_cases h : x = 0 <;> by_cases h2 : y = 0 <;> simp [h, h2]
end Vis
end Eng
end Go.Proofs.Ytmmekdkllccmdaa
