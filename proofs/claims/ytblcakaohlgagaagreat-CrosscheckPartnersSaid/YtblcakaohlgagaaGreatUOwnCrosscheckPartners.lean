/-
  The engine: regions whose order is drawn, with what is known brought to its form at each step (the same walk, quicker to work out).
-/
import Derived.Test.YtblcakaohlgagaaGreatUEngC
import Derived.RegionTactic
import Derived.Test.YtblcakaohlgagaaGreatUReg
import Derived.Test.YtblcakaohlgagaaGreatUCopE
import Derived.Deep.LoopGhost
import Derived.Deep.Draws
import Derived.Lib.Walk
import Derived.Lib.SliceRun
import Derived.Lib.SlicesS
import Derived.Lib.SlicesCompact
import Derived.Shelf.GgSortFunc.RowK
import Derived.Shelf.RegionOpenPlain
import Derived.Test.YtblcakaohlgagaaGreatUCopF
import Derived.Test.YtblcakaohlgagaaGreatUPlain
namespace Go.Proofs.YtblcakaohlgagaaGreat
open Go.RowKit
set_option linter.unusedVariables false
namespace RE
variable {P : Program}
/-- A list's spine. -/
def fLi {β : Type} {α : Sort _} : List β → (List β → α) → α
  | [], k => k []
  | x :: r, k => fLi r fun r => k (x :: r)
theorem fLi_eq {β : Type} {α : Sort _} : ∀ (l : List β) (k : List β → α), fLi l k = k l
  | [], k => rfl
  | x :: r, k => by unfold fLi; rw [fLi_eq r]
def fBs {α : Sort _} : List Bool → (List Bool → α) → α
  | [], k => k []
  | true :: r, k => fBs r fun r => k (true :: r)
  | false :: r, k => fBs r fun r => k (false :: r)
theorem fBs_eq {α : Sort _} : ∀ (l : List Bool) (k : List Bool → α), fBs l k = k l
  | [], k => rfl
  | true :: r, k => by unfold fBs; rw [fBs_eq r]
  | false :: r, k => by unfold fBs; rw [fBs_eq r]
def fPr {β γ : Type} {α : Sort _} : List (β × γ) → (List (β × γ) → α) → α
  | [], k => k []
  | (x, y) :: r, k => fPr r fun r => k ((x, y) :: r)
theorem fPr_eq {β γ : Type} {α : Sort _} : ∀ (l : List (β × γ)) (k : List (β × γ) → α), fPr l k = k l
  | [], k => rfl
  | (x, y) :: r, k => by unfold fPr; rw [fPr_eq r]
def fV {α : Sort _} : Value → (Value → α) → α
  | .bool b, k => k (.bool b)
  | .int t z, k => k (.int t z)
  | u, k => k u
theorem fV_eq {α : Sort _} (u : Value) (k : Value → α) : fV u k = k u := by cases u <;> rfl
def fD {α : Sort _} : D → (D → α) → α
  | .v u, k => fV u fun u => k (.v u)
  | .agg cs, k => fLi cs fun cs => k (.agg cs)
  | .tup cs, k => fLi cs fun cs => k (.tup cs)
  | d, k => k d
theorem fD_eq {α : Sort _} (d : D) (k : D → α) : fD d k = k d := by
  cases d <;> first | rfl | exact fV_eq _ _ | exact fLi_eq _ _
def fSV {α : Sort _} : SV → (SV → α) → α
  | .d x, k => fD x fun x => k (.d x)
  | .cnd q w g y, k => fSV y fun y => k (.cnd q w g y)
  | .agg cs, k => fLi cs fun cs => k (.agg cs)
  | .tup cs, k => fLi cs fun cs => k (.tup cs)
  | s, k => k s
theorem fSV_eq {α : Sort _} : ∀ (s : SV) (k : SV → α), fSV s k = k s
  | .d x, k => by unfold fSV; exact fD_eq _ _
  | .cnd q w g y, k => by unfold fSV; exact fSV_eq y _
  | .agg cs, k => by unfold fSV; exact fLi_eq _ _
  | .tup cs, k => by unfold fSV; exact fLi_eq _ _
  | .bx _ _, k => rfl
  | .os _, k => rfl
  | .sub _ _ _ _, k => rfl
  | .op _ _ _ _, k => rfl
  | .fn _ _, k => rfl
  | .tp, k => rfl
  | .un, k => rfl
  | .ns _, k => rfl
  | .np _ _ _ _, k => rfl
  | .inn _ _, k => rfl
  | .ip _ _ _ _ _, k => rfl
def fSl {α : Sort _} : List (Nat × SV) → (List (Nat × SV) → α) → α
  | [], k => k []
  | (x, v) :: r, k => fSV v fun v => k ((x, v) :: r)
theorem fSl_eq {α : Sort _} (l : List (Nat × SV)) (k : List (Nat × SV) → α) : fSl l k = k l := by
  cases l with
  | nil => rfl
  | cons p r => obtain ⟨x, v⟩ := p; exact fSV_eq _ _
def fSt {α : Sort _} : St → (St → α) → α
  | ⟨sl, ⟨ob, nx, tp⟩, n, gs, gd⟩, k => fSl sl fun sl => fPr ob fun ob => fLi gs fun gs => fLi gd fun gd => k ⟨sl, ⟨ob, nx, tp⟩, n, gs, gd⟩
theorem fSt_eq {α : Sort _} (st : St) (k : St → α) : fSt st k = k st := by
  obtain ⟨sl, ⟨ob, nx, tp⟩, n, gs, gd⟩ := st
  show (fSl sl fun sl => fPr ob fun ob => fLi gs fun gs => fLi gd fun gd => k ⟨sl, ⟨ob, nx, tp⟩, n, gs, gd⟩) = _
  rw [fSl_eq, fPr_eq, fLi_eq, fLi_eq]
def fAr {α : Sort _} : Array Bool → (Array Bool → α) → α
  | ⟨l⟩, k => fBs l fun l => k ⟨l⟩
theorem fAr_eq {α : Sort _} (L : Array Bool) (k : Array Bool → α) : fAr L k = k L := by
  obtain ⟨l⟩ := L
  exact fBs_eq _ _
def fRes {α : Sort _} : PRes → (PRes → α) → α
  | ⟨ps, fs, r⟩, k => fLi ps fun ps => fLi fs fun fs => fSV r fun r => k ⟨ps, fs, r⟩
theorem fRes_eq {α : Sort _} (R : PRes) (k : PRes → α) : fRes R k = k R := by
  obtain ⟨ps, fs, r⟩ := R
  show (fLi ps fun ps => fLi fs fun fs => fSV r fun r => k ⟨ps, fs, r⟩) = _
  rw [fLi_eq, fLi_eq, fSV_eq]
theorem WF.lenS {t ty : TypeId} {e : TypeId} (he : elemOf P t = some e) (u : Value) : WF P (Builtin.len_ #[t] ty #[u]) := by
  obtain ⟨inf, hu', _⟩ := elemOf_spec he
  intro w v w1 h
  have key : ∀ w', (Builtin.len_ #[t] ty #[u]).run P w' = match u with | .slice _ n _ => .ok (goInt n) w' | _ => (Builtin.len_ #[t] ty #[u]).run P w' := fun w' => by
    cases u <;> first | rfl | simp [Builtin.len_, run_underlying hu']
  cases u with
  | slice a n c =>
    have e1 := key w
    simp only at e1
    rw [e1] at h
    injection h with h1 h2
    subst h1 h2
    exact ⟨rfl, fun w' => key w'⟩
  | _ => simp [Builtin.len_, run_underlying hu'] at h

/-- Lengths of slices are known ahead, too. -/
def lenOp (P : Program) (o : Oper) : Bool := match isLen o.op with
  | some (t, _) => (elemOf P t).isSome
  | none => false
theorem lenOp_ok {o : Oper} (h : lenOp P o = true) (ev : Operand → Value) : ∃ s, execOp ev o = valS s ∧ WF P s := by
  unfold lenOp at h
  split at h
  · rename_i t x hl
    obtain ⟨e, he'⟩ := Option.isSome_iff_exists.1 h
    have hc := isLen_spec hl
    exact ⟨Builtin.len_ #[t] o.type #[ev x], by simp [execOp, hc, resolve, invoke, builtin, valS], WF.lenS he' _⟩
  · cases h
def flKL (P : Program) (m : Mem) (pr : List Nat) (ρ : Operand → SV) (o : Oper) : Option (List Prop × Bool) := bif lenOp P o then some ([], false) else flK P m pr ρ o
theorem flKL_ok {m : Mem} {pr : List Nat} {ρ : Operand → SV} {o : Oper} {ps : List Prop} {lk : Bool} (h : flKL P m pr ρ o = some (ps, lk)) {R : PRes} (hp : popS P m ρ o = some R) {a : Act} {w : World} {c : Cx} (hr : RelsC m ρ a w c) (h1 : allL ps) (h2 : allL R.ps) :
    ∃ v, SRel c w R.r v ∧ R.r.inU m.U ∧ allL R.fs ∧ ∀ w', (lk = true → Looks c m.ob pr w w') → (execOp a.eval o).run P w' = .ok (.value v) w' := by
  unfold flKL at h
  cases hw : lenOp P o with
  | true =>
    obtain ⟨v, k1, k2, k3, k4⟩ := popS_run hp hr h2
    obtain ⟨s, e1, e2⟩ := lenOp_ok hw a.eval
    refine ⟨v, k2, k3, k4, fun w' _ => ?_⟩
    rw [e1] at k1 ⊢
    have hv : WF P (valS s) := WF.bind e2 fun _ => .pure _
    exact (hv w _ _ k1).2 w'
  | false => rw [hw] at h; exact flK_ok h hp hr h1 h2
/-- An operation that is done ahead. -/
def fstepL (P : Program) (pr : List Nat) (all : Array Oper) (o : Oper) (st : St) : Option (Bool × ((St → Prop) → Prop)) :=
  match o.guard with
  | none => match popS P st.ms.mem st.ev o, flKL P st.ms.mem pr st.ev o with
    | some R, some (ps, lk) => bif dstOK st o.dst then some (lk, fun K => andL ps (andL R.ps (impL R.fs (K (st.set o.dst R.r st.ms))))) else none
    | _, _ => none
  | some (j, want) => match (all[j]?).bind (·.dst), o.dst with
    | some q, some d => match guardG want (look st.sl q) with
      | some G => bif dstOK st (some d) && !(Nat.beq q d) && Nat.blt q st.n then match popS P st.ms.mem (fun x => stripS q want (st.ev x)) o, flKL P st.ms.mem pr (fun x => stripS q want (st.ev x)) o with
          | some R, some (ps, lk) => bif R.r.lowN st.ms.nx then some (lk, fun K => andL (ps.map (G = true → ·)) (andL (R.ps.map (G = true → ·)) (impL (R.fs.map (G = true → ·)) (K (st.setG d q want G R.r))))) else none
          | _, _ => none
        else none
      | none => none
    | _, _ => none
theorem fstepL_ok {pr : List Nat} {all : Array Oper} {o : Oper} {st : St} {lk : Bool} {T : (St → Prop) → Prop} (h : fstepL P pr all o st = some (lk, T)) {K : St → Prop} (hT : T K) {a : Act} {w : World} {c : Cx} (hr : RX st a w c) :
    ∃ v st', YieldsIf P all (fun w' => lk = true → Looks c st.ms.obs pr w w') o v a ∧ RX st' (a.put o.dst v) w c ∧ st'.ms = st.ms ∧ Fr st st' ∧ K st' := by
  unfold fstepL at h
  split at h
  · rename_i hg
    split at h
    · rename_i R ps lk' hp hf
      cases hd : dstOK st o.dst with
      | false => rw [hd] at h; cases h
      | true =>
        rw [hd] at h
        simp only [cond_true, Option.some.injEq, Prod.mk.injEq] at h
        obtain ⟨rfl, rfl⟩ := h
        obtain ⟨t1, hT⟩ := andL_spec hT
        obtain ⟨t2, hT⟩ := andL_spec hT
        obtain ⟨v, k1, k2, k3, k4⟩ := flKL_ok hf hp hr.rels t1 t2
        exact ⟨v, _, .inl ⟨by simp [Region.wanted, hg], k4⟩, hr.set .refl hr.ox hd k1 k2, by cases o.dst <;> rfl, .set (.refl _), impL_spec hT k3⟩
    · cases h
  · rename_i j want hg
    split at h
    · rename_i q d hq hdst
      split at h
      · rename_i G hG
        cases hb : (dstOK st (some d) && !(Nat.beq q d) && Nat.blt q st.n) with
        | false => rw [hb] at h; cases h
        | true =>
          rw [hb] at h
          simp only [Bool.and_eq_true, Bool.not_eq_true'] at hb
          obtain ⟨⟨b1, b2⟩, b3⟩ := hb
          have hqd : q ≠ d := fun e => by rw [e] at b2; simp at b2
          have hlt : q < st.n := Nat.le_of_ble_eq_true b3
          simp only [cond_true] at h
          split at h
          · rename_i R ps lk' hp hf
            cases hl : R.r.lowN st.ms.nx with
            | false => rw [hl] at h; cases h
            | true =>
              rw [hl] at h
              simp only [cond_true, Option.some.injEq, Prod.mk.injEq] at h
              obtain ⟨rfl, rfl⟩ := h
              obtain ⟨t1, hT⟩ := andL_spec hT
              obtain ⟨t2, hT⟩ := andL_spec hT
              have hwt : Region.wanted o (yielded all a.tmps) = G := wanted_of hg hq hlt hr hG
              rw [hdst]
              cases hGv : G with
              | true =>
                obtain ⟨v, k1, k2, k3, k4⟩ := flKL_ok hf hp (stripS_rel hr hlt hG hGv) (andL_map hGv t1) (andL_map hGv t2)
                refine ⟨v, st.setG d q want true R.r, .inl ⟨by rw [hwt, hGv], k4⟩, hr.setG .refl hr.ox b1 hqd (by rw [hG, hGv]) (fun _ => k1) (fun e => by cases e) k2, rfl, .setG, ?_⟩
                have := impL_spec hT (allL_map fun _ => k3)
                rw [hGv] at this; exact this
              | false =>
                refine ⟨undef, st.setG d q want false R.r, .inr ⟨by rw [hwt, hGv], rfl⟩, hr.setG .refl hr.ox b1 hqd (by rw [hG, hGv]) (fun e => by cases e) (fun _ => rfl) (SV.lowN_inU _ hl), rfl, .setG, ?_⟩
                have := impL_spec hT (allL_map fun e => by rw [hGv] at e; cases e)
                rw [hGv] at this; exact this
          · cases h
      · cases h
    · cases h
/-- An operation that is done ahead. -/
def fstepF (P : Program) (pr : List Nat) (all : Array Oper) (o : Oper) (st : St) : Option (Bool × ((St → Prop) → Prop)) :=
  match o.guard with
  | none => match popS P st.ms.mem st.ev o, flKL P st.ms.mem pr st.ev o with
    | some R, some (ps, lk) => bif dstOK st o.dst then some (lk, fun K => fRes R fun R => fLi ps fun ps => andL ps (andL R.ps (impL R.fs (K (st.set o.dst R.r st.ms))))) else none
    | _, _ => none
  | some (j, want) => match (all[j]?).bind (·.dst), o.dst with
    | some q, some d => match guardG want (look st.sl q) with
      | some G => bif dstOK st (some d) && !(Nat.beq q d) && Nat.blt q st.n then match popS P st.ms.mem (fun x => stripS q want (st.ev x)) o, flKL P st.ms.mem pr (fun x => stripS q want (st.ev x)) o with
          | some R, some (ps, lk) => bif R.r.lowN st.ms.nx then some (lk, fun K => fRes R fun R => fLi ps fun ps => andL (ps.map (G = true → ·)) (andL (R.ps.map (G = true → ·)) (impL (R.fs.map (G = true → ·)) (K (st.setG d q want G R.r))))) else none
          | _, _ => none
        else none
      | none => none
    | _, _ => none
theorem fstepF_eq : fstepF P = fstepL P := by
  funext pr all o st
  unfold fstepF fstepL
  simp only [fRes_eq, fLi_eq]
def devalF (fs : Nat → FS) (ao : AO) (all : Array Oper) (prL : Nat → List Nat) : Nat → Array Bool → Bool → St → (St → Prop) → Prop
  | 0, L, fr, st, K => match Region.ready .any all L with
    | [] => K st.endR
    | _ => False
  | n + 1, L, fr, st, K => fLi (Region.ready .any all L) fun rs => match rs with
    | [] => K st.endR
    | a :: b => match pickF fs all L fr st (a :: b) with
      | some (i, o, T) => T fun st' => fSt st' fun st' => fAr (L.setIfInBounds i true) fun L' => devalF fs ao all prL n L' fr st' K
      | none => conjL (a :: b) fun i => match all[i]? with
        | some o => fLi (prX all prL o i) fun X => bif ownAt st.ms.obs X then fLi (softL st.ms.obs X) fun Y => ao i o (st.ban Y) fun st1 => match unban Y st st1 with
            | some st' => bif (news st.ms st'.ms).all (fun p => !(has X p.1)) then fSt st' fun st' => fAr (L.setIfInBounds i true) fun L' => devalF fs ao all prL n L' false st' K else False
            | none => False
          else False
        | none => False
theorem devalF_eq {fs : Nat → FS} {ao : AO} {all : Array Oper} {prL : Nat → List Nat} : ∀ (n : Nat) (L : Array Bool) (fr : Bool) (st : St) (K : St → Prop), devalF fs ao all prL n L fr st K = deval fs ao all prL n L fr st K
  | 0, L, fr, st, K => rfl
  | n + 1, L, fr, st, K => by
    unfold devalF deval
    rw [fLi_eq]
    split
    · rename_i h; simp only [h]
    · rename_i a b h
      simp only [h]
      split
      · rename_i i o T hp
        rw [hp]
        simp only [fSt_eq, fAr_eq, devalF_eq n]
      · rename_i hp
        rw [hp]
        simp only [fSt_eq, fAr_eq, fLi_eq, devalF_eq n]
        rfl
def drawL (P : Program) (τ : TypeId → Option Ty) : DR := fun id cp ops st K =>
  bif P.follows .mixedOrders && Region.noSelect ops then deval (fun i => fstepL P (prOf (scanQ P st.ms st.n ops.toList 0 st.sl) i) ops) (fun i o => aop1 P τ (cp i) ops o) ops (prOf (scanQ P st.ms st.n ops.toList 0 st.sl)) ops.size (Array.replicate ops.size false) true st K else False
theorem drawL_ok (τ : TypeId → Option Ty) : DrOK P (drawL P τ) := by
  intro id cp ops st K hcp h a w c hr
  unfold drawL at h
  cases hb : (P.follows .mixedOrders && Region.noSelect ops) with
  | false => rw [hb] at h; exact h.elim
  | true =>
    rw [hb] at h
    obtain ⟨b1, b2⟩ := Bool.and_eq_true_iff.1 hb
    obtain ⟨hr1, t1⟩ := hr.drew
    let Qx : Exit → Act → World → Prop := fun e a' w' => e = .normal ∧ ∃ st' c', Step st a w c st' a' w' c' ∧ K st'
    refine wp_mono (Q := Qx) ?_ (fun e a' w' ⟨he, st', c', k1, k2⟩ => ⟨st', c', k1, he, k2⟩)
    refine wp_region_any b1 (wpAny_of_T _ _ _ _ (deval_ok (fs := fun i => fstepL P (prOf (scanQ P st.ms st.n ops.toList 0 st.sl) i) ops) (ao := fun i o => aop1 P τ (cp i) ops o) (prL := prOf (scanQ P st.ms st.n ops.toList 0 st.sl)) (fun h _ hT _ _ _ hr => fstepL_ok h hT hr) (fun ho _ _ h _ _ _ hr _ _ hQ => aop1_ok (hcp _) ho h hr hQ) b2 hr1 _ _ _ _ _ .start h _ _ _ hr1 (fun _ => ⟨rfl, rfl, rfl⟩) .refl Qx (fun ch a w hh => by cases hh.1) fun st' a' w' c' hs hk => ⟨rfl, st', c', Step.trans ⟨hr1, t1, rfl, .refl _⟩ hs, hk⟩))
def drawF (P : Program) (τ : TypeId → Option Ty) : DR := fun id cp ops st K =>
  bif P.follows .mixedOrders && Region.noSelect ops then fPr (scanQ P st.ms st.n ops.toList 0 st.sl) fun tb => fSt st fun st => devalF (fun i => fstepF P (prOf tb i) ops) (fun i o => aop1 P τ (cp i) ops o) ops (prOf tb) ops.size (Array.replicate ops.size false) true st K else False
theorem drawF_eq (τ : TypeId → Option Ty) : drawF P τ = drawL P τ := by
  funext id cp ops st K
  unfold drawF drawL
  rw [fPr_eq, fSt_eq, devalF_eq, fstepF_eq]
theorem drawF_ok (τ : TypeId → Option Ty) : DrOK P (drawF P τ) := by
  rw [drawF_eq]
  exact drawL_ok τ
end RE
end Go.Proofs.YtblcakaohlgagaaGreat
set_option linter.unusedVariables false
set_option maxRecDepth 1000000
namespace Go.Proofs.YtblcakaohlgagaaGreat
open Go.RowKit Go.Sort Go.Lib
namespace RE
open PL
def encQ (x : arr2_i64) : List Value := [.int .i64 x.e0, .int .i64 x.e1]
theorem eq70 (x y : arr2_i64) (w : World) : (Op.equalIn 10000 70 (.agg #[.int .i64 x.e0, .int .i64 x.e1]) (.agg #[.int .i64 y.e0, .int .i64 y.e1])).run Tryz.prog w = .ok (decide (x = y)) w := by
  have h := arr_run (P := Tryz.prog) (t := 70) (by kernel_rfl) (xs := [.v (.int .i64 x.e0), .v (.int .i64 x.e1)]) (ys := [.v (.int .i64 y.e0), .v (.int .i64 y.e1)]) (r := decide (x = y)) (by
    obtain ⟨a, b⟩ := x
    obtain ⟨c, d⟩ := y
    simp only [eqS, if_pos, Option.map_some, Bool.and_true]
    rw [← Bool.decide_and]
    simp) w
  exact h
theorem set_flatA (d : Array arr2_i64) (i : Nat) (x : arr2_i64) (hi : i < d.size) : setMany (flatK encQ 2 d) (i * 2) (encQ x) = flatK encQ 2 (d.setIfInBounds i x) := by
  refine ext_get! (by simp) fun t ht => ?_
  have ht' : t < d.size * 2 := by simpa using ht
  rw [get_setMany _ _ _ t (by simpa using ht'), get_flatK _ _ _ t ht', get_flatK _ _ _ t (by simpa using ht'), show (encQ x).length = 2 from rfl]
  by_cases a : t / 2 = i
  · rw [if_pos ((blk_iff 2 i t (by decide)).2 a), a, getElem!_set_same d i x hi, show t - i * 2 = t % 2 by omega]
  · rw [if_neg (fun h => a ((blk_iff 2 i t (by decide)).1 h)), getElem!_set_other d i (t / 2) x a]
theorem store_world2 {w wr : World} {n blk off : Nat} {dk : Array arr2_i64} {i : Nat} (hi : i < dk.size) (hwr : wr = putRowK encQ 2 (Sort.ahead w n) blk off dk) (x : arr2_i64) :
    (wr.setCells blk (off + i * 2) (encQ x)).drew = putRowK encQ 2 (Sort.ahead w (n + 1)) blk off (dk.setIfInBounds i x) := by
  subst hwr
  unfold putRowK
  rw [setCells_putRow _ _ _ _ _ _ (by rw [size_flatK]; show i * 2 + 2 ≤ dk.size * 2; omega), set_flatA dk i x hi, ← ahead_drew]
  rfl
theorem HoldsA {w : World} {blk off : Nat} {d : Array arr2_i64} (h : HoldsK encQ 2 w blk off d) {i : Nat} (hi : i < d.size) :
    (w.cell? ⟨blk, off + i * 2, none⟩ = some (.int .i64 d[i]!.e0) ∧ w.frozen? ⟨blk, off + i * 2, none⟩ = false) ∧ w.cell? ⟨blk, off + i * 2 + 1, none⟩ = some (.int .i64 d[i]!.e1) ∧ w.frozen? ⟨blk, off + i * 2 + 1, none⟩ = false :=
  ⟨h.cell (c := 0) hi (by decide), h.cell (c := 1) hi (by decide)⟩
theorem zeroA (w : World) (z : Value) (hv : ∀ w, (zeroValue 70).run Tryz.prog w = .ok z w) (hz : z.cells = #[.int .i64 0, .int .i64 0]) (b o n c : Nat) (hn : 0 < n) (ty : TypeId) (ht : Tryz.prog.underlying 67 = some (.slice 70))
    (hc : ∀ j, j < n * 2 → (w.cell? ⟨b, o + j, none⟩).isSome = true) (hf : ∀ j, j < n * 2 → w.frozen? ⟨b, o + j, none⟩ = false) :
    (Builtin.clear_ #[67] ty #[.slice (some ⟨b, o, none⟩) n c]).run Tryz.prog w = .ok (.tuple #[]) (w.setCells b o (List.replicate (n * 2) (.int .i64 0))) := by
  have hzc : (Builtin.zeroCells z.cells n).toList = List.replicate (n * 2) (.int .i64 0) := by
    rw [hz]
    apply List.ext_getElem
    · simp [Builtin.zeroCells]
    · intro i h1 h2
      simp only [Builtin.zeroCells, List.getElem_replicate]
      rcases Nat.mod_two_eq_zero_or_one i with h | h <;> simp [h]
  have hst := run_storeCells_cells (P := Tryz.prog) b o (List.replicate (n * 2) (.int .i64 0)) 0 w (by simpa using hc) (by simpa using hf) (by intro v hv'; rw [List.eq_of_mem_replicate hv']; rfl)
  simp only [Nat.add_zero] at hst
  obtain ⟨m, rfl⟩ : ∃ m, n = m + 1 := ⟨n - 1, by omega⟩
  simp [Builtin.clear_, run_underlying ht, hv, hzc, hst]theorem lay_flatA : ∀ (m : Nat) (d : Array arr2_i64) (k : Nat), k + m ≤ d.size → setMany (flatK encQ 2 d) (k * 2) (List.replicate (m * 2) (.int .i64 0)) = flatK encQ 2 (lay d k (List.replicate m ⟨0, 0⟩))
  | 0, d, k, _ => rfl
  | m + 1, d, k, h => by
    have ih := lay_flatA m (d.setIfInBounds k ⟨0, 0⟩) (k + 1) (by simp; omega)
    rw [← set_flatA d k ⟨0, 0⟩ (by omega), Nat.add_mul] at ih
    rw [Nat.add_mul, Nat.one_mul]
    show setMany (flatK encQ 2 d) (k * 2) (List.replicate (m * 2 + 2) (.int .i64 0)) = flatK encQ 2 (lay (d.setIfInBounds k ⟨0, 0⟩) (k + 1) (List.replicate m ⟨0, 0⟩))
    rw [← ih]
    rfl
theorem lay_worldA (w : World) (blk off : Nat) (d : Array arr2_i64) (k m : Nat) (h : k + m ≤ d.size) : (putRowK encQ 2 w blk off d).setCells blk (off + k * 2) (List.replicate (m * 2) (.int .i64 0)) = putRowK encQ 2 w blk off (lay d k (List.replicate m ⟨0, 0⟩)) := by
  unfold putRowK
  rw [setCells_putRow _ _ _ _ _ _ (by rw [size_flatK, List.length_replicate]; omega), lay_flatA m d k h]

set_option maxHeartbeats 8000000 in
/-- slices.Compact at pairs, over an array: the library's two loops are walked. -/
theorem compact2_arr (blk off cap : Nat) (d : Array arr2_i64) (w : World) (hH : HoldsK encQ 2 w blk off d) (hsz : d.size ≤ 1000000000) (hcap : d.size ≤ cap) :
    Calls Tryz.prog 67 #[.slice (some ⟨blk, off, none⟩) d.size cap] w fun e w' => e = .returned (.slice (some ⟨blk, off, none⟩) (compactUpTo d d.size).length cap) ∧ ∃ q, w' = putRowK encQ 2 (Sort.ahead w q) blk off (compactUpTo d d.size ++ List.replicate (d.size - (compactUpTo d d.size).length) (⟨0, 0⟩ : arr2_i64)).toArray := by
  have eq70 := eq70
  have mixed : Tryz.prog.follows Departure.mixedOrders = true := by kernel_rfl
  have same : ∀ q, (∀ j, j < d.size → keeps d j = true) → (compactUpTo d d.size).length = d.size ∧ w.drewN q = putRowK encQ 2 (Sort.ahead w q) blk off (compactUpTo d d.size ++ List.replicate (d.size - (compactUpTo d d.size).length) (⟨0, 0⟩ : arr2_i64)).toArray := by
    intro q hall
    have e : compactUpTo d d.size = d.toList := by rw [compactUpTo_all d _ hall, range_map_get]
    rw [e]
    refine ⟨by simp, ?_⟩
    simp only [Array.length_toList, Nat.sub_self, List.replicate_zero, List.append_nil, Array.toArray_toList]
    exact (putRowK_self encQ 2 (Sort.ahead w q) blk off d (holdsK_ahead encQ 2 w q blk off d hH)).symm
  have HS := Lib.hid same
  clear same
  by_cases h2 : d.size < 2
  · have HH := Lib.hid hH
    clear hH
    go_enter Tryz.func67, Tryz.ntmps67
    go_wp2
    go_ret
    obtain ⟨e1, e2⟩ := HS.out 0 (fun j hj => keeps_lt_one d j (by omega))
    exact ⟨by rw [e1]; rfl, 0, e2⟩
  · go_enter Tryz.func67, Tryz.ntmps67
    go_wp2
    go_loopg [3] d.size (fun g s3 wr => ∃ k q : Nat, 1 ≤ k ∧ k ≤ d.size ∧ d.size - k ≤ g ∧ s3 = .int .i64 k ∧ wr = w.drewN q ∧ ∀ j, j < k → keeps d j = true)
    case atStart => exact ⟨1, 0, Nat.le_refl _, by omega, by omega, rfl, rfl, keeps_lt_one d⟩
    case round =>
      obtain ⟨k, q, hk1, hk, hg, rfl, rfl, hall⟩ := hrel
      by_cases hlt : k < d.size
      · obtain ⟨⟨c1, f1⟩, c2, f2⟩ := HoldsA hH hlt
        obtain ⟨⟨c3, f3⟩, c4, f4⟩ := HoldsA (i := k - 1) hH (by omega)
        have A := Lib.hid hall
        have HH := Lib.hid hH
        clear hall hH
        generalize hx : d[k]! = x at c1 c2
        generalize hy : d[k - 1]! = y at c3 c4
        have B := Lib.hid (show d[k]! = x ∧ d[k - 1]! = y from ⟨hx, hy⟩)
        clear hx hy
        by_cases hdup : x = y
        · subst hdup
          have hdec : decide (x = x) = true := decide_eq_true rfl
          go_wp2_with fail
          go_region_o
          go_wp2
          clear c1 c2 c3 c4 f1 f2 f3 f4
          go_loopg [3, 5] d.size (fun g s3 s5 wr => ∃ (kk k2 q2 : Nat) (dk : Array arr2_i64), s3 = .int .i64 kk ∧ s5 = .int .i64 k2 ∧ 1 ≤ k2 ∧ k + k2 ≤ d.size ∧ d.size - (k + k2) ≤ g ∧ wr = putRowK encQ 2 (Sort.ahead w q2) blk off dk ∧ CompInv d (k + k2) kk dk)
          case atStart => exact ⟨k, 1, q + 1, d, rfl, rfl, Nat.le_refl _, by omega, by omega, (putRowK_self encQ 2 (Sort.ahead w (q + 1)) blk off d (holdsK_ahead encQ 2 w (q + 1) blk off d HH.out)).symm, CompInv.start A.out (keeps_neg (by omega) (by rw [B.out.1, B.out.2]))⟩
          case round =>
            obtain ⟨kk, k2, q2, dk, rfl, rfl, h1, hle, hg2, hwr, hI⟩ := hrel
            have hkk := hI.lt
            have hds := hI.size
            have hHk : HoldsK encQ 2 wr blk off dk := by rw [hwr]; exact holdsK_putRowK encQ 2 _ blk off d dk (holdsK_ahead encQ 2 w q2 blk off d HH.out) hds
            have W2 := Lib.hid hwr
            have I2 := Lib.hid hI
            clear hwr
            by_cases hlt2 : k + k2 < d.size
            · obtain ⟨⟨m1, _⟩, m2, _⟩ := HoldsA hHk (i := k + k2) (by omega)
              obtain ⟨⟨p1, _⟩, p2, _⟩ := HoldsA hHk (i := k + k2 - 1) (by omega)
              obtain ⟨⟨k1, g1⟩, k3, g3⟩ := HoldsA hHk (i := kk) (by omega)
              rw [hI.high (k + k2) (by omega), show off + (k + k2) * 2 = off + k * 2 + k2 * 2 by omega] at m1 m2
              rw [hI.high (k + k2 - 1) (by omega), show off + (k + k2 - 1) * 2 = off + k * 2 + (k2 - 1) * 2 by omega] at p1 p2
              clear hHk hI
              generalize hu : d[k + k2]! = u at m1 m2
              generalize hv : d[k + k2 - 1]! = v at p1 p2
              generalize dk[kk]! = old at k1 k3
              have C := Lib.hid (show d[k + k2]! = u ∧ d[k + k2 - 1]! = v from ⟨hu, hv⟩)
              clear hu hv
              by_cases huv : u = v
              · subst huv
                have hdec2 : decide (u = u) = true := decide_eq_true rfl
                go_wp2_with fail
                go_region_o
                go_wp2
                go_roundg (d.size - (k + (k2 + 1)))
                case measure => omega
                case rel => exact ⟨kk, k2 + 1, q2 + 1, dk, rfl, by go_num, by omega, by omega, Nat.le_refl _, by rw [W2.out]; rfl, I2.out.skip (keeps_neg (by omega) (by rw [C.out.1, C.out.2]))⟩
              · have hdec2 : decide (u = v) = false := decide_eq_false huv
                go_wp2_with fail
                go_region_o
                go_wp2
                go_roundg (d.size - (k + (k2 + 1)))
                case measure => omega
                case rel => exact ⟨kk + 1, k2 + 1, q2 + 1, dk.setIfInBounds kk u, by go_num, by go_num, by omega, by omega, Nat.le_refl _, store_world2 (by omega) W2.out u, by have := I2.out.keep hlt2 (keeps_pos (by rw [C.out.1, C.out.2]; exact huv)); rwa [C.out.1] at this⟩
            · have hend : k + k2 = d.size := by omega
              have hcl : ∀ ty, (Builtin.clear_ #[67] ty #[.slice (some ⟨blk, off + kk * 2, none⟩) (d.size - kk) (cap - kk)]).run Tryz.prog wr = .ok (.tuple #[]) (wr.setCells blk (off + kk * 2) (List.replicate ((d.size - kk) * 2) (.int .i64 0))) :=
                fun ty => zeroA wr _ Tryz.zeroValue70 rfl blk (off + kk * 2) _ _ (by omega) ty Tryz.underlying67
                  (fun j hj => by rw [show off + kk * 2 + j = off + (kk * 2 + j) by omega, (hHk (kk * 2 + j) (by rw [size_flatK]; omega)).1]; rfl)
                  (fun j hj => by rw [show off + kk * 2 + j = off + (kk * 2 + j) by omega]; exact (hHk (kk * 2 + j) (by rw [size_flatK]; omega)).2)
              clear hHk hI
              go_wp2
              go_ret
              have hI := I2.out
              rw [hend] at hI
              refine ⟨by rw [hI.len]; rfl, q2, ?_⟩
              rw [hI.len, ← hI.done ⟨0, 0⟩, W2.out]
              exact lay_worldA _ _ _ _ _ _ (by omega)
        · have hdec : decide (x = y) = false := decide_eq_false hdup
          go_wp2_with fail
          go_region_o
          go_wp2
          go_roundg (d.size - (k + 1))
          case measure => omega
          case rel =>
            refine ⟨k + 1, q + 1, by omega, by omega, Nat.le_refl _, by go_num, rfl, fun j hj => ?_⟩
            by_cases e : j = k
            · subst e
              exact keeps_pos (by rw [B.out.1, B.out.2]; exact hdup)
            · exact A.out j (by omega)
      · have : k = d.size := by omega
        subst this
        have HH := Lib.hid hH
        clear hH
        go_wp2
        go_ret
        obtain ⟨e1, e2⟩ := HS.out q hall
        exact ⟨by rw [e1]; rfl, q, e2⟩
end RE
end Go.Proofs.YtblcakaohlgagaaGreat
set_option linter.unusedVariables false
set_option maxRecDepth 100000
namespace Go.Proofs.YtblcakaohlgagaaGreat
open Go.RowKit Go.Sort Go.Lib
namespace RE
open PL
namespace PL
/-- Two pairs compared. -/
def cmpQ (a b : arr2_i64) : Int := orI (Lib.compareInt a.e0 b.e0) (Lib.compareInt a.e1 b.e1)
end PL
set_option maxHeartbeats 2000000 in
theorem cmpA_any (hc : CmpOK Tryz.prog) (a c : arr2_i64) (b1 b2 : Nat) (W : World) (h1 : W.cell? ⟨b1, 0, none⟩ = some (.int .i64 a.e0)) (h2 : W.cell? ⟨b1, 1, none⟩ = some (.int .i64 a.e1))
    (h3 : W.cell? ⟨b2, 0, none⟩ = some (.int .i64 c.e0)) (h4 : W.cell? ⟨b2, 1, none⟩ = some (.int .i64 c.e1)) :
    Calls Tryz.prog 66 #[.slice (some ⟨b1, 0, none⟩) 2 2, .slice (some ⟨b2, 0, none⟩) 2 2] W fun e w' => e = .returned (.int .i64 (cmpQ a c)) ∧ w' = W := by
  have hc := Lib.hid hc
  unfold cmpQ orI
  obtain ⟨z0, hz0⟩ : ∃ z, Lib.compareInt a.e0 c.e0 = z := ⟨_, rfl⟩
  obtain ⟨z1, hz1⟩ : ∃ z, Lib.compareInt a.e1 c.e1 = z := ⟨_, rfl⟩
  rw [hz0, hz1]
  have q0 := Lib.hid (fun (W' : World) => hz0 ▸ hc.out a.e0 c.e0 W')
  have q1 := Lib.hid (fun (W' : World) => hz1 ▸ hc.out a.e1 c.e1 W')
  clear hz0 hz1
  by_cases hx : z0 = 0
  · subst hx
    rw [if_neg (fun h => h rfl)]
    by_cases hy : z1 = 0
    · subst hy
      go_enter Tryz.func66, Tryz.ntmps66
      go_wp2_with fail
      refine wp_loop_rounds 3 ?_
      rw [rounds_succ]
      go_wp2_with (go_at_call 100; refine (q0.out _).mono ?_; rintro e w' ⟨rfl, rfl⟩)
      go_wp2
      rw [rounds_succ]
      go_wp2_with (go_at_call 100; refine (q1.out _).mono ?_; rintro e w' ⟨rfl, rfl⟩)
      go_wp2
      rw [rounds_succ]
      go_wp2
      go_ret
      exact ⟨rfl, rfl⟩
    · have hb : (z1 == 0) = false := beq_eq_false_iff_ne.2 hy
      go_enter Tryz.func66, Tryz.ntmps66
      go_wp2_with fail
      refine wp_loop_rounds 2 ?_
      rw [rounds_succ]
      go_wp2_with (go_at_call 100; refine (q0.out _).mono ?_; rintro e w' ⟨rfl, rfl⟩)
      go_wp2
      rw [rounds_succ]
      go_wp2_with (go_at_call 100; refine (q1.out _).mono ?_; rintro e w' ⟨rfl, rfl⟩)
      go_wp2
      go_ret
      exact ⟨rfl, rfl⟩
  · rw [if_pos hx]
    have hb : (z0 == 0) = false := beq_eq_false_iff_ne.2 hx
    go_enter Tryz.func66, Tryz.ntmps66
    go_wp2_with fail
    refine wp_loop_rounds 1 ?_
    rw [rounds_succ]
    go_wp2_with (go_at_call 100; refine (q0.out _).mono ?_; rintro e w' ⟨rfl, rfl⟩)
    go_wp2
    go_ret
    exact ⟨rfl, rfl⟩
set_option maxHeartbeats 2000000 in
/-- The comparison of pairs. -/
theorem cmpB_any (hc : CmpOK Tryz.prog) (a c : arr2_i64) (W : World) :
    Calls Tryz.prog 65 #[.agg #[.int .i64 a.e0, .int .i64 a.e1], .agg #[.int .i64 c.e0, .int .i64 c.e1]] W fun e w' => e = .returned (.int .i64 (cmpQ a c)) ∧ Ahd W w' := by
  have hq := Lib.hid (cmpA_any hc a c)
  obtain ⟨z, hz⟩ : ∃ z, cmpQ a c = z := ⟨_, rfl⟩
  rw [hz] at hq ⊢
  obtain ⟨a1, a2⟩ := a
  obtain ⟨d1, d2⟩ := c
  dsimp only at hq ⊢
  clear hz hc
  go_enter Tryz.func65, Tryz.ntmps65
  go_upto_region 1 with fail
  obtain ⟨W1, hW1⟩ : ∃ W1, W1 = (W.alloc (.cells #[.int .i64 a1, .int .i64 a2] 70)).alloc (.cells #[.int .i64 d1, .int .i64 d2] 70) := ⟨_, rfl⟩
  have h1 := Lib.hid (show Ahd W W1 by rw [hW1]; exact ((Ahd.refl W).alloc _).alloc _)
  have k1 : W1.heap[W.heap.size]? = some (.cells #[.int .i64 a1, .int .i64 a2] 70 (0, 0)) := by rw [hW1, Below.heap_alloc _ _ _ (by simp)]; exact heap_alloc_new W _
  have k2 : W1.heap[(W.alloc (.cells #[.int .i64 a1, .int .i64 a2] 70)).heap.size]? = some (.cells #[.int .i64 d1, .int .i64 d2] 70 (0, 0)) := by rw [hW1]; exact heap_alloc_new _ _
  rw [← hW1]
  have e2 : (W.alloc (.cells #[.int .i64 a1, .int .i64 a2] 70)).heap.size = W.heap.size + 1 := by simp
  rw [e2] at k2
  obtain ⟨b1, hb1⟩ : ∃ b1, W.heap.size = b1 := ⟨_, rfl⟩
  rw [hb1] at k1 k2 ⊢
  have hb1' := Lib.hid hb1
  have d1' : W1.drew.cell? ⟨b1, 0, none⟩ = some (.int .i64 a1) := (cell_row2 (o := 0) k1).1
  have d2' : W1.drew.cell? ⟨b1, 1, none⟩ = some (.int .i64 a2) := (cell_row2 (o := 0) k1).2
  have d3' : W1.drew.cell? ⟨b1 + 1, 0, none⟩ = some (.int .i64 d1) := (cell_row2 (o := 0) k2).1
  have d4' : W1.drew.cell? ⟨b1 + 1, 1, none⟩ = some (.int .i64 d2) := (cell_row2 (o := 0) k2).2
  have l1 : b1 < W1.heap.size := (Array.getElem?_eq_some_iff.1 k1).1
  have l2 : b1 + 1 < W1.heap.size := (Array.getElem?_eq_some_iff.1 k2).1
  clear hW1 k1 k2 e2 hb1
  go_region_held3 (fun W' => W'.cell? ⟨b1, 0, none⟩ = some (.int .i64 a1) ∧ W'.cell? ⟨b1, 1, none⟩ = some (.int .i64 a2) ∧ W'.cell? ⟨b1 + 1, 0, none⟩ = some (.int .i64 d1) ∧ W'.cell? ⟨b1 + 1, 1, none⟩ = some (.int .i64 d2)) (first | exact ⟨d1', d2', d3', d4'⟩ | assumption | go_keep) (first | (go_at_call 66; refine (hq.out _ _ _ (by assumption) (by assumption) (by assumption) (by assumption)).mono ?_; rintro e w' ⟨rfl, rfl⟩))
  go_wp2
  go_ret
  exact ⟨rfl, ((h1.out)).drew⟩
/-- A pair as it lies in a row. -/
theorem pair_row {S : Cells} {w : World} {cur : Array Value} {l : List arr2_i64} (h : ∀ (i : Nat) (x : arr2_i64), l[i]? = some x → ∀ (j : Nat) (c : D), (enc (.st .arr2_i64) x)[j]? = some c → ∃ u : Value, cur[i * 2 + j]? = some u ∧ u.oneCell' = true ∧ Rd S w c u)
    {i : Nat} (hi : i < l.length) : cur[i * 2]? = some (.int .i64 l[i].e0) ∧ cur[i * 2 + 1]? = some (.int .i64 l[i].e1) := by
  obtain ⟨u1, a1, _, a3⟩ := h i l[i] (List.getElem?_eq_getElem hi) 0 (.v (.int .i64 l[i].e0)) rfl
  obtain ⟨u2, b1, _, b3⟩ := h i l[i] (List.getElem?_eq_getElem hi) 1 (.v (.int .i64 l[i].e1)) rfl
  rw [rd_v a3] at a1
  rw [rd_v b3] at b1
  exact ⟨a1, b1⟩
theorem pair_holds {S : Cells} {w : World} {g : Nat} {cur : Array Value} {l : List arr2_i64} {ty : TypeId} (hg : w.heap[g]? = some (.cells cur ty (0, 0))) (h : ∀ (i : Nat) (x : arr2_i64), l[i]? = some x → ∀ (j : Nat) (c : D), (enc (.st .arr2_i64) x)[j]? = some c → ∃ u : Value, cur[i * 2 + j]? = some u ∧ u.oneCell' = true ∧ Rd S w c u) : HoldsK encQ 2 w g 0 l.toArray := by
  intro t ht
  have ht : t < l.length * 2 := by simpa using ht
  refine ⟨?_, by simp [World.frozen?, hg]⟩
  show w.cell? ⟨g, 0 + t, none⟩ = some (flatK encQ 2 l.toArray)[t]!
  rw [get_flatK _ _ _ t (by simpa using ht), Nat.zero_add, cell_row hg]
  obtain ⟨i, hi2⟩ : ∃ i, t = i * 2 ∨ t = i * 2 + 1 := ⟨t / 2, by omega⟩
  have hi : i < l.length := by omega
  obtain ⟨k1, k2⟩ := pair_row h hi
  have e1 : (l.toArray)[i]! = l[i] := by simp [hi]
  rcases hi2 with rfl | rfl
  · rw [show i * 2 / 2 = i by omega, show i * 2 % 2 = 0 by omega, e1]; exact k1
  · rw [show (i * 2 + 1) / 2 = i by omega, show (i * 2 + 1) % 2 = 1 by omega, e1]; exact k2
theorem pair_back {S : Cells} {w : World} {cap : Nat} {cur : Array Value} {dd : Array arr2_i64} {l : List arr2_i64} (hcs : cur.size = cap * 2) (hd : dd.size ≤ cap) (hl : ∀ (i : Nat) (x : arr2_i64), l[i]? = some x → i < dd.size ∧ dd[i]! = x) :
    ∀ (i : Nat) (x : arr2_i64), l[i]? = some x → ∀ (j : Nat) (c : D), (enc (.st .arr2_i64) x)[j]? = some c → ∃ u : Value, (putCells id 0 (flatK encQ 2 dd) cur)[i * 2 + j]? = some u ∧ u.oneCell' = true ∧ Rd S w c u := by
  intro i x hx j c hc
  obtain ⟨hi, hxe⟩ := hl i x hx
  have key : ∀ k, k < 2 → (putCells id 0 (flatK encQ 2 dd) cur)[i * 2 + k]? = some (encQ x)[k]! := by
    intro k hk
    have h1 : i * 2 + k < cur.size := by omega
    have h2 : i * 2 + k < dd.size * 2 := by omega
    simp only [putCells, Array.getElem?_mapIdx, Array.getElem?_eq_getElem h1, Option.map_some, Nat.zero_le, true_and, Nat.zero_add, size_flatK, if_pos h2, Nat.sub_zero, id]
    rw [get_flatK _ _ _ _ h2, show (i * 2 + k) / 2 = i by omega, show (i * 2 + k) % 2 = k by omega, hxe]
  match j, hc with
  | 0, hc =>
    have hc : some (D.v (.int .i64 x.e0)) = some c := hc
    injection hc with hc
    subst hc
    exact ⟨_, key 0 (by omega), rfl, .v _⟩
  | 1, hc =>
    have hc : some (D.v (.int .i64 x.e1)) = some c := hc
    injection hc with hc
    subst hc
    exact ⟨_, key 1 (by omega), rfl, .v _⟩
  | j + 2, hc => cases (show (none : Option D) = some c from hc)
namespace PL
/-- A pair lies before another one. -/
def ltA (x y : arr2_i64) : Prop := x.e0 < y.e0 ∨ (x.e0 = y.e0 ∧ x.e1 < y.e1)
end PL
theorem cmpQ_lt (x y : arr2_i64) : cmpQ x y < 0 ↔ ltA x y := by
  obtain ⟨p1, p2⟩ := cmpI_lt x.e0 y.e0
  obtain ⟨q1, q2⟩ := cmpI_lt x.e1 y.e1
  unfold cmpQ orI ltA
  by_cases h : Lib.compareInt x.e0 y.e0 = 0
  · rw [if_neg (not_not_intro h)]
    have := p2.1 h
    rw [q1]
    refine ⟨fun h => .inr ⟨this, h⟩, fun h => ?_⟩
    rcases h with h | h
    · omega
    · exact h.2
  · rw [if_pos h, p1]
    refine ⟨.inl, fun k => ?_⟩
    rcases k with k | k
    · exact k
    · exact absurd (p2.2 k.1) h
theorem ltQ (x y : arr2_i64) : ltOf cmpQ x y = true ↔ ltA x y := by
  unfold ltOf
  rw [decide_eq_true_iff]
  exact cmpQ_lt x y
theorem swoQ : SWO (ltOf cmpQ) where
  irrefl x := by
    cases h : ltOf cmpQ x x
    · rfl
    · have := (ltQ x x).1 h
      unfold ltA at this
      omega
  trans x y z h1 h2 := by
    rw [ltQ] at *
    unfold ltA at *
    omega
  ntrans x y z h1 h2 := by
    cases h : ltOf cmpQ x z
    · rfl
    · have h := (ltQ x z).1 h
      have h1 : ¬ ltA x y := fun k => by rw [(ltQ x y).2 k] at h1; cases h1
      have h2 : ¬ ltA y z := fun k => by rw [(ltQ y z).2 k] at h2; cases h2
      unfold ltA at *
      omega
theorem cmpLaysA {w : World} (g size : Nat) : CmpLays Tryz.prog 65 #[] encQ 2 cmpQ g 0 size w := by
  intro m os dk hdk x y
  refine (cmpB_any cmpOK x y (sortWorldK encQ 2 w g 0 m dk os)).mono ?_
  rintro e w' ⟨rfl, hA⟩
  exact ⟨rfl, hA.grow⟩
def psortA_sp : Spec3 := ⟨64, .st .arr2_i64, some 65, fun (l : List arr2_i64) post => l.length ≤ 1000000 ∧ ∀ l2, l2.Perm l → l2.Pairwise (fun a b => ¬ ltA b a) → post l2⟩
theorem psortA_row (l : List arr2_i64) (post : List arr2_i64 → Prop) (hp : l.length ≤ 1000000 ∧ ∀ l2, l2.Perm l → l2.Pairwise (fun a b => ¬ ltA b a) → post l2) (w : World) (S : Cells) (v : Value) (F : Nat → Prop) (e : TypeId) (hrow : RowAt w S v F e (.st .arr2_i64) l) (hS : ∀ b o, S b o → b < w.heap.size) (hF : ∀ b, F b → b < w.heap.size ∧ ∀ k, ¬ S b k) :
    Calls Tryz.prog 64 #[v, .func (.func 65) #[] #[]] w fun e' w' => ∃ r, ∃ l' : List arr2_i64, e' = .returned r ∧ post l' ∧ RowAt w' S v F e (.st .arr2_i64) l' ∧ w'.os = w.os ∧ w'.tape = w.tape ∧ w'.output = w.output ∧ w.heap.size ≤ w'.heap.size ∧ ∀ b, b < w.heap.size → ¬ F b → w'.heap[b]? = w.heap[b]? := by
  obtain ⟨hlen, hp⟩ := hp
  obtain ⟨h0, ⟨rfl, ⟨ad, rfl⟩, hn⟩ | ⟨g, cap, cur, rfl, hFg, hg, hnl, hcm, hcs, hrr⟩⟩ := hrow
  · refine (AnyF.slices_SortFunc_none Tryz.sortAp ad 0 _ w).mono ?_
    rintro e' w' ⟨rfl, rfl⟩
    exact ⟨_, [], rfl, hp [] (List.Perm.refl _) List.Pairwise.nil, ⟨h0, .inl ⟨rfl, ⟨ad, rfl⟩, hn⟩⟩, rfl, rfl, rfl, Nat.le_refl _, fun _ _ _ => rfl⟩
  have hgl := (Array.getElem?_eq_some_iff.1 hg).1
  have hnl : List.length (l : List arr2_i64) ≤ cap := hnl
  have hcs : cur.size = cap * 2 := hcs
  have hH : HoldsK encQ 2 w g 0 l.toArray := pair_holds hg hrr
  have eg : ∀ args w, (callFunc 65 args).run Tryz.prog w = .ok (.enter 65 args) w := enters_of Tryz.func65 (by kernel_rfl) rfl
  have hone : ∀ (x : arr2_i64), ∀ v ∈ encQ x, v.oneCell' = true := fun x v hv => by
    unfold encQ at hv
    rcases List.mem_cons.1 hv with rfl | hv
    · rfl
    · rw [List.mem_singleton] at hv; subst hv; rfl
  have hsz : l.toArray.size = l.length := by simp
  have hcall := AnyQ.slices_SortFunc Tryz.sortAp 2 Tryz.isAgg70 Tryz.sizeOf70 encQ (fun _ => rfl) hone cmpQ swoQ 65 #[] g 0 cap l.toArray w eg (cmpLaysA g _) hH hgl (by rw [hsz]; omega)
  rw [hsz] at hcall
  refine hcall.mono ?_
  rintro e' w' ⟨rfl, d, n, os, ⟨q1, q2, q3⟩, q4, rfl⟩
  have hdsz : d.size = l.length := by rw [q1]; exact hsz
  have hG := grownBy_sortedV (w := w) (n := n) (g := g) (os := os) (flatK encQ 2 d)
  have hHp := heap_sortedV (n := n) (os := os) (flatK encQ 2 d) hg
  have hlen2 : List.length d.toList = l.length := by rw [Array.length_toList]; exact hdsz
  refine ⟨_, d.toList, rfl, hp _ ?_ ?_, ⟨h0, .inr ⟨g, cap, _, ?_, hFg, hHp, Nat.le_trans (Nat.le_of_eq hlen2) hnl, hcm, by simp [putCells, hcs]; rfl, pair_back hcs (by omega) fun i x hx => ?_⟩⟩, hG.os, hG.tape, hG.output, hG.size, fun b hb hnF => hG.block b hb fun e => hnF ((hFg b).2 (Option.some.inj e))⟩
  · have e1 : d.extract 0 l.length = d := by rw [← hdsz]; simp
    have e2 : l.toArray.extract 0 l.length = l.toArray := by rw [← hsz]; simp
    rw [e1, e2] at q3
    simpa using q3
  · rw [List.pairwise_iff_getElem]
    intro i j hi hj hij hlt
    have hi' : i < d.size := by simpa using hi
    have hj' : j < d.size := by simpa using hj
    have := q4 i j (Nat.zero_le _) hij (by rw [← hdsz]; exact hj')
    rw [getElem!_pos d i hi', getElem!_pos d j hj'] at this
    have h2 := (ltQ d[j] d[i]).2 (by simpa using hlt)
    rw [h2] at this; cases this
  · show Value.slice (some ⟨g, 0, none⟩) l.length cap = Value.slice (some ⟨g, 0, none⟩) (List.length d.toList) cap
    rw [hlen2]
  · rw [Array.getElem?_toList] at hx
    have hi : i < d.size := (Array.getElem?_eq_some_iff.1 hx).1
    exact ⟨hi, by rw [getElem!_pos d i hi]; exact (Array.getElem?_eq_some_iff.1 hx).2⟩
theorem psortA_ok : Spec3OK Tryz.prog psortA_sp := fun l post hp w S v F e hrow hS hF => psortA_row l post hp w S v F e hrow hS hF
set_option maxHeartbeats 1000000 in
theorem compact2_empty (a : Option Addr) (cap : Nat) (w : World) : Calls Tryz.prog 67 #[.slice a 0 cap] w fun e w' => e = .returned (.slice a 0 cap) ∧ w' = w := by
  go_enter Tryz.func67, Tryz.ntmps67
  go_wp2
  go_ret
  exact ⟨rfl, rfl⟩
namespace PL
/-- Neighbours that are equal put together. -/
def compA (l : List arr2_i64) : List arr2_i64 := Lib.compact l
end PL
def pcompA_sp : Spec2 := ⟨67, [.own 70 (.st .arr2_i64)], .own 70 (.st .arr2_i64), fun x post => (fun (l : List arr2_i64) (post : List arr2_i64 → Prop) => l.length ≤ 1000000 ∧ post (compA l)) (x.1 : List arr2_i64) fun y => post (y, ())⟩
theorem pcompA_row : ∀ (l : List arr2_i64) (post : List arr2_i64 → Prop), (l.length ≤ 1000000 ∧ post (Lib.compact l)) → ∀ (w : World) (S : Cells) (v : Value) (F : Nat → Prop), RowAt w S v F 70 (.st .arr2_i64) l → (∀ b o, S b o → b < w.heap.size) → (∀ b, F b → b < w.heap.size ∧ ∀ k, ¬ S b k) →
    Calls Tryz.prog 67 #[v] w fun e' w' => ∃ (r : Value) (l' : List arr2_i64), e' = .returned r ∧ post l' ∧ RowAt w' S r F 70 (.st .arr2_i64) l' ∧ w'.os = w.os ∧ w'.tape = w.tape ∧ w'.output = w.output ∧ w.heap.size ≤ w'.heap.size ∧ ∀ b, b < w.heap.size → ¬ F b → w'.heap[b]? = w.heap[b]? := by
  intro l post ⟨hlen, hp⟩ w S v F hrow hS hF
  obtain ⟨h0, ⟨rfl, ⟨ad, rfl⟩, hn⟩ | ⟨g, cap, cur, rfl, hFg, hg, hnl, hcm, hcs, hrr⟩⟩ := hrow
  · refine (compact2_empty ad 0 w).mono ?_
    rintro e' w' ⟨rfl, rfl⟩
    exact ⟨_, [], rfl, hp, ⟨h0, .inl ⟨rfl, ⟨ad, rfl⟩, hn⟩⟩, rfl, rfl, rfl, Nat.le_refl _, fun _ _ _ => rfl⟩
  · have hnl : List.length (l : List arr2_i64) ≤ cap := hnl
    have hlen : List.length (l : List arr2_i64) ≤ 1000000 := hlen
    have hcs : cur.size = cap * 2 := hcs
    have hcl : (Lib.compact l).length ≤ List.length l := Go.Lib.compact_length_le l
    have hcall := compact2_arr g 0 cap l.toArray w (pair_holds hg hrr) (by simp; omega) (by simpa using hnl)
    have e1 : compactUpTo l.toArray l.toArray.size = Lib.compact l := by unfold Lib.compact; simp
    rw [e1] at hcall
    rw [show l.toArray.size = List.length l by simp] at hcall
    refine hcall.mono ?_
    rintro e' w' ⟨rfl, n, rfl⟩
    generalize hd : (Lib.compact l ++ List.replicate (List.length l - (Lib.compact l).length) (⟨0, 0⟩ : arr2_i64)).toArray = d
    have hG := grownBy_sortedV (w := w) (n := n) (g := g) (os := #[]) (flatK encQ 2 d)
    have hHp := heap_sortedV (n := n) (os := #[]) (flatK encQ 2 d) hg
    rw [grow_empty] at hG hHp
    have hds : d.size = List.length l := by rw [← hd]; simp; omega
    refine ⟨_, Lib.compact l, rfl, hp, ⟨h0, .inr ⟨g, cap, _, rfl, hFg, hHp, Nat.le_trans hcl hnl, hcm, by simp [putCells, hcs]; rfl, pair_back hcs (by omega) fun i x hx => ?_⟩⟩, hG.os, hG.tape, hG.output, hG.size, fun b hb hnF => hG.block b hb fun e => hnF ((hFg b).2 (Option.some.inj e))⟩
    have hi : i < (Lib.compact l).length := (List.getElem?_eq_some_iff.1 hx).1
    refine ⟨by omega, ?_⟩
    have h2 : (Lib.compact l)[i] = x := (List.getElem?_eq_some_iff.1 hx).2
    rw [← h2, ← hd]
    simp [List.getElem?_append_left hi, List.getElem?_eq_getElem hi]
theorem pcompA_ok : Spec2OK Tryz.prog pcompA_sp := Spec2OK.of_row (t := .st .arr2_i64) pcompA_row
/-- A sorted row put together: it goes up, and the same are in it. -/
theorem compactA_up {d : Array arr2_i64} (h : ∀ j k, j ≤ k → k < d.size → ¬ ltA d[k]! d[j]!) : ∀ m, m ≤ d.size → (Lib.compactUpTo d m).Pairwise ltA ∧ ∀ x, x ∈ Lib.compactUpTo d m ↔ ∃ j, j < m ∧ d[j]! = x
  | 0, _ => ⟨by simp [Lib.compactUpTo], fun x => by simp [Lib.compactUpTo]⟩
  | m + 1, hm => by
    obtain ⟨h1, h2⟩ := compactA_up h m (by omega)
    rw [Lib.compactUpTo_succ]
    cases hk : Lib.keeps d m with
    | false =>
      rw [if_neg (by decide), List.append_nil]
      refine ⟨h1, fun x => (h2 x).trans ⟨fun ⟨j, a, b⟩ => ⟨j, by omega, b⟩, fun ⟨j, a, b⟩ => ?_⟩⟩
      by_cases e : j = m
      · subst e
        unfold Lib.keeps at hk
        simp only [decide_eq_false_iff_not, not_or, Classical.not_not] at hk
        exact ⟨j - 1, by omega, by rw [← hk.2]; exact b⟩
      · exact ⟨j, by omega, b⟩
    | true =>
      rw [if_pos rfl]
      refine ⟨List.pairwise_append.2 ⟨h1, List.pairwise_singleton _ _, fun x hx y hy => ?_⟩, fun x => ?_⟩
      · rw [List.mem_singleton] at hy
        subst hy
        obtain ⟨j, hj, rfl⟩ := (h2 x).1 hx
        unfold Lib.keeps at hk
        simp only [decide_eq_true_iff] at hk
        have hne : d[m]! ≠ d[m - 1]! := by rcases hk with hk | hk
                                           · omega
                                           · exact hk
        have a1 := h j (m - 1) (by omega) (by omega)
        have a2 := h (m - 1) m (by omega) (by omega)
        have hne2 : ¬ (d[m]!.e0 = d[m - 1]!.e0 ∧ d[m]!.e1 = d[m - 1]!.e1) := fun e => hne (by
          cases e1 : d[m]! with | mk a b => cases e2 : d[m - 1]! with | mk c f => rw [e1, e2] at e; simp at e; rw [e.1, e.2])
        unfold ltA at *
        omega
      · rw [List.mem_append, List.mem_singleton, h2]
        constructor
        · rintro (⟨j, a, b⟩ | rfl)
          · exact ⟨j, by omega, b⟩
          · exact ⟨m, by omega, rfl⟩
        · rintro ⟨j, a, b⟩
          by_cases e : j = m
          · subst e; exact .inr b.symm
          · exact .inl ⟨j, by omega, b⟩
theorem compactA_sorted {l : List arr2_i64} (h : l.Pairwise (fun a b => ¬ ltA b a)) : (Lib.compact l).Pairwise ltA ∧ ∀ x, x ∈ Lib.compact l ↔ x ∈ l := by
  have hd : ∀ j k, j ≤ k → k < l.toArray.size → ¬ ltA l.toArray[k]! l.toArray[j]! := by
    intro j k hjk hk
    have hk' : k < l.length := by simpa using hk
    rw [getElem!_pos l.toArray k hk, getElem!_pos l.toArray j (by omega)]
    rcases Nat.lt_or_ge j k with hlt | hge
    · have := (List.pairwise_iff_getElem.1 h) j k (by omega) hk' hlt
      simpa using this
    · have : j = k := by omega
      subst this
      unfold ltA; omega
  obtain ⟨h1, h2⟩ := compactA_up hd l.length (by simp)
  refine ⟨h1, fun x => (h2 x).trans ⟨?_, ?_⟩⟩
  · rintro ⟨j, hj, rfl⟩
    rw [getElem!_pos l.toArray j (by simpa using hj)]
    simp
  · intro hx
    obtain ⟨j, hj, rfl⟩ := List.getElem_of_mem hx
    exact ⟨j, hj, by rw [getElem!_pos l.toArray j (by simpa using hj)]; simp⟩
end RE
end Go.Proofs.YtblcakaohlgagaaGreat
set_option maxRecDepth 100000
set_option linter.unusedVariables false
namespace Go.Proofs.YtblcakaohlgagaaGreat
open Go.RowKit
namespace RE
open PL

namespace PL
/-- A pair of applications, one of each list. -/
def prP (A B : List api_Place) (x : arr2_i64) : Prop := x.e0 < x.e1 ∧ (∃ p ∈ A, p.1 = x.e0) ∧ ∃ q ∈ B, q.1 = x.e1
/-- What Partners returns. -/
def partP (d : List api_Double) (l : List arr2_i64) : Prop := l.Pairwise ltA ∧ ∀ x, x ∈ l ↔ ∃ y ∈ d, prP y.2 y.2 x
end PL
theorem pr_a {A B : List api_Place} {p : api_Place} {x : arr2_i64} : prP (A ++ [p]) B x ↔ prP A B x ∨ prP [p] B x := by
  unfold prP
  simp only [List.mem_append, List.mem_singleton]
  constructor
  · rintro ⟨h, ⟨a, ha, e⟩, hb⟩
    rcases ha with ha | ha
    · exact .inl ⟨h, ⟨a, ha, e⟩, hb⟩
    · exact .inr ⟨h, ⟨a, ha, e⟩, hb⟩
  · rintro (⟨h, ⟨a, ha, e⟩, hb⟩ | ⟨h, ⟨a, ha, e⟩, hb⟩)
    · exact ⟨h, ⟨a, .inl ha, e⟩, hb⟩
    · exact ⟨h, ⟨a, .inr ha, e⟩, hb⟩
theorem pr_b {A B : List api_Place} {p : api_Place} {x : arr2_i64} : prP A (B ++ [p]) x ↔ prP A B x ∨ prP A [p] x := by
  unfold prP
  simp only [List.mem_append, List.mem_singleton]
  constructor
  · rintro ⟨h, hb, ⟨a, ha, e⟩⟩
    rcases ha with ha | ha
    · exact .inl ⟨h, hb, ⟨a, ha, e⟩⟩
    · exact .inr ⟨h, hb, ⟨a, ha, e⟩⟩
  · rintro (⟨h, hb, ⟨a, ha, e⟩⟩ | ⟨h, hb, ⟨a, ha, e⟩⟩)
    · exact ⟨h, hb, ⟨a, .inl ha, e⟩⟩
    · exact ⟨h, hb, ⟨a, .inr ha, e⟩⟩
theorem pr_one {p q : api_Place} {x : arr2_i64} : prP [p] [q] x ↔ p.1 < q.1 ∧ x = ⟨p.1, q.1⟩ := by
  obtain ⟨a, b⟩ := x
  unfold prP
  simp only [List.mem_singleton]
  constructor
  · rintro ⟨h, ⟨a, rfl, e⟩, ⟨b, rfl, f⟩⟩
    have e : a.1 = _ := e
    have f : b.1 = _ := f
    subst e f
    exact ⟨h, rfl⟩
  · rintro ⟨h, e⟩
    injection e with e f
    subst e f
    exact ⟨h, ⟨p, rfl, rfl⟩, ⟨q, rfl, rfl⟩⟩
theorem pr_nilA {B : List api_Place} {x : arr2_i64} : ¬ prP [] B x := fun ⟨_, ⟨_, h, _⟩, _⟩ => by cases h
theorem pr_nilB {A : List api_Place} {x : arr2_i64} : ¬ prP A [] x := fun ⟨_, _, ⟨_, h, _⟩⟩ => by cases h
def ptA (d : List api_Double) (z : Int) (b : List arr2_i64) : Prop := ∃ k : Nat, z = (k : Int) ∧ k ≤ d.length ∧ b.length ≤ 3600 * k ∧ ∀ x, x ∈ b ↔ ∃ y ∈ d.take k, prP y.2 y.2 x
def ptB (d : List api_Double) (k : Nat) (c : List api_Place) (z : Int) (b : List arr2_i64) : Prop := ∃ j : Nat, z = (j : Int) ∧ j ≤ c.length ∧ b.length ≤ 3600 * k + 60 * j ∧ ∀ x, x ∈ b ↔ (∃ y ∈ d.take k, prP y.2 y.2 x) ∨ prP (c.take j) c x
def ptC (d : List api_Double) (k : Nat) (c : List api_Place) (j : Nat) (p : api_Place) (z : Int) (b : List arr2_i64) : Prop := ∃ i : Nat, z = (i : Int) ∧ i ≤ c.length ∧ b.length ≤ 3600 * k + 60 * j + i ∧ ∀ x, x ∈ b ↔ ((∃ y ∈ d.take k, prP y.2 y.2 x) ∨ prP (c.take j) c x) ∨ prP [p] (c.take i) x

def pparts_P (d : List (api_Double)) (post : List (arr2_i64) → Int → Prop) : Prop := (d.length ≤ 200 ∧ ∀ x ∈ d, x.2.length ≤ 60) ∧ ∀ l : List arr2_i64, partP d l → post l 0
def pparts_sp : Spec := ⟨30, false, true, [.sl (.st .api_Double)], .tup [.dat (.sl (.st .arr2_i64)), .dat (.int .i64)], fun x post => pparts_P (x.1 : List (api_Double)) (fun y0 y1 => post (y0, y1, ()))⟩
def pparts_C : CtxR := ⟨tau, [rule3 psortA_sp, rule2 pcompA_sp], lookJ [(0, 11, ⟨[(16, .dat (.int .i64)), (4, .own 70 (.st .arr2_i64))], [], [17, 18, 19, 6, 20, 21, 22, 48, 31, 30, 46, 45, 44, 43, 42, 41, 40, 39, 38, 37, 36, 35, 34, 10, 33, 32, 47, 29, 28, 27, 8, 26, 25, 23, 24, 49], [], []⟩), (0, 17, ⟨[(23, .dat (.int .i64)), (4, .own 70 (.st .arr2_i64))], [], [24, 25, 26, 8, 27, 28, 29, 47, 32, 33, 10, 34, 35, 36, 37, 38, 39, 40, 41, 42, 43, 44, 45, 46, 30, 31, 48], [0], []⟩), (0, 23, ⟨[(30, .dat (.int .i64)), (4, .own 70 (.st .arr2_i64))], [], [31, 46, 45, 44, 43, 42, 41, 40, 39, 38, 37, 36, 35, 34, 10, 33, 32, 47], [2], []⟩), (0, 30, ⟨[(4, .own 70 (.st .arr2_i64))], [], [32, 33, 10, 34, 35, 36, 37, 38, 39, 40, 41, 42, 43, 44, 45, 46], [4], []⟩)]⟩
def pparts_W (d : List (api_Double)) (post : List (arr2_i64) → Int → Prop) : Prop := (↑d.length : Int) ≤ (9223372036854775807 : Int) → IFB (decide ((200 : Int) < (↑d.length : Int))) (post [] (1 : Int)) ((↑d.length : Int) ≤ (9223372036854775807 : Int) → LOOP [Ty.int IntKind.i64, (Ty.st Sn.arr2_i64).sl] (fun (rec1 : Int → List arr2_i64 → Prop) (z2 : Int) (z3 : List arr2_i64) ↦ IFB (decide (z2 < (↑d.length : Int))) (((0 : Int) ≤ z2 ∧ z2 < (↑d.length : Int)) ∧ ((↑(ix d z2).2.length : Int) ≤ (9223372036854775807 : Int) → LOOP [Ty.int IntKind.i64, (Ty.st Sn.arr2_i64).sl] (fun (rec4 : Int → List arr2_i64 → Prop) (z5 : Int) (z6 : List arr2_i64) ↦ IFB (decide (z5 < (↑(ix d z2).2.length : Int))) (((0 : Int) ≤ z5 ∧ z5 < (↑(ix d z2).2.length : Int)) ∧ ((↑(ix d z2).2.length : Int) ≤ (9223372036854775807 : Int) → LOOP [Ty.int IntKind.i64, (Ty.st Sn.arr2_i64).sl] (fun (rec7 : Int → List arr2_i64 → Prop) (z8 : Int) (z9 : List arr2_i64) ↦ IFB (decide (z8 < (↑(ix d z2).2.length : Int))) (JOIN [(Ty.st Sn.arr2_i64).sl] (fun (y10 : List arr2_i64) ↦ rec7 (IntKind.i64.wrap (z8 + (1 : Int))) y10) fun (J11 : List arr2_i64 → Prop) ↦ ((0 : Int) ≤ z8 ∧ z8 < (↑(ix d z2).2.length : Int)) ∧ IFB (decide ((ix (ix d z2).2 z5).1 < (ix (ix d z2).2 z8).1)) ((z9.length + [{ e0 := (ix (ix d z2).2 z5).1, e1 := (ix (ix d z2).2 z8).1 : arr2_i64 }].length) * (16 : Nat) ≤ (140737488355328 : Nat) ∧ J11 (z9 ++ [{ e0 := (ix (ix d z2).2 z5).1, e1 := (ix (ix d z2).2 z8).1 : arr2_i64 }])) (J11 z9)) (rec4 (IntKind.i64.wrap (z5 + (1 : Int))) z9)) ((0 : Int), z6, PUnit.unit))) (rec1 (IntKind.i64.wrap (z2 + (1 : Int))) z6)) ((0 : Int), z3, PUnit.unit))) (z3.length ≤ (1000000 : Nat) ∧ ∀ (v12 : List arr2_i64), v12.Perm z3 → List.Pairwise (fun (a b : arr2_i64) ↦ ltA b a → False) v12 → v12.length ≤ (1000000 : Nat) ∧ post (compA v12) (0 : Int))) ((0 : Int), [], PUnit.unit))
theorem pparts_w (d : List (api_Double)) (post : dens (shT pparts_sp.rs []) → Prop) : pparts_W d (fun y0 y1 => post (y0, y1, ())) = walkG (callR Tryz.prog pparts_C (drawR Tryz.prog tau) 8 0) 30 false [tv (.sl (.st .api_Double)) d] pparts_sp.rs post := by kernel_rfl
theorem pparts_of (h : ∀ (d : List (api_Double)) (post : List (arr2_i64) → Int → Prop), pparts_P d post → pparts_W d post) : SpecOK Tryz.prog pparts_sp := SpecOK.of_rules (C := pparts_C) (dr := drawR Tryz.prog tau) (n := 8) (fk := 0) (.cons (rule3_ok psortA_ok) (.cons (rule2_ok pcompA_ok) .nil)) (drawR_ok tau) fun x post hp => HoldW.of (pparts_w x.1 post) (h x.1 (fun y0 y1 => post (y0, y1, ())) hp)
set_option maxHeartbeats 2000000 in
theorem pparts_ok : SpecOK Tryz.prog pparts_sp := pparts_of fun d post hp => by
  obtain ⟨⟨hd, hcl⟩, hp⟩ := hp
  unfold pparts_W
  refine fun _ => IFB.no (decide_eq_false (by omega)) fun _ => ?_
  refine LOOP.fuel (fun u => ptA d u.1 u.2.1) (fun u => d.length - Int.toNat u.1) ⟨0, rfl, Nat.zero_le _, Nat.le_refl _, fun x => ⟨fun h => (by cases h), fun ⟨y, hy, _⟩ => (by cases hy)⟩⟩ ?_
  rintro rec ⟨(z : Int), (b : List arr2_i64), ⟨⟩⟩ ⟨k, i1, i2, i3, i4⟩ hrec
  have i1 : z = (k : Int) := i1
  have i3 : b.length ≤ 3600 * k := i3
  have q4 : ∀ x, x ∈ b ↔ ∃ y ∈ d.take k, prP y.2 y.2 x := i4
  clear i4
  subst i1
  refine IFB.mk (fun hb => ?_) (fun hb => ?_)
  · have hb : (k : Int) < d.length := of_decide_eq_true hb
    have hk : k < d.length := by omega
    obtain ⟨y, hy⟩ : ∃ y, ix d (k : Int) = y := ⟨_, rfl⟩
    have hym : y ∈ d := by rw [← hy]; exact ix_mem (by omega) hb
    have htk : d.take (k + 1) = d.take k ++ [y] := by rw [List.take_succ_eq_append_getElem hk, ← ix_lt hk, hy]
    dsimp only
    rw [hy]
    obtain ⟨c, hc⟩ : ∃ c, y.2 = c := ⟨_, rfl⟩
    have hc60 : c.length ≤ 60 := by rw [← hc]; exact hcl y hym
    rw [hc]
    refine ⟨⟨by omega, hb⟩, fun _ => ?_⟩
    refine LOOP.fuel (fun u => ptB d k c u.1 u.2.1) (fun u => c.length - Int.toNat u.1) ⟨0, rfl, Nat.zero_le _, i3, fun x => (q4 x).trans ⟨.inl, fun h => h.elim id fun h => absurd h pr_nilA⟩⟩ ?_
    rintro rec2 ⟨(z2 : Int), (b2 : List arr2_i64), ⟨⟩⟩ ⟨j, j1, j2, j3, j4⟩ hrec2
    have j1 : z2 = (j : Int) := j1
    have j3 : b2.length ≤ 3600 * k + 60 * j := j3
    have r4 : ∀ x, x ∈ b2 ↔ (∃ y ∈ d.take k, prP y.2 y.2 x) ∨ prP (c.take j) c x := j4
    clear j4
    subst j1
    refine IFB.mk (fun hb2 => ?_) (fun hb2 => ?_)
    · have hb2 : (j : Int) < c.length := of_decide_eq_true hb2
      have hj : j < c.length := by omega
      obtain ⟨p, hp2⟩ : ∃ p, ix c (j : Int) = p := ⟨_, rfl⟩
      have htj : c.take (j + 1) = c.take j ++ [p] := by rw [List.take_succ_eq_append_getElem hj, ← ix_lt hj, hp2]
      dsimp only
      rw [hp2]
      refine ⟨⟨by omega, hb2⟩, fun _ => ?_⟩
      refine LOOP.fuel (fun u => ptC d k c j p u.1 u.2.1) (fun u => c.length - Int.toNat u.1) ⟨0, rfl, Nat.zero_le _, j3, fun x => (r4 x).trans ⟨.inl, fun h => h.elim id fun h => absurd h pr_nilB⟩⟩ ?_
      rintro rec3 ⟨(z3 : Int), (b3 : List arr2_i64), ⟨⟩⟩ ⟨i, l1, l2, l3, l4⟩ hrec3
      have l1 : z3 = (i : Int) := l1
      have l3 : b3.length ≤ 3600 * k + 60 * j + i := l3
      have s4 : ∀ x, x ∈ b3 ↔ ((∃ y ∈ d.take k, prP y.2 y.2 x) ∨ prP (c.take j) c x) ∨ prP [p] (c.take i) x := l4
      clear l4
      subst l1
      refine IFB.mk (fun hb3 => JOIN.opq fun (J : List arr2_i64 → Prop) hJ => ?_) (fun hb3 => ?_)
      · have hb3 : (i : Int) < c.length := of_decide_eq_true hb3
        have hi : i < c.length := by omega
        obtain ⟨q, hq⟩ : ∃ q, ix c (i : Int) = q := ⟨_, rfl⟩
        have hti : c.take (i + 1) = c.take i ++ [q] := by rw [List.take_succ_eq_append_getElem hi, ← ix_lt hi, hq]
        have fin : ∀ y : List arr2_i64, y.length ≤ b3.length + 1 → (∀ x, x ∈ y ↔ x ∈ b3 ∨ prP [p] [q] x) → J y := fun y a1 a2 => by
          rw [hJ]
          show rec3 (IntKind.i64.wrap ((i : Int) + 1)) y
          rw [wrapS (by omega)]
          refine hrec3 (((i + 1 : Nat) : Int), y, ()) ⟨i + 1, rfl, hi, by show y.length ≤ _; omega, fun x => ?_⟩ (by show c.length - ((i + 1 : Nat) : Int).toNat < c.length - (i : Int).toNat; omega)
          show x ∈ y ↔ _
          rw [a2, s4, hti, pr_b, or_assoc]
        dsimp only
        rw [hq]
        refine ⟨⟨by omega, hb3⟩, IFB.mk (fun hn => ⟨by simp only [List.length_cons, List.length_nil]; omega, fin _ (by simp) fun x => ?_⟩) (fun hn => fin b3 (by omega) fun x => ?_)⟩
        · have hn : p.1 < q.1 := of_decide_eq_true hn
          rw [List.mem_append, List.mem_singleton, pr_one]
          exact ⟨fun h => h.elim .inl fun h => .inr ⟨hn, h⟩, fun h => h.elim .inl fun h => .inr h.2⟩
        · have hn : ¬ p.1 < q.1 := of_decide_eq_false hn
          rw [pr_one]
          exact ⟨.inl, fun h => h.elim id fun h => absurd h.1 hn⟩
      · have hb3 : ¬ (i : Int) < c.length := of_decide_eq_false hb3
        have hi : i = c.length := by omega
        show rec2 (IntKind.i64.wrap ((j : Int) + 1)) b3
        rw [wrapS (by omega)]
        refine hrec2 (((j + 1 : Nat) : Int), b3, ()) ⟨j + 1, rfl, hj, by show b3.length ≤ _; omega, fun x => ?_⟩ (by show c.length - ((j + 1 : Nat) : Int).toNat < c.length - (j : Int).toNat; omega)
        show x ∈ b3 ↔ _
        rw [s4, hi, List.take_length, htj, pr_a, or_assoc]
    · have hb2 : ¬ (j : Int) < c.length := of_decide_eq_false hb2
      have hj : j = c.length := by omega
      show rec (IntKind.i64.wrap ((k : Int) + 1)) b2
      rw [wrapS (by omega)]
      refine hrec (((k + 1 : Nat) : Int), b2, ()) ⟨k + 1, rfl, hk, by show b2.length ≤ _; omega, fun x => ?_⟩ (by show d.length - ((k + 1 : Nat) : Int).toNat < d.length - (k : Int).toNat; omega)
      show x ∈ b2 ↔ _
      rw [r4, hj, List.take_length, htk, ← hc]
      constructor
      · rintro (⟨y, h1, h2⟩ | h)
        · exact ⟨y, List.mem_append.2 (.inl h1), h2⟩
        · exact ⟨y, List.mem_append.2 (.inr (List.mem_singleton.2 rfl)), h⟩
      · rintro ⟨w, h1, h2⟩
        rcases List.mem_append.1 h1 with h1 | h1
        · exact .inl ⟨w, h1, h2⟩
        · rw [List.mem_singleton] at h1
          subst h1
          exact .inr h2
  · have hb : ¬ (k : Int) < d.length := of_decide_eq_false hb
    have hk : k = d.length := by omega
    rw [hk, List.take_length] at q4
    refine ⟨by omega, fun l2 h1 h2 => ⟨by rw [h1.length_eq]; omega, hp _ ?_⟩⟩
    obtain ⟨c1, c2⟩ := compactA_sorted (l := l2) h2
    exact ⟨c1, fun x => (c2 x).trans ((h1.mem_iff).trans (q4 x))⟩

end RE
end Go.Proofs.YtblcakaohlgagaaGreat
set_option maxRecDepth 100000
set_option linter.unusedVariables false
namespace Go.Proofs.YtblcakaohlgagaaGreat
open Go.RowKit
namespace RE
open PL

namespace PL
/-- Is a claim of an application among these? -/
def clmB (c : List api_Place) (n : Int) : Bool := c.any fun p => decide (p.1 = n)
/-- Of the first k doubles those in which an application has a claim. -/
def invN (l : List api_Double) (n : Int) (k : Nat) : List Int := ((List.range k).filter fun (i : Nat) => clmB (ix l (i : Int)).2 n).map fun (i : Nat) => (i : Int)
end PL
theorem invN_succ (l : List api_Double) (n : Int) (k : Nat) : invN l n (k + 1) = invN l n k ++ if clmB (ix l (k : Int)).2 n then [(k : Int)] else [] := by
  unfold invN
  rw [List.range_succ, List.filter_append, List.map_append]
  congr 1
  cases h : clmB (ix l (k : Int)).2 n <;> simp [h]
theorem invN_len (l : List api_Double) (n : Int) (k : Nat) : (invN l n k).length ≤ k := by
  unfold invN
  rw [List.length_map]
  exact Nat.le_trans (List.length_filter_le _ _) (Nat.le_of_eq (List.length_range ..))
theorem mem_invN {l : List api_Double} {n : Int} {k i : Nat} : (i : Int) ∈ invN l n k ↔ i < k ∧ clmB (ix l (i : Int)).2 n = true := by
  unfold invN
  rw [List.mem_map]
  constructor
  · rintro ⟨j, hj, e⟩
    have : j = i := by omega
    subst this
    rw [List.mem_filter, List.mem_range] at hj
    exact hj
  · intro h
    exact ⟨i, List.mem_filter.2 ⟨List.mem_range.2 h.1, h.2⟩, rfl⟩
theorem clmB_iff {c : List api_Place} {n : Int} : clmB c n = true ↔ ∃ p ∈ c, p.1 = n := by
  unfold clmB
  rw [List.any_eq_true]
  exact ⟨fun ⟨p, h, e⟩ => ⟨p, h, of_decide_eq_true e⟩, fun ⟨p, h, e⟩ => ⟨p, h, decide_eq_true e⟩⟩
theorem all_ixP {α : Type} [Inhabited α] {l : List α} {p : α → Prop} (h : ∀ k : Nat, k < l.length → p (ix l (k : Int))) : ∀ x ∈ l, p x := fun x hx => by
  obtain ⟨j, hj, rfl⟩ := List.getElem_of_mem hx
  have := h j hj
  rwa [ix_lt hj] at this

def rhas_P (l : List (Int)) (n : Int) (post : Bool → Prop) : Prop := l.length ≤ 1000000 ∧ ∀ b : Bool, (b = true ↔ n ∈ l) → post b
def rhas_sp : Spec := ⟨35, false, true, [.sl (.int .i64), .int .i64], .dat (.bool), fun x post => rhas_P (x.1 : List (Int)) (x.2.1 : Int) (fun y0 => post (y0, ()))⟩
def rhas_C : CtxR := ⟨tau, [], lookJ [(0, 5, ⟨[(9, .dat (.int .i64))], [], [10, 11, 12, 6, 13, 14, 15, 16], [], []⟩)]⟩
def rhas_W (l : List (Int)) (n : Int) (post : Bool → Prop) : Prop := (↑l.length : Int) ≤ (9223372036854775807 : Int) → LOOP [Ty.int IntKind.i64] (fun (rec1 : Int → Prop) (z2 : Int) ↦ IFB (decide (z2 < (↑l.length : Int))) (((0 : Int) ≤ z2 ∧ z2 < (↑l.length : Int)) ∧ IFB (decide (ix l z2 = n)) (post true) (rec1 (IntKind.i64.wrap (z2 + (1 : Int))))) (post false)) ((0 : Int), PUnit.unit)
theorem rhas_w (l : List (Int)) (n : Int) (post : dens (shT rhas_sp.rs []) → Prop) : rhas_W l n (fun y0 => post (y0, ())) = walkG (callR Tryz.prog rhas_C (drawR Tryz.prog tau) 8 0) 35 false [tv (.sl (.int .i64)) l, tv (.int .i64) n] rhas_sp.rs post := by kernel_rfl
theorem rhas_of (h : ∀ (l : List (Int)) (n : Int) (post : Bool → Prop), rhas_P l n post → rhas_W l n post) : SpecOK Tryz.prog rhas_sp := SpecOK.of_rules (C := rhas_C) (dr := drawR Tryz.prog tau) (n := 8) (fk := 0) .nil (drawR_ok tau) fun x post hp => HoldW.of (rhas_w x.1 x.2.1 post) (h x.1 x.2.1 (fun y0 => post (y0, ())) hp)
theorem rhas_ok : SpecOK Tryz.prog rhas_sp := rhas_of fun l n post ⟨hl, hp⟩ => by
  unfold rhas_W
  refine fun hlen => loopCmp (n := l.length) (by omega) (p := fun k => ix l (k : Int) ≠ n) (fun rec k hk hpre hrec => ?_) fun hall => ?_
  · refine ⟨⟨by omega, by omega⟩, IFB.mk (fun h => hp true ⟨fun _ => ?_, fun _ => rfl⟩) (fun h => hrec (of_decide_eq_false h))⟩
    have h : ix l (k : Int) = n := of_decide_eq_true h
    rw [← h]; exact ix_mem (by omega) (by omega)
  · refine hp false ⟨fun h => (by cases h), fun h => ?_⟩
    exact absurd rfl (all_ixP (p := fun x => x ≠ n) hall n h)

def pinv_P (l : List (api_Double)) (n : Int) (post : List (Int) → Prop) : Prop := (l.length ≤ 1000000 ∧ ∀ x ∈ l, x.2.length ≤ 1000000) ∧ post (invN l n l.length)
def pinv_sp : Spec := ⟨33, false, true, [.sl (.st .api_Double), .int .i64], .dat (.sl (.int .i64)), fun x post => pinv_P (x.1 : List (api_Double)) (x.2.1 : Int) (fun y0 => post (y0, ()))⟩
def pinv_C : CtxR := ⟨tau, [], lookJ [(0, 7, ⟨[(10, .dat (.int .i64)), (5, .own 3 (.int .i64))], [], [11, 22, 21, 20, 19, 18, 17, 16, 15, 6, 7, 14, 13, 12, 23], [], []⟩), (0, 14, ⟨[(5, .own 3 (.int .i64))], [], [12, 13, 14, 7, 6, 15, 16, 17, 18, 19, 20, 21, 22], [1], []⟩), (5325832093, 0, ⟨[(0, .dat (.int .i64))], [], [], [], []⟩), (5325832093, 5, ⟨[(8, .dat (.int .i64))], [], [9, 10, 5, 11, 12, 13, 14, 15, 16, 18], [], []⟩)]⟩
def pinv_W (l : List (api_Double)) (n : Int) (post : List (Int) → Prop) : Prop := (↑l.length : Int) ≤ (9223372036854775807 : Int) → LOOP [Ty.int IntKind.i64, (Ty.int IntKind.i64).sl] (fun (rec1 : Int → List Int → Prop) (z2 : Int) (z3 : List Int) ↦ IFB (decide (z2 < (↑l.length : Int))) (JOIN [(Ty.int IntKind.i64).sl] (fun (y4 : List Int) ↦ rec1 (IntKind.i64.wrap (z2 + (1 : Int))) y4) fun (J5 : List Int → Prop) ↦ ((0 : Int) ≤ z2 ∧ z2 < (↑l.length : Int)) ∧ JOIN [Ty.int IntKind.i64] (fun (y6 : Int) ↦ IFB (decide ((0 : Int) ≤ y6)) ((z3.length + [z2].length) * (8 : Nat) ≤ (140737488355328 : Nat) ∧ J5 (z3 ++ [z2])) (J5 z3)) fun (J7 : Int → Prop) ↦ (↑(ix l z2).2.length : Int) ≤ (9223372036854775807 : Int) → LOOP [Ty.int IntKind.i64] (fun (rec8 : Int → Prop) (z9 : Int) ↦ IFB (decide (z9 < (↑(ix l z2).2.length : Int))) (((0 : Int) ≤ z9 ∧ z9 < (↑(ix l z2).2.length : Int)) ∧ IFB (decide ((ix (ix l z2).2 z9).1 = n)) (J7 z9) (rec8 (IntKind.i64.wrap (z9 + (1 : Int))))) (J7 (-1 : Int))) ((0 : Int), PUnit.unit)) (post z3)) ((0 : Int), [], PUnit.unit)
theorem pinv_w (l : List (api_Double)) (n : Int) (post : dens (shT pinv_sp.rs []) → Prop) : pinv_W l n (fun y0 => post (y0, ())) = walkG (callR Tryz.prog pinv_C (drawR Tryz.prog tau) 8 0) 33 false [tv (.sl (.st .api_Double)) l, tv (.int .i64) n] pinv_sp.rs post := by kernel_rfl
theorem pinv_of (h : ∀ (l : List (api_Double)) (n : Int) (post : List (Int) → Prop), pinv_P l n post → pinv_W l n post) : SpecOK Tryz.prog pinv_sp := SpecOK.of_rules (C := pinv_C) (dr := drawR Tryz.prog tau) (n := 8) (fk := 0) .nil (drawR_ok tau) fun x post hp => HoldW.of (pinv_w x.1 x.2.1 post) (h x.1 x.2.1 (fun y0 => post (y0, ())) hp)
def ivI (l : List api_Double) (n : Int) (z : Int) (b : List Int) : Prop := ∃ k : Nat, z = (k : Int) ∧ k ≤ l.length ∧ b = invN l n k
theorem pinv_ok : SpecOK Tryz.prog pinv_sp := pinv_of fun l n post hp => by
  obtain ⟨⟨hl, hcl⟩, hp⟩ := hp
  unfold pinv_W
  refine fun _ => LOOP.fuel (fun u => ivI l n u.1 u.2.1) (fun u => l.length - Int.toNat u.1) ⟨0, rfl, Nat.zero_le _, rfl⟩ ?_
  rintro rec ⟨(z : Int), (b : List Int), ⟨⟩⟩ ⟨k, i1, i2, i3⟩ hrec
  have i1 : z = (k : Int) := i1
  have q3 : b = invN l n k := i3
  clear i3
  subst i1
  refine IFB.mk (fun hb => JOIN.opq fun (J : List Int → Prop) hJ => ?_) (fun hb => ?_)
  · have hb : (k : Int) < l.length := of_decide_eq_true hb
    have hk : k < l.length := by omega
    obtain ⟨c, hc⟩ : ∃ c, (ix l (k : Int)).2 = c := ⟨_, rfl⟩
    have hc6 : c.length ≤ 1000000 := by rw [← hc]; exact hcl _ (ix_mem (by omega) hb)
    have hbl : b.length ≤ k := by rw [q3]; exact invN_len l n k
    have fin : ∀ y, y = b ++ (if clmB c n then [(k : Int)] else []) → J y := fun y hy => by
      rw [hJ]
      show rec (IntKind.i64.wrap ((k : Int) + 1)) y
      rw [wrapS (by omega)]
      refine hrec (((k + 1 : Nat) : Int), y, ()) ⟨k + 1, rfl, hk, ?_⟩ (by show l.length - ((k + 1 : Nat) : Int).toNat < l.length - (k : Int).toNat; omega)
      show y = _
      rw [hy, invN_succ, ← q3, hc]
    dsimp only
    rw [hc]
    refine ⟨⟨by omega, hb⟩, JOIN.opq fun (M : Int → Prop) hM _ => ?_⟩
    refine loopCmp (n := c.length) (by omega) (p := fun i => (ix c (i : Int)).1 ≠ n) (fun rec2 i hi hpre hrec2 => ?_) fun hall => ?_
    · refine ⟨⟨by omega, by omega⟩, IFB.mk (fun h => ?_) (fun h => hrec2 (of_decide_eq_false h))⟩
      have h : (ix c (i : Int)).1 = n := of_decide_eq_true h
      have hcB : clmB c n = true := clmB_iff.2 ⟨_, ix_mem (l := c) (by omega) (by omega), h⟩
      rw [hM]
      refine IFB.mk (fun _ => ⟨by simp only [List.length_cons, List.length_nil]; omega, fin _ (by rw [hcB]; rfl)⟩) (fun h => absurd (of_decide_eq_false h) (by omega))
    · have hcB : clmB c n = false := by
        cases h : clmB c n
        · rfl
        · obtain ⟨p, h1, h2⟩ := clmB_iff.1 h
          exact absurd h2 (all_ixP (p := fun x => x.1 ≠ n) hall p h1)
      rw [hM]
      refine IFB.mk (fun h => absurd (of_decide_eq_true h) (by decide)) (fun _ => fin _ (by rw [hcB]; simp))
  · have hb : ¬ (k : Int) < l.length := of_decide_eq_false hb
    have hk : k = l.length := by omega
    rw [hk] at q3
    rw [q3]; exact hp

end RE
end Go.Proofs.YtblcakaohlgagaaGreat
set_option maxRecDepth 100000
set_option linter.unusedVariables false
namespace Go.Proofs.YtblcakaohlgagaaGreat
open Go.RowKit
namespace RE
open PL

def lPartners_C : CtxR := ⟨tau, [ruleN 10, rule1 kcrops_sp, rule1 kvers_sp, rule1 pdbl_sp, rule1 pparts_sp, rule1 rwit_sp, rule1 rhas_sp, rule1 pinv_sp, rule1 rmeet_sp, rule1 pawake_sp], lookJ [(0, 77, ⟨[(172, .dat (.int .i64))], [], [173, 174, 175, 176, 21, 20, 177, 178, 179, 180, 181, 182, 218, 183, 184, 185, 186, 187, 188, 189, 190, 191, 192, 193, 194, 195, 196, 197, 198, 199, 200, 201, 202, 203, 204, 205, 206, 207, 208, 209, 210, 211, 212, 213, 214, 215, 216, 217, 219], [], []⟩), (0, 17, ⟨[(46, .dat (.int .i64))], [], [47, 48, 49, 50, 10, 9, 51, 52, 53, 54, 55, 61, 56, 57, 58, 59, 60, 62, 63, 64, 154, 126, 125, 127, 128, 14, 129, 130, 131, 132, 133, 134, 135, 150, 148, 147, 146, 145, 144, 143, 142, 149, 141, 140, 17, 139, 138, 15, 136, 137, 151, 152, 153, 124, 123, 122, 121, 69, 70, 71, 72, 78, 79, 83, 84, 95, 96, 112, 113, 73, 74, 75, 76, 77, 80, 81, 82, 85, 86, 87, 88, 89, 90, 91, 92, 93, 94, 97, 98, 99, 100, 101, 102, 103, 104, 105, 106, 107, 108, 109, 110, 111, 114, 115, 116, 117, 118, 119, 120, 12, 68, 67, 65, 66, 155, 156, 157, 158, 168, 167, 166, 165, 164, 163, 19, 162, 161, 159, 160, 169], [], []⟩), (0, 63, ⟨[(159, .dat (.int .i64))], [], [160, 161, 162, 19, 163, 164, 165, 166, 167, 168], [], []⟩), (0, 27, ⟨[(65, .dat (.int .i64))], [], [66, 67, 68, 12, 120, 119, 118, 117, 116, 115, 114, 111, 110, 109, 108, 107, 106, 105, 104, 103, 102, 101, 100, 99, 98, 97, 94, 93, 92, 91, 90, 89, 88, 87, 86, 85, 82, 81, 80, 77, 76, 75, 74, 73, 113, 112, 96, 95, 84, 83, 79, 78, 72, 71, 70, 69, 121, 122, 123, 124, 153, 152, 151, 137, 136, 15, 138, 139, 17, 140, 141, 149, 142, 143, 144, 145, 146, 147, 148, 150, 135, 134, 133, 132, 131, 130, 129, 14, 128, 127, 125, 126, 154], [], []⟩), (0, 37, ⟨[(125, .dat (.int .i64))], [], [126, 127, 128, 14, 129, 130, 131, 132, 133, 134, 135, 150, 148, 147, 146, 145, 144, 143, 142, 149, 141, 140, 17, 139, 138, 15, 136, 137, 151, 152, 153], [], []⟩), (0, 45, ⟨[(136, .dat (.int .i64)), (15, .dat .bool)], [], [137, 138, 139, 17, 140, 141, 149, 142, 143, 144, 145, 146, 147, 148, 150], [], []⟩), (0, 1000015, ⟨[(121, .dat .bool)], [], [69, 70, 71, 72, 78, 79, 83, 84, 95, 96, 112, 113, 73, 74, 75, 76, 77, 80, 81, 82, 85, 86, 87, 88, 89, 90, 91, 92, 93, 94, 97, 98, 99, 100, 101, 102, 103, 104, 105, 106, 107, 108, 109, 110, 111, 114, 115, 116, 117, 118, 119, 120], [], []⟩)]⟩
def lPartners_W (l : List (Int)) (post : Bool → Prop) : Prop := ∀ (v1 : List api_Crop), (3 : Nat) ≤ v1.length ∧ v1.length ≤ (8 : Nat) → ((1 : Nat) ≤ v1.length ∧ v1.length ≤ (1000 : Nat) ∧ (1 : Int) ≤ (3 : Int) ∧ (3 : Int) ≤ (10 : Int)) ∧ ∀ (v2 : List api_Version), madeV (3 : Int) v2 → ((v2.length ≤ (1000 : Nat) ∧ ∀ (v3 : api_Version), v3 ∈ v2 → v3.2.length ≤ (1000 : Nat)) ∧ (beginF v2 = (0 : Int) → (linV v2).length ≤ (60 : Nat) ∧ List.Pairwise (fun (x1 x2 : api_Place) ↦ x1 = x2 → False) (List.map (fun (x : crosscheck_line) ↦ x.1) (linV v2)) ∧ ∀ (v4 : crosscheck_line), v4 ∈ linV v2 → (∀ (v5 : api_Rect), v5 ∈ v4.2 → (0 : Int) ≤ v5.1 ∧ v5.1 < v5.3 ∧ v5.3 ≤ (30 : Int) ∧ (0 : Int) ≤ v5.2 ∧ v5.2 < v5.4 ∧ v5.4 ≤ (10 : Int)) ∧ v4.2.length ≤ (120 : Nat))) ∧ ∀ (v6 : List api_Double) (v7 : Int), dblR v2 v6 v7 → (v6.length ≤ (200 : Nat) ∧ ∀ (v8 : api_Double), v8 ∈ v6 → v8.2.length ≤ (60 : Nat)) ∧ ∀ (v9 : List arr2_i64), partP v6 v9 → IFB (!decide (v7 = (0 : Int)) || !decide ((0 : Int) = (0 : Int))) (post false) ((↑v6.length : Int) ≤ (9223372036854775807 : Int) → LOOP [Ty.int IntKind.i64] (fun (rec10 : Int → Prop) (z11 : Int) ↦ IFB (decide (z11 < (↑v6.length : Int))) (((0 : Int) ≤ z11 ∧ z11 < (↑v6.length : Int)) ∧ ((↑(ix v6 z11).2.length : Int) ≤ (9223372036854775807 : Int) → (gx false (decide ((↑(ix v6 z11).2.length : Int) < (2 : Int))) = true → (↑(ix v6 z11).1.1.length : Int) ≤ (9223372036854775807 : Int)) → IFB (decide ((↑(ix v6 z11).2.length : Int) < (2 : Int)) || decide ((↑(ix v6 z11).1.1.length : Int) = (0 : Int))) (post false) ((↑(ix v6 z11).2.length : Int) ≤ (9223372036854775807 : Int) → LOOP [Ty.int IntKind.i64] (fun (rec12 : Int → Prop) (z13 : Int) ↦ IFB (decide (z13 < (↑(ix v6 z11).2.length : Int))) (((0 : Int) ≤ z13 ∧ z13 < (↑(ix v6 z11).2.length : Int)) ∧ JOIN [Ty.bool] (fun (y14 : Bool) ↦ IFB y14 (post false) ((↑(ix v6 z11).2.length : Int) ≤ (9223372036854775807 : Int) → LOOP [Ty.int IntKind.i64] (fun (rec15 : Int → Prop) (z16 : Int) ↦ IFB (decide (z16 < (↑(ix v6 z11).2.length : Int))) (((0 : Int) ≤ z16 ∧ z16 < (↑(ix v6 z11).2.length : Int)) ∧ ((↑v9.length : Int) ≤ (9223372036854775807 : Int) → LOOP [Ty.int IntKind.i64, Ty.bool] (fun (rec17 : Int → Bool → Prop) (z18 : Int) (z19 : Bool) ↦ IFB (decide (z18 < (↑v9.length : Int))) (((0 : Int) ≤ z18 ∧ z18 < (↑v9.length : Int)) ∧ rec17 (IntKind.i64.wrap (z18 + (1 : Int))) (z19 || decide ((ix v9 z18).1 = (ix (ix v6 z11).2 z16).1) && (decide ((ix v9 z18).2 = (ix (ix v6 z11).2 z13).1) && true))) (IFB (!z19) (post false) (rec15 (IntKind.i64.wrap (z16 + (1 : Int)))))) ((0 : Int), decide ((ix (ix v6 z11).2 z13).1 ≤ (ix (ix v6 z11).2 z16).1), PUnit.unit))) (rec12 (IntKind.i64.wrap (z13 + (1 : Int))))) ((0 : Int), PUnit.unit))) fun (J20 : Bool → Prop) ↦ (gx false (decide ((ix (ix v6 z11).2 z13).1 < (0 : Int))) = true → (↑v2.length : Int) ≤ (9223372036854775807 : Int)) → (gx false (decide ((ix (ix v6 z11).2 z13).1 < (0 : Int)) || decide ((↑v2.length : Int) ≤ (ix (ix v6 z11).2 z13).1) || decide ((ix (ix v6 z11).2 z13).2 < (0 : Int))) = true → (0 : Int) ≤ (ix (ix v6 z11).2 z13).1 ∧ (ix (ix v6 z11).2 z13).1 < (↑v2.length : Int)) ∧ ((gx false (decide ((ix (ix v6 z11).2 z13).1 < (0 : Int)) || decide ((↑v2.length : Int) ≤ (ix (ix v6 z11).2 z13).1) || decide ((ix (ix v6 z11).2 z13).2 < (0 : Int))) = true → (↑(ix v2 (ix (ix v6 z11).2 z13).1).2.length : Int) ≤ (9223372036854775807 : Int)) → (gx false (decide ((ix (ix v6 z11).2 z13).1 < (0 : Int)) || decide ((↑v2.length : Int) ≤ (ix (ix v6 z11).2 z13).1) || decide ((ix (ix v6 z11).2 z13).2 < (0 : Int)) || decide ((↑(ix v2 (ix (ix v6 z11).2 z13).1).2.length : Int) ≤ (ix (ix v6 z11).2 z13).2)) = true → (0 : Int) ≤ (ix (ix v6 z11).2 z13).1 ∧ (ix (ix v6 z11).2 z13).1 < (↑v2.length : Int)) ∧ (gx false (decide ((ix (ix v6 z11).2 z13).1 < (0 : Int)) || decide ((↑v2.length : Int) ≤ (ix (ix v6 z11).2 z13).1) || decide ((ix (ix v6 z11).2 z13).2 < (0 : Int)) || decide ((↑(ix v2 (ix (ix v6 z11).2 z13).1).2.length : Int) ≤ (ix (ix v6 z11).2 z13).2)) = true → (0 : Int) ≤ (ix (ix v6 z11).2 z13).2 ∧ (ix (ix v6 z11).2 z13).2 < (↑(ix v2 (ix (ix v6 z11).2 z13).1).2.length : Int)) ∧ JOIN [Ty.bool] (fun (y21 : Bool) ↦ JOIN [(Ty.int IntKind.i64).sl] (fun (y22 : List Int) ↦ JOIN [Ty.bool] (fun (y23 : Bool) ↦ J20 (decide ((ix (ix v6 z11).2 z13).1 < (0 : Int)) || decide ((↑v2.length : Int) ≤ (ix (ix v6 z11).2 z13).1) || decide ((ix (ix v6 z11).2 z13).2 < (0 : Int)) || decide ((↑(ix v2 (ix (ix v6 z11).2 z13).1).2.length : Int) ≤ (ix (ix v6 z11).2 z13).2) || !y21 || !y23)) fun (J24 : Bool → Prop) ↦ IFB (gx false (decide ((ix (ix v6 z11).2 z13).1 < (0 : Int)) || decide ((↑v2.length : Int) ≤ (ix (ix v6 z11).2 z13).1) || decide ((ix (ix v6 z11).2 z13).2 < (0 : Int)) || decide ((↑(ix v2 (ix (ix v6 z11).2 z13).1).2.length : Int) ≤ (ix (ix v6 z11).2 z13).2) || !y21)) (y22.length ≤ (1000000 : Nat) ∧ ∀ (v25 : Bool), (v25 = true ↔ z11 ∈ y22) → J24 v25) (J24 false)) fun (J26 : List Int → Prop) ↦ IFB (gx false (decide ((ix (ix v6 z11).2 z13).1 < (0 : Int)) || decide ((↑v2.length : Int) ≤ (ix (ix v6 z11).2 z13).1) || decide ((ix (ix v6 z11).2 z13).2 < (0 : Int)) || decide ((↑(ix v2 (ix (ix v6 z11).2 z13).1).2.length : Int) ≤ (ix (ix v6 z11).2 z13).2) || !y21)) ((v6.length ≤ (1000000 : Nat) ∧ ∀ (v27 : api_Double), v27 ∈ v6 → v27.2.length ≤ (1000000 : Nat)) ∧ J26 (invN v6 (ix (ix v6 z11).2 z13).1 v6.length)) (J26 [])) fun (J28 : Bool → Prop) ↦ IFB (gx false (decide ((ix (ix v6 z11).2 z13).1 < (0 : Int)) || decide ((↑v2.length : Int) ≤ (ix (ix v6 z11).2 z13).1) || decide ((ix (ix v6 z11).2 z13).2 < (0 : Int)) || decide ((↑(ix v2 (ix (ix v6 z11).2 z13).1).2.length : Int) ≤ (ix (ix v6 z11).2 z13).2))) (∀ (v29 : Bool), (v29 = true ↔ withinP (ix v6 z11).1.1 (ix (ix v2 (ix (ix v6 z11).2 z13).1).2 (ix (ix v6 z11).2 z13).2).2.1) → J28 v29) (J28 false))) ((Int.NonNeg (0 : Int) ∧ (0 : Int) ≤ z11 ∧ z11 ≤ (↑v6.length : Int)) ∧ ((↑(sub v6 (0 : Int) z11).length : Int) ≤ (9223372036854775807 : Int) → LOOP [Ty.int IntKind.i64] (fun (rec30 : Int → Prop) (z31 : Int) ↦ IFB (decide (z31 < (↑(sub v6 (0 : Int) z11).length : Int))) (((0 : Int) ≤ z31 ∧ z31 < (↑(sub v6 (0 : Int) z11).length : Int)) ∧ ∀ (v32 : Bool), (v32 = true ↔ meetP (ix v6 z11).1.1 (ix (sub v6 (0 : Int) z11) z31).1.1) → IFB v32 (post false) (rec30 (IntKind.i64.wrap (z31 + (1 : Int))))) (rec10 (IntKind.i64.wrap (z11 + (1 : Int))))) ((0 : Int), PUnit.unit)))) ((0 : Int), PUnit.unit)))) ((↑v9.length : Int) ≤ (9223372036854775807 : Int) → LOOP [Ty.int IntKind.i64] (fun (rec33 : Int → Prop) (z34 : Int) ↦ IFB (decide (z34 < (↑v9.length : Int))) (((0 : Int) ≤ z34 ∧ z34 < (↑v9.length : Int)) ∧ ((gx false (decide ((ix v9 z34).2 ≤ (ix v9 z34).1)) && gx true (decide ((0 : Int) < z34))) = true → (0 : Int) ≤ IntKind.i64.wrap (z34 - (1 : Int)) ∧ IntKind.i64.wrap (z34 - (1 : Int)) < (↑v9.length : Int)) ∧ ((gx false (decide ((ix v9 z34).2 ≤ (ix v9 z34).1)) && gx true (decide ((0 : Int) < z34)) && gx false (decide ((ix v9 z34).1 < (ix v9 (IntKind.i64.wrap (z34 - (1 : Int)))).1))) = true → (0 : Int) ≤ IntKind.i64.wrap (z34 - (1 : Int)) ∧ IntKind.i64.wrap (z34 - (1 : Int)) < (↑v9.length : Int)) ∧ ((gx false (decide ((ix v9 z34).2 ≤ (ix v9 z34).1)) && gx true (decide ((0 : Int) < z34)) && gx false (decide ((ix v9 z34).1 < (ix v9 (IntKind.i64.wrap (z34 - (1 : Int)))).1)) && gx true (decide ((ix v9 z34).1 = (ix v9 (IntKind.i64.wrap (z34 - (1 : Int)))).1))) = true → (0 : Int) ≤ IntKind.i64.wrap (z34 - (1 : Int)) ∧ IntKind.i64.wrap (z34 - (1 : Int)) < (↑v9.length : Int)) ∧ IFB (decide ((ix v9 z34).2 ≤ (ix v9 z34).1) || decide ((0 : Int) < z34) && (decide ((ix v9 z34).1 < (ix v9 (IntKind.i64.wrap (z34 - (1 : Int)))).1) || decide ((ix v9 z34).1 = (ix v9 (IntKind.i64.wrap (z34 - (1 : Int)))).1) && decide ((ix v9 z34).2 ≤ (ix v9 (IntKind.i64.wrap (z34 - (1 : Int)))).2))) (post false) (rec33 (IntKind.i64.wrap (z34 + (1 : Int))))) (post true)) ((0 : Int), PUnit.unit))) ((0 : Int), PUnit.unit))
theorem lPartners_w (l : List (Int)) (post : Bool → Prop) : lPartners_W l post = lawG (callR Tryz.prog lPartners_C (drawF Tryz.prog tau) 12 0) 9 [tv (.sl (.int .i64)) l] post := by kernel_rfl
theorem lPartners_calls (l : List (Int)) (h : lPartners_W l fun b => b = true) {w : World} {S : Cells} {us : List Value} (h1 : ∀ b o, S b o → b < w.heap.size) (h3 : us.length = 1) (h4 : ∀ (i : Nat) (d : D) (u : Value), [tv (.sl (.int .i64)) l][i]? = some d → us[i]? = some u → Rd S w d u) : Calls Tryz.prog 9 us.toArray w fun e w' => (∃ b, e = .returned (.bool b) ∧ b = true) ∧ Below w.heap.size w w' := lawG_okH (cp := callR Tryz.prog lPartners_C (drawF Tryz.prog tau) 12 0) (callR_ok (C := lPartners_C) (dr := drawF Tryz.prog tau) (.cons (ruleN_ok knew_ok) (.cons (rule1_ok kcrops_ok) (.cons (rule1_ok kvers_ok) (.cons (rule1_ok pdbl_ok) (.cons (rule1_ok pparts_ok) (.cons (rule1_ok rwit_ok) (.cons (rule1_ok rhas_ok) (.cons (rule1_ok pinv_ok) (.cons (rule1_ok rmeet_ok) (.cons (rule1_ok pawake_ok) .nil)))))))))) (drawF_ok tau) 12 0) (HoldW.of (lPartners_w l fun b => b = true) h) h1 h3 h4
/-- A double lies within what each of its claimants claims. -/
theorem dbl_within {v : List api_Version} {ds : List Dbl} {x : Dbl} {c : api_Place} (hd : dblsP (linV v) ds) (hx : x ∈ ds) (hc : c ∈ x.Claims) (hall : ∀ x ∈ v, linesOK x.Lines) : withinP x.Region.Rects (gat v c) := by
  obtain ⟨c1, c2, c3, c4⟩ := dbls_each (linV_nodup v) hd x hx
  obtain ⟨b, b0, b1, b2⟩ := gat_boxed hall (claims_there hd hx hc)
  have hin : ∀ u w, cov x.Region.Rects u w = true → cov (gat v c) u w = true := fun u w huw => (mem_who.1 (by rw [c4 u w huw]; exact hc)).2
  exact ⟨boxed_valid b0 b1 ⟨c1, fun u w huw => b2.2 u w (hin u w huw)⟩, boxed_valid b0 b1 b2, hin⟩
/-- Doubles are apart. -/
theorem dbl_apart {v : List api_Version} {ds : List Dbl} (hd : dblsP (linV v) ds) {i j : Nat} (hi : i < ds.length) (hj : j < i) : ¬ meetP (ix ds (i : Int)).Region.Rects (ix ds (j : Int)).Region.Rects := by
  rintro ⟨_, _, u, w, h1, h2⟩
  rw [ix_lt hi] at h1
  rw [ix_lt (Nat.lt_trans hj hi)] at h2
  have e1 := (dbls_each (linV_nodup v) hd _ (List.getElem_mem hi)).2.2.2 u w h1
  have e2 := (dbls_each (linV_nodup v) hd _ (List.getElem_mem (Nat.lt_trans hj hi))).2.2.2 u w h2
  have hb := List.pairwise_iff_getElem.1 hd.2 j i (Nat.lt_trans hj hi) hi hj
  exact bef_ne hb (e2.symm.trans e1)
theorem wrapB {k : Nat} (h : (k : Int) + 1 ≤ 9223372036854775807) : IntKind.i64.wrap ((k : Int) + 1) = ((k + 1 : Nat) : Int) := by
  rw [wrap_in (by omega) (by omega)]; omega
theorem loopCmpB {n : Nat} (hn : (n : Int) ≤ 9223372036854775807) {B : (Int → Prop) → Int → Prop} {K : Prop} {p : Nat → Prop} (hB : ∀ (rec : Int → Prop) (k : Nat), k < n → (∀ j, j < k → p j) → (p k → rec (IntKind.i64.wrap ((k : Int) + 1))) → B rec (k : Int)) (hK : (∀ j, j < n → p j) → K) :
    LOOP [Ty.int IntKind.i64] (fun (rec : Int → Prop) (z : Int) => IFB (decide (z < (n : Int))) (B rec z) K) ((0 : Int), PUnit.unit) := by
  refine LOOP.fuel (fun u => ∃ k : Nat, u.1 = (k : Int) ∧ k ≤ n ∧ ∀ j, j < k → p j) (fun u => n - Int.toNat u.1) ⟨0, rfl, Nat.zero_le _, fun j hj => by omega⟩ ?_
  rintro rec ⟨(z : Int), ⟨⟩⟩ ⟨k, hz, hk, hp⟩ hrec
  have hz : z = (k : Int) := hz
  subst hz
  refine IFB.mk (fun hb => ?_) (fun hb => hK ?_)
  · have hb : (k : Int) < n := of_decide_eq_true hb
    have hkn : k < n := by omega
    refine hB rec k hkn hp fun hpk => ?_
    rw [wrapB (by omega)]
    refine hrec (((k + 1 : Nat) : Int), ()) ⟨k + 1, rfl, hkn, fun j hj => ?_⟩ (by show n - ((k + 1 : Nat) : Int).toNat < n - (k : Int).toNat; omega)
    rcases Nat.lt_or_ge j k with h | h
    · exact hp j h
    · have : j = k := by omega
      subst this; exact hpk
  · have hb : ¬ (k : Int) < n := of_decide_eq_false hb
    have : k = n := by omega
    subst this; exact hp
def parQ (pl : List arr2_i64) (b c z : Int) (f : Bool) : Prop := ∃ m : Nat, z = (m : Int) ∧ m ≤ pl.length ∧ (f = true ↔ c ≤ b ∨ ∃ i : Nat, i < m ∧ (ix pl (i : Int)).1 = b ∧ (ix pl (i : Int)).2 = c)
set_option maxHeartbeats 2000000 in
theorem lPartners_h (l : List Int) : lPartners_W l fun b => b = true := by
  unfold lPartners_W
  intro v1 h1
  refine ⟨⟨by omega, by omega, by omega, by omega⟩, fun v hv => ?_⟩
  have hM := made_M3 hv (by omega)
  refine ⟨okS_D hM.okS, fun ds e hde => ?_⟩
  obtain ⟨rfl, hd⟩ := dbl_made hM.begin (fun p hp => gat_boxed (fun x hx => (hM.2 x hx).1) hp) hM.lin hde
  have hd2 : ds.length ≤ 200 := by
    have := facesS_len (L := linV v) (n := 6) hM.lin
    have e3 := hd.1.length_eq
    rw [List.length_map] at e3
    unfold two at e3
    have e4 := List.length_filter_le (fun f : Fc => decide (2 ≤ f.claims.length)) (facesS (linV v))
    omega
  refine ⟨⟨hd2, fun x hx => (dbl_small hM.okS hM.begin hd hx).2.2.1⟩, fun pl hpl => ?_⟩
  refine IFB.no rfl fun _ => ?_
  refine loopCmp (n := ds.length) (by omega) (p := fun _ => True) (fun rec k hk _ hrec => ?_) (fun _ => ?_)
  · obtain ⟨x, hx⟩ : ∃ x, ix ds (k : Int) = x := ⟨_, rfl⟩
    have hxm : x ∈ ds := by rw [← hx]; exact ix_mem (by omega) (by omega)
    obtain ⟨d1, d2, d3, d4⟩ := dbl_small hM.okS hM.begin hd hxm
    obtain ⟨c1, c2, c3, c4⟩ := dbls_each (linV_nodup v) hd x hxm
    have hd3 : x.2.length ≤ 60 := d3
    have hd4 : 2 ≤ x.2.length := c3
    have hr0 : ¬ x.1.1.length = 0 := fun e => c2 (List.eq_nil_of_length_eq_zero e)
    rw [hx]
    refine ⟨⟨by omega, by omega⟩, fun _ _ => IFB.no (by rw [decide_eq_false (by omega), decide_eq_false (by omega)]; rfl) fun _ => ?_⟩
    refine loopCmp (n := x.2.length) (by omega) (p := fun _ => True) (fun rec2 j hj _ hrec2 => ?_) (fun _ => ?_)
    · obtain ⟨c, hc⟩ : ∃ c, ix x.2 (j : Int) = c := ⟨_, rfl⟩
      have hcm : c ∈ x.2 := by rw [← hc]; exact ix_mem (by omega) (by omega)
      obtain ⟨t1, t2, t3, t4⟩ := d4 c hcm
      have t4 : c.2 < ((ix v c.1).2.length : Int) := t4
      rw [hc]
      have n1 : decide (c.1 < 0) = false := decide_eq_false (by omega)
      have n2 : decide ((v.length : Int) ≤ c.1) = false := decide_eq_false (by omega)
      have n3 : decide (c.2 < 0) = false := decide_eq_false (by omega)
      have n4 : decide (((ix v c.1).2.length : Int) ≤ c.2) = false := decide_eq_false (by omega)
      rw [n1, n2, n3, n4]
      have T : 0 ≤ c.1 ∧ c.1 < (v.length : Int) := ⟨t1, t2⟩
      have U : 0 ≤ c.2 ∧ c.2 < ((ix v c.1).2.length : Int) := ⟨t3, t4⟩
      refine ⟨⟨by omega, by omega⟩, JOIN.opq fun (J : Bool → Prop) hJ _ => ⟨fun _ => T, fun _ => ⟨fun _ => T, fun _ => U, ?_⟩⟩⟩
      refine JOIN.opq fun (J1 : Bool → Prop) hJ1 => IFB.yes rfl fun q hq => ?_
      have hq : q = true := hq.2 (dbl_within hd hxm hcm fun x hx => (hM.2 x hx).1)
      subst hq
      rw [hJ1]
      refine JOIN.opq fun (J2 : List Int → Prop) hJ2 => IFB.yes rfl ⟨⟨by omega, fun y hy => by have := (dbl_small hM.okS hM.begin hd hy).2.2.1; show y.Claims.length ≤ _; omega⟩, ?_⟩
      rw [hJ2]
      refine JOIN.opq fun (J3 : Bool → Prop) hJ3 => IFB.yes rfl ⟨by have := invN_len ds c.1 ds.length; omega, fun q hq => ?_⟩
      have hq : q = true := hq.2 (mem_invN.2 ⟨hk, clmB_iff.2 ⟨c, by rw [hx]; exact hcm, rfl⟩⟩)
      subst hq
      rw [hJ3, hJ]
      refine IFB.no rfl fun _ => ?_
      refine loopCmp (n := x.2.length) (by omega) (p := fun _ => True) (fun rec3 i hi _ hrec3 => ?_) (fun _ => hrec2 trivial)
      obtain ⟨b, hb⟩ : ∃ b, ix x.2 (i : Int) = b := ⟨_, rfl⟩
      have hbm : b ∈ x.2 := by rw [← hb]; exact ix_mem (by omega) (by omega)
      rw [hb]
      refine ⟨⟨by omega, by omega⟩, fun hpn => ?_⟩
      refine LOOP.fuel (fun u => parQ pl b.1 c.1 u.1 u.2.1) (fun u => pl.length - Int.toNat u.1) ⟨0, rfl, Nat.zero_le _, ?_⟩ ?_
      · show decide _ = true ↔ _
        rw [decide_eq_true_iff]
        exact ⟨.inl, fun h => h.elim id fun ⟨i, hi, _⟩ => absurd hi (Nat.not_lt_zero i)⟩
      rintro rec4 ⟨(z : Int), (f : Bool), ⟨⟩⟩ ⟨m, i1, i2, i3⟩ hrec4
      have i1 : z = (m : Int) := i1
      have q3 : f = true ↔ c.1 ≤ b.1 ∨ ∃ i : Nat, i < m ∧ (ix pl (i : Int)).1 = b.1 ∧ (ix pl (i : Int)).2 = c.1 := i3
      clear i3
      subst i1
      refine IFB.mk (fun hm => ?_) (fun hm => ?_)
      · have hm : (m : Int) < pl.length := of_decide_eq_true hm
        refine ⟨⟨by omega, hm⟩, ?_⟩
        have hval : ∀ q : Bool, (q = true ↔ c.1 ≤ b.1 ∨ ∃ i : Nat, i < m + 1 ∧ (ix pl (i : Int)).1 = b.1 ∧ (ix pl (i : Int)).2 = c.1) → rec4 (IntKind.i64.wrap ((m : Int) + 1)) q := fun q hq => by
          rw [wrapB (by omega)]
          exact hrec4 (((m + 1 : Nat) : Int), q, ()) ⟨m + 1, rfl, by omega, hq⟩ (by show pl.length - ((m + 1 : Nat) : Int).toNat < pl.length - (m : Int).toNat; omega)
        refine hval _ ?_
        simp only [Bool.or_eq_true, Bool.and_eq_true, decide_eq_true_iff, Bool.and_true]
        rw [q3]
        constructor
        · rintro ((h | ⟨i, h1, h2⟩) | h)
          · exact .inl h
          · exact .inr ⟨i, by omega, h2⟩
          · exact .inr ⟨m, by omega, h⟩
        · rintro (h | ⟨i, h1, h2⟩)
          · exact .inl (.inl h)
          · rcases Nat.lt_or_ge i m with h | h
            · exact .inl (.inr ⟨i, h, h2⟩)
            · have : i = m := by omega
              subst this
              exact .inr h2
      · have hm : ¬ (m : Int) < pl.length := of_decide_eq_false hm
        have hf : f = true := q3.2 (by
          rcases Int.lt_or_le b.1 c.1 with h | h
          · have hmem : (⟨b.1, c.1⟩ : arr2_i64) ∈ pl := (hpl.2 _).2 ⟨x, hxm, h, ⟨b, hbm, rfl⟩, ⟨c, hcm, rfl⟩⟩
            obtain ⟨i, hi, e⟩ := List.getElem_of_mem hmem
            exact .inr ⟨i, by omega, by rw [ix_lt hi, e]; exact ⟨rfl, rfl⟩⟩
          · exact .inl h)
        exact IFB.no (by rw [hf]; rfl) (hrec3 trivial)
    · have hle : (k : Int) ≤ (ds.length : Int) := by omega
      refine ⟨⟨Int.NonNeg.mk 0, by omega, hle⟩, ?_⟩
      rw [sub_front]
      have hkl : (ds.take k).length = k := by rw [List.length_take]; omega
      rw [hkl]
      refine fun _ => ?_
      refine loopCmp (n := k) (by omega) (p := fun _ => True) (fun rec2 j hj _ hrec2 => ?_) (fun _ => hrec trivial)
      refine ⟨⟨by omega, by omega⟩, fun q hq => ?_⟩
      have hq : q = false := by
        cases q with
        | false => rfl
        | true =>
          have h := hq.1 rfl
          have hjt : j < (ds.take k).length := by omega
          rw [ix_lt hjt, List.getElem_take, ← ix_lt (by omega : j < ds.length), ← hx] at h
          exact absurd h (dbl_apart hd hk hj)
      rw [hq]
      exact IFB.no rfl (hrec2 trivial)
  · refine fun hpn => loopCmpB (n := pl.length) hpn (p := fun _ => True) (fun rec k hk _ hrec => ?_) (fun _ => rfl)
    obtain ⟨q, hq⟩ : ∃ q, ix pl (k : Int) = q := ⟨_, rfl⟩
    have hqm : q ∈ pl := by rw [← hq]; exact ix_mem (by omega) (by omega)
    obtain ⟨y, _, hlt, _⟩ := (hpl.2 q).1 hqm
    have hlt : q.1 < q.2 := hlt
    have hw : 0 < k → IntKind.i64.wrap ((k : Int) - 1) = ((k - 1 : Nat) : Int) := fun h => by
      rw [wrap_in (by omega) (by omega)]; omega
    have hin : 0 < k → 0 ≤ IntKind.i64.wrap ((k : Int) - 1) ∧ IntKind.i64.wrap ((k : Int) - 1) < (pl.length : Int) := fun h => by rw [hw h]; omega
    have hpos : ∀ a b : Bool, (gx false a && gx true (decide ((0 : Int) < (k : Int)))) = true → 0 < k := fun a b h => by
      rw [Bool.and_eq_true] at h
      have h := h.2
      cases hd : decide ((0 : Int) < (k : Int)) with
      | true => have := of_decide_eq_true hd; omega
      | false => rw [hd] at h; cases h
    rw [hq]
    refine ⟨⟨by omega, by omega⟩, fun h => hin (hpos _ true h), fun h => hin (hpos _ true (Bool.and_eq_true_iff.1 h).1), fun h => hin (hpos _ true (Bool.and_eq_true_iff.1 (Bool.and_eq_true_iff.1 h).1).1), IFB.no ?_ (hrec trivial)⟩
    rw [decide_eq_false (by omega : ¬ q.2 ≤ q.1), Bool.false_or, Bool.and_eq_false_imp]
    intro h
    have h : (0 : Int) < (k : Int) := of_decide_eq_true h
    have hkp : 0 < k := by omega
    rw [hw hkp]
    have hlta := List.pairwise_iff_getElem.1 hpl.1 (k - 1) k (by omega) hk (by omega)
    rw [← ix_lt hk, ← ix_lt (by omega : k - 1 < pl.length), hq] at hlta
    generalize ix pl ((k - 1 : Nat) : Int) = r at hlta
    have hlta : r.1 < q.1 ∨ r.1 = q.1 ∧ r.2 < q.2 := hlta
    simp only [Bool.or_eq_false_iff, Bool.and_eq_false_imp, decide_eq_false_iff_not, decide_eq_true_iff]
    omega

end RE
end Go.Proofs.YtblcakaohlgagaaGreat
