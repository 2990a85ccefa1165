/-
  The engine's rules: code, loops; what says less; the way in and out of a function.
-/
import Derived.Test.YtmmekdkllccmdaaEgF
namespace Go.Proofs.Ytmmekdkllccmdaa
open Go.RowKit
set_option linter.unusedVariables false
namespace Eng
variable {P : Program}
def AC (P : Program) (w0 : World) (S0 : Ev) (T : Nat → Prop) (c : Code) (st : St) (Q : Exit → St → Prop) : Prop :=
  ∀ a w, Rel w0 S0 T st a w → c.wp P (fun e a' w' => ∃ st', Rel w0 S0 T st' a' w' ∧ Q e st') a w
def thenQ (K : St → Prop) (Q : Exit → St → Prop) : Exit → St → Prop
  | .normal, st => K st
  | e, st => Q e st
def blockQ (id : Nat) (Q : Exit → St → Prop) : Exit → St → Prop
  | .exit id', st => if id' = id then Q .normal st else Q (.exit id') st
  | e, st => Q e st
section
variable {w0 : World} {S0 : Ev} {T : Nat → Prop} {st : St} {Q : Exit → St → Prop}
theorem thenQ_normal {K : St → Prop} (h : K st) : thenQ K Q .normal st := h
theorem thenQ_exit {K : St → Prop} {i : Nat} (h : Q (.exit i) st) : thenQ K Q (.exit i) st := h
theorem thenQ_ret {K : St → Prop} (h : Q .ret st) : thenQ K Q .ret st := h
theorem blockQ_normal {i : Nat} (h : Q .normal st) : blockQ i Q .normal st := h
theorem blockQ_ret {i : Nat} (h : Q .ret st) : blockQ i Q .ret st := h
theorem blockQ_hit {i : Nat} (h : Q .normal st) : blockQ i Q (.exit i) st := by show (if _ then _ else _); rw [if_pos rfl]; exact h
theorem blockQ_miss {i j : Nat} (hne : Nat.beq j i = false) (h : Q (.exit j) st) : blockQ i Q (.exit j) st := by
  show (if _ then _ else _)
  rw [if_neg (fun e => by rw [e, Nat.beq_refl] at hne; cases hne)]; exact h
theorem AC.region {id : Nat} {l : List Oper} (h : AO P w0 S0 T l.toArray l st (fun st' => Q .normal st')) : AC P w0 S0 T (.region id l.toArray false) st Q := by
  intro a w hr
  exact wp_region_lit (h a w hr _ fun st' a' w' h1 h2 => ⟨st', h1, h2⟩)
theorem AC.seq {x y : Code} (h : AC P w0 S0 T x st (thenQ (fun st' => AC P w0 S0 T y st' Q) Q)) : AC P w0 S0 T (.seq x y) st Q := by
  intro a w hr
  refine wp_seq (wp_mono (h a w hr) ?_)
  rintro e a' w' ⟨st', h1, h2⟩
  cases e with
  | normal => exact h2 a' w' h1
  | _ => exact ⟨st', h1, h2⟩
theorem AC.cond {q : Operand} {x y : Code} {b : Bool} (hc : SLe (st.ev q) (.d (.v (.bool b)))) (ht : b = true → AC P w0 S0 T x st Q) (hf : b = false → AC P w0 S0 T y st Q) : AC P w0 S0 T (.cond q x y) st Q := by
  rintro a w hr
  obtain ⟨c, hT, hr'⟩ := id hr
  exact wp_cond_split (srel_v (hc c w _ (ev_rel hr' q))) (fun h => ht h a w hr) (fun h => hf h a w hr)
theorem AC.block {id : Nat} {x : Code} (h : AC P w0 S0 T x st (blockQ id Q)) : AC P w0 S0 T (.block id x) st Q := by
  intro a w hr
  refine wp_block (wp_mono (h a w hr) ?_)
  rintro e a' w' ⟨st', h1, h2⟩
  cases e with
  | exit i =>
    have h2' : if i = id then Q .normal st' else Q (.exit i) st' := h2
    show if i = id then _ else _
    split
    · rename_i hi; rw [if_pos hi] at h2'; exact ⟨st', h1, h2'⟩
    · rename_i hi; rw [if_neg hi] at h2'; exact ⟨st', h1, h2'⟩
  | _ => exact ⟨st', h1, h2⟩
theorem AC.skip (h : Q .normal st) : AC P w0 S0 T .skip st Q := fun a w hr => wp_skip ⟨st, hr, h⟩
theorem AC.label {l : Nat} (h : Q .normal st) : AC P w0 S0 T (.label l) st Q := fun a w hr => wp_label ⟨st, hr, h⟩
theorem AC.exit {i : Nat} (h : Q (.exit i) st) : AC P w0 S0 T (.exit i) st Q := fun a w hr => wp_exit ⟨st, hr, h⟩
theorem AC.ret (h : Q .ret st) : AC P w0 S0 T .ret st Q := fun a w hr => wp_ret ⟨st, hr, h⟩
/-- st' says less than st. -/
def Le (st st' : St) : Prop := ∀ w0 S0 T a w, Rel w0 S0 T st a w → Rel w0 S0 T st' a w
theorem Le.refl (st : St) : Le st st := fun _ _ _ _ _ h => h
theorem Le.trans {a b c : St} (h : Le a b) (k : Le b c) : Le a c := fun w0 S0 T x w hr => k w0 S0 T x w (h w0 S0 T x w hr)
theorem AC.le {c : Code} {st' : St} (hl : Le st st') (h : AC P w0 S0 T c st' Q) : AC P w0 S0 T c st Q := fun a w hr => h a w (hl _ _ _ _ _ hr)
theorem AO.le {ops : Array Oper} {rest : List Oper} {Q : St → Prop} {st' : St} (hl : Le st st') (h : AO P w0 S0 T ops rest st' Q) : AO P w0 S0 T ops rest st Q := fun a w hr => h a w (hl _ _ _ _ _ hr)
/-- A loop: at every round's head the state is one of a family; a measure falls. -/
theorem AC.loop {c : Code} {ι : Type} (I : ι → St) (J : ι → Prop) (μ : ι → Nat) (i0 : ι) (h0 : Le st (I i0)) (hJ : J i0)
    (h : ∀ i, J i → AC P w0 S0 T c (I i) (thenQ (fun st' => ∃ j, J j ∧ μ j < μ i ∧ Le st' (I j)) Q)) : AC P w0 S0 T (.loop c) st Q := by
  intro a w hr
  have key : ∀ n i, μ i < n → J i → ∀ a w, Rel w0 S0 T (I i) a w → Code.rounds P c (fun e a' w' => ∃ st', Rel w0 S0 T st' a' w' ∧ Q e st') n a w := by
    intro n
    induction n with
    | zero => intro i hn; omega
    | succ n ih =>
      intro i hn hi a w hr
      refine wp_mono (h i hi a w hr) ?_
      rintro e a' w' ⟨st', h1, h2⟩
      cases e with
      | normal =>
        obtain ⟨j, hj, hlt, hle⟩ := h2
        exact ih j (by omega) hj a' w' (hle _ _ _ _ _ h1)
      | _ => exact ⟨st', h1, h2⟩
  exact wp_loop_rounds (μ i0 + 1) (key _ i0 (Nat.lt_succ_self _) hJ a w (h0 _ _ _ _ _ hr))
end
theorem Le.ownNil {st : St} (x : Nat) (e : TypeId) (sz : Nat) (hx : look st.sl x = .d (.v (.slice none 0 0))) (h0 : Nat.ble 1 sz = true) : Le st ⟨(x, .os st.nx) :: st.sl, st.bx, (st.nx, ⟨e, sz, []⟩) :: st.own, st.nx + 1, st.tp, st.n⟩ := by
  rintro w0 S0 T a w ⟨c, hT, hr⟩
  obtain ⟨c', e1, e2⟩ := hr.ownNil x e sz hx (Nat.le_of_ble_eq_true h0)
  exact ⟨c', tmv e1 hT, e2⟩
/-! ### less is said -/
mutual
def SV.noOwn : SV → Bool
  | .os _ => false
  | .op _ _ => false
  | .agg cs => noOwnL cs
  | .tup cs => noOwnL cs
  | .fn _ cs => noOwnL cs
  | .cnd _ x => x.noOwn
  | _ => true
def noOwnL : List SV → Bool
  | [] => true
  | s :: r => s.noOwn && noOwnL r
end
theorem noOwnL_get : ∀ {cs : List SV}, noOwnL cs = true → ∀ {i : Nat} {s : SV}, cs[i]? = some s → s.noOwn = true
  | [], _, i, s, h => by simp at h
  | x :: r, hf, i, s, h => by
    simp only [noOwnL, Bool.and_eq_true] at hf
    cases i with
    | zero => simp at h; subst h; exact hf.1
    | succ i => simp at h; exact noOwnL_get hf.2 h
theorem SRel.reown {c : Cx} {O' : Nat → Value} {w : World} {s : SV} {u : Value} (h : SRel c w s u) : s.noOwn = true → SRel ⟨c.S, c.B, O', c.T⟩ w s u := by
  induction h with
  | d x u h => exact fun _ => .d x u h
  | bx id off => exact fun _ => .bx (c := ⟨c.S, c.B, O', c.T⟩) id off
  | os id => exact fun h => by simp [SV.noOwn] at h
  | op id off g n cap h => exact fun h => by simp [SV.noOwn] at h
  | agg cs us hl h1 h ih => exact fun hn => .agg cs us hl h1 fun i s u hs hu => ih i s u hs hu (noOwnL_get (by simpa [SV.noOwn] using hn) hs)
  | tup cs us hl h ih => exact fun hn => .tup cs us hl fun i s u hs hu => ih i s u hs hu (noOwnL_get (by simpa [SV.noOwn] using hn) hs)
  | fn f cs us hl h ih => exact fun hn => .fn f cs us hl fun i s u hs hu => ih i s u hs hu (noOwnL_get (by simpa [SV.noOwn] using hn) hs)
  | cnd g x u h h' ih => exact fun hn => .cnd g x u (fun hg => ih hg hn) h'
  | tp => exact fun _ => .tp (c := ⟨c.S, c.B, O', c.T⟩)
  | un u => exact fun _ => .un u
def mget (m : List (Nat × Nat)) (i : Nat) : Nat := (lookA m i).getD i
/-- An entry says less than another one, rows renamed by m. -/
def Ent (m : List (Nat × Nat)) (s : SV) : SV → Prop
  | .os id => s = .os (mget m id)
  | r => SLe s r ∧ r.noOwn = true
theorem Ent.rel {m : List (Nat × Nat)} {s r : SV} (h : Ent m s r) {c : Cx} {w : World} {u : Value} (hs : SRel c w s u) : SRel ⟨c.S, c.B, fun i => c.O (mget m i), c.T⟩ w r u := by
  cases r with
  | os id =>
    have e : s = .os (mget m id) := h
    subst e
    rw [srel_os hs]
    exact .os (c := ⟨c.S, c.B, fun i => c.O (mget m i), c.T⟩) id
  | _ => exact SRel.reown (h.1 c w u hs) h.2
def EntL (m : List (Nat × Nat)) : List SV → List SV → Prop
  | [], [] => True
  | s :: ss, r :: rs => Ent m s r ∧ EntL m ss rs
  | _, _ => False
theorem EntL.spec {m : List (Nat × Nat)} : ∀ {ss rs : List SV}, EntL m ss rs → ss.length = rs.length ∧ ∀ (i : Nat) (r : SV), rs[i]? = some r → ∃ s, ss[i]? = some s ∧ Ent m s r
  | [], [], _ => ⟨rfl, fun i r h => by simp at h⟩
  | s :: ss, r :: rs, h => by
    obtain ⟨h1, h2⟩ := EntL.spec h.2
    refine ⟨by simp [h1], fun i r' hr => ?_⟩
    cases i with
    | zero => simp at hr; subst hr; exact ⟨s, rfl, h.1⟩
    | succ i => simp at hr ⊢; exact h2 i r' hr
  | [], _ :: _, h => h.elim
  | _ :: _, [], h => h.elim
def SlLe (m : List (Nat × Nat)) (st : St) : List (Nat × SV) → Prop
  | [] => True
  | p :: r => Ent m (look st.sl p.1) p.2 ∧ SlLe m st r
def BxLe (m : List (Nat × Nat)) (st : St) : List (Nat × List SV) → Prop
  | [] => True
  | p :: r => (∃ cs, lookA st.bx p.1 = some cs ∧ EntL m cs p.2) ∧ BxLe m st r
def OwLe (m : List (Nat × Nat)) (st : St) : List (Nat × OwnE) → Prop
  | [] => True
  | p :: r => (∃ rows, lookA st.own (mget m p.1) = some ⟨p.2.e, p.2.sz, rows⟩ ∧ rows = p.2.rows) ∧ OwLe m st r
def topOk (nx : Nat) : List (Nat × SV) → Bool
  | [] => true
  | p :: r => Nat.ble p.2.top nx && topOk nx r
def bxOk (nx : Nat) : List (Nat × List SV) → Bool
  | [] => true
  | p :: r => Nat.ble (p.1 + 1) nx && Nat.ble (topL p.2) nx && bxOk nx r
/-- Different rows have different names, before and after. -/
def owOk (m : List (Nat × Nat)) (nx : Nat) : List (Nat × OwnE) → Bool
  | [] => true
  | p :: r => Nat.ble (p.1 + 1) nx && (r.all fun q => !(Nat.beq (mget m q.1) (mget m p.1))) && owOk m nx r
theorem SlLe.look {m : List (Nat × Nat)} {st : St} : ∀ {l : List (Nat × SV)}, SlLe m st l → ∀ x, Ent m (look st.sl x) (look l x)
  | [], _, x => ⟨SLe.un, rfl⟩
  | p :: r, h, x => by
    obtain ⟨k, v⟩ := p
    rw [look_cons]
    split
    · rename_i e; subst e; exact h.1
    · exact SlLe.look h.2 x
theorem topOk_spec {nx : Nat} : ∀ {l : List (Nat × SV)}, topOk nx l = true → ∀ x, (look l x).top ≤ nx
  | [], _, x => Nat.zero_le _
  | p :: r, h, x => by
    obtain ⟨k, v⟩ := p
    simp only [topOk, Bool.and_eq_true] at h
    rw [look_cons]
    split
    · exact Nat.le_of_ble_eq_true h.1
    · exact topOk_spec h.2 x
theorem BxLe.look {m : List (Nat × Nat)} {st : St} {nx : Nat} : ∀ {l : List (Nat × List SV)}, BxLe m st l → bxOk nx l = true → ∀ id cs, lookA l id = some cs → (∃ cs0, lookA st.bx id = some cs0 ∧ EntL m cs0 cs) ∧ id < nx ∧ topL cs ≤ nx
  | [], _, _, id, cs, hc => by simp [lookA] at hc
  | p :: r, h, h2, id, cs, hc => by
    obtain ⟨k, v⟩ := p
    simp only [bxOk, Bool.and_eq_true] at h2
    rw [lookA_cons] at hc
    split at hc
    · rename_i e
      subst e
      injection hc with hc
      subst hc
      exact ⟨h.1, Nat.le_of_ble_eq_true h2.1.1, Nat.le_of_ble_eq_true h2.1.2⟩
    · exact BxLe.look h.2 h2.2 id cs hc
theorem OwLe.look {m : List (Nat × Nat)} {st : St} {nx : Nat} : ∀ {l : List (Nat × OwnE)}, OwLe m st l → owOk m nx l = true → ∀ id x, lookA l id = some x → lookA st.own (mget m id) = some x ∧ id < nx
  | [], _, _, id, x, hx => by simp [lookA] at hx
  | p :: r, h, h2, id, x, hx => by
    obtain ⟨k, v⟩ := p
    simp only [owOk, Bool.and_eq_true] at h2
    rw [lookA_cons] at hx
    split at hx
    · rename_i e
      subst e
      injection hx with hx
      subst hx
      obtain ⟨⟨rows, h3, h4⟩, _⟩ := h
      subst h4
      exact ⟨h3, Nat.le_of_ble_eq_true h2.1.1⟩
    · exact OwLe.look h.2 h2.2 id x hx
theorem owOk_inj {m : List (Nat × Nat)} {nx : Nat} : ∀ {l : List (Nat × OwnE)}, owOk m nx l = true → ∀ i j x y, lookA l i = some x → lookA l j = some y → i ≠ j → mget m i ≠ mget m j
  | [], _, i, j, x, y, hi, _, _ => by simp [lookA] at hi
  | p :: r, h, i, j, x, y, hi, hj, hne => by
    obtain ⟨k, v⟩ := p
    simp only [owOk, Bool.and_eq_true] at h
    have hmem : ∀ (l : List (Nat × OwnE)) (i : Nat) (x : OwnE), lookA l i = some x → (i, x) ∈ l := fun l => by
      induction l with
      | nil => intro i x h; simp [lookA] at h
      | cons q r ih =>
        intro i x h
        obtain ⟨a, b⟩ := q
        rw [lookA_cons] at h
        split at h
        · rename_i e; subst e; injection h with h; subst h; simp
        · exact List.mem_cons_of_mem _ (ih i x h)
    have hall : ∀ q ∈ r, mget m q.1 ≠ mget m k := fun q hq e => by
      have := List.all_eq_true.1 h.1.2 q hq
      rw [e, Nat.beq_refl] at this
      cases this
    rw [lookA_cons] at hi hj
    split at hi
    · rename_i e1
      split at hj
      · omega
      · subst e1; exact (hall _ (hmem r j y hj)).symm
    · split at hj
      · rename_i e2; subst e2; exact hall _ (hmem r i x hi)
      · exact owOk_inj h.2 i j x y hi hj hne
theorem Le.mk {st st' : St} (m : List (Nat × Nat)) (hs : SlLe m st st'.sl) (hb : BxLe m st st'.bx) (ho : OwLe m st st'.own) (ht : topOk st'.nx st'.sl = true) (hbo : bxOk st'.nx st'.bx = true) (hoo : owOk m st'.nx st'.own = true) (hn : Nat.beq st.n st'.n = true) (htp : (!st'.tp || st.tp) = true) : Le st st' := by
  rintro w0 S0 T a w ⟨c, hT, hr⟩
  refine ⟨⟨c.S, c.B, fun i => c.O (mget m i), c.T⟩, hT, ⟨hr.below, hr.df, hr.sz.trans (beq_eq hn), fun x => (hs.look x).rel (hr.sl x), topOk_spec ht, hr.sb, fun id cs hc => ?_, fun i j x y hi hj hne => ?_, fun id x hx => ?_, fun i j x y hi hj hne => ?_, fun i x hi id cs hc => ?_, hr.old, hr.stt, fun hp => ?_⟩⟩
  · obtain ⟨⟨cs0, h1, h2⟩, h3, h4⟩ := hb.look hbo id cs hc
    obtain ⟨_, _, h5, h6, arr, t, h7, h8, h9, h10⟩ := hr.bx id cs0 h1
    obtain ⟨e1, e2⟩ := h2.spec
    refine ⟨h3, h4, h5, h6, arr, t, h7, by omega, h9, fun j s u hj hu => ?_⟩
    obtain ⟨s0, q1, q2⟩ := e2 j s hj
    exact q2.rel (h10 j s0 u q1 hu)
  · obtain ⟨⟨x0, h1, _⟩, _⟩ := hb.look hbo i x hi
    obtain ⟨⟨y0, h2, _⟩, _⟩ := hb.look hbo j y hj
    exact hr.bxd i j x0 y0 h1 h2 hne
  · obtain ⟨h1, h2⟩ := ho.look hoo id x hx
    exact ⟨h2, (hr.ow _ x h1).2⟩
  · exact hr.owd _ _ x y (ho.look hoo i x hi).1 (ho.look hoo j y hj).1 (owOk_inj hoo i j x y hi hj hne)
  · obtain ⟨⟨x0, h1, _⟩, _⟩ := hb.look hbo id cs hc
    exact hr.owb _ x (ho.look hoo i x hi).1 id x0 h1
  · obtain ⟨t1, t3, t4, t5⟩ := hr.tp (by cases h1 : st.tp with | true => rfl | false => rw [hp, h1] at htp; cases htp)
    refine ⟨t1, t3, fun id cs hc => ?_, fun i x hi => t5 _ x (ho.look hoo i x hi).1⟩
    obtain ⟨⟨x0, h1, _⟩, _⟩ := hb.look hbo id cs hc
    exact t4 id x0 h1
/-! ### in and out -/
def enumS : Nat → List SV → List (Nat × SV)
  | _, [] => []
  | k, s :: r => (k, s) :: enumS (k + 1) r
theorem look_enumS : ∀ (l : List SV) (k x : Nat), look (enumS k l) x = if k ≤ x then l.getD (x - k) .un else .un
  | [], k, x => by simp [enumS, look]
  | s :: r, k, x => by
    rw [enumS, look_cons, look_enumS r (k + 1) x]
    by_cases h : k = x
    · subst h; simp
    · rw [if_neg h]
      by_cases h2 : k + 1 ≤ x
      · rw [if_pos h2, if_pos (by omega), show x - k = (x - (k + 1)) + 1 by omega]; simp
      · rw [if_neg h2, if_neg (by omega)]
def got (P : Program) (a : Act) (w : World) (v : Value) : ResultVar → Prop
  | .tmp t => a.tmps[t]?.getD undef = v
  | .cell x t => ∃ ad, a.tmps[x]?.getD undef = .pointer (some ad) ∧ (loadVar t ad).run P w = .ok v w
/-- Cells of a class: those of the call's own, or any. -/
def fresh (fr : Bool) (n : Nat) (S : Cells) : Cells := fun b o => S b o ∧ (fr = true → n ≤ b)
/-- What a function gives back, read off the state: S' are the stable cells then, the rows that are given up among them. -/
def GetR (P : Program) (fr : Bool) (st : St) (rv : ResultVar) (r : D) : Prop :=
  ∀ w0 S0 a w c, RelX w0 S0 st a w c → ∃ v, got P a w v rv ∧ Rd (fresh fr w0.heap.size (lent c st.bx st.own)) w r v
def flatRows (rows : List (List D)) : Prop := ∀ row ∈ rows, ∀ x ∈ row, x.flat = true
theorem Rd.toFresh {S : Cells} {w : World} {x : D} {u : Value} (h : Rd S w x u) (n : Nat) {S' : Cells} (hS : ∀ b o, S b o → S' b o) : Rd (fresh false n S') w x u := h.mono (fun b o hs => ⟨hS b o hs, fun e => by cases e⟩) (fun _ _ _ => rfl)
theorem GetR.any {st : St} {t : Nat} {r : D} (h : SLe (look st.sl t) (.d r)) : GetR P false st (.tmp t) r := fun w0 S0 a w c hr => ⟨_, by simp [got], (srel_d (h c w _ (hr.sl t))).toFresh _ (fun _ _ h => .inl h)⟩
theorem GetR.flat {fr : Bool} {st : St} {t : Nat} {r : D} (h : SLe (look st.sl t) (.d r)) (hf : r.flat = true) : GetR P fr st (.tmp t) r := fun w0 S0 a w c hr => ⟨_, by simp [got], (srel_d (h c w _ (hr.sl t))).flat hf⟩
theorem GetR.nil {fr : Bool} {st : St} {t sz : Nat} (h : SLe (look st.sl t) (.d (.v (.slice none 0 0)))) : GetR P fr st (.tmp t) (.sl sz []) := fun w0 S0 a w c hr => by
  refine ⟨a.tmps.getD t undef, by simp [got], ?_⟩
  have h1 := srel_v (h c w _ (hr.sl t))
  rw [h1]
  exact Rd.sl sz [] none 0 0 0 (fun _ _ => undef) (Nat.le_refl _) (by simp [maxLen]) (.inl rfl) (fun i row h => by simp at h) (fun i row j c h => by simp at h)
/-- A row of the call's own, given up. -/
theorem own_fresh {base : Nat} {w : World} {S S' : Cells} {v : Value} {x : OwnE} (h : OwnAt base w S v x) (hf : flatRows x.rows) (hg : ∀ g, blkOf v = some g → base ≤ g → ∀ o, o < x.rows.length * x.sz → S' g o) : Rd S' w (.sl x.sz x.rows) v := by
  rcases h with ⟨h1, h2⟩ | ⟨g, cap, cur, hv, hbg, hh, hn, hcm, hcs, hnS, hr⟩
  · rw [h1, h2]
    exact Rd.sl x.sz [] none 0 0 0 (fun _ _ => undef) (Nat.le_refl _) (by simp [maxLen]) (.inl rfl) (fun i row h => by simp at h) (fun i row j c h => by simp at h)
  · subst hv
    have hcell : ∀ i row, x.rows[i]? = some row → ∀ j, j < x.sz → cur[i * x.sz + j]? = some (cur.getD (i * x.sz + j) undef) ∧ (cur.getD (i * x.sz + j) undef).oneCell' = true ∧ ∀ c, row[j]? = some c → Rd S w c (cur.getD (i * x.sz + j) undef) := fun i row hi j hj => by
      obtain ⟨q1, q2⟩ := hr i row hi
      obtain ⟨u, u1, u2, u3⟩ := q2 j row[j] (List.getElem?_eq_getElem (by omega))
      rw [Array.getD_eq_getD_getElem?, u1]
      refine ⟨rfl, u2, fun c hc => ?_⟩
      rw [List.getElem?_eq_getElem (by omega)] at hc
      injection hc with hc
      rw [← hc]; exact u3
    refine Rd.sl x.sz x.rows _ cap g 0 (fun i j => cur.getD (i * x.sz + j) undef) hn hcm (.inr rfl) (fun i row hi => ⟨(hr i row hi).1, fun j hj => ⟨?_, ?_, (hcell i row hi j hj).2.1⟩⟩) (fun i row j c hi hj => ?_)
    · rw [Nat.zero_add]; exact hg g rfl hbg _ (row_lt (List.getElem?_eq_some_iff.1 hi).1 hj)
    · rw [Nat.zero_add, cell_of_row _ _ _ _ _ _ hh]; exact (hcell i row hi j hj).1
    · have hjl : j < x.sz := by have := (List.getElem?_eq_some_iff.1 hj).1; rw [(hr i row hi).1] at this; exact this
      exact ((hcell i row hi j hjl).2.2 c hj).flat (hf row (List.mem_of_getElem? hi) c (List.mem_of_getElem? hj))
theorem GetR.own {fr : Bool} {st : St} {t id : Nat} {x : OwnE} (h : SLe (look st.sl t) (.os id)) (hx : lookA st.own id = some x) (h0 : Nat.ble 1 x.sz = true) (hf : flatRows x.rows) : GetR P fr st (.tmp t) (.sl x.sz x.rows) := fun w0 S0 a w c hr => by
  refine ⟨a.tmps.getD t undef, by simp [got], ?_⟩
  have h1 := srel_os (h c w _ (hr.sl t))
  rw [h1]
  exact own_fresh ((hr.ow id x hx).2.slice (Nat.le_of_ble_eq_true h0)) hf fun g hg hb o hlt => ⟨.inr (.inr ⟨id, x, hx, hg, hlt⟩), fun _ => hb⟩
theorem GetR.ownA {st : St} {t id : Nat} {x : OwnE} (h : SLe (look st.sl t) (.os id)) (hx : lookA st.own id = some x) (h0 : Nat.ble 1 x.sz = true) : GetR P false st (.tmp t) (.sl x.sz x.rows) := fun w0 S0 a w c hr => by
  refine ⟨a.tmps.getD t undef, by simp [got], ?_⟩
  have h1 := srel_os (h c w _ (hr.sl t))
  rw [h1]
  exact (own_rd (S' := lent c st.bx st.own) ((hr.ow id x hx).2.slice (Nat.le_of_ble_eq_true h0)) (fun _ _ h => .inl h) (fun g hg o hlt => .inr (.inr ⟨id, x, hx, hg, hlt⟩))).toFresh _ (fun _ _ h => h)
/-- A struct in a box, all of whose cells no memory stands behind. -/
theorem GetR.ownR {fr : Bool} {st : St} {t id e sz : Nat} {rows : List (List D)} (h : SLe (look st.sl t) (.os id)) (hx : lookA st.own id = some ⟨e, sz, rows⟩) (h0 : Nat.ble 1 sz = true) (hf : flatRows rows) : GetR P fr st (.tmp t) (.sl sz rows) := GetR.own h hx h0 hf
theorem GetR.cell {fr : Bool} {st : St} {x t sz : Nat} {id off : Nat} {cs ks : List SV} {ds : List D} (hx : SLe (look st.sl x) (.bx id off)) (hb : lookA st.bx id = some cs) (hk : (cs.drop off).take sz = ks) (hl : Nat.beq ks.length sz = true) (hd : dOf ks = some ds) (hf : (fr && !(flatL ds)) = false) (ht : aggTy P t sz = true) : GetR P fr st (.cell x t) (.agg ds) := by
  intro w0 S0 a w c hr
  have hxv := srel_bx (hx c w _ (hr.sl x))
  obtain ⟨us, h1, h2, h3, h4⟩ := box_agg (hr.bx id cs hb).2.2 hk (beq_eq hl)
  have hds := dOf_spec hd
  have hrd : Rd c.S w (.agg ds) (.agg us.toArray) := Rd.agg ds us (by rw [h1, ← beq_eq hl, hds, List.length_map]) h3 fun i c' u hc hu => srel_d (h4 i (.d c') u (by rw [hds, List.getElem?_map, hc]; rfl) hu)
  refine ⟨.agg us.toArray, ⟨_, by simpa using hxv, ?_⟩, ?_⟩
  · have := run_load_agg (P := P) (t := t) (cs := us) (by rw [h1]; exact ht) (w := w) (b := c.B id) (o := off) h2
    exact this
  · cases fr with
    | false => exact hrd.toFresh _ (fun _ _ h => .inl h)
    | true => exact hrd.flat (by simpa [D.flat] using hf)
theorem GetR.cell1 {fr : Bool} {st : St} {x t : Nat} {id off : Nat} {cs : List SV} {y : D} (hx : SLe (look st.sl x) (.bx id off)) (hb : lookA st.bx id = some cs) (hc : cs[off]? = some (.d y)) (hf : (fr && !y.flat) = false) (ht : oneTy P t = true) : GetR P fr st (.cell x t) y := by
  intro w0 S0 a w c hr
  have hxv := srel_bx (hx c w _ (hr.sl x))
  obtain ⟨_, _, arr, t', hh, hl', h1, hr'⟩ := (hr.bx id cs hb).2.2
  have ho : off < arr.length := by rw [hl']; exact (List.getElem?_eq_some_iff.1 hc).1
  have hrd := srel_d (hr' off _ _ hc (List.getElem?_eq_getElem ho))
  refine ⟨arr[off], ⟨_, by simpa using hxv, ?_⟩, ?_⟩
  · have := run_load_one (P := P) ht (w := w) (b := c.B id) (o := off) (u := arr[off]) (by rw [cell_of_row _ _ _ _ _ _ hh]; simp [ho])
    exact this
  · cases fr with
    | false => exact hrd.toFresh _ (fun _ _ h => .inl h)
    | true => exact hrd.flat (by simpa using hf)
def ResOf (P : Program) (fr : Bool) (rs : Array ResultVar) (st : St) (r : D) : Prop :=
  ∀ w0 S0 a w c, RelX w0 S0 st a w c → ∀ fn : Func, fn.results = rs → ∃ v, (results fn a.tmps).run P w = .ok v w ∧ Rd (fresh fr w0.heap.size (lent c st.bx st.own)) w r v
theorem ResOf.one {fr : Bool} {st : St} {rv : ResultVar} {r : D} (h : GetR P fr st rv r) : ResOf P fr #[rv] st r := by
  intro w0 S0 a w c hr fn hf
  obtain ⟨v, h1, h2⟩ := h w0 S0 a w c hr
  refine ⟨v, ?_, h2⟩
  cases rv with
  | tmp t => simpa [results, hf, got] using h1
  | cell x t =>
    obtain ⟨ad, h3, h4⟩ := h1
    simp [results, hf, h3, h4, asAddr]
theorem ResOf.zero {fr : Bool} {st : St} : ResOf P fr #[] st (.tup []) := by
  intro w0 S0 a w c hr fn hf
  exact ⟨.tuple #[], results_none hf _ _ _, Rd.tup [] [] rfl (fun i c u h => by simp at h)⟩
theorem ResOf.two {fr : Bool} {st : St} {rv rv' : ResultVar} {r r' : D} (h : GetR P fr st rv r) (h' : GetR P fr st rv' r') : ResOf P fr #[rv, rv'] st (.tup [r, r']) := by
  intro w0 S0 a w c hr fn hf
  obtain ⟨v, h1, h2⟩ := h w0 S0 a w c hr
  obtain ⟨v', h1', h2'⟩ := h' w0 S0 a w c hr
  refine ⟨.tuple [v, v'].toArray, ?_, Rd.tup [r, r'] [v, v'] rfl (fun i c u hc hu => ?_)⟩
  · cases rv <;> cases rv' <;> simp only [got] at h1 h1' <;> (try obtain ⟨_, q1, q2⟩ := h1) <;> (try obtain ⟨_, q3, q4⟩ := h1') <;> simp_all [results, asAddr]
  · match i, hc, hu with
    | 0, hc, hu => simp at hc hu; subst hc hu; exact h2
    | 1, hc, hu => simp at hc hu; subst hc hu; exact h2'
theorem ResOf.three {fr : Bool} {st : St} {rv rv' rv2 : ResultVar} {r r' r2 : D} (h : GetR P fr st rv r) (h' : GetR P fr st rv' r') (h'' : GetR P fr st rv2 r2) : ResOf P fr #[rv, rv', rv2] st (.tup [r, r', r2]) := by
  intro w0 S0 a w c hr fn hf
  obtain ⟨v, h1, h2⟩ := h w0 S0 a w c hr
  obtain ⟨v', h1', h2'⟩ := h' w0 S0 a w c hr
  obtain ⟨v2, h12, h22⟩ := h'' w0 S0 a w c hr
  refine ⟨.tuple [v, v', v2].toArray, ?_, Rd.tup [r, r', r2] [v, v', v2] rfl (fun i c u hc hu => ?_)⟩
  · cases rv <;> cases rv' <;> cases rv2 <;> simp only [got] at h1 h1' h12 <;> (try obtain ⟨_, q1, q2⟩ := h1) <;> (try obtain ⟨_, q3, q4⟩ := h1') <;> (try obtain ⟨_, q5, q6⟩ := h12) <;> simp_all [results, asAddr]
  · match i, hc, hu with
    | 0, hc, hu => simp at hc hu; subst hc hu; exact h2
    | 1, hc, hu => simp at hc hu; subst hc hu; exact h2'
    | 2, hc, hu => simp at hc hu; subst hc hu; exact h22
def retQ (P : Program) (rs : Array ResultVar) (tp fr : Bool) (Φ : D → Prop) : Exit → St → Prop
  | .normal, st => (!tp || st.tp) = true ∧ ∃ r, Φ r ∧ ResOf P fr rs st r
  | .ret, st => (!tp || st.tp) = true ∧ ∃ r, Φ r ∧ ResOf P fr rs st r
  | _, _ => False
/-- The way into a function, and out of it. -/
theorem AC.entry {f : FuncId} {fn : Func} {c : Code} {tp fr : Bool} {args : List SV} {Φ : D → Prop} {rs : Array ResultVar} {nt : Nat} (hf : P.funcs[f]? = some fn) (hb : fn.body = some c) (hrs : fn.results = rs) (hnt : fn.ntmps = nt) (hn : Nat.ble args.length nt = true) (ht : args.all (fun s => Nat.beq s.top 0) = true)
    {w : World} {S Sτ : Cells} {T : Nat} {Tp : Nat → Prop} {vals : List Value} (hTp : Tp T) (hS : ∀ b o, S b o → b < w.heap.size) (hSτ : ∀ b o, Sτ b o → S b o) (hT : tp = true → TapeS w T Sτ ∧ ∀ o, ¬ S T o) (hl : vals.length = args.length)
    (hv : ∀ (i : Nat) (s : SV) (u : Value), args[i]? = some s → vals[i]? = some u → SRel ⟨S, fun _ => 0, fun _ => undef, T⟩ w s u)
    (h : AC P w ⟨S, Sτ⟩ Tp c ⟨enumS 0 args, [], [], 0, tp, nt⟩ (retQ P rs tp fr Φ)) :
    Calls P f vals.toArray w fun e w' => ∃ (r : D) (v : Value) (S' : Cells) (T' : Nat), Tp T' ∧ Φ r ∧ e = .returned v ∧ w.grownBy w' (some T') ∧ (∀ b o, b < w.heap.size → (S' b o ↔ S b o)) ∧ (∀ b o, S' b o → b < w'.heap.size) ∧ (tp = true → TapeS w' T' Sτ) ∧
      Rd (fun b o => S' b o ∧ (fr = true → w.heap.size ≤ b)) w' r v := by
  refine calls_of_wp hf hb ?_
  have hn' : args.length ≤ nt := Nat.le_of_ble_eq_true hn
  have hget : ∀ x, (vals.toArray ++ Array.replicate (fn.ntmps - vals.toArray.size) undef).getD x undef = vals.getD x undef := fun x => by
    rw [Array.getD_eq_getD_getElem?, Array.getElem?_append]
    by_cases hx : x < vals.length
    · simp [hx, List.getD_eq_getElem?_getD]
    · simp only [List.size_toArray, hx, if_false, List.getD_eq_getElem?_getD, List.getElem?_eq_none (Nat.le_of_not_lt hx), Option.getD_none]
      rw [Array.getElem?_replicate]
      split <;> rfl
  have hrel : RelX w ⟨S, Sτ⟩ ⟨enumS 0 args, [], [], 0, tp, nt⟩ { tmps := vals.toArray ++ Array.replicate (fn.ntmps - vals.toArray.size) undef, defers := [] } w ⟨S, fun _ => 0, fun _ => undef, T⟩ := by
    refine ⟨grownBy_refl _ _, rfl, ?_, fun x => ?_, fun x => ?_, hS, fun id cs hc => by simp [lookA] at hc, fun i j c c' hc => by simp [lookA] at hc, fun i c hc => by simp [lookA] at hc, fun i j x y hi => by simp [lookA] at hi, fun i x hi => by simp [lookA] at hi, fun _ _ _ => Iff.rfl, hSτ, fun hp => ?_⟩
    · simp only [Array.size_append, List.size_toArray, Array.size_replicate, hnt]; omega
    · rw [hget, look_enumS, if_pos (Nat.zero_le _), Nat.sub_zero]
      by_cases hx : x < args.length
      · have hx' : x < vals.length := by omega
        rw [List.getD_eq_getElem?_getD, List.getElem?_eq_getElem hx, List.getD_eq_getElem?_getD, List.getElem?_eq_getElem hx']
        exact hv x _ _ (List.getElem?_eq_getElem hx) (List.getElem?_eq_getElem hx')
      · rw [List.getD_eq_getElem?_getD, List.getElem?_eq_none (Nat.le_of_not_lt hx)]
        exact .un _
    · rw [look_enumS, if_pos (Nat.zero_le _), Nat.sub_zero]
      by_cases hx : x < args.length
      · rw [List.getD_eq_getElem?_getD, List.getElem?_eq_getElem hx]
        exact Nat.le_of_eq (beq_eq (List.all_eq_true.1 ht _ (List.getElem_mem hx)))
      · rw [List.getD_eq_getElem?_getD, List.getElem?_eq_none (Nat.le_of_not_lt hx)]
        exact Nat.zero_le _
    · obtain ⟨h1, h2⟩ := hT hp
      exact ⟨h1, h2, fun id cs hc => by simp [lookA] at hc, fun i x hi => by simp [lookA] at hi⟩
  refine wp_mono (h _ _ ⟨_, hTp, hrel⟩) ?_
  have fin : ∀ st' a' w', Rel w ⟨S, Sτ⟩ Tp st' a' w' → ((!tp || st'.tp) = true ∧ ∃ r, Φ r ∧ ResOf P fr rs st' r) → a'.defers = [] ∧ ∃ v, (results fn a'.tmps).run P w' = .ok v w' ∧ ∃ (r : D) (v' : Value) (S' : Cells) (T' : Nat), Tp T' ∧ Φ r ∧ Ending.returned v = .returned v' ∧ w.grownBy w' (some T') ∧ (∀ b o, b < w.heap.size → (S' b o ↔ S b o)) ∧ (∀ b o, S' b o → b < w'.heap.size) ∧ (tp = true → TapeS w' T' Sτ) ∧
      Rd (fun b o => S' b o ∧ (fr = true → w.heap.size ≤ b)) w' r v' := by
    rintro st' a' w' ⟨c', hTc, hr⟩ ⟨htp, r, hΦ, hres⟩
    obtain ⟨v, h1, h2⟩ := hres w ⟨S, Sτ⟩ a' w' c' hr fn hrs
    refine ⟨hr.df, v, h1, r, v, lent c' st'.bx st'.own, c'.T, hTc, hΦ, rfl, hr.below, fun b o hb => ?_, lent_lt hr.sb (fun id cs hc => (hr.bx id cs hc).2.2) (fun id x hx => (hr.ow id x hx).2), fun hp => (hr.tp (by rw [hp] at htp; simpa using htp)).1, h2⟩
    refine Iff.trans ⟨?_, .inl⟩ (hr.old b o hb)
    rintro (h | ⟨id, cs, hc, e, _⟩ | ⟨id, x, hx, hbk, _⟩)
    · exact h
    · have := (hr.bx id cs hc).2.2.1; omega
    · exact absurd hb (Nat.not_lt.2 ((hr.ow id x hx).2.blk hbk).1)
  rintro e a' w' ⟨st', h1, h2⟩
  cases e with
  | normal => exact fin st' a' w' h1 h2
  | ret => exact fin st' a' w' h1 h2
  | _ => exact h2.elim
theorem ACalls.of {f : FuncId} {fn : Func} {c : Code} {tp fr : Bool} {args : List SV} {Φ : D → Prop} {rs : Array ResultVar} {nt : Nat} (hf : P.funcs[f]? = some fn) (hb : fn.body = some c) (hrs : fn.results = rs) (hnt : fn.ntmps = nt) (hn : Nat.ble args.length nt = true) (ht : args.all (fun s => Nat.beq s.top 0) = true)
    (h : ∀ w0 S0 T, AC P w0 S0 T c ⟨enumS 0 args, [], [], 0, tp, nt⟩ (retQ P rs tp fr Φ)) : ACalls P f tp fr args Φ := by
  intro w S Sτ T vals hS hSτ hT hT2 hl hv
  refine (AC.entry hf hb hrs hnt hn ht (Tp := (· = T)) rfl hS hSτ hT hl hv (h _ _ _)).mono ?_
  rintro e w' ⟨r, v, S', T', rfl, q⟩
  exact ⟨r, v, S', q⟩
/-- The numbers of a tape lie in old cells. -/
def SrcAt (w : World) (S : Cells) (a : Option Addr) (len cap : Nat) : Prop := len ≤ cap ∧ cap ≤ 9223372036854775807 ∧ (a = none → len = 0 ∧ cap = 0) ∧
  (0 < len → ∃ bl off : Nat, a = some ⟨bl, off, none⟩ ∧ ∀ i, i < len → S bl (off + i) ∧ ∃ z : Int, w.cell? ⟨bl, off + i, none⟩ = some (.int .i64 z))
/-- A law that walks to true. Its first argument is a row of integers for a tape. -/
theorem law_of {f : FuncId} {fn : Func} {c : Code} {args : List SV} {rs : Array ResultVar} {nt : Nat} (hf : P.funcs[f]? = some fn) (hb : fn.body = some c) (hrs : fn.results = rs) (hnt : fn.ntmps = nt) (hn : Nat.ble args.length nt = true) (ht : args.all (fun s => Nat.beq s.top 0) = true)
    {w : World} {S : Cells} {vals : List Value} (hS : ∀ b o, S b o → b < w.heap.size) (hl : vals.length = args.length)
    (hv : ∀ (i : Nat) (s : SV) (u : Value), args[i]? = some s → vals[i]? = some u → SRel ⟨S, fun _ => 0, fun _ => undef, w.heap.size⟩ w s u)
    (h : AC P w ⟨S, S⟩ (w.heap.size ≤ ·) c ⟨enumS 0 args, [], [], 0, false, nt⟩ (retQ P rs false true (· = .v (.bool true)))) :
    Calls P f vals.toArray w fun e w' => e = .returned (.bool true) ∧ Below w.heap.size w w' := by
  refine (AC.entry hf hb hrs hnt hn ht (Tp := (w.heap.size ≤ ·)) (T := w.heap.size) (Nat.le_refl _) hS (fun _ _ h => h) (fun h => by cases h) hl hv h).mono ?_
  rintro e w' ⟨r, v, S', T', hT, rfl, rfl, hg, _, _, _, hr⟩
  refine ⟨by cases hr; rfl, hg.os, hg.tape, hg.output, hg.size, fun k hk => hg.block k hk (fun e => by have := Option.some.inj e; omega)⟩
end Eng
end Go.Proofs.Ytmmekdkllccmdaa
