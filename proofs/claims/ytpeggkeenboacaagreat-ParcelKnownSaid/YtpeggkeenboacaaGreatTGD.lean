/-
  The engine: rules of calls: by contract, rows changed in place, the tape's making; walks by such rules.
-/
import Derived.Test.YtpeggkeenboacaaGreatTGC
import Derived.Test.YtpeggkeenboacaaGreatProg
import Derived.KernelRfl
import Derived.Shelf.Small.Bits
import Derived.Shelf.Strconv.Itoa0
import Derived.Shelf.Sort.Plain
import Derived.Ground.Names2Prog
import Derived.Shelf.Slices.CompactI
import Derived.Shelf.Slices.SearchI
import Derived.Shelf.Slices.Cells
import Derived.Shelf.Slices.In.SortNone
import Derived.Shelf.Slices.Empties
import Derived.Sort.OwnSortedInts
import Derived.Lib.RowBridge
import Derived.Shelf.SlSortCmp.NoneTotal
import Derived.Shelf.SlicesG.Cmp
import Derived.Shelf.Spec.SlicesGrow
import Derived.Ground.SlsfProg
import Derived.Ground.SlgcProg
import Derived.Ground.Names8Prog
namespace Go.Proofs.YtpeggkeenboacaaGreat
open Go.RowKit
set_option linter.unusedVariables false
namespace RE
variable {P : Program}
/-- How calls of a function are carried out. -/
structure Rule where
  f : FuncId
  cp : List SV → MS → (SV → MS → Prop) → Prop
def RuleOK (P : Program) (r : Rule) : Prop := ∀ ss m k, r.cp ss m k → ∀ (us : List Value) w c, OXM m w c → us.length = ss.length → (∀ (i : Nat) (s : SV) (u : Value), ss[i]? = some s → us[i]? = some u → SRel c w s u ∧ s.inU m.U) →
  Calls P r.f us.toArray w fun e w' => ∃ v s m' c', e = .returned v ∧ k s m' ∧ FrM m m' ∧ OXM m' w' c' ∧ TrM m w c m' w' c' ∧ SRel c' w' s v ∧ s.inU m'.U
inductive RulesOK (P : Program) : List Rule → Prop
  | nil : RulesOK P []
  | cons {r : Rule} {l : List Rule} (h : RuleOK P r) (t : RulesOK P l) : RulesOK P (r :: l)
def findR : List Rule → FuncId → Option Rule
  | [], _ => none
  | r :: l, f => bif Nat.beq r.f f then some r else findR l f
theorem findR_ok : ∀ {l : List Rule}, RulesOK P l → ∀ {f : FuncId} {r : Rule}, findR l f = some r → RuleOK P r ∧ r.f = f
  | [], _, f, r, h => by cases h
  | q :: l, .cons hq ht, f, r, h => by
    unfold findR at h
    cases hb : Nat.beq q.f f with
    | false => rw [hb] at h; exact findR_ok ht h
    | true =>
      rw [hb] at h
      injection h with h
      subst h
      exact ⟨hq, beq_eq hb⟩
def rule1 (s : Spec) : Rule := ⟨s.f, byCon s⟩
theorem rule1_ok {s : Spec} (h : SpecOK P s) : RuleOK P (rule1 s) := fun ss m k hk us w c hox hl hr => byCon_ok h hk hox hl hr
def rule2 (s : Spec2) : Rule := ⟨s.f, byCon2 s⟩
theorem rule2_ok {s : Spec2} (h : Spec2OK P s) : RuleOK P (rule2 s) := fun ss m k hk us w c hox hl hr => byCon2_ok h hk hox hl hr
def ruleN (fN : FuncId) : Rule := ⟨fN, fun ss m k => newC fN (fun _ _ _ _ => False) fN ss m k⟩
theorem ruleN_ok {fN : FuncId} (h : NewOK P fN) : RuleOK P (ruleN fN) := fun ss m k hk us w c hox hl hr =>
  newC_ok h (cp := fun _ _ _ _ => False) (fun _ _ _ _ h => h.elim) fN ss m k hk us w c hox hl hr
/-! ### rows changed in place -/
/-- A contract: a function that changes its caller's row in place, by a closure that holds nothing. -/
structure Spec3 where
  f : FuncId
  t : Ty
  cl : Option FuncId
  pt : List (den t) → (List (den t) → Prop) → Prop
def clV : Option FuncId → List Value
  | none => []
  | some g => [.func (.func g) #[] #[]]
def Spec3OK (P : Program) (s : Spec3) : Prop := ∀ l post, s.pt l post → ∀ w (S : Cells) (v : Value) (F : Nat → Prop) (e : TypeId), RowAt w S v F e s.t l → (∀ b o, S b o → b < w.heap.size) → (∀ b, F b → b < w.heap.size ∧ ∀ k, ¬ S b k) →
  Calls P s.f (v :: clV s.cl).toArray w fun e' w' => ∃ r l', e' = .returned r ∧ post l' ∧ RowAt w' S v F e s.t l' ∧ w'.os = w.os ∧ w'.tape = w.tape ∧ w'.output = w.output ∧ w.heap.size ≤ w'.heap.size ∧ ∀ b, b < w.heap.size → ¬ F b → w'.heap[b]? = w.heap[b]?
def isCl (g : FuncId) : SV → Bool
  | .d (.v (.func (.func f) a b)) => Nat.beq f g && Nat.beq a.size 0 && Nat.beq b.size 0
  | _ => false
def clOK : Option FuncId → List SV → Bool
  | none, [] => true
  | some g, [x] => isCl g x
  | _, _ => false
theorem isCl_rel {g : FuncId} {x : SV} (h : isCl g x = true) {c : Cx} {w : World} {u : Value} (hr : SRel c w x u) : u = .func (.func g) #[] #[] := by
  unfold isCl at h
  split at h
  · rename_i f a b
    simp only [Bool.and_eq_true] at h
    obtain ⟨⟨h1, h2⟩, h3⟩ := h
    rw [srel_v hr, beq_eq h1]
    have h2 : a.size = 0 := beq_eq h2
    have h3 : b.size = 0 := beq_eq h3
    rw [Array.eq_empty_of_size_eq_zero h2, Array.eq_empty_of_size_eq_zero h3]
  · cases h
theorem clOK_rel {cl : Option FuncId} {r : List SV} (h : clOK cl r = true) {c : Cx} {w : World} {us : List Value} (hl : us.length = r.length) (hr : ∀ (i : Nat) (s : SV) (u : Value), r[i]? = some s → us[i]? = some u → SRel c w s u) : us = clV cl := by
  unfold clOK at h
  split at h
  · match us, hl with
    | [], _ => rfl
  · rename_i g x
    match us, hl with
    | [u], _ =>
      rw [isCl_rel h (hr 0 x u rfl rfl)]; rfl
  · cases h
def byCon3 (s : Spec3) (ss : List SV) (m : MS) (k : SV → MS → Prop) : Prop := match ss with
  | .os id :: r => match m.obs id with
    | some (.row e t l) => match castL s.t t l with
      | some l1 => bif clOK s.cl r then s.pt l1 fun l' => k .un ⟨(id, some (.row e s.t l')) :: m.ob, m.nx, m.tp⟩ else False
      | none => False
    | _ => False
  | _ => False
theorem byCon3_ok {s : Spec3} (hs : Spec3OK P s) {ss : List SV} {m : MS} {k : SV → MS → Prop} (h : byCon3 s ss m k) {us : List Value} {w : World} {c : Cx} (hox : OXM m w c) (hl : us.length = ss.length) (hr : ∀ (i : Nat) (x : SV) (u : Value), ss[i]? = some x → us[i]? = some u → SRel c w x u ∧ x.inU m.U) :
    Calls P s.f us.toArray w fun e w' => ∃ v r m' c', e = .returned v ∧ k r m' ∧ FrM m m' ∧ OXM m' w' c' ∧ TrM m w c m' w' c' ∧ SRel c' w' r v ∧ r.inU m'.U := by
  unfold byCon3 at h
  split at h
  rotate_left
  · exact h.elim
  rename_i id r
  split at h
  rotate_left
  · exact h.elim
  rename_i e t l hob
  split at h
  rotate_left
  · exact h.elim
  rename_i l1 hc
  obtain ⟨e1, e2⟩ := castL_eq hc
  subst e1
  have e2 := eq_of_heq e2
  subst e2
  cases hb : clOK s.cl r with
  | false => rw [hb] at h; exact h.elim
  | true =>
  rw [hb] at h
  simp only [cond_true] at h
  match us, hl with
  | u :: us', hl =>
  have hu := srel_os (hr 0 (.os id) u rfl rfl).1
  have hus : us' = clV s.cl := clOK_rel hb (by simpa using hl) fun i x v hx hv => (hr (i + 1) x v (by simpa using hx) (by simpa using hv)).1
  subst hu hus
  obtain ⟨hidU, _, hrow⟩ := hox.objs id _ hob
  have hfb := hox.fb id _ hob rfl
  refine (hs _ _ h w c.S (c.H id) (c.F id) e hrow hox.sb fun b hb => ⟨(hfb b hb).1, (hfb b hb).2.1⟩).mono ?_
  rintro e' w' ⟨rv, l', rfl, hp, hrow', g1, g2, g3, g4, g5⟩
  have hcell : ∀ b o, c.S b o → w'.cell? ⟨b, o, none⟩ = w.cell? ⟨b, o, none⟩ := fun b o hS => World.cell?_of_block (g5 b (hox.sb b o hS) fun hF => (hfb b hF).2.1 o hS)
  have hobs : ∀ x y, (MS.obs ⟨(id, some (.row e s.t l')) :: m.ob, m.nx, m.tp⟩) x = some y → (x = id ∧ y = .row e s.t l') ∨ (x ≠ id ∧ m.obs x = some y) := fun x y hx => by
    have hx : lookO ((id, some (.row e s.t l')) :: m.ob) x = some y := hx
    rw [lookO_cons] at hx
    by_cases e : x = id
    · subst e
      rw [put_same] at hx
      injection hx with hx
      exact .inl ⟨rfl, hx.symm⟩
    · rw [put_ne _ _ e] at hx
      exact .inr ⟨e, hx⟩
  refine ⟨_, .un, _, c, rfl, hp, ⟨⟨[(id, some (.row e s.t l'))], rfl⟩, fun h => h⟩, ⟨fun b o hb => Nat.lt_of_lt_of_le (hox.sb b o hb) g4, fun x y hx => ?_, fun x y hx ho b hb => ?_, fun i j x y hx ox hy oy hne b hb hb' => ?_, fun T hT => ?_, fun e => ?_, hox.tF⟩, ⟨g1, g2, g3, g4, fun _ h => h, fun _ h => .inl h, fun _ h => h, fun _ _ => ⟨rfl, rfl⟩, fun _ _ h => h, fun _ _ h => .inl h, fun b hb hf hT => g5 b hb fun hF => hf ⟨id, _, hob, rfl, hF⟩, fun b hb => ?_⟩, .un _, trivial⟩
  · rcases hobs x y hx with ⟨rfl, rfl⟩ | ⟨hne, hx⟩
    · exact ⟨hidU, trivial, hrow'⟩
    · obtain ⟨u1, u2, u3⟩ := hox.objs x y hx
      exact ⟨u1, u2, u3.keep (U := m.U) u2 (fun _ _ h => h) hcell (fun _ h => h) (fun _ _ => rfl) ⟨rfl, rfl⟩ fun ho b hb => g5 b (hox.fb x y hx ho b hb).1 fun hF => hox.dj x id y _ hx ho hob rfl hne b hb hF⟩
  · rcases hobs x y hx with ⟨rfl, rfl⟩ | ⟨hne, hx⟩
    · obtain ⟨u1, u2, u3⟩ := hfb b hb
      exact ⟨Nat.lt_of_lt_of_le u1 g4, u2, u3⟩
    · obtain ⟨u1, u2, u3⟩ := hox.fb x y hx ho b hb
      exact ⟨Nat.lt_of_lt_of_le u1 g4, u2, u3⟩
  · have src : ∀ i x, (MS.obs ⟨(id, some (.row e s.t l')) :: m.ob, m.nx, m.tp⟩) i = some x → x.own = true → ∃ x', m.obs i = some x' ∧ x'.own = true := fun i x hx ox => by
      rcases hobs i x hx with ⟨rfl, rfl⟩ | ⟨hne, hx⟩
      · exact ⟨_, hob, rfl⟩
      · exact ⟨x, hx, ox⟩
    obtain ⟨x', hx', ox'⟩ := src i x hx ox
    obtain ⟨y', hy', oy'⟩ := src j y hy oy
    exact hox.dj i j x' y' hx' ox' hy' oy' hne b hb hb'
  · obtain ⟨t1, t2⟩ := hox.nT T hT
    exact ⟨Nat.lt_of_lt_of_le t1 g4, t2⟩
  · obtain ⟨T, hT, ht⟩ := hox.tpe e
    exact ⟨T, hT, ht.mono (fun _ _ h => h) hcell (g5 T ht.lt fun hF => (hfb T hF).2.2 hT)⟩
  · obtain ⟨x, y, hx, ho, hb⟩ := hb
    rcases hobs x y hx with ⟨rfl, rfl⟩ | ⟨hne, hx⟩
    · exact .inl ⟨x, _, hob, rfl, hb⟩
    · exact .inl ⟨x, y, hx, ho, hb⟩
def rule3 (s : Spec3) : Rule := ⟨s.f, byCon3 s⟩
theorem rule3_ok {s : Spec3} (h : Spec3OK P s) : RuleOK P (rule3 s) := fun ss m k hk us w c hox hl hr => byCon3_ok h hk hox hl hr
/-! ### walks by rules -/
structure CtxR where
  τ : TypeId → Option Ty
  rs : List Rule
  jn : Nat → Nat → Option Shape
def callR (P : Program) (C : CtxR) (dr : DR) : Nat → Nat → CP
  | 0, _ => fun _ _ _ _ => False
  | n + 1, fk => fun f ss m k => match findR C.rs f with
    | some r => r.cp ss m k
    | none => inline P (fun id ops d st K => bif d then dr id (fun i => callR P C dr n (subK fk id i)) ops st K else aops P C.τ (fun i => callR P C dr n (subK fk id i)) ops 0 ops.toList st K) (C.jn fk) f ss m k
theorem callR_ok {C : CtxR} {dr : DR} (hR : RulesOK P C.rs) (hdr : DrOK P dr) : ∀ (n fk : Nat), CallOK P (callR P C dr n fk)
  | 0, fk => fun f ss m k h => h.elim
  | n + 1, fk => by
    intro f ss m k h us w c hox hl hr
    unfold callR at h
    split at h
    · rename_i r hr'
      obtain ⟨h1, h2⟩ := findR_ok hR hr'
      subst h2
      exact h1 _ _ _ h us w c hox hl hr
    · exact inline_ok (reg_ok hdr fun id i => callR_ok hR hdr n (subK fk id i)) f ss m k h us w c hox hl hr
theorem SpecOK.of_rules {C : CtxR} {dr : DR} (hR : RulesOK P C.rs) (hdr : DrOK P dr) {n fk : Nat} {s : Spec} (h : ∀ x post, s.pt x post → HoldW (walkG (callR P C dr n fk) s.f s.tp (tvs s.ts x) s.rs post)) : SpecOK P s :=
  SpecOK.of_walkG (callR_ok hR hdr n fk) fun x post hp => (h x post hp).h
/-- The walk of a function that takes over rows of its caller. -/
def walkO (cp : CP) (s : Spec2) (x : dens (shTL s.as [])) (post : dens (shT s.rs []) → Prop) : Prop :=
  cp s.f (instL s.as [] x 0).1 (mem2 s.as x) fun r m => fitR2 s.rs (mem2 s.as x) r m post
theorem Spec2OK.of_cp {cp : CP} (hcp : CallOK P cp) {s : Spec2} (h : ∀ x post, s.pt x post → HoldW (walkO cp s x post)) : Spec2OK P s := by
  intro x post hp us w c hox hl hr
  refine (hcp _ _ _ _ (h x post hp).h us w c hox hl hr).mono ?_
  rintro e w' ⟨v, r, m', c', rfl, hq, hfr, hox', htr, hs, hu⟩
  unfold fitR2 at hq
  split at hq
  · rename_i y hy
    have hb0 : RX ⟨[], mem2 s.as x, 1, [], []⟩ { tmps := #[undef], defers := [] } w c := ⟨hox, rfl, fun x u _ => .un u, fun x => trivial, fun x q wt g y hx => by cases hx⟩
    have hst : Step ⟨[], mem2 s.as x, 1, [], []⟩ { tmps := #[undef], defers := [] } w c ⟨[(0, noC r)], m', 1, [], []⟩ { tmps := #[v], defers := [] } w' c' := by
      refine ⟨⟨hox', rfl, fun x u hx => ?_, fun x => ?_, fun x q wt g y hx => ?_⟩, htr, rfl, rfl, ⟨[(0, noC r)], rfl⟩, hfr⟩
      · show SRel c' w' (look [(0, noC r)] x) u
        rw [look_cons]
        split
        · rename_i e
          subst e
          have : v = u := by simpa using hx
          subst this
          exact noC_rel hs
        · exact .un u
      · show (look [(0, noC r)] x).inU _
        rw [look_cons]
        split
        · exact noC_inU hu
        · trivial
      · have hx : look [(0, noC r)] x = .cnd q wt g y := hx
        rw [look_cons] at hx
        split at hx
        · exact absurd hx noC_ne
        · cases hx
    obtain ⟨c2, k⟩ := Shape.fit_ok hy hb0 hst
    have htp : (m'.tp == (mem2 s.as x).tp) = true := by
      unfold Shape.fit at hy
      split at hy
      · generalize hck : (_ && (m'.tp == (mem2 s.as x).tp)) = ck at hy
        cases ck with
        | false => cases hy
        | true => exact (Bool.and_eq_true_iff.1 hck).2
      · cases hy
    refine ⟨v, y, c2, _, _, rfl, hq, k.rx.ox, k.tr, k.rx.sl 0 v rfl, fun j r hr => ?_⟩
    show lookO ([] ++ ([] ++ (rowsOb (mem2 s.as x).nx (instL (shOf2 s.rs (mem2 s.as x).nx).all [] y (mem2 s.as x).nx).2.1 ++ _))) _ = _
    have e1 : (instL (shOf2 s.rs (mem2 s.as x).nx).all [] y (mem2 s.as x).nx).2.1 = (instS s.rs [] y (mem2 s.as x).nx).2.1 := List.append_nil _
    rw [List.nil_append, List.nil_append, e1, lookO_app']
    have e2 := instS_rows s.rs [] y (mem2 s.as x).nx 0
    rw [e2, lookK_rows _ _ j r hr]
    rfl
  · exact hq.elim
theorem Spec2OK.of_rules {C : CtxR} {dr : DR} (hR : RulesOK P C.rs) (hdr : DrOK P dr) {n fk : Nat} {s : Spec2} (h : ∀ x post, s.pt x post → HoldW (walkO (callR P C dr n fk) s x post)) : Spec2OK P s :=
  Spec2OK.of_cp (callR_ok hR hdr n fk) h
end RE
end Go.Proofs.YtpeggkeenboacaaGreat
set_option maxRecDepth 20000
namespace Go.Proofs.YtpeggkeenboacaaGreat
open Go.RowKit
namespace RE
namespace PL
end PL
open PL
/-- A loop over a list, from the front: what is said of the rest that is still to come. -/
theorem LOOP.list {ts : List Ty} {F : Cur ts → Cur ts} {v : dens ts} {α σ : Type} (l : List α) (st : Nat → σ → dens ts) (idx : dens ts → Nat) (G : Nat → List α → σ → Prop) (s0 : σ) (h0 : v = st 0 s0) (hG : G 0 l s0)
    (hidx : ∀ k s, k ≤ l.length → idx (st k s) = k)
    (hs : ∀ (rec : Cur ts) (k : Nat) (x : α) (r : List α) (s : σ), l.drop k = x :: r → l[k]? = some x → k < l.length → G k (x :: r) s → (∀ s', G (k + 1) r s' → app ts rec (st (k + 1) s')) → app ts (F rec) (st k s))
    (he : ∀ (rec : Cur ts) (s : σ), G l.length [] s → app ts (F rec) (st l.length s)) : LOOP ts F v := by
  refine ⟨fun u => ∃ k s, k ≤ l.length ∧ u = st k s ∧ G k (l.drop k) s, fun u => l.length - idx u, ⟨0, s0, Nat.zero_le _, h0, hG⟩, ?_⟩
  rintro x ⟨k, s, hk, rfl, hg⟩
  by_cases hlt : k < l.length
  · have hd : l.drop k = l[k] :: l.drop (k + 1) := List.drop_eq_getElem_cons hlt
    refine hs _ k l[k] (l.drop (k + 1)) s hd (List.getElem?_eq_getElem hlt) hlt (hd ▸ hg) fun s' hg' => ?_
    rw [app_lam]
    refine ⟨⟨k + 1, s', hlt, rfl, hg'⟩, ?_⟩
    show l.length - idx (st (k + 1) s') < l.length - idx (st k s)
    rw [hidx k s hk, hidx (k + 1) s' hlt]
    omega
  · have hk' : k = l.length := by omega
    subst hk'
    rw [List.drop_length] at hg
    exact he _ s hg
/-- A loop that counts down a number. -/
theorem LOOP.fuel {ts : List Ty} {F : Cur ts → Cur ts} {v : dens ts} (I : dens ts → Prop) (μ : dens ts → Nat) (h0 : I v)
    (hs : ∀ (rec : Cur ts) x, I x → (∀ y, I y → μ y < μ x → app ts rec y) → app ts (F rec) x) : LOOP ts F v :=
  ⟨I, μ, h0, fun x hx => hs _ x hx fun y hy hm => by rw [app_lam]; exact ⟨hy, hm⟩⟩
theorem ix_of {α : Type} [Inhabited α] {l : List α} {k : Nat} {x : α} (h : l[k]? = some x) : ix l (k : Int) = x := by
  unfold ix
  rw [Int.toNat_natCast, List.getD_eq_getElem?_getD, h]; rfl
theorem wrap_in {z : Int} (h1 : -9223372036854775808 ≤ z) (h2 : z ≤ 9223372036854775807) : IntKind.i64.wrap z = z := w64_eq h1 h2
theorem gx_t (b : Bool) : gx true b = b := rfl
theorem gx_f (b : Bool) : gx false b = !b := rfl
end RE
end Go.Proofs.YtpeggkeenboacaaGreat
set_option linter.unusedVariables false
set_option maxRecDepth 100000
namespace Go.Proofs.YtpeggkeenboacaaGreat
open Go.RowKit
namespace RE
namespace PL
abbrev Sp := region_Span
def inSp (l : List Sp) (x : Int) : Prop := ∃ s ∈ l, s.1 ≤ x ∧ x < s.2
def SpOK (l : List Sp) : Prop := (∀ s ∈ l, s.1 < s.2) ∧ l.Pairwise (fun s t => s.2 < t.1)
abbrev Bd := region_band
def inBd (l : List Bd) (x y : Int) : Prop := ∃ b ∈ l, b.low ≤ y ∧ y < b.high ∧ inSp b.spans x
structure BdOK (l : List Bd) : Prop where
  each : ∀ b ∈ l, b.low < b.high ∧ b.spans ≠ [] ∧ SpOK b.spans
  srt : l.Pairwise (fun b c => b.high ≤ c.low)
  ne : l.Pairwise (fun b c => b.high = c.low → b.spans ≠ c.spans)
end PL
open PL
theorem PL.SpOK.cons {s : Sp} {r : List Sp} (h : SpOK (s :: r)) : s.1 < s.2 ∧ (∀ t ∈ r, s.2 < t.1) ∧ SpOK r := by
  obtain ⟨h1, h2⟩ := h
  rw [List.pairwise_cons] at h2
  exact ⟨h1 s (by simp), h2.1, fun t ht => h1 t (by simp [ht]), h2.2⟩
theorem PL.SpOK.nil : SpOK [] := ⟨fun s h => (by cases h), List.Pairwise.nil⟩
theorem PL.SpOK.mk {s : Sp} {r : List Sp} (h1 : s.1 < s.2) (h2 : ∀ t ∈ r, s.2 < t.1) (h3 : SpOK r) : SpOK (s :: r) :=
  ⟨fun t ht => (List.mem_cons.1 ht).elim (fun e => e ▸ h1) (h3.1 t), List.pairwise_cons.2 ⟨h2, h3.2⟩⟩
theorem inSp_cons {s : Sp} {r : List Sp} {x : Int} : inSp (s :: r) x ↔ (s.1 ≤ x ∧ x < s.2) ∨ inSp r x := by
  unfold inSp
  constructor
  · rintro ⟨t, ht, h⟩
    rcases List.mem_cons.1 ht with rfl | ht
    · exact .inl h
    · exact .inr ⟨t, ht, h⟩
  · rintro (h | ⟨t, ht, h⟩)
    · exact ⟨s, by simp, h⟩
    · exact ⟨t, by simp [ht], h⟩
theorem inSp_nil {x : Int} : ¬ inSp [] x := fun ⟨s, h, _⟩ => by cases h
theorem inSp_app {a b : List Sp} {x : Int} : inSp (a ++ b) x ↔ inSp a x ∨ inSp b x := by
  unfold inSp
  constructor
  · rintro ⟨t, ht, h⟩
    rcases List.mem_append.1 ht with ht | ht
    · exact .inl ⟨t, ht, h⟩
    · exact .inr ⟨t, ht, h⟩
  · rintro (⟨t, ht, h⟩ | ⟨t, ht, h⟩)
    · exact ⟨t, by simp [ht], h⟩
    · exact ⟨t, by simp [ht], h⟩
/-- Spans of a row are told by their squares. -/
theorem sp_uniq : ∀ {a b : List Sp}, SpOK a → SpOK b → (∀ x, inSp a x ↔ inSp b x) → a = b
  | [], [], _, _, _ => rfl
  | [], t :: q, _, hb, h => by
    have hb := hb.cons
    exact absurd ((h t.1).2 (inSp_cons.2 (.inl ⟨Int.le_refl _, hb.1⟩))) inSp_nil
  | s :: r, [], ha, _, h => by
    have ha := ha.cons
    exact absurd ((h s.1).1 (inSp_cons.2 (.inl ⟨Int.le_refl _, ha.1⟩))) inSp_nil
  | s :: r, t :: q, ha, hb, h => by
    obtain ⟨a1, a2, a3⟩ := ha.cons
    obtain ⟨b1, b2, b3⟩ := hb.cons
    have lowA : ∀ x, inSp r x → s.2 < x := fun x ⟨u, hu, h1, h2⟩ => by have := a2 u hu; omega
    have lowB : ∀ x, inSp q x → t.2 < x := fun x ⟨u, hu, h1, h2⟩ => by have := b2 u hu; omega
    have e1 : s.1 = t.1 := by
      have h1 := inSp_cons.1 ((h s.1).1 (inSp_cons.2 (.inl ⟨Int.le_refl _, a1⟩)))
      have h2 := inSp_cons.1 ((h t.1).2 (inSp_cons.2 (.inl ⟨Int.le_refl _, b1⟩)))
      rcases h1 with h1 | h1
      · rcases h2 with h2 | h2
        · omega
        · have := lowA _ h2; omega
      · have := lowB _ h1
        rcases h2 with h2 | h2
        · omega
        · have := lowA _ h2; omega
    have e2 : s.2 = t.2 := by
      rcases Int.lt_trichotomy s.2 t.2 with hlt | he | hlt
      · have h1 := inSp_cons.1 ((h s.2).2 (inSp_cons.2 (.inl ⟨by omega, hlt⟩)))
        rcases h1 with h1 | h1
        · omega
        · have := lowA _ h1; omega
      · exact he
      · have h1 := inSp_cons.1 ((h t.2).1 (inSp_cons.2 (.inl ⟨by omega, hlt⟩)))
        rcases h1 with h1 | h1
        · omega
        · have := lowB _ h1; omega
    have hs : s = t := by cases s; cases t; simp_all
    subst hs
    congr 1
    refine sp_uniq a3 b3 fun x => ?_
    constructor
    · intro hx
      have := lowA x hx
      rcases inSp_cons.1 ((h x).1 (inSp_cons.2 (.inr hx))) with h1 | h1
      · omega
      · exact h1
    · intro hx
      have := lowB x hx
      rcases inSp_cons.1 ((h x).2 (inSp_cons.2 (.inr hx))) with h1 | h1
      · omega
      · exact h1
theorem sp_some {a : List Sp} (h : SpOK a) (h2 : a ≠ []) : ∃ x, inSp a x := by
  cases a with
  | nil => exact absurd rfl h2
  | cons s r => exact ⟨s.1, inSp_cons.2 (.inl ⟨Int.le_refl _, h.cons.1⟩)⟩
theorem inBd_cons {b : Bd} {r : List Bd} {x y : Int} : inBd (b :: r) x y ↔ (b.low ≤ y ∧ y < b.high ∧ inSp b.spans x) ∨ inBd r x y := by
  unfold inBd
  constructor
  · rintro ⟨t, ht, h⟩
    rcases List.mem_cons.1 ht with rfl | ht
    · exact .inl h
    · exact .inr ⟨t, ht, h⟩
  · rintro (h | ⟨t, ht, h⟩)
    · exact ⟨b, by simp, h⟩
    · exact ⟨t, by simp [ht], h⟩
theorem inBd_nil {x y : Int} : ¬ inBd [] x y := fun ⟨s, h, _⟩ => by cases h
theorem PL.BdOK.cons {b : Bd} {r : List Bd} (h : BdOK (b :: r)) : (b.low < b.high ∧ b.spans ≠ [] ∧ SpOK b.spans) ∧ (∀ c ∈ r, b.high ≤ c.low) ∧ BdOK r ∧ (∀ c ∈ r, b.high = c.low → b.spans ≠ c.spans) := by
  obtain ⟨h1, h2, h3⟩ := h
  rw [List.pairwise_cons] at h2 h3
  exact ⟨h1 b (by simp), h2.1, ⟨fun c hc => h1 c (by simp [hc]), h2.2, h3.2⟩, h3.1⟩
/-- A row of bands that begin behind it has nothing. -/
theorem bd_low {r : List Bd} {m x y : Int} (h : ∀ c ∈ r, m ≤ c.low) (hx : inBd r x y) : m ≤ y := by
  obtain ⟨b, hb, h1, _⟩ := hx
  have := h b hb; omega
/-- The row where a list of bands begins. -/
theorem bd_at {c : Bd} {q : List Bd} (h : BdOK (c :: q)) {m x y : Int} (hm : ∀ d ∈ c :: q, m ≤ d.low) (hx : inBd (c :: q) x m) : c.low = m ∧ inSp c.spans x := by
  obtain ⟨h1, h2, h3, _⟩ := h.cons
  rcases inBd_cons.1 hx with ⟨e1, e2, e3⟩ | hx
  · have := hm c (by simp)
    exact ⟨by omega, e3⟩
  · obtain ⟨u, hu, k1, k2, k3⟩ := hx
    have := h2 u hu
    have := hm c (by simp)
    omega
theorem bd_uniq : ∀ {a b : List Bd}, BdOK a → BdOK b → (∀ x y, inBd a x y ↔ inBd b x y) → a = b
  | [], [], _, _, _ => rfl
  | [], c :: q, _, hb, h => by
    obtain ⟨⟨h1, h2, h3⟩, _⟩ := hb.cons
    obtain ⟨x, hx⟩ := sp_some h3 h2
    exact absurd ((h x c.low).2 (inBd_cons.2 (.inl ⟨Int.le_refl _, h1, hx⟩))) inBd_nil
  | b :: r, [], ha, _, h => by
    obtain ⟨⟨h1, h2, h3⟩, _⟩ := ha.cons
    obtain ⟨x, hx⟩ := sp_some h3 h2
    exact absurd ((h x b.low).1 (inBd_cons.2 (.inl ⟨Int.le_refl _, h1, hx⟩))) inBd_nil
  | b :: r, c :: q, ha, hb, h => by
    obtain ⟨⟨a1, a2, a3⟩, a4, a5, a6⟩ := ha.cons
    obtain ⟨⟨b1, b2, b3⟩, b4, b5, b6⟩ := hb.cons
    have allA : ∀ d ∈ b :: r, b.low ≤ d.low := fun d hd => by
      rcases List.mem_cons.1 hd with rfl | hd
      · exact Int.le_refl _
      · have := a4 d hd; omega
    have allB : ∀ d ∈ c :: q, c.low ≤ d.low := fun d hd => by
      rcases List.mem_cons.1 hd with rfl | hd
      · exact Int.le_refl _
      · have := b4 d hd; omega
    obtain ⟨xa, hxa⟩ := sp_some a3 a2
    obtain ⟨xb, hxb⟩ := sp_some b3 b2
    have e1 : b.low = c.low := by
      have h1 := bd_low allB ((h xa b.low).1 (inBd_cons.2 (.inl ⟨Int.le_refl _, a1, hxa⟩)))
      have h2 := bd_low allA ((h xb c.low).2 (inBd_cons.2 (.inl ⟨Int.le_refl _, b1, hxb⟩)))
      omega
    have rowA : ∀ x y, b.low ≤ y → y < b.high → (inBd (b :: r) x y ↔ inSp b.spans x) := fun x y h1 h2 => by
      rw [inBd_cons]
      constructor
      · rintro (h | h)
        · exact h.2.2
        · have := bd_low a4 h; omega
      · exact fun h => .inl ⟨h1, h2, h⟩
    have rowB : ∀ x y, c.low ≤ y → y < c.high → (inBd (c :: q) x y ↔ inSp c.spans x) := fun x y h1 h2 => by
      rw [inBd_cons]
      constructor
      · rintro (h | h)
        · exact h.2.2
        · have := bd_low b4 h; omega
      · exact fun h => .inl ⟨h1, h2, h⟩
    have e2 : b.spans = c.spans := sp_uniq a3 b3 fun x => by
      rw [← rowA x b.low (Int.le_refl _) a1, h, e1, rowB x c.low (Int.le_refl _) b1]
    have e3 : b.high = c.high := by
      rcases Int.lt_trichotomy b.high c.high with hlt | he | hlt
      · exfalso
        have h1 : ∀ x, inBd r x b.high ↔ inSp c.spans x := fun x => by
          rw [← rowB x b.high (by omega) hlt, ← h, inBd_cons]
          constructor
          · exact fun h => .inr h
          · rintro (h | h)
            · omega
            · exact h
        cases r with
        | nil => exact absurd ((h1 xb).2 hxb) inBd_nil
        | cons d t =>
          obtain ⟨k1, _⟩ := bd_at (y := 0) a5 a4 ((h1 xb).2 hxb)
          refine a6 d (by simp) k1.symm ?_
          rw [e2]
          obtain ⟨⟨d1, d2, d3⟩, _⟩ := a5.cons
          refine sp_uniq b3 d3 fun x => ?_
          rw [← h1 x]
          constructor
          · exact fun hx => (bd_at (y := 0) a5 a4 hx).2
          · exact fun hx => inBd_cons.2 (.inl ⟨by omega, by omega, hx⟩)
      · exact he
      · exfalso
        have h1 : ∀ x, inBd q x c.high ↔ inSp b.spans x := fun x => by
          rw [← rowA x c.high (by omega) hlt, h, inBd_cons]
          constructor
          · exact fun h => .inr h
          · rintro (h | h)
            · omega
            · exact h
        cases q with
        | nil => exact absurd ((h1 xa).2 hxa) inBd_nil
        | cons d t =>
          obtain ⟨k1, _⟩ := bd_at (y := 0) b5 b4 ((h1 xa).2 hxa)
          refine b6 d (by simp) k1.symm ?_
          rw [← e2]
          obtain ⟨⟨d1, d2, d3⟩, _⟩ := b5.cons
          refine sp_uniq a3 d3 fun x => ?_
          rw [← h1 x]
          constructor
          · exact fun hx => (bd_at (y := 0) b5 b4 hx).2
          · exact fun hx => inBd_cons.2 (.inl ⟨by omega, by omega, hx⟩)
    have hbc : b = c := by cases b; cases c; simp_all
    subst hbc
    congr 1
    refine bd_uniq a5 b5 fun x y => ?_
    constructor
    · intro hx
      have := bd_low a4 hx
      rcases inBd_cons.1 ((h x y).1 (inBd_cons.2 (.inr hx))) with h1 | h1
      · omega
      · exact h1
    · intro hx
      have := bd_low b4 hx
      rcases inBd_cons.1 ((h x y).2 (inBd_cons.2 (.inr hx))) with h1 | h1
      · omega
      · exact h1
/-! ### spans out of edges -/
namespace PL
/-- A span more, joined with the last one if they touch. -/
def addSp (out : List Sp) (u v : Int) : List Sp := match out.getLast? with
  | some s => if s.2 = u then out.dropLast ++ [⟨s.1, v⟩] else out ++ [⟨u, v⟩]
  | none => [⟨u, v⟩]
/-- The spans between neighbouring edges that are chosen. -/
def spansG (p : Int → Bool) : List Sp → List Int → List Sp
  | out, u :: v :: r => spansG p (if p u = true then addSp out u v else out) (v :: r)
  | out, _ => out
def spansOf (p : Int → Bool) (xs : List Int) : List Sp := spansG p [] xs
/-- In the part between two neighbouring edges of which the first is chosen. -/
def inEdges (p : Int → Bool) : List Int → Int → Prop
  | u :: v :: r, x => (u ≤ x ∧ x < v ∧ p u = true) ∨ inEdges p (v :: r) x
  | _, _ => False
end PL
theorem addSp_ok {out : List Sp} {u v : Int} (h : SpOK out) (huv : u < v) (hl : ∀ s ∈ out, s.2 ≤ u) : SpOK (addSp out u v) ∧ (∀ s ∈ addSp out u v, s.2 ≤ v) ∧ ∀ x, inSp (addSp out u v) x ↔ inSp out x ∨ (u ≤ x ∧ x < v) := by
  unfold addSp
  rcases List.eq_nil_or_concat out with rfl | ⟨A, s, rfl⟩
  · refine ⟨SpOK.mk huv (fun t ht => by cases ht) SpOK.nil, fun s hs => ?_, fun x => ?_⟩
    · simp at hs; subst hs; exact Int.le_refl _
    · simp [inSp_cons, inSp_nil]
  · simp only [List.concat_eq_append] at *
    simp only [List.getLast?_append, List.getLast?_singleton, Option.some_or]
    obtain ⟨h1, h2⟩ := h
    rw [List.pairwise_append] at h2
    obtain ⟨p1, _, p3⟩ := h2
    have hs := h1 s (by simp)
    have hsl := hl s (by simp)
    split
    · rename_i e
      rw [List.dropLast_concat]
      refine ⟨⟨fun t ht => ?_, ?_⟩, fun t ht => ?_, fun x => ?_⟩
      · rcases List.mem_append.1 ht with ht | ht
        · exact h1 t (by simp [ht])
        · rw [List.mem_singleton.1 ht]; show s.1 < v; omega
      · rw [List.pairwise_append]
        refine ⟨p1, List.pairwise_singleton _ _, fun a ha b hb => ?_⟩
        rw [List.mem_singleton.1 hb]
        exact p3 a ha s (by simp)
      · rcases List.mem_append.1 ht with ht | ht
        · have := hl t (by simp [ht]); omega
        · rw [List.mem_singleton.1 ht]; exact Int.le_refl _
      · rw [inSp_app, inSp_app, inSp_cons, inSp_cons]
        simp only [inSp_nil, or_false]
        constructor
        · rintro (h | h)
          · exact .inl (.inl h)
          · by_cases hx : x < u
            · exact .inl (.inr ⟨h.1, by omega⟩)
            · exact .inr ⟨by omega, h.2⟩
        · rintro ((h | h) | h)
          · exact .inl h
          · exact .inr ⟨h.1, by show x < v; omega⟩
          · exact .inr ⟨by show s.1 ≤ x; omega, h.2⟩
    · rename_i e
      refine ⟨⟨fun t ht => ?_, ?_⟩, fun t ht => ?_, fun x => ?_⟩
      · rcases List.mem_append.1 ht with ht | ht
        · exact h1 t ht
        · rw [List.mem_singleton.1 ht]; exact huv
      · rw [List.pairwise_append]
        refine ⟨List.pairwise_append.2 ⟨p1, List.pairwise_singleton _ _, p3⟩, List.pairwise_singleton _ _, fun a ha b hb => ?_⟩
        rw [List.mem_singleton.1 hb]
        show a.2 < u
        rcases List.mem_append.1 ha with ha | ha
        · have := p3 a ha s (by simp); have := hl s (by simp); omega
        · rw [List.mem_singleton.1 ha]; omega
      · rcases List.mem_append.1 ht with ht | ht
        · have := hl t ht; omega
        · rw [List.mem_singleton.1 ht]; exact Int.le_refl _
      · rw [inSp_app, inSp_cons]
        simp only [inSp_nil, or_false]
theorem spansG_ok {p : Int → Bool} : ∀ {xs : List Int} {out : List Sp}, xs.Pairwise (· < ·) → SpOK out → (∀ u r, xs = u :: r → ∀ s ∈ out, s.2 ≤ u) → SpOK (spansG p out xs) ∧ ∀ x, inSp (spansG p out xs) x ↔ inSp out x ∨ inEdges p xs x
  | [], out, _, h, _ => ⟨h, fun x => by simp [spansG, inEdges]⟩
  | [u], out, _, h, _ => ⟨h, fun x => by simp [spansG, inEdges]⟩
  | u :: v :: r, out, hx, h, hl => by
    rw [List.pairwise_cons] at hx
    have huv := hx.1 v (by simp)
    have hlu := hl u (v :: r) rfl
    unfold spansG
    by_cases hp : p u = true
    · rw [if_pos hp]
      obtain ⟨q1, q2, q3⟩ := addSp_ok h huv hlu
      obtain ⟨i1, i2⟩ := spansG_ok (p := p) hx.2 q1 (fun u' r' e s hs => by injection e with e; subst e; exact q2 s hs)
      refine ⟨i1, fun x => ?_⟩
      rw [i2, q3]
      show _ ↔ _ ∨ (_ ∨ _)
      simp only [hp, and_true]
      rw [or_assoc]
    · rw [if_neg hp]
      obtain ⟨i1, i2⟩ := spansG_ok (p := p) hx.2 h (fun u' r' e s hs => by injection e with e; subst e; have := hlu s hs; omega)
      refine ⟨i1, fun x => ?_⟩
      rw [i2]
      show _ ↔ _ ∨ (_ ∨ _)
      simp [hp]
theorem spansOf_ok {p : Int → Bool} {xs : List Int} (h : xs.Pairwise (· < ·)) : SpOK (spansOf p xs) ∧ ∀ x, inSp (spansOf p xs) x ↔ inEdges p xs x := by
  obtain ⟨h1, h2⟩ := spansG_ok (p := p) h SpOK.nil (fun _ _ _ s hs => by cases hs)
  exact ⟨h1, fun x => by unfold spansOf; rw [h2]; simp [inSp_nil]⟩
/-- Where what is chosen changes at edges only, and outside of them is nothing, the spans have just what is chosen. -/
theorem edges_set {f : Int → Bool} : ∀ {xs : List Int}, xs.Pairwise (· < ·) → (∀ x, f x = true → ∃ u ∈ xs, u ≤ x) → (∀ x, f x = true → ∃ v ∈ xs, x < v) → (∀ u x, u ∈ xs → u ≤ x → (∀ v ∈ xs, v ≤ x → v ≤ u) → f x = f u) → ∀ x, inEdges f xs x ↔ f x = true
  | [], _, h1, _, _, x => by
    constructor
    · exact fun h => h.elim
    · intro h; obtain ⟨u, hu, _⟩ := h1 x h; cases hu
  | [u], _, h1, h2, _, x => by
    constructor
    · exact fun h => h.elim
    · intro h
      obtain ⟨a, ha, h3⟩ := h1 x h
      obtain ⟨b, hb, h4⟩ := h2 x h
      rw [List.mem_singleton.1 ha] at h3
      rw [List.mem_singleton.1 hb] at h4
      omega
  | u :: v :: r, hx, h1, h2, h3, x => by
    have hx' := hx
    rw [List.pairwise_cons] at hx
    have huv := hx.1 v (by simp)
    have hvr : ∀ w ∈ v :: r, v ≤ w := fun w hw => by
      rcases List.mem_cons.1 hw with rfl | hw
      · exact Int.le_refl _
      · have := (List.pairwise_cons.1 hx.2).1 w hw; omega
    -- what is chosen from v on
    have ih := edges_set (f := fun z => f z && decide (v ≤ z)) (xs := v :: r) hx.2 (fun z hz => by
      obtain ⟨_, hz2⟩ := Bool.and_eq_true_iff.1 hz
      exact ⟨v, by simp, of_decide_eq_true hz2⟩) (fun z hz => by
      obtain ⟨hz1, hz2⟩ := Bool.and_eq_true_iff.1 hz
      have hz2 := of_decide_eq_true hz2
      obtain ⟨w, hw, h4⟩ := h2 z hz1
      rcases List.mem_cons.1 hw with rfl | hw
      · omega
      · exact ⟨w, hw, h4⟩) (fun a z ha haz hmax => by
      have hva := hvr a ha
      have : f z = f a := h3 a z (by simp [ha]) haz (fun w hw hwz => by
        rcases List.mem_cons.1 hw with rfl | hw
        · omega
        · exact hmax w hw hwz)
      show (f z && decide (v ≤ z)) = (f a && decide (v ≤ a))
      rw [this, decide_eq_true (by omega : v ≤ z), decide_eq_true hva]) x
    have hcongr : inEdges f (v :: r) x ↔ inEdges (fun z => f z && decide (v ≤ z)) (v :: r) x := by
      have : ∀ {l : List Int}, (∀ w ∈ l, v ≤ w) → (inEdges f l x ↔ inEdges (fun z => f z && decide (v ≤ z)) l x) := by
        intro l
        induction l with
        | nil => intro _; exact Iff.rfl
        | cons a l ih =>
          intro hl
          cases l with
          | nil => exact Iff.rfl
          | cons b l =>
            have ha := hl a (by simp)
            have i2 := ih (fun w hw => hl w (by simp [hw]))
            show (_ ∨ _) ↔ (_ ∨ _)
            rw [i2]
            simp [ha]
      exact this hvr
    show ((u ≤ x ∧ x < v ∧ f u = true) ∨ inEdges f (v :: r) x) ↔ _
    rw [hcongr, ih]
    have hpart : u ≤ x → x < v → f x = f u := fun h4 h5 => h3 u x (by simp) h4 fun w hw hwx => by
      rcases List.mem_cons.1 hw with rfl | hw
      · exact Int.le_refl _
      · have := hvr w hw; omega
    constructor
    · rintro (⟨h4, h5, h6⟩ | h4)
      · rw [hpart h4 h5]; exact h6
      · exact (Bool.and_eq_true_iff.1 h4).1
    · intro hf
      by_cases hvx : v ≤ x
      · exact .inr (Bool.and_eq_true_iff.2 ⟨hf, decide_eq_true hvx⟩)
      · obtain ⟨a, ha, h4⟩ := h1 x hf
        have hux : u ≤ x := by
          rcases List.mem_cons.1 ha with rfl | ha
          · exact h4
          · have := hvr a ha; omega
        exact .inl ⟨hux, by omega, by rw [← hpart hux (by omega)]; exact hf⟩
end RE
end Go.Proofs.YtpeggkeenboacaaGreat
set_option linter.unusedVariables false
set_option maxRecDepth 100000
namespace Go.Proofs.YtpeggkeenboacaaGreat
open Go.RowKit
namespace RE
open PL
namespace PL
/-- A band more, joined with the last one if they touch and have the same squares. -/
def addBd (out : List Bd) (u v : Int) (ss : List Sp) : List Bd := match out.getLast? with
  | some b => if b.high = u ∧ b.spans = ss then out.dropLast ++ [⟨b.low, v, b.spans⟩] else out ++ [⟨u, v, ss⟩]
  | none => [⟨u, v, ss⟩]
def buildG (R : Int → List Sp) : List Bd → List Int → List Bd
  | out, u :: v :: r => buildG R (addBd out u v (R u)) (v :: r)
  | out, _ => out
def full (l : List Bd) : List Bd := l.filter fun b => !b.spans.isEmpty
structure BdW (l : List Bd) : Prop where
  each : ∀ b ∈ l, b.low < b.high ∧ SpOK b.spans
  srt : l.Pairwise (fun b c => b.high ≤ c.low)
  ne : l.Pairwise (fun b c => b.high = c.low → b.spans ≠ c.spans)
end PL
theorem PL.BdW.ok {l : List Bd} (h : BdW l) : BdOK (full l) := by
  refine ⟨fun b hb => ?_, h.srt.filter _, h.ne.filter _⟩
  obtain ⟨h1, h2⟩ := List.mem_filter.1 hb
  obtain ⟨h3, h4⟩ := h.each b h1
  exact ⟨h3, by simpa using h2, h4⟩
theorem full_in {l : List Bd} {x y : Int} : inBd (full l) x y ↔ inBd l x y := by
  unfold inBd full
  constructor
  · rintro ⟨b, hb, h⟩
    exact ⟨b, (List.mem_filter.1 hb).1, h⟩
  · rintro ⟨b, hb, h1, h2, s, hs, h3⟩
    refine ⟨b, List.mem_filter.2 ⟨hb, ?_⟩, h1, h2, s, hs, h3⟩
    cases hsp : b.spans with
    | nil => rw [hsp] at hs; cases hs
    | cons _ _ => rfl
theorem inBd_app {a b : List Bd} {x y : Int} : inBd (a ++ b) x y ↔ inBd a x y ∨ inBd b x y := by
  unfold inBd
  constructor
  · rintro ⟨t, ht, h⟩
    rcases List.mem_append.1 ht with ht | ht
    · exact .inl ⟨t, ht, h⟩
    · exact .inr ⟨t, ht, h⟩
  · rintro (⟨t, ht, h⟩ | ⟨t, ht, h⟩)
    · exact ⟨t, by simp [ht], h⟩
    · exact ⟨t, by simp [ht], h⟩
theorem addBd_ok {out : List Bd} {u v : Int} {ss : List Sp} (h : BdW out) (huv : u < v) (hs : SpOK ss) (hl : ∀ b ∈ out, b.high ≤ u) : BdW (addBd out u v ss) ∧ (∀ b ∈ addBd out u v ss, b.high ≤ v) ∧ ∀ x y, inBd (addBd out u v ss) x y ↔ inBd out x y ∨ (u ≤ y ∧ y < v ∧ inSp ss x) := by
  unfold addBd
  rcases List.eq_nil_or_concat out with rfl | ⟨A, b, rfl⟩
  · refine ⟨⟨fun c hc => ?_, List.pairwise_singleton _ _, List.pairwise_singleton _ _⟩, fun c hc => ?_, fun x y => ?_⟩
    · rw [List.mem_singleton.1 hc]; exact ⟨huv, hs⟩
    · rw [List.mem_singleton.1 hc]; exact Int.le_refl _
    · simp [inBd_cons, inBd_nil]
  · simp only [List.concat_eq_append] at *
    simp only [List.getLast?_append, List.getLast?_singleton, Option.some_or]
    obtain ⟨h1, h2, h3⟩ := h
    rw [List.pairwise_append] at h2 h3
    obtain ⟨p1, _, p3⟩ := h2
    obtain ⟨q1, _, q3⟩ := h3
    obtain ⟨hb1, hb2⟩ := h1 b (by simp)
    have hbl := hl b (by simp)
    split
    · rename_i e
      obtain ⟨e1, e2⟩ := e
      rw [List.dropLast_concat]
      refine ⟨⟨fun c hc => ?_, ?_, ?_⟩, fun c hc => ?_, fun x y => ?_⟩
      · rcases List.mem_append.1 hc with hc | hc
        · exact h1 c (by simp [hc])
        · rw [List.mem_singleton.1 hc]; exact ⟨by show b.low < v; omega, hb2⟩
      · rw [List.pairwise_append]
        refine ⟨p1, List.pairwise_singleton _ _, fun a ha c hc => ?_⟩
        rw [List.mem_singleton.1 hc]
        exact p3 a ha b (by simp)
      · rw [List.pairwise_append]
        refine ⟨q1, List.pairwise_singleton _ _, fun a ha c hc => ?_⟩
        rw [List.mem_singleton.1 hc]
        exact q3 a ha b (by simp)
      · rcases List.mem_append.1 hc with hc | hc
        · have := hl c (by simp [hc]); omega
        · rw [List.mem_singleton.1 hc]; exact Int.le_refl _
      · rw [inBd_app, inBd_app, inBd_cons, inBd_cons]
        simp only [inBd_nil, or_false]
        rw [← e2]
        constructor
        · rintro (h | ⟨h4, h5, h6⟩)
          · exact .inl (.inl h)
          · by_cases hy : y < u
            · exact .inl (.inr ⟨h4, by omega, h6⟩)
            · exact .inr ⟨by omega, h5, h6⟩
        · rintro ((h | ⟨h4, h5, h6⟩) | ⟨h4, h5, h6⟩)
          · exact .inl h
          · exact .inr ⟨h4, by show y < v; omega, h6⟩
          · exact .inr ⟨by show b.low ≤ y; omega, h5, h6⟩
    · rename_i e
      refine ⟨⟨fun c hc => ?_, ?_, ?_⟩, fun c hc => ?_, fun x y => ?_⟩
      · rcases List.mem_append.1 hc with hc | hc
        · exact h1 c hc
        · rw [List.mem_singleton.1 hc]; exact ⟨huv, hs⟩
      · rw [List.pairwise_append]
        refine ⟨List.pairwise_append.2 ⟨p1, List.pairwise_singleton _ _, p3⟩, List.pairwise_singleton _ _, fun a ha c hc => ?_⟩
        rw [List.mem_singleton.1 hc]
        exact hl a ha
      · rw [List.pairwise_append]
        refine ⟨List.pairwise_append.2 ⟨q1, List.pairwise_singleton _ _, q3⟩, List.pairwise_singleton _ _, fun a ha c hc => ?_⟩
        rw [List.mem_singleton.1 hc]
        intro k1 k2
        rcases List.mem_append.1 ha with ha | ha
        · have := p3 a ha b (by simp)
          have k1 : a.high = u := k1
          omega
        · rw [List.mem_singleton.1 ha] at k1 k2
          exact e ⟨k1, k2⟩
      · rcases List.mem_append.1 hc with hc | hc
        · have := hl c hc; omega
        · rw [List.mem_singleton.1 hc]; exact Int.le_refl _
      · rw [inBd_app, inBd_cons]
        simp only [inBd_nil, or_false]
theorem inEdges_congr {p q : Int → Bool} : ∀ {xs : List Int} {x : Int}, (∀ u ∈ xs, p u = q u) → (inEdges p xs x ↔ inEdges q xs x)
  | [], x, _ => Iff.rfl
  | [u], x, _ => Iff.rfl
  | u :: v :: r, x, h => by
    have ih := inEdges_congr (p := p) (q := q) (xs := v :: r) (x := x) (fun w hw => h w (by simp [hw]))
    show (_ ∨ _) ↔ (_ ∨ _)
    rw [ih, h u (by simp)]
open Classical in
theorem buildG_ok {R : Int → List Sp} : ∀ {xs : List Int} {out : List Bd}, xs.Pairwise (· < ·) → (∀ u ∈ xs, SpOK (R u)) → BdW out → (∀ u r, xs = u :: r → ∀ b ∈ out, b.high ≤ u) → BdW (buildG R out xs) ∧ ∀ x y, inBd (buildG R out xs) x y ↔ inBd out x y ∨ inEdges (fun u => decide (inSp (R u) x)) xs y
  | [], out, _, _, h, _ => ⟨h, fun x y => by simp [buildG, inEdges]⟩
  | [u], out, _, _, h, _ => ⟨h, fun x y => by simp [buildG, inEdges]⟩
  | u :: v :: r, out, hx, hR, h, hl => by
    rw [List.pairwise_cons] at hx
    have huv := hx.1 v (by simp)
    obtain ⟨q1, q2, q3⟩ := addBd_ok h huv (hR u (by simp)) (hl u (v :: r) rfl)
    obtain ⟨i1, i2⟩ := buildG_ok (R := R) hx.2 (fun w hw => hR w (by simp [hw])) q1 (fun u' r' e b hb => by injection e with e; subst e; exact q2 b hb)
    refine ⟨i1, fun x y => ?_⟩
    show inBd (buildG R (addBd out u v (R u)) (v :: r)) x y ↔ _
    rw [i2, q3]
    show _ ↔ _ ∨ (_ ∨ _)
    rw [or_assoc]
    simp only [decide_eq_true_eq]
theorem BdW.nil : BdW [] := ⟨fun b h => (by cases h), List.Pairwise.nil, List.Pairwise.nil⟩
/-- What is built out of the cuts and rows of a set is its canonical form. -/
theorem build_ok {R : Int → List Sp} {F : Int → Int → Bool} {xs : List Int} (hx : xs.Pairwise (· < ·)) (hR : ∀ u ∈ xs, SpOK (R u) ∧ ∀ x, inSp (R u) x ↔ F x u = true) (h1 : ∀ x y, F x y = true → ∃ u ∈ xs, u ≤ y) (h2 : ∀ x y, F x y = true → ∃ v ∈ xs, y < v)
    (h3 : ∀ x u y, u ∈ xs → u ≤ y → (∀ v ∈ xs, v ≤ y → v ≤ u) → F x y = F x u) : BdOK (full (buildG R [] xs)) ∧ ∀ x y, inBd (full (buildG R [] xs)) x y ↔ F x y = true := by
  obtain ⟨q1, q2⟩ := buildG_ok hx (fun u hu => (hR u hu).1) BdW.nil (fun _ _ _ b hb => by cases hb)
  refine ⟨q1.ok, fun x y => ?_⟩
  rw [full_in, q2]
  have e := edges_set (f := fun y => F x y) hx (h1 x) (h2 x) (fun u y hu huy hm => h3 x u y hu huy hm) y
  rw [← e, inEdges_congr (q := fun y => F x y) (fun u hu => by
    have := (hR u hu).2 x
    cases hF : F x u with
    | true => rw [hF] at this; simp [this]
    | false => rw [hF] at this; simp [this])]
  simp [inBd_nil]
end RE
end Go.Proofs.YtpeggkeenboacaaGreat
set_option linter.unusedVariables false
set_option maxRecDepth 100000
namespace Go.Proofs.YtpeggkeenboacaaGreat
open Go.RowKit
namespace RE
open PL
namespace PL
abbrev Rc := api_Rect
def hit (r : Rc) (x y : Int) : Bool := decide (r.Left ≤ x) && decide (x < r.Right) && decide (r.Low ≤ y) && decide (y < r.High)
def cov (l : List Rc) (x y : Int) : Bool := l.any fun r => hit r x y
def flat1 (b : Bd) : List Rc := b.spans.map fun s => ⟨s.1, b.low, s.2, b.high⟩
def flat (l : List Bd) : List Rc := l.flatMap flat1
def Canon (l : List Rc) : Prop := ∃ bs, BdOK bs ∧ l = flat bs
open Classical in
/-- The canonical rectangles of a set. -/
noncomputable def canonF (f : Int → Int → Bool) : List Rc := if h : ∃ l, Canon l ∧ ∀ x y, cov l x y = f x y then Classical.choose h else []
def proper (r : Rc) : Prop := 0 ≤ r.Left ∧ r.Left < r.Right ∧ r.Right ≤ 16384 ∧ 0 ≤ r.Low ∧ r.Low < r.High ∧ r.High ≤ 16384
def validP (l : List Rc) : Prop := l.length ≤ 120 ∧ (∀ r ∈ l, proper r) ∧ Canon l
end PL
theorem hit_iff {r : Rc} {x y : Int} : hit r x y = true ↔ r.Left ≤ x ∧ x < r.Right ∧ r.Low ≤ y ∧ y < r.High := by
  unfold hit; simp [and_assoc]
theorem cov_iff {l : List Rc} {x y : Int} : cov l x y = true ↔ ∃ r ∈ l, r.Left ≤ x ∧ x < r.Right ∧ r.Low ≤ y ∧ y < r.High := by
  unfold cov
  rw [List.any_eq_true]
  simp only [hit_iff]
theorem cov_flat {bs : List Bd} {x y : Int} : cov (flat bs) x y = true ↔ inBd bs x y := by
  rw [cov_iff]
  unfold flat inBd inSp
  constructor
  · rintro ⟨r, hr, h1, h2, h3, h4⟩
    obtain ⟨b, hb, hr⟩ := List.mem_flatMap.1 hr
    obtain ⟨s, hs, rfl⟩ := List.mem_map.1 hr
    exact ⟨b, hb, h3, h4, s, hs, h1, h2⟩
  · rintro ⟨b, hb, h3, h4, s, hs, h1, h2⟩
    exact ⟨⟨s.1, b.low, s.2, b.high⟩, List.mem_flatMap.2 ⟨b, hb, List.mem_map.2 ⟨s, hs, rfl⟩⟩, h1, h2, h3, h4⟩
theorem bool_iff {a b : Bool} (h : a = true ↔ b = true) : a = b := by
  cases a <;> cases b <;> simp_all
theorem canon_uniq {a b : List Rc} (ha : Canon a) (hb : Canon b) (h : ∀ x y, cov a x y = cov b x y) : a = b := by
  obtain ⟨qs, h1, rfl⟩ := ha
  obtain ⟨bs, h2, rfl⟩ := hb
  rw [bd_uniq h1 h2 fun x y => by rw [← cov_flat, ← cov_flat, h]]
theorem canonF_eq {f : Int → Int → Bool} {l : List Rc} (h1 : Canon l) (h2 : ∀ x y, cov l x y = f x y) : canonF f = l := by
  have h : ∃ l, Canon l ∧ ∀ x y, cov l x y = f x y := ⟨l, h1, h2⟩
  unfold canonF
  rw [dif_pos h]
  obtain ⟨h3, h4⟩ := Classical.choose_spec h
  exact canon_uniq h3 h1 fun x y => by rw [h4, h2]
theorem canon_self {l : List Rc} (h : Canon l) : canonF (cov l) = l := canonF_eq h fun _ _ => rfl
theorem canon_nil : Canon [] := ⟨[], ⟨fun b h => (by cases h), List.Pairwise.nil, List.Pairwise.nil⟩, rfl⟩
theorem canon_none {l : List Rc} (h : Canon l) : l = [] ↔ ∀ x y, cov l x y = false := by
  constructor
  · rintro rfl x y; rfl
  · intro h2; exact canon_uniq h canon_nil fun x y => by rw [h2]; rfl
theorem flat_full {bs : List Bd} : flat (full bs) = flat bs := by
  induction bs with
  | nil => rfl
  | cons b r ih =>
    show flat (List.filter _ (b :: r)) = _
    rw [List.filter_cons]
    split
    · show flat1 b ++ flat (full r) = flat1 b ++ flat r
      rw [ih]
    · rename_i h
      have hb : b.spans = [] := by simpa using h
      show flat (full r) = flat1 b ++ flat r
      rw [ih]
      unfold flat1
      rw [hb]; rfl
/-- What is built, rectangle by rectangle. -/
theorem build_canon {R : Int → List Sp} {F : Int → Int → Bool} {xs : List Int} (hx : xs.Pairwise (· < ·)) (hR : ∀ u ∈ xs, SpOK (R u) ∧ ∀ x, inSp (R u) x ↔ F x u = true) (h1 : ∀ x y, F x y = true → ∃ u ∈ xs, u ≤ y) (h2 : ∀ x y, F x y = true → ∃ v ∈ xs, y < v)
    (h3 : ∀ x u y, u ∈ xs → u ≤ y → (∀ v ∈ xs, v ≤ y → v ≤ u) → F x y = F x u) : Canon (flat (buildG R [] xs)) ∧ (∀ x y, cov (flat (buildG R [] xs)) x y = F x y) ∧ canonF F = flat (buildG R [] xs) := by
  obtain ⟨q1, q2⟩ := build_ok hx hR h1 h2 h3
  rw [← flat_full]
  have hc : Canon (flat (full (buildG R [] xs))) := ⟨_, q1, rfl⟩
  have hcov : ∀ x y, cov (flat (full (buildG R [] xs))) x y = F x y := fun x y => bool_iff (by rw [cov_flat, q2])
  exact ⟨hc, hcov, canonF_eq hc hcov⟩
/-! ### edges and cuts -/
namespace PL
def putS (n : Int) : List Int → List Int
  | [] => [n]
  | x :: r => if x < n then x :: putS n r else if x = n then x :: r else n :: x :: r
def edgesS : List Rc → List Int
  | l => l.foldl (fun a r => putS r.Right (putS r.Left a)) []
def cutsS : List Rc → List Int
  | l => l.foldl (fun a r => putS r.High (putS r.Low a)) []
end PL
theorem putS_mem {n x : Int} : ∀ {l : List Int}, x ∈ putS n l ↔ x = n ∨ x ∈ l
  | [] => by simp [putS]
  | y :: r => by
    have ih := putS_mem (n := n) (x := x) (l := r)
    unfold putS
    split
    · simp only [List.mem_cons, ih]
      constructor
      · rintro (h | h | h) <;> simp [h]
      · rintro (h | h | h) <;> simp [h]
    · split
      · rename_i e
        simp only [List.mem_cons]
        constructor
        · exact fun h => .inr h
        · rintro (h | h)
          · exact .inl (h.trans e.symm)
          · exact h
      · simp only [List.mem_cons]
theorem putS_inc {n : Int} : ∀ {l : List Int}, l.Pairwise (· < ·) → (putS n l).Pairwise (· < ·)
  | [], _ => List.pairwise_singleton _ _
  | y :: r, h => by
    have h' := h
    rw [List.pairwise_cons] at h
    unfold putS
    split
    · rw [List.pairwise_cons]
      refine ⟨fun a ha => ?_, putS_inc h.2⟩
      rcases putS_mem.1 ha with rfl | ha
      · assumption
      · exact h.1 a ha
    · split
      · exact h'
      · rename_i h1 h2
        rw [List.pairwise_cons]
        refine ⟨fun a ha => ?_, h'⟩
        rcases List.mem_cons.1 ha with rfl | ha
        · omega
        · have := h.1 a ha; omega
/-- Lists that grow are told by their members. -/
theorem inc_uniq : ∀ {a b : List Int}, a.Pairwise (· < ·) → b.Pairwise (· < ·) → (∀ x, x ∈ a ↔ x ∈ b) → a = b
  | [], [], _, _, _ => rfl
  | [], y :: q, _, _, h => by have := (h y).2 (by simp); cases this
  | x :: r, [], _, _, h => by have := (h x).1 (by simp); cases this
  | x :: r, y :: q, ha, hb, h => by
    rw [List.pairwise_cons] at ha hb
    have e : x = y := by
      have h1 := (h x).1 (by simp)
      have h2 := (h y).2 (by simp)
      rcases List.mem_cons.1 h1 with h1 | h1
      · exact h1
      · rcases List.mem_cons.1 h2 with h2 | h2
        · exact h2.symm
        · have := hb.1 x h1
          have := ha.1 y h2
          omega
    subst e
    congr 1
    refine inc_uniq ha.2 hb.2 fun z => ?_
    constructor
    · intro hz
      have := ha.1 z hz
      rcases List.mem_cons.1 ((h z).1 (by simp [hz])) with h1 | h1
      · omega
      · exact h1
    · intro hz
      have := hb.1 z hz
      rcases List.mem_cons.1 ((h z).2 (by simp [hz])) with h1 | h1
      · omega
      · exact h1
theorem fold_edges {f g : Rc → Int} : ∀ {l : List Rc} {a : List Int}, a.Pairwise (· < ·) → (l.foldl (fun a r => putS (g r) (putS (f r) a)) a).Pairwise (· < ·) ∧ ∀ x, x ∈ l.foldl (fun a r => putS (g r) (putS (f r) a)) a ↔ x ∈ a ∨ ∃ r ∈ l, x = f r ∨ x = g r
  | [], a, h => ⟨h, fun x => by simp⟩
  | r :: l, a, h => by
    obtain ⟨h1, h2⟩ := fold_edges (f := f) (g := g) (l := l) (putS_inc (n := g r) (putS_inc (n := f r) h))
    refine ⟨h1, fun x => ?_⟩
    show x ∈ l.foldl _ _ ↔ _
    rw [h2, putS_mem, putS_mem]
    constructor
    · rintro ((h | h | h) | ⟨q, hq, h⟩)
      · exact .inr ⟨r, by simp, .inr h⟩
      · exact .inr ⟨r, by simp, .inl h⟩
      · exact .inl h
      · exact .inr ⟨q, by simp [hq], h⟩
    · rintro (h | ⟨q, hq, h⟩)
      · exact .inl (.inr (.inr h))
      · rcases List.mem_cons.1 hq with rfl | hq
        · rcases h with h | h
          · exact .inl (.inr (.inl h))
          · exact .inl (.inl h)
        · exact .inr ⟨q, hq, h⟩
theorem cutsS_ok {l : List Rc} : (cutsS l).Pairwise (· < ·) ∧ ∀ x, x ∈ cutsS l ↔ ∃ r ∈ l, x = r.Low ∨ x = r.High := by
  obtain ⟨h1, h2⟩ := fold_edges (f := fun r => r.Low) (g := fun r => r.High) (l := l) List.Pairwise.nil
  exact ⟨h1, fun x => by show x ∈ l.foldl _ _ ↔ _; rw [h2]; simp⟩
theorem edgesS_ok {l : List Rc} : (edgesS l).Pairwise (· < ·) ∧ ∀ x, x ∈ edgesS l ↔ ∃ r ∈ l, x = r.Left ∨ x = r.Right := by
  obtain ⟨h1, h2⟩ := fold_edges (f := fun r => r.Left) (g := fun r => r.Right) (l := l) List.Pairwise.nil
  exact ⟨h1, fun x => by show x ∈ l.foldl _ _ ↔ _; rw [h2]; simp⟩
/-- A choice of two sets of rectangles. -/
def comb (in_ : Bool → Bool → Bool) (a b : List Rc) : Int → Int → Bool := fun x y => in_ (cov a x y) (cov b x y)
theorem cov_rows {l : List Rc} {x u y : Int} (huy : u ≤ y) (hm : ∀ r ∈ l, (r.Low ≤ y → r.Low ≤ u) ∧ (r.High ≤ y → r.High ≤ u)) : cov l x y = cov l x u := by
  refine bool_iff ?_
  rw [cov_iff, cov_iff]
  constructor
  · rintro ⟨r, hr, h1, h2, h3, h4⟩
    exact ⟨r, hr, h1, h2, (hm r hr).1 h3, by omega⟩
  · rintro ⟨r, hr, h1, h2, h3, h4⟩
    refine ⟨r, hr, h1, h2, by omega, ?_⟩
    rcases Int.lt_or_le y r.High with h | h
    · exact h
    · have := (hm r hr).2 h; omega
theorem cov_cols {l : List Rc} {x u y : Int} (huy : u ≤ x) (hm : ∀ r ∈ l, (r.Left ≤ x → r.Left ≤ u) ∧ (r.Right ≤ x → r.Right ≤ u)) : cov l x y = cov l u y := by
  refine bool_iff ?_
  rw [cov_iff, cov_iff]
  constructor
  · rintro ⟨r, hr, h1, h2, h3, h4⟩
    exact ⟨r, hr, (hm r hr).1 h1, by omega, h3, h4⟩
  · rintro ⟨r, hr, h1, h2, h3, h4⟩
    refine ⟨r, hr, by omega, ?_, h3, h4⟩
    rcases Int.lt_or_le x r.Right with h | h
    · exact h
    · have := (hm r hr).2 h; omega
theorem comb_cov {in_ : Bool → Bool → Bool} (h0 : in_ false false = false) {a b : List Rc} {x y : Int} (h : comb in_ a b x y = true) : cov (a ++ b) x y = true := by
  have e : cov (a ++ b) x y = (cov a x y || cov b x y) := by unfold cov; rw [List.any_append]
  rw [e]
  unfold comb at h
  cases h1 : cov a x y
  · cases h2 : cov b x y
    · rw [h1, h2, h0] at h; cases h
    · rfl
  · rfl
/-- Whatever gives the rows of a choice at the cuts builds its canonical form. -/
theorem comb_build {in_ : Bool → Bool → Bool} (h0 : in_ false false = false) {a b : List Rc} {R : Int → List Sp} (hR : ∀ u ∈ cutsS (a ++ b), SpOK (R u) ∧ ∀ x, inSp (R u) x ↔ comb in_ a b x u = true) :
    Canon (flat (buildG R [] (cutsS (a ++ b)))) ∧ (∀ x y, cov (flat (buildG R [] (cutsS (a ++ b)))) x y = comb in_ a b x y) ∧ canonF (comb in_ a b) = flat (buildG R [] (cutsS (a ++ b))) := by
  obtain ⟨c1, c2⟩ := cutsS_ok (l := a ++ b)
  refine build_canon c1 hR (fun x y h => ?_) (fun x y h => ?_) fun x u y hu huy hm => ?_
  · obtain ⟨r, hr, _, _, h3, h4⟩ := cov_iff.1 (comb_cov h0 h)
    exact ⟨r.Low, (c2 _).2 ⟨r, hr, .inl rfl⟩, h3⟩
  · obtain ⟨r, hr, _, _, h3, h4⟩ := cov_iff.1 (comb_cov h0 h)
    exact ⟨r.High, (c2 _).2 ⟨r, hr, .inr rfl⟩, h4⟩
  · have hm' : ∀ r ∈ a ++ b, (r.Low ≤ y → r.Low ≤ u) ∧ (r.High ≤ y → r.High ≤ u) := fun r hr => ⟨hm _ ((c2 _).2 ⟨r, hr, .inl rfl⟩), hm _ ((c2 _).2 ⟨r, hr, .inr rfl⟩)⟩
    unfold comb
    rw [cov_rows huy (fun r hr => hm' r (by simp [hr])), cov_rows huy (fun r hr => hm' r (by simp [hr]))]
/-- The row of a choice, by the edges of the rectangles. -/
theorem comb_row {in_ : Bool → Bool → Bool} (h0 : in_ false false = false) {a b : List Rc} {y : Int} : SpOK (spansOf (fun x => comb in_ a b x y) (edgesS (a ++ b))) ∧ ∀ x, inSp (spansOf (fun x => comb in_ a b x y) (edgesS (a ++ b))) x ↔ comb in_ a b x y = true := by
  obtain ⟨c1, c2⟩ := edgesS_ok (l := a ++ b)
  obtain ⟨h1, h2⟩ := spansOf_ok (p := fun x => comb in_ a b x y) c1
  refine ⟨h1, fun x => ?_⟩
  rw [h2]
  refine edges_set (f := fun x => comb in_ a b x y) c1 (fun x h => ?_) (fun x h => ?_) (fun u x hu hux hm => ?_) x
  · obtain ⟨r, hr, h3, h4, _⟩ := cov_iff.1 (comb_cov h0 h)
    exact ⟨r.Left, (c2 _).2 ⟨r, hr, .inl rfl⟩, h3⟩
  · obtain ⟨r, hr, h3, h4, _⟩ := cov_iff.1 (comb_cov h0 h)
    exact ⟨r.Right, (c2 _).2 ⟨r, hr, .inr rfl⟩, h4⟩
  · have hm' : ∀ r ∈ a ++ b, (r.Left ≤ x → r.Left ≤ u) ∧ (r.Right ≤ x → r.Right ≤ u) := fun r hr => ⟨hm _ ((c2 _).2 ⟨r, hr, .inl rfl⟩), hm _ ((c2 _).2 ⟨r, hr, .inr rfl⟩)⟩
    show comb in_ a b x y = comb in_ a b u y
    unfold comb
    rw [cov_cols hux (fun r hr => hm' r (by simp [hr])), cov_cols hux (fun r hr => hm' r (by simp [hr]))]
/-- The canonical form of a choice. -/
theorem comb_ok {in_ : Bool → Bool → Bool} (h0 : in_ false false = false) (a b : List Rc) : Canon (canonF (comb in_ a b)) ∧ ∀ x y, cov (canonF (comb in_ a b)) x y = comb in_ a b x y := by
  obtain ⟨h1, h2, h3⟩ := comb_build h0 (a := a) (b := b) (R := fun y => spansOf (fun x => comb in_ a b x y) (edgesS (a ++ b))) (fun u _ => comb_row h0)
  rw [h3]
  exact ⟨h1, h2⟩
/-- Its rectangles lie in what the borders of the others span. -/
theorem canon_box {l : List Rc} (h : Canon l) {x0 x1 y0 y1 : Int} (hb : ∀ x y, cov l x y = true → x0 ≤ x ∧ x < x1 ∧ y0 ≤ y ∧ y < y1) : ∀ r ∈ l, x0 ≤ r.Left ∧ r.Left < r.Right ∧ r.Right ≤ x1 ∧ y0 ≤ r.Low ∧ r.Low < r.High ∧ r.High ≤ y1 := by
  intro r hr
  obtain ⟨bs, h1, rfl⟩ := h
  obtain ⟨b, hbm, hrm⟩ := List.mem_flatMap.1 hr
  obtain ⟨s, hs, rfl⟩ := List.mem_map.1 hrm
  obtain ⟨k1, k2, k3⟩ := h1.each b hbm
  have k4 := k3.1 s hs
  have p1 := hb s.1 b.low (cov_flat.2 ⟨b, hbm, Int.le_refl _, k1, s, hs, Int.le_refl _, k4⟩)
  have p2 := hb (s.2 - 1) (b.high - 1) (cov_flat.2 ⟨b, hbm, by omega, by omega, s, hs, by omega, by omega⟩)
  dsimp only
  omega
end RE
end Go.Proofs.YtpeggkeenboacaaGreat
set_option linter.unusedVariables false
set_option maxRecDepth 100000
namespace Go.Proofs.YtpeggkeenboacaaGreat
open Go.RowKit
namespace RE
open PL
namespace PL
/-- A span more, in the order of their beginnings. -/
def joinSp (out : List Sp) (s : Sp) : List Sp := match out.getLast? with
  | some q => if s.Left ≤ q.Right then out.dropLast ++ [⟨q.Left, max q.Right s.Right⟩] else out ++ [s]
  | none => [s]
def rowG (out : List Sp) (l : List Sp) : List Sp := l.foldl joinSp out
noncomputable def rowS (l : List Rc) (y : Int) : List Sp := spansOf (fun x => cov l x y) (edgesS l)
def spanOf (r : Rc) : Sp := ⟨r.Left, r.Right⟩
def onRow (y : Int) (l : List Rc) : List Rc := l.filter fun r => decide (r.Low ≤ y) && decide (y < r.High)
end PL
theorem joinSp_ok {out : List Sp} {s : Sp} (h : SpOK out) (hs : s.1 < s.2) (hl : ∀ q ∈ out, q.1 ≤ s.1) : SpOK (joinSp out s) ∧ (∀ q ∈ joinSp out s, q.1 ≤ s.1) ∧ ∀ x, inSp (joinSp out s) x ↔ inSp out x ∨ (s.1 ≤ x ∧ x < s.2) := by
  unfold joinSp
  rcases List.eq_nil_or_concat out with rfl | ⟨A, q, rfl⟩
  · refine ⟨SpOK.mk hs (fun t ht => by cases ht) SpOK.nil, fun t ht => ?_, fun x => ?_⟩
    · simp at ht; subst ht; exact Int.le_refl _
    · simp [inSp_cons, inSp_nil]
  · simp only [List.concat_eq_append] at *
    simp only [List.getLast?_append, List.getLast?_singleton, Option.some_or]
    obtain ⟨h1, h2⟩ := h
    rw [List.pairwise_append] at h2
    obtain ⟨p1, _, p3⟩ := h2
    have hq := h1 q (by simp)
    have hql := hl q (by simp)
    split
    · rename_i e
      rw [List.dropLast_concat]
      have hm1 : q.2 ≤ max q.2 s.2 := Int.le_max_left _ _
      have hm2 : s.2 ≤ max q.2 s.2 := Int.le_max_right _ _
      have hm3 : max q.2 s.2 = q.2 ∨ max q.2 s.2 = s.2 := by omega
      refine ⟨⟨fun t ht => ?_, ?_⟩, fun t ht => ?_, fun x => ?_⟩
      · rcases List.mem_append.1 ht with ht | ht
        · exact h1 t (by simp [ht])
        · rw [List.mem_singleton.1 ht]; show q.1 < max q.2 s.2; omega
      · rw [List.pairwise_append]
        refine ⟨p1, List.pairwise_singleton _ _, fun a ha b hb => ?_⟩
        rw [List.mem_singleton.1 hb]
        exact p3 a ha q (by simp)
      · rcases List.mem_append.1 ht with ht | ht
        · exact hl t (by simp [ht])
        · rw [List.mem_singleton.1 ht]; exact hql
      · rw [inSp_app, inSp_app, inSp_cons, inSp_cons]
        simp only [inSp_nil, or_false]
        constructor
        · rintro (h | ⟨h3, h4⟩)
          · exact .inl (.inl h)
          · have h4 : x < max q.2 s.2 := h4
            have h3 : q.1 ≤ x := h3
            by_cases hx : x < q.2
            · exact .inl (.inr ⟨h3, hx⟩)
            · exact .inr ⟨by omega, by omega⟩
        · rintro ((h | ⟨h3, h4⟩) | ⟨h3, h4⟩)
          · exact .inl h
          · exact .inr ⟨h3, by show x < max q.2 s.2; omega⟩
          · exact .inr ⟨by show q.1 ≤ x; omega, by show x < max q.2 s.2; omega⟩
    · rename_i e
      refine ⟨⟨fun t ht => ?_, ?_⟩, fun t ht => ?_, fun x => ?_⟩
      · rcases List.mem_append.1 ht with ht | ht
        · exact h1 t ht
        · rw [List.mem_singleton.1 ht]; exact hs
      · rw [List.pairwise_append]
        refine ⟨List.pairwise_append.2 ⟨p1, List.pairwise_singleton _ _, p3⟩, List.pairwise_singleton _ _, fun a ha b hb => ?_⟩
        rw [List.mem_singleton.1 hb]
        rcases List.mem_append.1 ha with ha | ha
        · have := p3 a ha q (by simp); have := h1 q (by simp); omega
        · rw [List.mem_singleton.1 ha]; omega
      · rcases List.mem_append.1 ht with ht | ht
        · exact hl t ht
        · rw [List.mem_singleton.1 ht]; exact Int.le_refl _
      · rw [inSp_app, inSp_cons]
        simp only [inSp_nil, or_false]
theorem rowG_ok : ∀ {l out : List Sp}, SpOK out → (∀ s ∈ l, s.1 < s.2) → l.Pairwise (fun s t => s.1 ≤ t.1) → (∀ q ∈ out, ∀ s ∈ l, q.1 ≤ s.1) → SpOK (rowG out l) ∧ ∀ x, inSp (rowG out l) x ↔ inSp out x ∨ inSp l x
  | [], out, h, _, _, _ => ⟨h, fun x => by simp [rowG, inSp_nil]⟩
  | s :: r, out, h, h1, h2, h3 => by
    rw [List.pairwise_cons] at h2
    obtain ⟨q1, q2, q3⟩ := joinSp_ok h (h1 s (by simp)) (fun q hq => h3 q hq s (by simp))
    obtain ⟨i1, i2⟩ := rowG_ok (l := r) q1 (fun t ht => h1 t (by simp [ht])) h2.2 (fun q hq t ht => by have := q2 q hq; have := h2.1 t ht; omega)
    refine ⟨i1, fun x => ?_⟩
    show inSp (rowG (joinSp out s) r) x ↔ _
    rw [i2, q3, inSp_cons, or_assoc]
theorem cov_onRow {l : List Rc} {x y : Int} : inSp ((onRow y l).map spanOf) x ↔ cov l x y = true := by
  rw [cov_iff]
  unfold inSp onRow
  constructor
  · rintro ⟨s, hs, h1, h2⟩
    obtain ⟨r, hr, rfl⟩ := List.mem_map.1 hs
    obtain ⟨h3, h4⟩ := List.mem_filter.1 hr
    have h4 : r.Low ≤ y ∧ y < r.High := by simpa using h4
    exact ⟨r, h3, h1, h2, h4.1, h4.2⟩
  · rintro ⟨r, hr, h1, h2, h3, h4⟩
    exact ⟨spanOf r, List.mem_map.2 ⟨r, List.mem_filter.2 ⟨hr, by simp [h3, h4]⟩, rfl⟩, h1, h2⟩
theorem cov_nil (x y : Int) : cov [] x y = false := rfl
theorem rowS_ok {l : List Rc} {y : Int} : SpOK (rowS l y) ∧ ∀ x, inSp (rowS l y) x ↔ cov l x y = true := by
  have := comb_row (in_ := fun a _ => a) rfl (a := l) (b := []) (y := y)
  rw [List.append_nil] at this
  exact this
theorem rowS_eq {l : List Rc} {y : Int} {r : List Sp} (h1 : SpOK r) (h2 : ∀ x, inSp r x ↔ cov l x y = true) : r = rowS l y :=
  sp_uniq h1 rowS_ok.1 fun x => by rw [h2, rowS_ok.2]
/-- The row out of its spans, in any order by their beginnings. -/
theorem rowS_sorted {l : List Rc} {y : Int} {ss : List Sp} (hp : ∀ r ∈ l, r.Left < r.Right) (h1 : ss.Perm ((onRow y l).map spanOf)) (h2 : ss.Pairwise (fun s t => s.1 ≤ t.1)) : rowG [] ss = rowS l y := by
  obtain ⟨q1, q2⟩ := rowG_ok (l := ss) SpOK.nil (fun s hs => by
    obtain ⟨r, hr, rfl⟩ := List.mem_map.1 (h1.mem_iff.1 hs)
    exact hp r (List.mem_filter.1 hr).1) h2 (fun q hq => by cases hq)
  refine rowS_eq q1 fun x => ?_
  rw [q2, ← cov_onRow (l := l) (y := y)]
  unfold inSp
  constructor
  · rintro (⟨s, hs, _⟩ | ⟨s, hs, h⟩)
    · cases hs
    · exact ⟨s, h1.mem_iff.1 hs, h⟩
  · rintro ⟨s, hs, h⟩
    exact .inr ⟨s, h1.mem_iff.2 hs, h⟩
/-! ### lengths -/
theorem spans_len : ∀ {l : List Sp} {x0 x1 : Int}, SpOK l → x0 ≤ x1 → (∀ s ∈ l, x0 ≤ s.1 ∧ s.2 ≤ x1) → (l.length : Int) ≤ x1 - x0
  | [], x0, x1, _, h, _ => by simp; omega
  | s :: r, x0, x1, h, h0, hb => by
    obtain ⟨a1, a2, a3⟩ := h.cons
    have hs := hb s (by simp)
    have := spans_len (l := r) (x0 := s.2) (x1 := x1) a3 (by omega) (fun t ht => ⟨by have := a2 t ht; omega, (hb t (by simp [ht])).2⟩)
    simp; omega
theorem flat_len : ∀ {bs : List Bd} {x0 x1 y0 y1 : Int}, BdOK bs → x0 ≤ x1 → y0 ≤ y1 → (∀ b ∈ bs, y0 ≤ b.low ∧ b.high ≤ y1 ∧ ∀ s ∈ b.spans, x0 ≤ s.1 ∧ s.2 ≤ x1) → ((flat bs).length : Int) ≤ (y1 - y0) * (x1 - x0)
  | [], x0, x1, y0, y1, _, hx, hy, _ => by
    have := Int.mul_nonneg (show 0 ≤ y1 - y0 by omega) (show 0 ≤ x1 - x0 by omega)
    simpa [flat] using this
  | b :: r, x0, x1, y0, y1, h, hx, hy, hb => by
    obtain ⟨⟨a1, a2, a3⟩, a4, a5, _⟩ := h.cons
    obtain ⟨b1, b2, b3⟩ := hb b (by simp)
    have h1 := spans_len a3 hx b3
    have h2 := flat_len (bs := r) (x0 := x0) (x1 := x1) (y0 := b.high) (y1 := y1) a5 hx b2 (fun c hc => ⟨a4 c hc, (hb c (by simp [hc])).2⟩)
    have e : (flat (b :: r)).length = b.spans.length + (flat r).length := by
      show (flat1 b ++ flat r).length = _
      unfold flat1
      simp
    rw [e]
    have h3 : (y1 - b.high) * (x1 - x0) + (x1 - x0) ≤ (y1 - y0) * (x1 - x0) := by
      have h4 : (y1 - b.high + 1) * (x1 - x0) ≤ (y1 - y0) * (x1 - x0) := Int.mul_le_mul_of_nonneg_right (by omega) (by omega)
      rw [Int.add_mul, Int.one_mul] at h4
      exact h4
    push_cast
    omega
theorem canon_len {l : List Rc} (h : Canon l) {x0 x1 y0 y1 : Int} (hx : x0 ≤ x1) (hy : y0 ≤ y1) (hb : ∀ x y, cov l x y = true → x0 ≤ x ∧ x < x1 ∧ y0 ≤ y ∧ y < y1) : (l.length : Int) ≤ (y1 - y0) * (x1 - x0) := by
  have hbox := canon_box h hb
  obtain ⟨bs, h1, rfl⟩ := h
  refine flat_len h1 hx hy fun b hbm => ?_
  have hin : ∀ s ∈ b.spans, (⟨s.1, b.low, s.2, b.high⟩ : Rc) ∈ flat bs := fun s hs => List.mem_flatMap.2 ⟨b, hbm, List.mem_map.2 ⟨s, hs, rfl⟩⟩
  obtain ⟨k1, k2, k3⟩ := h1.each b hbm
  obtain ⟨x, s, hs, _⟩ := sp_some k3 k2
  have := hbox _ (hin s hs)
  dsimp only at this
  refine ⟨by omega, by omega, fun t ht => ?_⟩
  have := hbox _ (hin t ht)
  dsimp only at this
  omega
end RE
end Go.Proofs.YtpeggkeenboacaaGreat
set_option linter.unusedVariables false
set_option maxRecDepth 100000
namespace Go.Proofs.YtpeggkeenboacaaGreat
open Go.RowKit
namespace RE
open PL
theorem JOIN.opq {ts : List Ty} {J : Cur ts} {B : Cur ts → Prop} (h : ∀ J', J' = J → B J') : JOIN ts J B := JOIN.mk (h J rfl)
theorem sub_front {α : Type} {l : List α} {k : Nat} : sub l 0 (k : Int) = l.take k := by
  unfold sub; simp
theorem sub_back {α : Type} {l : List α} {k : Nat} : sub l (k : Int) (l.length : Int) = l.drop k := by
  unfold sub
  rw [List.take_of_length_le (by simp)]
  simp
theorem ix_lt {α : Type} [Inhabited α] {l : List α} {k : Nat} (h : k < l.length) : ix l (k : Int) = l[k] := ix_of (List.getElem?_eq_getElem h)
theorem ix_mem {α : Type} [Inhabited α] {l : List α} {i : Int} (h1 : 0 ≤ i) (h2 : i < l.length) : ix l i ∈ l := List.mem_of_getElem? (ix_get (l := l) (i := i) ⟨h1, h2⟩)
theorem wrapS {k : Nat} (h : k ≤ 1000000000) : IntKind.i64.wrap ((k : Int) + 1) = ((k + 1 : Nat) : Int) := by
  rw [wrap_in (by omega) (by omega)]; rfl
theorem ix_app {α : Type} [Inhabited α] {A B : List α} {x : α} {k : Int} (hk : k = A.length) : ix (A ++ x :: B) k = x := by
  subst hk
  exact ix_of (by simp)
theorem set_app {α : Type} {A B : List α} {x y : α} {k : Nat} (hk : k = A.length) : (A ++ x :: B).set k y = A ++ y :: B := by
  subst hk; simp
theorem map_step {α : Type} {l : List α} {f : α → α} {k : Nat} {x : α} (hk : l[k]? = some x) : ((l.take k).map f ++ l.drop k).set k (f x) = (l.take (k + 1)).map f ++ l.drop (k + 1) := by
  have hlt := (List.getElem?_eq_some_iff.1 hk).1
  have hx := (List.getElem?_eq_some_iff.1 hk).2
  have hd : l.drop k = x :: l.drop (k + 1) := by rw [← hx]; exact List.drop_eq_getElem_cons hlt
  have ht : l.take (k + 1) = l.take k ++ [x] := by rw [← hx]; simp
  rw [hd, set_app (by simp; omega), ht]; simp
theorem map_at {α : Type} [Inhabited α] {l : List α} {f : α → α} {k : Nat} {x : α} (hk : l[k]? = some x) : ix ((l.take k).map f ++ l.drop k) (k : Int) = x := by
  have hlt := (List.getElem?_eq_some_iff.1 hk).1
  have hx := (List.getElem?_eq_some_iff.1 hk).2
  have hd : l.drop k = x :: l.drop (k + 1) := by rw [← hx]; exact List.drop_eq_getElem_cons hlt
  rw [hd]; exact ix_app (by simp; omega)
theorem map_len {α : Type} {l : List α} {f : α → α} {k : Nat} : ((l.take k).map f ++ l.drop k).length = l.length := by
  simp; omega
theorem drop_two {α : Type} [Inhabited α] {l : List α} {k : Nat} (h : k + 1 < l.length) : l.drop k = ix l (k : Int) :: ix l ((k + 1 : Nat) : Int) :: l.drop (k + 2) ∧ l.drop (k + 1) = ix l ((k + 1 : Nat) : Int) :: l.drop (k + 2) := by
  have h2 : l.drop (k + 1) = ix l ((k + 1 : Nat) : Int) :: l.drop (k + 2) := by rw [ix_lt h]; exact List.drop_eq_getElem_cons h
  refine ⟨?_, h2⟩
  rw [← h2, ix_lt (by omega : k < l.length)]
  exact List.drop_eq_getElem_cons (by omega)
/-- Two lists of one length, compared element by element. -/
theorem map_eq_iff {α β : Type} [Inhabited α] {f : α → β} {a b : List α} (h : a.length = b.length) : a.map f = b.map f ↔ ∀ j : Nat, j < a.length → f (ix a (j : Int)) = f (ix b (j : Int)) := by
  constructor
  · intro e j hj
    rw [ix_lt hj, ix_lt (by omega)]
    have := congrArg (fun l => l[j]?) e
    simpa [hj, (by omega : j < b.length)] using this
  · intro hh
    refine List.ext_getElem (by simpa using h) fun j h1 h2 => ?_
    have h1 : j < a.length := by simpa using h1
    have := hh j h1
    rw [ix_lt h1, ix_lt (by omega)] at this
    simpa using this
theorem list_eq_iff {α : Type} [Inhabited α] {a b : List α} (h : a.length = b.length) : a = b ↔ ∀ j : Nat, j < a.length → ix a (j : Int) = ix b (j : Int) := by
  have := map_eq_iff (f := id) h
  simpa using this
/-- A loop that compares two lists. -/
theorem loopCmp {n : Nat} (hn : n ≤ 1000000000) {B : (Int → Prop) → Int → Prop} {K : Prop} {p : Nat → Prop} (hB : ∀ (rec : Int → Prop) (k : Nat), k < n → (∀ j, j < k → p j) → (p k → rec (IntKind.i64.wrap ((k : Int) + 1))) → B rec (k : Int)) (hK : (∀ j, j < n → p j) → K) :
    LOOP [Ty.int IntKind.i64] (fun (rec : Int → Prop) (z : Int) => IFB (decide (z < (n : Int))) (B rec z) K) ((0 : Int), PUnit.unit) := by
  refine LOOP.fuel (fun u => ∃ k : Nat, u.1 = (k : Int) ∧ k ≤ n ∧ ∀ j, j < k → p j) (fun u => n - Int.toNat u.1) ⟨0, rfl, Nat.zero_le _, fun j hj => by omega⟩ ?_
  rintro rec ⟨(z : Int), ⟨⟩⟩ ⟨k, hz, hk, hp⟩ hrec
  have hz : z = (k : Int) := hz
  subst hz
  refine IFB.mk (fun hb => ?_) (fun hb => hK fun j hj => hp j (by have := of_decide_eq_false hb; omega))
  have hb : (k : Int) < n := of_decide_eq_true hb
  refine hB rec k (by omega) hp fun hpk => ?_
  rw [wrapS (by omega)]
  refine hrec (((k + 1 : Nat) : Int), ()) ⟨k + 1, rfl, by omega, fun j hj => ?_⟩ (by show n - ((k + 1 : Nat) : Int).toNat < n - (k : Int).toNat; omega)
  by_cases h : j = k
  · rw [h]; exact hpk
  · exact hp j (by omega)
end RE
end Go.Proofs.YtpeggkeenboacaaGreat
set_option maxRecDepth 100000
set_option linter.unusedVariables false
namespace Go.Proofs.YtpeggkeenboacaaGreat
open Go.RowKit
namespace RE
open PL
def rput_P (l : List (Int)) (n : Int) (post : List (Int) → Prop) : Prop := (l.length ≤ 1000000) ∧ post (putS n l)
def rput_sp : Spec := ⟨134, false, true, [.sl (.int .i64), .int .i64], .dat (.sl (.int .i64)), fun x post => rput_P (x.1 : List (Int)) (x.2.1 : Int) (fun y0 => post (y0, ()))⟩
def rput_C : CtxR := ⟨tau, [], lookJ [(0, 1000006, ⟨[(4, .own 3 (.int .i64))], [], [33, 34, 35, 36, 37, 38, 39, 40, 41, 42, 43, 44], [], []⟩), (0, 5, ⟨[(5, .dat (.int .i64))], [], [6, 7, 8, 9, 10, 17, 11, 12, 13, 14, 15, 16, 18, 19], [], []⟩)]⟩
def rput_W (l : List (Int)) (n : Int) (post : List (Int) → Prop) : Prop := LOOP [Ty.int IntKind.i64] (fun (rec1 : Int → Prop) (z2 : Int) ↦ (↑l.length : Int) ≤ (9223372036854775807 : Int) → (gx true (decide (z2 < (↑l.length : Int))) = true → (0 : Int) ≤ z2 ∧ z2 < (↑l.length : Int)) ∧ IFB (decide (z2 < (↑l.length : Int)) && decide (ix l z2 < n)) (rec1 (IntKind.i64.wrap (z2 + (1 : Int)))) ((↑l.length : Int) ≤ (9223372036854775807 : Int) → (gx true (decide (z2 < (↑l.length : Int))) = true → (0 : Int) ≤ z2 ∧ z2 < (↑l.length : Int)) ∧ IFB (decide (z2 < (↑l.length : Int)) && decide (ix l z2 = n)) (post l) (JOIN [(Ty.int IntKind.i64).sl] (fun (y3 : List Int) ↦ post y3) fun (J4 : List Int → Prop) ↦ (Int.NonNeg (0 : Int) ∧ (0 : Int) ≤ z2 ∧ z2 ≤ (↑l.length : Int)) ∧ ((0 : Int) ≤ z2 ∧ z2 ≤ (↑l.length : Int) ∧ (↑l.length : Int) ≤ (↑l.length : Int)) ∧ ((((0 : Nat) + (sub l (0 : Int) z2).length) * (8 : Nat) ≤ (140737488355328 : Nat) ∧ (([] ++ sub l (0 : Int) z2).length + [n].length) * (8 : Nat) ≤ (140737488355328 : Nat) ∧ (([] ++ sub l (0 : Int) z2 ++ [n]).length + (sub l z2 (↑l.length : Int)).length) * (8 : Nat) ≤ (140737488355328 : Nat) ∧ J4 ([] ++ sub l (0 : Int) z2 ++ [n] ++ sub l z2 (↑l.length : Int))) ∧ ((0 : Nat) + (sub l (0 : Int) z2).length) * (8 : Nat) ≤ (140737488355328 : Nat) ∧ (([] ++ sub l (0 : Int) z2).length + [n].length) * (8 : Nat) ≤ (140737488355328 : Nat) ∧ (([] ++ sub l (0 : Int) z2 ++ [n]).length + (sub l z2 (↑l.length : Int)).length) * (8 : Nat) ≤ (140737488355328 : Nat) ∧ J4 ([] ++ sub l (0 : Int) z2 ++ [n] ++ sub l z2 (↑l.length : Int))) ∧ ((0 : Nat) + (sub l (0 : Int) z2).length) * (8 : Nat) ≤ (140737488355328 : Nat) ∧ (([] ++ sub l (0 : Int) z2).length + [n].length) * (8 : Nat) ≤ (140737488355328 : Nat) ∧ (([] ++ sub l (0 : Int) z2 ++ [n]).length + (sub l z2 (↑l.length : Int)).length) * (8 : Nat) ≤ (140737488355328 : Nat) ∧ J4 ([] ++ sub l (0 : Int) z2 ++ [n] ++ sub l z2 (↑l.length : Int))))) ((0 : Int), PUnit.unit)
theorem rput_w (l : List (Int)) (n : Int) (post : dens (shT rput_sp.rs []) → Prop) : rput_W l n (fun y0 => post (y0, ())) = walkG (callR Tryz.prog rput_C (drawR Tryz.prog tau) 8 0) 134 false [tv (.sl (.int .i64)) l, tv (.int .i64) n] rput_sp.rs post := by kernel_rfl
theorem rput_of (h : ∀ (l : List (Int)) (n : Int) (post : List (Int) → Prop), rput_P l n post → rput_W l n post) : SpecOK Tryz.prog rput_sp := SpecOK.of_rules (C := rput_C) (dr := drawR Tryz.prog tau) (n := 8) (fk := 0) .nil (drawR_ok tau) fun x post hp => HoldW.of (rput_w x.1 x.2.1 post) (h x.1 x.2.1 (fun y0 => post (y0, ())) hp)
theorem rput_ok : SpecOK Tryz.prog rput_sp := rput_of fun l n post hp => by
  obtain ⟨hl, hp⟩ := hp
  unfold rput_W
  refine LOOP.fuel (fun u => ∃ k : Nat, u.1 = (k : Int) ∧ k ≤ l.length ∧ putS n l = l.take k ++ putS n (l.drop k)) (fun u => l.length - Int.toNat u.1) ⟨0, rfl, Nat.zero_le _, rfl⟩ ?_
  rintro rec ⟨(z : Int), ⟨⟩⟩ ⟨k, hz, hk, he⟩ hrec
  have hz : z = (k : Int) := hz
  subst hz
  rw [he] at hp
  intro _
  show _ ∧ IFB _ _ _
  rw [sub_front, sub_back]
  by_cases hlt : k < l.length
  · have hd : l.drop k = l[k] :: l.drop (k + 1) := List.drop_eq_getElem_cons hlt
    have hx := ix_lt hlt
    rw [hx, wrapS (by omega)]
    rw [hd] at hp he
    have ht : l.take k ++ (l[k] :: l.drop (k + 1)) = l := by rw [← hd, List.take_append_drop]
    refine ⟨fun _ => by omega, IFB.mk (fun hb => ?_) (fun hb _ => ⟨fun _ => by omega, IFB.mk (fun hb2 => ?_) (fun hb2 => ?_)⟩)⟩
    · have hb : l[k] < n := by simpa [hlt] using hb
      refine hrec (((k + 1 : Nat) : Int), ()) ⟨k + 1, rfl, hlt, ?_⟩ (by show l.length - ((k + 1 : Nat) : Int).toNat < l.length - (k : Int).toNat; omega)
      rw [he]
      simp only [putS, if_pos hb]
      have ht2 : l.take (k + 1) = l.take k ++ [l[k]] := by simp
      rw [ht2, List.append_assoc]; rfl
    · have hb : ¬ l[k] < n := by simpa [hlt] using hb
      have hb2 : l[k] = n := by simpa [hlt] using hb2
      simp only [putS, if_neg hb, if_pos hb2, ht] at hp
      exact hp
    · have hb : ¬ l[k] < n := by simpa [hlt] using hb
      have hb2 : ¬ l[k] = n := by simpa [hlt] using hb2
      simp only [putS, if_neg hb, if_neg hb2] at hp
      refine JOIN.opq fun (J : List Int → Prop) hJ => ?_
      have hJ : J ([] ++ l.take k ++ [n] ++ l.drop k) := by
        rw [hJ, hd]
        simpa using hp
      have h1 : (l.take k).length ≤ 1000000 := by simp; omega
      have h2 : (l.drop k).length ≤ 1000000 := by simp; omega
      refine ⟨⟨Int.NonNeg.mk _, by omega, by omega⟩, ⟨by omega, by omega, by omega⟩, ⟨?_, ?_⟩, ?_⟩
      all_goals
        refine ⟨by omega, ?_, ?_, hJ⟩
        · simp only [List.nil_append, List.length_singleton]; omega
        · simp only [List.nil_append, List.length_append, List.length_singleton]; omega
  · have hk2 : k = l.length := by omega
    subst hk2
    refine ⟨fun h => absurd (of_decide_eq_true (show decide ((l.length : Int) < l.length) = true from h)) (by omega), IFB.mk (fun hb => by simp at hb) (fun _ _ => ⟨fun h => absurd (of_decide_eq_true (show decide ((l.length : Int) < l.length) = true from h)) (by omega), IFB.mk (fun hb => by simp at hb) (fun _ => ?_)⟩)⟩
    rw [List.drop_length] at hp
    refine JOIN.opq fun (J : List Int → Prop) hJ => ?_
    have hJ : J ([] ++ l.take l.length ++ [n] ++ l.drop l.length) := by
      rw [hJ]
      simpa [putS] using hp
    have h1 : (l.take l.length).length ≤ 1000000 := by simp; omega
    have h2 : (l.drop l.length).length ≤ 1000000 := by simp
    refine ⟨⟨Int.NonNeg.mk _, by omega, by omega⟩, ⟨by omega, by omega, by omega⟩, ⟨?_, ?_⟩, ?_⟩
    all_goals
      refine ⟨by omega, ?_, ?_, hJ⟩
      · simp only [List.nil_append, List.length_singleton]; omega
      · simp only [List.nil_append, List.length_append, List.length_singleton]; omega
def rins_P (l : List (api_Rect)) (x : Int) (y : Int) (post : Bool → Prop) : Prop := (l.length ≤ 1000000) ∧ post (cov l x y)
def rins_sp : Spec := ⟨156, false, false, [.sl (.st .api_Rect), .int .i64, .int .i64], .dat (.bool), fun x post => rins_P (x.1 : List (api_Rect)) (x.2.1 : Int) (x.2.2.1 : Int) (fun y0 => post (y0, ()))⟩
def rins_C : CtxR := ⟨tau, [], lookJ [(0, 5, ⟨[(11, .dat (.int .i64))], [], [12, 13, 14, 8, 15, 16, 17, 18, 19, 24, 25, 30, 31, 36, 20, 21, 22, 23, 26, 27, 28, 29, 32, 33, 34, 35, 37], [], []⟩)]⟩
def rins_W (l : List (api_Rect)) (x : Int) (y : Int) (post : Bool → Prop) : Prop := (↑l.length : Int) ≤ (9223372036854775807 : Int) → LOOP [Ty.int IntKind.i64] (fun (rec1 : Int → Prop) (z2 : Int) ↦ IFB (decide (z2 < (↑l.length : Int))) (((0 : Int) ≤ z2 ∧ z2 < (↑l.length : Int)) ∧ IFB (decide ((ix l z2).1 ≤ x) && decide (x < (ix l z2).3) && decide ((ix l z2).2 ≤ y) && decide (y < (ix l z2).4)) (post true) (rec1 (IntKind.i64.wrap (z2 + (1 : Int))))) (post false)) ((0 : Int), PUnit.unit)
theorem rins_w (l : List (api_Rect)) (x : Int) (y : Int) (post : dens (shT rins_sp.rs []) → Prop) : rins_W l x y (fun y0 => post (y0, ())) = walkG (callR Tryz.prog rins_C (drawR Tryz.prog tau) 8 0) 156 false [tv (.sl (.st .api_Rect)) l, tv (.int .i64) x, tv (.int .i64) y] rins_sp.rs post := by kernel_rfl
theorem rins_of (h : ∀ (l : List (api_Rect)) (x : Int) (y : Int) (post : Bool → Prop), rins_P l x y post → rins_W l x y post) : SpecOK Tryz.prog rins_sp := SpecOK.of_rules (C := rins_C) (dr := drawR Tryz.prog tau) (n := 8) (fk := 0) .nil (drawR_ok tau) fun x post hp => HoldW.of (rins_w x.1 x.2.1 x.2.2.1 post) (h x.1 x.2.1 x.2.2.1 (fun y0 => post (y0, ())) hp)
theorem rins_ok : SpecOK Tryz.prog rins_sp := rins_of fun l x y post hp => by
  obtain ⟨hl, hp⟩ := hp
  unfold rins_W
  intro _
  refine loopCmp (n := l.length) (by omega) (p := fun j => hit (ix l (j : Int)) x y = false) (fun rec k hk hpre hrec => ⟨by omega, IFB.mk (fun hb => ?_) (fun hb => hrec ?_)⟩) fun hall => ?_
  · have : cov l x y = true := by
      unfold cov
      rw [List.any_eq_true]
      exact ⟨_, ix_mem (l := l) (i := (k : Int)) (by omega) (by omega), by unfold hit; simp only [Bool.and_eq_true] at hb ⊢; exact ⟨⟨⟨hb.1.1.1, hb.1.1.2⟩, hb.1.2⟩, hb.2⟩⟩
    rw [this] at hp
    exact hp
  · exact hb
  · have : cov l x y = false := by
      unfold cov
      rw [List.any_eq_false]
      intro r hr
      obtain ⟨j, hj, rfl⟩ := List.getElem_of_mem hr
      have := hall j hj
      rw [ix_lt hj] at this
      simp [this]
    rw [this] at hp
    exact hp
def rsm_P (a : List (api_Rect)) (b : List (api_Rect)) (post : Bool → Prop) : Prop := (a.length ≤ 100000000) ∧ ∀ q : Bool, (q = true ↔ a.map spanOf = b.map spanOf) → post q
def rsm_sp : Spec := ⟨157, false, false, [.sl (.st .api_Rect), .sl (.st .api_Rect)], .dat (.bool), fun x post => rsm_P (x.1 : List (api_Rect)) (x.2.1 : List (api_Rect)) (fun y0 => post (y0, ()))⟩
def rsm_C : CtxR := ⟨tau, [], lookJ [(0, 9, ⟨[(13, .dat (.int .i64))], [], [14, 15, 5, 16, 17, 18, 19, 20, 21, 22, 23, 24, 25, 26, 27, 39, 28, 29, 30, 31, 32, 33, 34, 35, 36, 37, 38, 40], [], []⟩)]⟩
def rsm_W (a : List (api_Rect)) (b : List (api_Rect)) (post : Bool → Prop) : Prop := (↑a.length : Int) ≤ (9223372036854775807 : Int) → (↑b.length : Int) ≤ (9223372036854775807 : Int) → IFB (!decide ((↑a.length : Int) = (↑b.length : Int))) (post false) ((↑a.length : Int) ≤ (9223372036854775807 : Int) → LOOP [Ty.int IntKind.i64] (fun (rec1 : Int → Prop) (z2 : Int) ↦ IFB (decide (z2 < (↑a.length : Int))) (((0 : Int) ≤ z2 ∧ z2 < (↑a.length : Int)) ∧ ((0 : Int) ≤ z2 ∧ z2 < (↑b.length : Int)) ∧ ((gx false !decide ((ix a z2).1 = (ix b z2).1)) = true → (0 : Int) ≤ z2 ∧ z2 < (↑a.length : Int)) ∧ ((gx false !decide ((ix a z2).1 = (ix b z2).1)) = true → (0 : Int) ≤ z2 ∧ z2 < (↑b.length : Int)) ∧ IFB (!decide ((ix a z2).1 = (ix b z2).1) || !decide ((ix a z2).3 = (ix b z2).3)) (post false) (rec1 (IntKind.i64.wrap (z2 + (1 : Int))))) (post true)) ((0 : Int), PUnit.unit))
theorem rsm_w (a : List (api_Rect)) (b : List (api_Rect)) (post : dens (shT rsm_sp.rs []) → Prop) : rsm_W a b (fun y0 => post (y0, ())) = walkG (callR Tryz.prog rsm_C (drawR Tryz.prog tau) 8 0) 157 false [tv (.sl (.st .api_Rect)) a, tv (.sl (.st .api_Rect)) b] rsm_sp.rs post := by kernel_rfl
theorem rsm_of (h : ∀ (a : List (api_Rect)) (b : List (api_Rect)) (post : Bool → Prop), rsm_P a b post → rsm_W a b post) : SpecOK Tryz.prog rsm_sp := SpecOK.of_rules (C := rsm_C) (dr := drawR Tryz.prog tau) (n := 8) (fk := 0) .nil (drawR_ok tau) fun x post hp => HoldW.of (rsm_w x.1 x.2.1 post) (h x.1 x.2.1 (fun y0 => post (y0, ())) hp)
theorem rsm_ok : SpecOK Tryz.prog rsm_sp := rsm_of fun a b post hp => by
  obtain ⟨hl, hp⟩ := hp
  unfold rsm_W
  intro _ _
  refine IFB.mk (fun hb => hp _ ?_) (fun hb _ => ?_)
  · have hb : ¬ (a.length : Int) = b.length := by simpa using hb
    constructor
    · intro h; cases h
    · intro h; have := congrArg List.length h; simp at this; omega
  · have hb : (a.length : Int) = b.length := by simpa using hb
    have hab : a.length = b.length := by omega
    have hiff := map_eq_iff (f := spanOf) hab
    refine loopCmp (n := a.length) (by omega) (p := fun j => spanOf (ix a (j : Int)) = spanOf (ix b (j : Int))) (fun rec k hk hpre hrec => ⟨by omega, by omega, fun _ => by omega, fun _ => by omega, IFB.mk (fun hb => hp _ ?_) (fun hb => hrec ?_)⟩) fun hall => hp _ ?_
    · constructor
      · intro h; cases h
      · intro h
        have := hiff.1 h k hk
        unfold spanOf at this
        injection this with h1 h2
        simp [h1, h2] at hb
    · simp at hb
      unfold spanOf
      rw [hb.1, hb.2]
    · exact ⟨fun _ => hiff.2 hall, fun _ => rfl⟩
def rrec_P (a : List (api_Rect)) (b : List (api_Rect)) (post : Bool → Prop) : Prop := (a.length ≤ 1000000000) ∧ ∀ q : Bool, (q = true ↔ a = b) → post q
def rrec_sp : Spec := ⟨81, false, false, [.sl (.st .api_Rect), .sl (.st .api_Rect)], .dat (.bool), fun x post => rrec_P (x.1 : List (api_Rect)) (x.2.1 : List (api_Rect)) (fun y0 => post (y0, ()))⟩
def rrec_C : CtxR := ⟨tau, [], lookJ [(0, 9, ⟨[(13, .dat (.int .i64))], [], [14, 15, 5, 16, 17, 18, 19, 20, 21, 22, 23, 24, 25], [], []⟩)]⟩
def rrec_W (a : List (api_Rect)) (b : List (api_Rect)) (post : Bool → Prop) : Prop := (↑a.length : Int) ≤ (9223372036854775807 : Int) → (↑b.length : Int) ≤ (9223372036854775807 : Int) → IFB (!decide ((↑a.length : Int) = (↑b.length : Int))) (post false) ((↑a.length : Int) ≤ (9223372036854775807 : Int) → LOOP [Ty.int IntKind.i64] (fun (rec1 : Int → Prop) (z2 : Int) ↦ IFB (decide (z2 < (↑a.length : Int))) (((0 : Int) ≤ z2 ∧ z2 < (↑a.length : Int)) ∧ ((0 : Int) ≤ z2 ∧ z2 < (↑b.length : Int)) ∧ IFB (!(decide ((ix a z2).1 = (ix b z2).1) && (decide ((ix a z2).2 = (ix b z2).2) && (decide ((ix a z2).3 = (ix b z2).3) && (decide ((ix a z2).4 = (ix b z2).4) && true))))) (post false) (rec1 (IntKind.i64.wrap (z2 + (1 : Int))))) (post true)) ((0 : Int), PUnit.unit))
theorem rrec_w (a : List (api_Rect)) (b : List (api_Rect)) (post : dens (shT rrec_sp.rs []) → Prop) : rrec_W a b (fun y0 => post (y0, ())) = walkG (callR Tryz.prog rrec_C (drawR Tryz.prog tau) 8 0) 81 false [tv (.sl (.st .api_Rect)) a, tv (.sl (.st .api_Rect)) b] rrec_sp.rs post := by kernel_rfl
theorem rrec_of (h : ∀ (a : List (api_Rect)) (b : List (api_Rect)) (post : Bool → Prop), rrec_P a b post → rrec_W a b post) : SpecOK Tryz.prog rrec_sp := SpecOK.of_rules (C := rrec_C) (dr := drawR Tryz.prog tau) (n := 8) (fk := 0) .nil (drawR_ok tau) fun x post hp => HoldW.of (rrec_w x.1 x.2.1 post) (h x.1 x.2.1 (fun y0 => post (y0, ())) hp)
theorem rrec_ok : SpecOK Tryz.prog rrec_sp := rrec_of fun a b post hp => by
  obtain ⟨hl, hp⟩ := hp
  unfold rrec_W
  intro _ _
  refine IFB.mk (fun hb => hp _ ?_) (fun hb _ => ?_)
  · have hb : ¬ (a.length : Int) = b.length := by simpa using hb
    constructor
    · intro h; cases h
    · intro h; rw [h] at hb; exact absurd rfl hb
  · have hb : (a.length : Int) = b.length := by simpa using hb
    have hab : a.length = b.length := by omega
    have hiff := list_eq_iff hab
    refine loopCmp (n := a.length) (by omega) (p := fun j => ix a (j : Int) = ix b (j : Int)) (fun rec k hk hpre hrec => ⟨by omega, by omega, IFB.mk (fun hb => hp _ ?_) (fun hb => hrec ?_)⟩) fun hall => hp _ ?_
    · constructor
      · intro h; cases h
      · intro h
        rw [hiff.1 h k hk] at hb
        simp at hb
    · generalize ix a (k : Int) = u at hb ⊢
      generalize ix b (k : Int) = v at hb ⊢
      cases u
      cases v
      simp at hb
      simp [hb]
    · exact ⟨fun _ => hiff.2 hall, fun _ => rfl⟩

end RE
end Go.Proofs.YtpeggkeenboacaaGreat
set_option linter.unusedVariables false
set_option maxRecDepth 100000
namespace Go.Proofs.YtpeggkeenboacaaGreat
open Go.RowKit
namespace RE
open PL
namespace PL
def howS (h : Int) : Bool → Bool → Bool := fun x y => if h = 1 then x || y else if h = 2 then x && y else x && !y
def mkR (u v : Int) (s : Sp) : Rc := ⟨s.1, u, s.2, v⟩
def lastR (acc : List Bd) : List Rc := match acc.getLast? with
  | none => []
  | some b => flat1 b
end PL
theorem howS_0 (h : Int) : howS h false false = false := by unfold howS; simp
theorem flat_app {a b : List Bd} : flat (a ++ b) = flat a ++ flat b := by unfold flat; simp
theorem flat_last {acc : List Bd} : flat acc.dropLast ++ lastR acc = flat acc := by
  rcases List.eq_nil_or_concat acc with rfl | ⟨A, b, rfl⟩
  · rfl
  · simp only [List.concat_eq_append]
    rw [List.dropLast_concat, flat_app]
    unfold lastR
    simp [flat]
theorem addSp_len {out : List Sp} {u v : Int} : (addSp out u v).length ≤ out.length + 1 := by
  unfold addSp
  rcases List.eq_nil_or_concat out with rfl | ⟨A, s, rfl⟩
  · simp
  · simp only [List.concat_eq_append, List.getLast?_append, List.getLast?_singleton, Option.some_or]
    split
    · rw [List.dropLast_concat]; simp
    · simp
theorem spansG_len {p : Int → Bool} : ∀ {xs : List Int} {out : List Sp}, (spansG p out xs).length ≤ out.length + xs.length
  | [], out => by simp [spansG]
  | [u], out => by simp [spansG]
  | u :: v :: r, out => by
    have ih := spansG_len (p := p) (xs := v :: r) (out := if p u = true then addSp out u v else out)
    unfold spansG
    have := addSp_len (out := out) (u := u) (v := v)
    simp only [List.length_cons] at ih ⊢
    split at ih
    · rename_i h; rw [if_pos h]; omega
    · rename_i h; rw [if_neg h]; omega
/-- A span more, as the reference lays it. -/
theorem addSp_map {sp : List Sp} {u v x x' : Int} : (sp = [] ∧ (addSp sp x x').map (mkR u v) = [mkR u v ⟨x, x'⟩]) ∨ ∃ A s, sp = A ++ [s] ∧ (s.2 = x ∧ (addSp sp x x').map (mkR u v) = (sp.map (mkR u v)).set A.length { mkR u v s with Right := x' } ∨ s.2 ≠ x ∧ (addSp sp x x').map (mkR u v) = sp.map (mkR u v) ++ [mkR u v ⟨x, x'⟩]) := by
  unfold addSp
  rcases List.eq_nil_or_concat sp with rfl | ⟨A, s, rfl⟩
  · exact .inl ⟨rfl, rfl⟩
  · right
    refine ⟨A, s, by simp, ?_⟩
    simp only [List.concat_eq_append, List.getLast?_append, List.getLast?_singleton, Option.some_or]
    by_cases h : s.2 = x
    · left
      refine ⟨h, ?_⟩
      rw [if_pos h, List.dropLast_concat, List.map_append, List.map_append]
      simp [mkR]
    · right
      refine ⟨h, ?_⟩
      rw [if_neg h]
      simp
/-- A band more, as the reference lays it. -/
theorem addBd_ref {acc : List Bd} {u v : Int} {ss : List Sp} : ((lastR acc ≠ [] ∧ (lastR acc).map spanOf = ss ∧ (ix (lastR acc) 0).High = u) ∧ flat (addBd acc u v ss).dropLast = flat acc.dropLast ∧ lastR (addBd acc u v ss) = (lastR acc).map (fun r => { r with High := v })) ∨
    (¬ (lastR acc ≠ [] ∧ (lastR acc).map spanOf = ss ∧ (ix (lastR acc) 0).High = u) ∧ flat (addBd acc u v ss).dropLast = flat acc.dropLast ++ lastR acc ∧ lastR (addBd acc u v ss) = ss.map (mkR u v)) := by
  rcases List.eq_nil_or_concat acc with rfl | ⟨A, b, rfl⟩
  · right
    exact ⟨fun h => h.1 rfl, rfl, rfl⟩
  · simp only [List.concat_eq_append]
    have hl : lastR (A ++ [b]) = flat1 b := by unfold lastR; simp
    have hm : (flat1 b).map spanOf = b.spans := by
      unfold flat1
      rw [List.map_map]
      have : (spanOf ∘ fun s : Sp => (⟨s.1, b.low, s.2, b.high⟩ : Rc)) = id := by funext s; rfl
      rw [this, List.map_id]
    have hne : flat1 b ≠ [] ↔ b.spans ≠ [] := by unfold flat1; simp
    have hhigh : flat1 b ≠ [] → (ix (flat1 b) 0).High = b.high := fun h => by
      unfold flat1 at h ⊢
      cases hsp : b.spans with
      | nil => rw [hsp] at h; exact absurd rfl h
      | cons s r => rfl
    rw [hl, hm]
    unfold addBd
    simp only [List.getLast?_append, List.getLast?_singleton, Option.some_or]
    by_cases hc : b.high = u ∧ b.spans = ss
    · rw [if_pos hc, List.dropLast_concat, List.dropLast_concat]
      have hl2 : lastR (A ++ [⟨b.low, v, b.spans⟩]) = flat1 ⟨b.low, v, b.spans⟩ := by unfold lastR; simp
      rw [hl2]
      by_cases hs : b.spans = []
      · right
        refine ⟨fun h => (hne.1 h.1) hs, ?_, ?_⟩
        · unfold flat1; rw [hs]; simp
        · rw [← hc.2, hs]; unfold flat1; simp
      · left
        refine ⟨⟨hne.2 hs, hc.2, by rw [hhigh (hne.2 hs)]; exact hc.1⟩, rfl, ?_⟩
        unfold flat1
        rw [List.map_map]
        rfl
    · right
      rw [if_neg hc]
      have hl2 : lastR (A ++ [b] ++ [⟨u, v, ss⟩]) = flat1 ⟨u, v, ss⟩ := by unfold lastR; simp
      rw [hl2, List.dropLast_concat, List.dropLast_concat]
      refine ⟨fun h => hc ⟨by rw [← hhigh h.1]; exact h.2.2, h.2.1⟩, ?_, rfl⟩
      rw [flat_app]
      simp [flat]
end RE
end Go.Proofs.YtpeggkeenboacaaGreat
set_option maxRecDepth 100000
set_option linter.unusedVariables false
namespace Go.Proofs.YtpeggkeenboacaaGreat
open Go.RowKit
namespace RE
open PL
def rcomb_P (a : List (api_Rect)) (b : List (api_Rect)) (h : Int) (post : List (api_Rect) → Prop) : Prop := (a.length ≤ 1000 ∧ b.length ≤ 1000) ∧ post (canonF (comb (howS h) a b))
def rcomb_sp : Spec := ⟨80, false, true, [.sl (.st .api_Rect), .sl (.st .api_Rect), .int .i64], .dat (.sl (.st .api_Rect)), fun x post => rcomb_P (x.1 : List (api_Rect)) (x.2.1 : List (api_Rect)) (x.2.2.1 : Int) (fun y0 => post (y0, ()))⟩
def rcomb_C : CtxR := ⟨tau, [rule1 rput_sp, rule1 rins_sp, rule1 rsm_sp], lookJ [(0, 27, ⟨[(15, .dat (.int .i64)), (14, .own 65 (.st .api_Rect)), (13, .own 65 (.st .api_Rect))], [], [50, 51, 52, 53, 54, 158, 157, 159, 19, 160, 161, 162, 163, 164, 165, 166, 167, 168, 169, 156, 155, 153, 152, 151, 150, 149, 148, 147, 146, 145, 142, 141, 140, 154, 144, 143, 139, 138, 137, 136, 61, 60, 59, 58, 57, 17, 16, 86, 64, 65, 66, 67, 68, 69, 70, 71, 72, 73, 74, 75, 76, 77, 78, 79, 80, 81, 82, 83, 84, 85, 113, 112, 111, 110, 109, 108, 107, 106, 105, 104, 102, 101, 100, 99, 98, 97, 96, 95, 94, 93, 92, 103, 91, 90, 89, 18, 88, 87, 114, 115, 116, 117, 118, 119, 120, 121, 122, 123, 124, 125, 126, 127, 128, 129, 130, 131, 132, 133, 134, 135, 62, 63, 173, 172, 171, 170, 55, 56], [], []⟩), (0, 28, ⟨[(14, .own 65 (.st .api_Rect)), (13, .own 65 (.st .api_Rect))], [], [170, 171, 172, 173, 63, 62, 135, 134, 133, 132, 131, 130, 129, 128, 127, 126, 125, 124, 123, 122, 121, 120, 119, 118, 117, 116, 115, 114, 87, 88, 18, 89, 90, 91, 103, 92, 93, 94, 95, 96, 97, 98, 99, 100, 101, 102, 104, 105, 106, 107, 108, 109, 110, 111, 112, 113, 85, 84, 83, 82, 81, 80, 79, 78, 77, 76, 75, 74, 73, 72, 71, 70, 69, 68, 67, 66, 65, 64, 86, 16, 17, 57, 58, 59, 60, 61, 136, 137, 138, 139, 143, 144, 154, 140, 141, 142, 145, 146, 147, 148, 149, 150, 151, 152, 153, 155, 156, 169, 168, 167, 166, 165, 164, 163, 162, 161, 160, 19, 159, 157, 158], [2, 1], []⟩), (0, 53, ⟨[(157, .dat (.int .i64))], [], [158, 159, 19, 160, 161, 162, 163, 164, 165, 166, 167, 168, 169], [], [(1, 65, (.st .api_Rect))]⟩), (0, 35, ⟨[(17, .dat (.int .i64)), (16, .own 65 (.st .api_Rect))], [], [57, 58, 59, 60, 61, 86, 64, 65, 66, 67, 68, 69, 70, 71, 72, 73, 74, 75, 76, 77, 78, 79, 80, 81, 82, 83, 84, 85, 113, 112, 111, 110, 109, 108, 107, 106, 105, 104, 102, 101, 100, 99, 98, 97, 96, 95, 94, 93, 92, 103, 91, 90, 89, 18, 88, 87, 114, 115, 116, 117, 118, 119, 120, 121, 122, 123, 124, 125, 126, 127, 128, 129, 130, 131, 132, 133, 134, 135, 62, 63], [], []⟩), (0, 36, ⟨[(16, .own 65 (.st .api_Rect))], [], [135, 134, 133, 132, 131, 130, 129, 128, 127, 126, 125, 124, 123, 122, 121, 120, 119, 118, 117, 116, 115, 114, 87, 88, 18, 89, 90, 91, 103, 92, 93, 94, 95, 96, 97, 98, 99, 100, 101, 102, 104, 105, 106, 107, 108, 109, 110, 111, 112, 113, 85, 84, 83, 82, 81, 80, 79, 78, 77, 76, 75, 74, 73, 72, 71, 70, 69, 68, 67, 66, 65, 64, 86], [3], []⟩), (0, 1000023, ⟨[(16, .own 65 (.st .api_Rect))], [], [114, 115, 116, 117, 118, 119, 120, 121, 122, 123, 124, 125, 126, 127, 128, 129, 130, 131, 132, 133, 134, 135], [3], []⟩), (0, 1000019, ⟨[(86, .dat .bool)], [], [64, 65, 66, 67, 68, 69, 70, 71, 72, 73, 74, 75, 76, 77, 78, 79, 80, 81, 82, 83, 84, 85], [], []⟩), (19421, 0, ⟨[(0, .dat .bool)], [], [], [], []⟩), (0, 7, ⟨[(24, .dat (.int .i64)), (8, .dat (.sl (.int .i64))), (7, .dat (.sl (.int .i64)))], [], [25, 26, 27, 10, 28, 29, 48, 34, 35, 36, 37, 38, 39, 40, 41, 42, 43, 44, 45, 46, 47, 12, 33, 32, 30, 31, 49], [], []⟩), (0, 13, ⟨[(30, .dat (.int .i64)), (8, .dat (.sl (.int .i64))), (7, .dat (.sl (.int .i64)))], [], [31, 32, 33, 12, 47, 46, 45, 44, 43, 42, 41, 40, 39, 38, 37, 36, 35, 34, 48], [], []⟩), (0, 1000008, ⟨[(8, .dat (.sl (.int .i64))), (7, .dat (.sl (.int .i64)))], [], [34, 35, 36, 37, 38, 39, 40, 41, 42, 43, 44, 45, 46, 47], [], []⟩)]⟩
def rcomb_W (a : List (api_Rect)) (b : List (api_Rect)) (h : Int) (post : List (api_Rect) → Prop) : Prop := (↑[a, b].length : Int) ≤ (9223372036854775807 : Int) → LOOP [Ty.int IntKind.i64, (Ty.int IntKind.i64).sl, (Ty.int IntKind.i64).sl] (fun (rec1 : Int → List Int → List Int → Prop) (z2 : Int) (z3 z4 : List Int) ↦ IFB (decide (z2 < (↑[a, b].length : Int))) (((0 : Int) ≤ z2 ∧ z2 < (↑[a, b].length : Int)) ∧ ((↑(ix [a, b] z2).length : Int) ≤ (9223372036854775807 : Int) → LOOP [Ty.int IntKind.i64, (Ty.int IntKind.i64).sl, (Ty.int IntKind.i64).sl] (fun (rec5 : Int → List Int → List Int → Prop) (z6 : Int) (z7 z8 : List Int) ↦ IFB (decide (z6 < (↑(ix [a, b] z2).length : Int))) (((0 : Int) ≤ z6 ∧ z6 < (↑(ix [a, b] z2).length : Int)) ∧ JOIN [(Ty.int IntKind.i64).sl, (Ty.int IntKind.i64).sl] (fun (y9 y10 : List Int) ↦ rec5 (IntKind.i64.wrap (z6 + (1 : Int))) y9 y10) fun (J11 : List Int → List Int → Prop) ↦ z8.length ≤ (1000000 : Nat) ∧ (putS (ix (ix [a, b] z2) z6).1 z8).length ≤ (1000000 : Nat) ∧ z7.length ≤ (1000000 : Nat) ∧ (putS (ix (ix [a, b] z2) z6).2 z7).length ≤ (1000000 : Nat) ∧ J11 (putS (ix (ix [a, b] z2) z6).4 (putS (ix (ix [a, b] z2) z6).2 z7)) (putS (ix (ix [a, b] z2) z6).3 (putS (ix (ix [a, b] z2) z6).1 z8))) (rec1 (IntKind.i64.wrap (z2 + (1 : Int))) z7 z8)) ((0 : Int), z3, z4, PUnit.unit))) (LOOP [Ty.int IntKind.i64, (Ty.st Sn.api_Rect).sl, (Ty.st Sn.api_Rect).sl] (fun (rec12 : Int → List api_Rect → List api_Rect → Prop) (z13 : Int) (z14 z15 : List api_Rect) ↦ (↑z3.length : Int) ≤ (9223372036854775807 : Int) → IFB (decide (IntKind.i64.wrap (z13 + (1 : Int)) < (↑z3.length : Int))) (JOIN [(Ty.st Sn.api_Rect).sl, (Ty.st Sn.api_Rect).sl] (fun (y16 y17 : List api_Rect) ↦ rec12 (IntKind.i64.wrap (z13 + (1 : Int))) y16 y17) fun (J18 : List api_Rect → List api_Rect → Prop) ↦ LOOP [Ty.int IntKind.i64, (Ty.st Sn.api_Rect).sl] (fun (rec19 : Int → List api_Rect → Prop) (z20 : Int) (z21 : List api_Rect) ↦ (↑z4.length : Int) ≤ (9223372036854775807 : Int) → IFB (decide (IntKind.i64.wrap (z20 + (1 : Int)) < (↑z4.length : Int))) (JOIN [(Ty.st Sn.api_Rect).sl] (fun (y22 : List api_Rect) ↦ rec19 (IntKind.i64.wrap (z20 + (1 : Int))) y22) fun (J23 : List api_Rect → Prop) ↦ JOIN [Ty.bool] (fun (y24 : Bool) ↦ IFB y24 (J23 z21) ((↑z21.length : Int) ≤ (9223372036854775807 : Int) → (gx true (decide ((0 : Int) < (↑z21.length : Int))) = true → (0 : Int) ≤ IntKind.i64.wrap ((↑z21.length : Int) - (1 : Int)) ∧ IntKind.i64.wrap ((↑z21.length : Int) - (1 : Int)) < (↑z21.length : Int)) ∧ (gx true (decide ((0 : Int) < (↑z21.length : Int))) = true → (0 : Int) ≤ z20 ∧ z20 < (↑z4.length : Int)) ∧ IFB (decide ((0 : Int) < (↑z21.length : Int)) && decide ((ix z21 (IntKind.i64.wrap ((↑z21.length : Int) - (1 : Int)))).3 = ix z4 z20)) (((0 : Int) ≤ IntKind.i64.wrap (z20 + (1 : Int)) ∧ IntKind.i64.wrap (z20 + (1 : Int)) < (↑z4.length : Int)) ∧ ((0 : Int) ≤ IntKind.i64.wrap ((↑z21.length : Int) - (1 : Int)) ∧ IntKind.i64.wrap ((↑z21.length : Int) - (1 : Int)) < (↑z21.length : Int)) ∧ J23 (z21.set (IntKind.i64.wrap ((↑z21.length : Int) - (1 : Int))).toNat { Left := (ix z21 (IntKind.i64.wrap ((↑z21.length : Int) - (1 : Int)))).1, Low := (ix z21 (IntKind.i64.wrap ((↑z21.length : Int) - (1 : Int)))).2, Right := ix z4 (IntKind.i64.wrap (z20 + (1 : Int))), High := (ix z21 (IntKind.i64.wrap ((↑z21.length : Int) - (1 : Int)))).4 : api_Rect })) (JOIN [(Ty.st Sn.api_Rect).sl] (fun (y25 : List api_Rect) ↦ J23 y25) fun (J26 : List api_Rect → Prop) ↦ ((0 : Int) ≤ z20 ∧ z20 < (↑z4.length : Int)) ∧ ((0 : Int) ≤ z13 ∧ z13 < (↑z3.length : Int)) ∧ ((0 : Int) ≤ IntKind.i64.wrap (z20 + (1 : Int)) ∧ IntKind.i64.wrap (z20 + (1 : Int)) < (↑z4.length : Int)) ∧ ((0 : Int) ≤ IntKind.i64.wrap (z13 + (1 : Int)) ∧ IntKind.i64.wrap (z13 + (1 : Int)) < (↑z3.length : Int)) ∧ (z21.length + [{ Left := ix z4 z20, Low := ix z3 z13, Right := ix z4 (IntKind.i64.wrap (z20 + (1 : Int))), High := ix z3 (IntKind.i64.wrap (z13 + (1 : Int))) : api_Rect }].length) * (32 : Nat) ≤ (140737488355328 : Nat) ∧ J26 (z21 ++ [{ Left := ix z4 z20, Low := ix z3 z13, Right := ix z4 (IntKind.i64.wrap (z20 + (1 : Int))), High := ix z3 (IntKind.i64.wrap (z13 + (1 : Int))) : api_Rect }])))) fun (J27 : Bool → Prop) ↦ ((0 : Int) ≤ z20 ∧ z20 < (↑z4.length : Int)) ∧ ((0 : Int) ≤ z13 ∧ z13 < (↑z3.length : Int)) ∧ ((0 : Int) ≤ z20 ∧ z20 < (↑z4.length : Int)) ∧ ((0 : Int) ≤ z13 ∧ z13 < (↑z3.length : Int)) ∧ a.length ≤ (1000000 : Nat) ∧ b.length ≤ (1000000 : Nat) ∧ JOIN [Ty.bool] (fun (y28 : Bool) ↦ J27 !y28) fun (J29 : Bool → Prop) ↦ IFB (decide (h = (1 : Int))) (J29 (cov a (ix z4 z20) (ix z3 z13) || cov b (ix z4 z20) (ix z3 z13))) (IFB (decide (h = (2 : Int))) (J29 (cov a (ix z4 z20) (ix z3 z13) && cov b (ix z4 z20) (ix z3 z13))) (J29 (cov a (ix z4 z20) (ix z3 z13) && !cov b (ix z4 z20) (ix z3 z13))))) ((↑z14.length : Int) ≤ (9223372036854775807 : Int) → JOIN [Ty.bool] (fun (y30 : Bool) ↦ (gx true (decide ((0 : Int) < (↑z14.length : Int)) && y30) = true → Int.NonNeg (0 : Int) ∧ (0 : Int) < (↑z14.length : Int)) ∧ (gx true (decide ((0 : Int) < (↑z14.length : Int)) && y30) = true → (0 : Int) ≤ z13 ∧ z13 < (↑z3.length : Int)) ∧ IFB (decide ((0 : Int) < (↑z14.length : Int)) && y30 && decide ((ix z14 (0 : Int)).4 = ix z3 z13)) ((↑z14.length : Int) ≤ (9223372036854775807 : Int) → LOOP [Ty.int IntKind.i64, (Ty.st Sn.api_Rect).sl] (fun (rec31 : Int → List api_Rect → Prop) (z32 : Int) (z33 : List api_Rect) ↦ IFB (decide (z32 < (↑z14.length : Int))) (((0 : Int) ≤ IntKind.i64.wrap (z13 + (1 : Int)) ∧ IntKind.i64.wrap (z13 + (1 : Int)) < (↑z3.length : Int)) ∧ ((0 : Int) ≤ z32 ∧ z32 < (↑z33.length : Int)) ∧ rec31 (IntKind.i64.wrap (z32 + (1 : Int))) (z33.set z32.toNat { Left := (ix z33 z32).1, Low := (ix z33 z32).2, Right := (ix z33 z32).3, High := ix z3 (IntKind.i64.wrap (z13 + (1 : Int))) : api_Rect })) (J18 z33 z15)) ((0 : Int), z14, PUnit.unit)) ((z15.length + z14.length) * (32 : Nat) ≤ (140737488355328 : Nat) ∧ J18 z21 (z15 ++ z14)) ∧ IFB (decide ((0 : Int) < (↑z14.length : Int)) && y30 && decide ((ix z14 (0 : Int)).4 = ix z3 z13)) ((↑z14.length : Int) ≤ (9223372036854775807 : Int) → LOOP [Ty.int IntKind.i64, (Ty.st Sn.api_Rect).sl] (fun (rec34 : Int → List api_Rect → Prop) (z35 : Int) (z36 : List api_Rect) ↦ IFB (decide (z35 < (↑z14.length : Int))) (((0 : Int) ≤ IntKind.i64.wrap (z13 + (1 : Int)) ∧ IntKind.i64.wrap (z13 + (1 : Int)) < (↑z3.length : Int)) ∧ ((0 : Int) ≤ z35 ∧ z35 < (↑z36.length : Int)) ∧ rec34 (IntKind.i64.wrap (z35 + (1 : Int))) (z36.set z35.toNat { Left := (ix z36 z35).1, Low := (ix z36 z35).2, Right := (ix z36 z35).3, High := ix z3 (IntKind.i64.wrap (z13 + (1 : Int))) : api_Rect })) (J18 z36 z15)) ((0 : Int), z14, PUnit.unit)) ((z15.length + z14.length) * (32 : Nat) ≤ (140737488355328 : Nat) ∧ J18 z21 (z15 ++ z14))) fun (J37 : Bool → Prop) ↦ IFB (gx true (decide ((0 : Int) < (↑z14.length : Int)))) (z14.length ≤ (100000000 : Nat) ∧ ∀ (v38 : Bool), (v38 = true ↔ List.map spanOf z14 = List.map spanOf z21) → J37 v38) (J37 false))) ((0 : Int), [], PUnit.unit)) ((z15.length + z14.length) * (32 : Nat) ≤ (140737488355328 : Nat) ∧ post (z15 ++ z14))) ((0 : Int), [], [], PUnit.unit))) ((0 : Int), [], [], PUnit.unit)
theorem rcomb_w (a : List (api_Rect)) (b : List (api_Rect)) (h : Int) (post : dens (shT rcomb_sp.rs []) → Prop) : rcomb_W a b h (fun y0 => post (y0, ())) = walkG (callR Tryz.prog rcomb_C (drawR Tryz.prog tau) 8 0) 80 false [tv (.sl (.st .api_Rect)) a, tv (.sl (.st .api_Rect)) b, tv (.int .i64) h] rcomb_sp.rs post := by kernel_rfl
theorem rcomb_of (h : ∀ (a : List (api_Rect)) (b : List (api_Rect)) (h : Int) (post : List (api_Rect) → Prop), rcomb_P a b h post → rcomb_W a b h post) : SpecOK Tryz.prog rcomb_sp := SpecOK.of_rules (C := rcomb_C) (dr := drawR Tryz.prog tau) (n := 8) (fk := 0) (.cons (rule1_ok rput_ok) (.cons (rule1_ok rins_ok) (.cons (rule1_ok rsm_ok) .nil))) (drawR_ok tau) fun x post hp => HoldW.of (rcomb_w x.1 x.2.1 x.2.2.1 post) (h x.1 x.2.1 x.2.2.1 (fun y0 => post (y0, ())) hp)
theorem putS_len {n : Int} : ∀ {l : List Int}, (putS n l).length ≤ l.length + 1
  | [] => by simp [putS]
  | x :: r => by
    have := putS_len (n := n) (l := r)
    unfold putS
    split
    · simp; omega
    · split <;> simp
theorem fold_len {f g : Rc → Int} : ∀ {l : List Rc} {a : List Int}, (l.foldl (fun a r => putS (g r) (putS (f r) a)) a).length ≤ a.length + 2 * l.length
  | [], a => by simp
  | r :: l, a => by
    have ih := fold_len (f := f) (g := g) (l := l) (a := putS (g r) (putS (f r) a))
    have h1 := putS_len (n := g r) (l := putS (f r) a)
    have h2 := putS_len (n := f r) (l := a)
    simp only [List.foldl_cons, List.length_cons]
    omega
abbrev cutF : List Int → Rc → List Int := fun a r => putS r.High (putS r.Low a)
abbrev edgF : List Int → Rc → List Int := fun a r => putS r.Right (putS r.Left a)
theorem comb_in {l : List Rc} (hl : l.length ≤ 1000) {K : List Int → List Int → Prop} {ys0 xs0 : List Int} (h1 : ys0.length ≤ 10000) (h2 : xs0.length ≤ 10000) (hK : K (l.foldl cutF ys0) (l.foldl edgF xs0)) :
    LOOP [Ty.int IntKind.i64, (Ty.int IntKind.i64).sl, (Ty.int IntKind.i64).sl] (fun (rec5 : Int → List Int → List Int → Prop) (z6 : Int) (z7 z8 : List Int) ↦ IFB (decide (z6 < (↑l.length : Int))) (((0 : Int) ≤ z6 ∧ z6 < (↑l.length : Int)) ∧ JOIN [(Ty.int IntKind.i64).sl, (Ty.int IntKind.i64).sl] (fun (y9 y10 : List Int) ↦ rec5 (IntKind.i64.wrap (z6 + (1 : Int))) y9 y10) fun (J11 : List Int → List Int → Prop) ↦ z8.length ≤ (1000000 : Nat) ∧ (putS (ix l z6).1 z8).length ≤ (1000000 : Nat) ∧ z7.length ≤ (1000000 : Nat) ∧ (putS (ix l z6).2 z7).length ≤ (1000000 : Nat) ∧ J11 (putS (ix l z6).4 (putS (ix l z6).2 z7)) (putS (ix l z6).3 (putS (ix l z6).1 z8))) (K z7 z8)) ((0 : Int), ys0, xs0, PUnit.unit) := by
  refine LOOP.list l (fun k (s : List Int × List Int) => ((k : Int), s.1, s.2, ())) (fun u => Int.toNat u.1) (fun k r (s : List Int × List Int) => r.foldl cutF s.1 = l.foldl cutF ys0 ∧ r.foldl edgF s.2 = l.foldl edgF xs0 ∧ s.1.length ≤ 10000 + 2 * k ∧ s.2.length ≤ 10000 + 2 * k) (ys0, xs0) rfl ⟨rfl, rfl, by simpa using h1, by simpa using h2⟩ (fun k s h => by simp) ?_ ?_
  · intro rec k x r s hd hk hkl ⟨g1, g2, g3, g4⟩ hrec
    obtain ⟨ys, xs⟩ := s
    dsimp only at g1 g2 g3 g4
    have hx := ix_of hk
    show IFB _ _ _
    refine IFB.mk (fun _ => ⟨by show 0 ≤ (k : Int) ∧ (k : Int) < l.length; omega, ?_⟩) (fun h => absurd (of_decide_eq_false h) (by show ¬ ¬ ((k : Int) < l.length); omega))
    refine JOIN.opq fun (J : List Int → List Int → Prop) hJ => ?_
    have p1 := putS_len (n := x.Left) (l := xs)
    have p2 := putS_len (n := x.Low) (l := ys)
    have p3 := putS_len (n := x.Right) (l := putS x.Left xs)
    have p4 := putS_len (n := x.High) (l := putS x.Low ys)
    dsimp only
    rw [hx]
    refine ⟨by omega, by omega, by omega, by omega, ?_⟩
    rw [hJ]
    show rec (IntKind.i64.wrap ((k : Int) + 1)) _ _
    rw [wrapS (by omega)]
    exact hrec (_, _) ⟨g1, g2, by dsimp only; omega, by dsimp only; omega⟩
  · intro rec s ⟨g1, g2, g3, g4⟩
    show IFB _ _ _
    refine IFB.mk (fun h => absurd (of_decide_eq_true h) (by show ¬ ((l.length : Int) < l.length); omega)) (fun _ => ?_)
    have g1 : s.1 = l.foldl cutF ys0 := g1
    have g2 : s.2 = l.foldl edgF xs0 := g2
    show K s.1 s.2
    rw [g1, g2]
    exact hK
def rI (R : Int → List Sp) (ys : List Int) (i : Int) (last out : List Rc) : Prop := ∃ (k : Nat) (acc : List Bd), i = k ∧ k ≤ ys.length ∧ buildG R acc (ys.drop k) = buildG R [] ys ∧ last = lastR acc ∧ out = flat acc.dropLast ∧ (flat acc).length ≤ 5000 * k
def rJ (p : Int → Bool) (xs : List Int) (u v : Int) (i : Int) (band : List Rc) : Prop := ∃ (m : Nat) (sp : List Sp), i = m ∧ m ≤ xs.length ∧ spansG p sp (xs.drop m) = spansOf p xs ∧ band = sp.map (mkR u v) ∧ sp.length ≤ m
theorem short_drop {l : List Int} {k : Nat} (h : ¬ k + 1 < l.length) (R : Int → List Sp) (acc : List Bd) : buildG R acc (l.drop k) = acc := by
  have : (l.drop k).length ≤ 1 := by simp; omega
  match hd : l.drop k with
  | [] => rfl
  | [_] => rfl
  | _ :: _ :: _ => rw [hd] at this; simp at this
theorem short_drop2 {l : List Int} {k : Nat} (h : ¬ k + 1 < l.length) (p : Int → Bool) (acc : List Sp) : spansG p acc (l.drop k) = acc := by
  have : (l.drop k).length ≤ 1 := by simp; omega
  match hd : l.drop k with
  | [] => rfl
  | [_] => rfl
  | _ :: _ :: _ => rw [hd] at this; simp at this
theorem rcomb_main (a b : List api_Rect) (h : Int) (post : List api_Rect → Prop) (hp : rcomb_P a b h post) : rcomb_W a b h post := by
  obtain ⟨⟨ha, hb⟩, hp⟩ := hp
  obtain ⟨hcan, hcov, hF⟩ := comb_build (howS_0 h) (a := a) (b := b) (R := fun y => spansOf (fun x => comb (howS h) a b x y) (edgesS (a ++ b))) (fun u _ => comb_row (howS_0 h))
  rw [hF] at hp
  obtain ⟨ys, hys⟩ : ∃ ys, ys = cutsS (a ++ b) := ⟨_, rfl⟩
  obtain ⟨xs, hxs⟩ : ∃ xs, xs = edgesS (a ++ b) := ⟨_, rfl⟩
  have hy1 : (cutsS a).length ≤ 2000 := Nat.le_trans (fold_len (f := fun r => r.Low) (g := fun r => r.High) (l := a) (a := [])) (by simp; omega)
  have hx1 : (edgesS a).length ≤ 2000 := Nat.le_trans (fold_len (f := fun r => r.Left) (g := fun r => r.Right) (l := a) (a := [])) (by simp; omega)
  have hyl : ys.length ≤ 4000 := by rw [hys]; exact Nat.le_trans (fold_len (f := fun r => r.Low) (g := fun r => r.High) (l := a ++ b) (a := [])) (by simp; omega)
  have hxl : xs.length ≤ 4000 := by rw [hxs]; exact Nat.le_trans (fold_len (f := fun r => r.Left) (g := fun r => r.Right) (l := a ++ b) (a := [])) (by simp; omega)
  have hy2 : b.foldl cutF (cutsS a) = ys := by rw [hys]; show _ = (a ++ b).foldl cutF []; rw [List.foldl_append]; rfl
  have hx2 : b.foldl edgF (edgesS a) = xs := by rw [hxs]; show _ = (a ++ b).foldl edgF []; rw [List.foldl_append]; rfl
  rw [← hys, ← hxs] at hp
  unfold rcomb_W
  intro _
  refine LOOP.fuel (fun u => (u.1 = (0 : Int) ∧ u.2.1 = ([] : List Int) ∧ u.2.2.1 = ([] : List Int)) ∨ (u.1 = (1 : Int) ∧ u.2.1 = cutsS a ∧ u.2.2.1 = edgesS a) ∨ (u.1 = (2 : Int) ∧ u.2.1 = ys ∧ u.2.2.1 = xs)) (fun u => 2 - Int.toNat u.1) (.inl ⟨rfl, rfl, rfl⟩) ?_
  rintro rec1 ⟨(z2 : Int), (z3 : List Int), (z4 : List Int), ⟨⟩⟩ hI hrec1
  have w01 : IntKind.i64.wrap ((0 : Int) + 1) = 1 := wrap_in (by omega) (by omega)
  have w11 : IntKind.i64.wrap ((1 : Int) + 1) = 2 := wrap_in (by omega) (by omega)
  rcases hI with ⟨e1, e2, e3⟩ | ⟨e1, e2, e3⟩ | ⟨e1, e2, e3⟩
  · have e1 : z2 = 0 := e1
    have e2 : z3 = [] := e2
    have e3 : z4 = [] := e3
    subst e1 e2 e3
    refine IFB.mk (fun _ => ⟨⟨Int.le_refl _, by show (0 : Int) < 2; omega⟩, fun _ => ?_⟩) (fun h => absurd (of_decide_eq_false h) (by show ¬ ¬ ((0 : Int) < 2); omega))
    refine comb_in (l := a) ha (K := fun y x => rec1 (IntKind.i64.wrap (0 + 1)) y x) (by simp) (by simp) ?_
    rw [w01]
    exact hrec1 ((1 : Int), cutsS a, edgesS a, ()) (.inr (.inl ⟨rfl, rfl, rfl⟩)) (by show 2 - (1 : Int).toNat < 2 - (0 : Int).toNat; omega)
  · have e1 : z2 = 1 := e1
    have e2 : z3 = cutsS a := e2
    have e3 : z4 = edgesS a := e3
    subst e1 e2 e3
    refine IFB.mk (fun _ => ⟨⟨by omega, by show (1 : Int) < 2; omega⟩, fun _ => ?_⟩) (fun h => absurd (of_decide_eq_false h) (by show ¬ ¬ ((1 : Int) < 2); omega))
    refine comb_in (l := b) (ys0 := cutsS a) (xs0 := edgesS a) hb (K := fun y x => rec1 (IntKind.i64.wrap (1 + 1)) y x) (by omega) (by omega) ?_
    rw [w11, hy2, hx2]
    exact hrec1 ((2 : Int), ys, xs, ()) (.inr (.inr ⟨rfl, rfl, rfl⟩)) (by show 2 - (2 : Int).toNat < 2 - (1 : Int).toNat; omega)
  · have e1 : z2 = 2 := e1
    have e2 : z3 = ys := e2
    have e3 : z4 = xs := e3
    subst e1 e2 e3
    refine IFB.mk (fun h => absurd (of_decide_eq_true h) (by show ¬ ((2 : Int) < 2); omega)) (fun _ => ?_)
    clear hrec1 hy2 hx2 hy1 hx1 w01 w11
    have hyl : List.length (z3 : List Int) ≤ 4000 := hyl
    have hxl : List.length (z4 : List Int) ≤ 4000 := hxl
    obtain ⟨p, hpdef⟩ : ∃ p : Int → Int → Bool, p = fun y x => comb (howS h) a b x y := ⟨_, rfl⟩
    have hp : post (flat (buildG (fun y => spansOf (p y) z4) [] z3)) := by rw [hpdef]; exact hp
    refine LOOP.fuel (fun u => rI (fun y => spansOf (p y) z4) z3 u.1 u.2.1 u.2.2.1) (fun u => z3.length - Int.toNat u.1) ⟨0, [], rfl, Nat.zero_le _, rfl, rfl, rfl, Nat.zero_le _⟩ ?_
    rintro rec12 ⟨(z13 : Int), (z14 : List Rc), (z15 : List Rc), ⟨⟩⟩ ⟨k, acc, i1, i2, i3, i4, i5, i6⟩ hrec12
    have i1 : z13 = (k : Int) := i1
    have i2 : k ≤ List.length (z3 : List Int) := i2
    have hk4 : k ≤ 4000 := by omega
    have i4 : z14 = lastR acc := i4
    have i5 : z15 = flat acc.dropLast := i5
    subst i1 i4 i5
    have wk : IntKind.i64.wrap ((k : Int) + 1) = ((k + 1 : Nat) : Int) := wrapS (by omega)
    intro _
    show IFB (decide (IntKind.i64.wrap ((k : Int) + 1) < _)) _ _
    rw [wk]
    refine IFB.mk (fun hlt => ?_) (fun hge => ?_)
    · have hlt : ((k + 1 : Nat) : Int) < z3.length := of_decide_eq_true hlt
      have hlt' : k + 1 < z3.length := by omega
      obtain ⟨d1, d2⟩ := drop_two hlt'
      obtain ⟨u, hu⟩ : ∃ u, ix z3 (k : Int) = u := ⟨_, rfl⟩
      obtain ⟨v, hv⟩ : ∃ v, ix z3 ((k + 1 : Nat) : Int) = v := ⟨_, rfl⟩
      rw [hu, hv] at d1
      rw [hv] at d2
      rw [d1] at i3
      refine JOIN.opq fun (J18 : List Rc → List Rc → Prop) h18 => ?_
      have h18 : (flat (addBd acc u v (spansOf (p u) z4))).length ≤ 5000 * (k + 1) → J18 (lastR (addBd acc u v (spansOf (p u) z4))) (flat (addBd acc u v (spansOf (p u) z4)).dropLast) := fun hl => by
        rw [h18]
        show rec12 ((k + 1 : Nat) : Int) _ _
        refine hrec12 (((k + 1 : Nat) : Int), _, _, ()) ⟨k + 1, addBd acc u v (spansOf (p u) z4), rfl, by omega, ?_, rfl, rfl, hl⟩ (by show z3.length - ((k + 1 : Nat) : Int).toNat < z3.length - (k : Int).toNat; omega)
        rw [d2]; exact i3
      refine LOOP.fuel (fun q => rJ (p u) z4 u v q.1 q.2.1) (fun q => z4.length - Int.toNat q.1) ⟨0, [], rfl, Nat.zero_le _, rfl, rfl, Nat.zero_le _⟩ ?_
      rintro rec19 ⟨(z20 : Int), (z21 : List Rc), ⟨⟩⟩ ⟨m, sp, j1, j2, j3, j4, j5⟩ hrec19
      have j1 : z20 = (m : Int) := j1
      have j2 : m ≤ List.length (z4 : List Int) := j2
      have hm4 : m ≤ 4000 := by omega
      have j4 : z21 = sp.map (mkR u v) := j4
      subst j1 j4
      have wm : IntKind.i64.wrap ((m : Int) + 1) = ((m + 1 : Nat) : Int) := wrapS (by omega)
      intro _
      show IFB (decide (IntKind.i64.wrap ((m : Int) + 1) < _)) _ _
      rw [wm]
      refine IFB.mk (fun hmt => ?_) (fun hge _ => ?_)
      · have hmt : ((m + 1 : Nat) : Int) < z4.length := of_decide_eq_true hmt
        have hmt' : m + 1 < z4.length := by omega
        obtain ⟨c1, c2⟩ := drop_two hmt'
        obtain ⟨x, hx⟩ : ∃ x, ix z4 (m : Int) = x := ⟨_, rfl⟩
        obtain ⟨x', hx'⟩ : ∃ x', ix z4 ((m + 1 : Nat) : Int) = x' := ⟨_, rfl⟩
        rw [hx, hx'] at c1
        rw [hx'] at c2
        rw [c1] at j3
        refine JOIN.opq fun (J23 : List Rc → Prop) h23 => ?_
        have h23 : ∀ sp', spansG (p u) sp' (x' :: z4.drop (m + 2)) = spansOf (p u) z4 → sp'.length ≤ m + 1 → J23 (sp'.map (mkR u v)) := fun sp' q1 q2 => by
          rw [h23]
          show rec19 ((m + 1 : Nat) : Int) _
          exact hrec19 (((m + 1 : Nat) : Int), _, ()) ⟨m + 1, sp', rfl, by omega, by rw [c2]; exact q1, rfl, q2⟩ (by show z4.length - ((m + 1 : Nat) : Int).toNat < z4.length - (m : Int).toNat; omega)
        dsimp only
        rw [hx, hx', hu, hv]
        refine JOIN.opq fun (J27 : Bool → Prop) h27 => ?_
        have j3 : spansG (p u) (if p u x = true then addSp sp x x' else sp) (x' :: z4.drop (m + 2)) = spansOf (p u) z4 := j3
        have h27 : J27 (!(p u x)) := by
          rw [h27]
          cases hpx : p u x with
          | false =>
            rw [hpx] at j3
            exact IFB.mk (fun _ => h23 sp j3 (by omega)) (fun h => by cases h)
          | true =>
            rw [hpx] at j3
            have h23 := h23 _ j3 (by have := addSp_len (out := sp) (u := x) (v := x'); simp only [if_true]; omega)
            rw [if_pos rfl] at h23
            refine IFB.mk (fun h => by cases h) (fun _ _ => ?_)
            have hsl : sp.length ≤ 4000 := by omega
            simp only [List.length_map]
            rcases addSp_map (sp := sp) (u := u) (v := v) (x := x) (x' := x') with ⟨e1, e2⟩ | ⟨A, s, e1, e2⟩
            · subst e1
              rw [e2] at h23
              refine ⟨fun h => by simp [gx_t] at h, fun h => by simp [gx_t] at h, IFB.mk (fun h => by simp at h) (fun _ => ?_)⟩
              refine JOIN.mk ⟨by omega, by omega, by omega, by omega, by simp, h23⟩
            · have hn : (sp.length : Int) = A.length + 1 := by rw [e1]; simp
              have wl : IntKind.i64.wrap ((sp.length : Int) - 1) = (A.length : Int) := by rw [wrap_in (by omega) (by omega)]; omega
              have hlast : ix (sp.map (mkR u v)) (A.length : Int) = mkR u v s := by
                rw [e1, List.map_append]
                exact ix_app (by simp)
              rw [wl, hlast]
              refine ⟨fun _ => by omega, fun _ => by omega, IFB.mk (fun h => ?_) (fun h => ?_)⟩
              · have h : s.2 = x := by
                  have := (Bool.and_eq_true_iff.1 h).2
                  exact of_decide_eq_true this
                rcases e2 with ⟨_, e2⟩ | ⟨e2, _⟩
                · rw [e2] at h23
                  exact ⟨by omega, by omega, h23⟩
                · exact absurd h e2
              · have h : s.2 ≠ x := by
                  intro hs
                  have : decide ((mkR u v s).3 = x) = true := decide_eq_true hs
                  rw [this] at h
                  have : decide ((0 : Int) < (sp.length : Int)) = true := decide_eq_true (by omega)
                  rw [this] at h
                  cases h
                rcases e2 with ⟨e2, _⟩ | ⟨_, e2⟩
                · exact absurd e2 h
                · rw [e2] at h23
                  exact JOIN.mk ⟨by omega, by omega, by omega, by omega, by simp; omega, h23⟩
        refine ⟨by omega, by omega, by omega, by omega, by omega, by omega, ?_⟩
        have hpe : p u x = howS h (cov a x u) (cov b x u) := by rw [hpdef]; rfl
        rw [hpe] at h27
        refine JOIN.opq fun (J29 : Bool → Prop) h29 => ?_
        have h29 : J29 (howS h (cov a x u) (cov b x u)) := by rw [h29]; exact h27
        unfold howS at h29
        refine IFB.mk (fun q => ?_) (fun q => IFB.mk (fun q2 => ?_) (fun q2 => ?_))
        · rw [if_pos (of_decide_eq_true q)] at h29; exact h29
        · rw [if_neg (of_decide_eq_false q), if_pos (of_decide_eq_true q2)] at h29; exact h29
        · rw [if_neg (of_decide_eq_false q), if_neg (of_decide_eq_false q2)] at h29; exact h29
      · have hge : ¬ ((m + 1 : Nat) : Int) < z4.length := of_decide_eq_false hge
        rw [short_drop2 (by omega)] at j3
        subst j3
        have hfl := flat_last (acc := acc)
        have hfl2 : (flat acc.dropLast).length + (lastR acc).length = (flat acc).length := by rw [← hfl]; simp
        have hnew := flat_last (acc := addBd acc u v (spansOf (p u) z4))
        have hlen : (flat (addBd acc u v (spansOf (p u) z4))).length ≤ 5000 * (k + 1) := by
          rw [← hnew, List.length_append]
          rcases addBd_ref (acc := acc) (u := u) (v := v) (ss := spansOf (p u) z4) with ⟨_, e2, e3⟩ | ⟨_, e2, e3⟩
          · rw [e2, e3, List.length_map]; omega
          · rw [e2, e3, List.length_map, List.length_append]; omega
        have h18 := h18 hlen
        dsimp only
        rw [hu, hv]
        have hms : ((spansOf (p u) z4).map (mkR u v)).map spanOf = spansOf (p u) z4 := by
          rw [List.map_map]
          have : (spanOf ∘ mkR u v) = id := by funext s; rfl
          rw [this, List.map_id]
        rw [hms]
        have href := addBd_ref (acc := acc) (u := u) (v := v) (ss := spansOf (p u) z4)
        have hll : (lastR acc).length ≤ 20000000 := by omega
        have hol : (flat acc.dropLast).length ≤ 20000000 := by omega
        clear hnew hlen hfl i3 hrec12 hrec19
        generalize spansOf (p u) z4 = ss at *
        generalize lastR acc = last at *
        generalize flat acc.dropLast = out at *
        generalize lastR (addBd acc u v ss) = last' at *
        generalize flat (addBd acc u v ss).dropLast = out' at *
        refine JOIN.opq fun (J37 : Bool → Prop) h37 => ?_
        have h37 : ∀ y : Bool, (y = true → last.map spanOf = ss) → (last ≠ [] → last.map spanOf = ss → y = true) → J37 y := fun y g1 g2 => by
          rw [h37]
          have main : IFB (decide ((0 : Int) < (last.length : Int)) && y && decide ((ix last 0).4 = u)) ((last.length : Int) ≤ 9223372036854775807 → LOOP [Ty.int IntKind.i64, (Ty.st Sn.api_Rect).sl] (fun (rec31 : Int → List api_Rect → Prop) (z32 : Int) (z33 : List api_Rect) ↦ IFB (decide (z32 < (last.length : Int))) (((0 : Int) ≤ ((k + 1 : Nat) : Int) ∧ ((k + 1 : Nat) : Int) < (z3.length : Int)) ∧ ((0 : Int) ≤ z32 ∧ z32 < (z33.length : Int)) ∧ rec31 (IntKind.i64.wrap (z32 + 1)) (z33.set z32.toNat { Left := (ix z33 z32).1, Low := (ix z33 z32).2, Right := (ix z33 z32).3, High := v : api_Rect })) (J18 z33 out)) ((0 : Int), last, PUnit.unit)) ((out.length + last.length) * 32 ≤ 140737488355328 ∧ J18 (ss.map (mkR u v)) (out ++ last)) := by
            refine IFB.mk (fun hc _ => ?_) (fun hc => ⟨by omega, ?_⟩)
            · have hc : (0 < last.length ∧ y = true) ∧ (ix last 0).4 = u := by simpa using hc
              have hne : last ≠ [] := by intro e; rw [e] at hc; simp at hc
              rcases href with ⟨_, e2, e3⟩ | ⟨e1, _⟩
              · rw [e2, e3] at h18
                obtain ⟨hl, hhl⟩ : ∃ hl : Nat → List Rc, hl = fun q => (last.take q).map (fun r => { r with High := v }) ++ last.drop q := ⟨_, rfl⟩
                have h0 : hl 0 = last := by rw [hhl]; rfl
                have h1 : ∀ q r, last[q]? = some r → ix (hl q) (q : Int) = r ∧ (hl q).set q { Left := r.1, Low := r.2, Right := r.3, High := v } = hl (q + 1) := fun q r hq => by
                  rw [hhl]
                  exact ⟨map_at (f := fun r : Rc => { r with High := v }) hq, map_step (f := fun r : Rc => { r with High := v }) hq⟩
                have h2 : ∀ q, (hl q).length = last.length := fun q => by rw [hhl]; exact map_len
                have h3 : hl last.length = last.map fun r => { r with High := v } := by rw [hhl]; simp
                rw [← h3] at h18
                refine LOOP.list last (fun q (s : Unit) => ((q : Int), hl q, ())) (fun w => Int.toNat w.1) (fun _ _ _ => True) () (by rw [h0]; rfl) trivial (fun q s h => by simp) ?_ ?_
                · intro rec q r rs s hd hq hql _ hrec
                  obtain ⟨g1, g2⟩ := h1 q r hq
                  have g3 := h2 q
                  show IFB _ _ _
                  refine IFB.mk (fun _ => ⟨by omega, ?_, ?_⟩) (fun h => absurd (of_decide_eq_false h) (by show ¬ ¬ ((q : Int) < last.length); omega))
                  · show 0 ≤ (q : Int) ∧ (q : Int) < ((hl q).length : Int)
                    omega
                  · dsimp only
                    rw [g1, wrapS (by omega), Int.toNat_natCast, g2]
                    exact hrec () trivial
                · intro rec s _
                  show IFB _ _ _
                  exact IFB.mk (fun h => absurd (of_decide_eq_true h) (by show ¬ ((last.length : Int) < last.length); omega)) (fun _ => h18)
              · exact absurd ⟨hne, g1 hc.1.2, hc.2⟩ e1
            · rcases href with ⟨⟨q1, q2, q3⟩, _⟩ | ⟨_, e2, e3⟩
              · exfalso
                have : 0 < last.length := List.length_pos_iff.2 q1
                have hd : decide ((0 : Int) < (last.length : Int)) = true := decide_eq_true (by omega)
                rw [g2 q1 q2, q3, hd] at hc
                simp at hc
              · rw [e2, e3] at h18
                exact h18
          exact ⟨fun h => ⟨Int.NonNeg.mk _, of_decide_eq_true (Bool.and_eq_true_iff.1 h).1⟩, fun _ => ⟨by omega, by omega⟩, main, main⟩
        refine IFB.mk (fun h => ⟨by omega, fun y hy => h37 y hy.1 (fun _ => hy.2)⟩) (fun h => h37 false (fun h => by cases h) (fun hne _ => ?_))
        exfalso
        have : 0 < last.length := List.length_pos_iff.2 hne
        have h : decide ((0 : Int) < (last.length : Int)) = false := h
        have := of_decide_eq_false h
        omega
    · have hge : ¬ ((k + 1 : Nat) : Int) < z3.length := of_decide_eq_false hge
      rw [short_drop (by omega)] at i3
      have hfl := flat_last (acc := acc)
      have hfl2 : (flat acc.dropLast).length + (lastR acc).length = (flat acc).length := by rw [← hfl]; simp
      rw [← i3, ← hfl] at hp
      refine ⟨?_, hp⟩
      show ((flat acc.dropLast).length + (lastR acc).length) * 32 ≤ 140737488355328
      omega
theorem rcomb_ok : SpecOK Tryz.prog rcomb_sp := rcomb_of rcomb_main

end RE
end Go.Proofs.YtpeggkeenboacaaGreat
set_option linter.unusedVariables false
set_option maxRecDepth 100000
namespace Go.Proofs.YtpeggkeenboacaaGreat
open Go.RowKit
namespace RE
open PL
namespace PL
open Classical in
noncomputable def ofS (l : List Rc) : List Rc × Int := if 120 < l.length then ([], 1) else if ¬ ∀ r ∈ l, proper r then ([], 2) else if 120 < (canonF (cov l)).length then ([], 1) else (canonF (cov l), 0)
open Classical in
noncomputable def bothS (a b : List Rc) : List Rc × Int := if ¬ (validP a ∧ validP b) then ([], 7) else if 120 < (canonF (comb (howS 2) a b)).length then ([], 1) else (canonF (comb (howS 2) a b), 0)
def insS (l : List Sp) (x : Int) : Bool := l.any fun s => decide (s.Left ≤ x) && decide (x < s.Right)
def properB (r : Rc) : Bool := decide (0 ≤ r.Left) && decide (r.Left < r.Right) && decide (r.Right ≤ 16384) && decide (0 ≤ r.Low) && decide (r.Low < r.High) && decide (r.High ≤ 16384)
end PL
theorem properB_iff {r : Rc} : properB r = true ↔ proper r := by unfold properB proper; simp [and_assoc]
theorem comb_or_nil (a : List Rc) : comb (howS 1) a [] = cov a := by
  funext x y
  unfold comb howS
  simp [cov_nil]
theorem canon_cov (a : List Rc) : Canon (canonF (cov a)) ∧ ∀ x y, cov (canonF (cov a)) x y = cov a x y := by
  have := comb_ok (howS_0 1) a []
  rw [comb_or_nil] at this
  exact this
theorem canon_iff (a : List Rc) : canonF (cov a) = a ↔ Canon a := ⟨fun h => h ▸ (canon_cov a).1, canon_self⟩
theorem proper_box {l : List Rc} (h : ∀ r ∈ l, proper r) {x y : Int} (hc : cov l x y = true) : 0 ≤ x ∧ x < 16384 ∧ 0 ≤ y ∧ y < 16384 := by
  obtain ⟨r, hr, h1, h2, h3, h4⟩ := cov_iff.1 hc
  obtain ⟨p1, p2, p3, p4, p5, p6⟩ := h r hr
  omega
theorem box_len {f : Int → Int → Bool} (hc : Canon (canonF f)) (h : ∀ x y, cov (canonF f) x y = true → 0 ≤ x ∧ x < 16384 ∧ 0 ≤ y ∧ y < 16384) : (canonF f).length ≤ 268435456 := by
  have := canon_len hc (x0 := 0) (x1 := 16384) (y0 := 0) (y1 := 16384) (by omega) (by omega) h
  omega
theorem cov_len {l : List Rc} (h : ∀ r ∈ l, proper r) : (canonF (cov l)).length ≤ 268435456 := box_len (canon_cov l).1 fun x y hc => proper_box h (by rwa [(canon_cov l).2] at hc)
theorem all_ix {l : List Rc} {p : Rc → Prop} (h : ∀ j : Nat, j < l.length → p (ix l (j : Int))) : ∀ r ∈ l, p r := by
  intro r hr
  obtain ⟨j, hj, rfl⟩ := List.getElem_of_mem hr
  have := h j hj
  rwa [ix_lt hj] at this
end RE
end Go.Proofs.YtpeggkeenboacaaGreat
set_option maxRecDepth 100000
set_option linter.unusedVariables false
namespace Go.Proofs.YtpeggkeenboacaaGreat
open Go.RowKit
namespace RE
open PL
def rval_P (a : api_Region) (post : Bool → Prop) : Prop := ∀ q : Bool, (q = true ↔ validP a.1) → post q
def rval_sp : Spec := ⟨93, false, false, [.st .api_Region], .dat (.bool), fun x post => rval_P (x.1 : api_Region) (fun y0 => post (y0, ()))⟩
def rval_C : CtxR := ⟨tau, [rule1 rcomb_sp, rule1 rrec_sp], lookJ [(0, 1000009, ⟨[(2, .dat .bool)], [], [20, 21, 22, 23, 24, 25], [], []⟩), (0, 9, ⟨[(12, .dat (.int .i64))], [], [13, 14, 15, 4, 16, 17, 18, 19], [], []⟩)]⟩
def rval_W (a : api_Region) (post : Bool → Prop) : Prop := (↑a.1.length : Int) ≤ (9223372036854775807 : Int) → IFB (decide ((120 : Int) < (↑a.1.length : Int))) (post false) ((↑a.1.length : Int) ≤ (9223372036854775807 : Int) → LOOP [Ty.int IntKind.i64] (fun (rec1 : Int → Prop) (z2 : Int) ↦ IFB (decide (z2 < (↑a.1.length : Int))) (((0 : Int) ≤ z2 ∧ z2 < (↑a.1.length : Int)) ∧ IFB (!(decide ((0 : Int) ≤ (ix a.1 z2).1) && decide ((ix a.1 z2).1 < (ix a.1 z2).3) && decide ((ix a.1 z2).3 ≤ (16384 : Int)) && decide ((0 : Int) ≤ (ix a.1 z2).2) && decide ((ix a.1 z2).2 < (ix a.1 z2).4) && decide ((ix a.1 z2).4 ≤ (16384 : Int)))) (post false) (rec1 (IntKind.i64.wrap (z2 + (1 : Int))))) (JOIN [Ty.bool] (fun (y3 : Bool) ↦ post y3) fun (J4 : Bool → Prop) ↦ (a.1.length ≤ (1000 : Nat) ∧ (0 : Nat) ≤ (1000 : Nat)) ∧ (canonF fun (x y : Int) ↦ howS (1 : Int) (cov a.1 x y) (cov [] x y)).length ≤ (1000000000 : Nat) ∧ ∀ (v5 : Bool), (v5 = true ↔ (canonF fun (x y : Int) ↦ howS (1 : Int) (cov a.1 x y) (cov [] x y)) = a.1) → J4 v5)) ((0 : Int), PUnit.unit))
theorem rval_w (a : api_Region) (post : dens (shT rval_sp.rs []) → Prop) : rval_W a (fun y0 => post (y0, ())) = walkG (callR Tryz.prog rval_C (drawR Tryz.prog tau) 8 0) 93 false [tv (.st .api_Region) a] rval_sp.rs post := by kernel_rfl
theorem rval_of (h : ∀ (a : api_Region) (post : Bool → Prop), rval_P a post → rval_W a post) : SpecOK Tryz.prog rval_sp := SpecOK.of_rules (C := rval_C) (dr := drawR Tryz.prog tau) (n := 8) (fk := 0) (.cons (rule1_ok rcomb_ok) (.cons (rule1_ok rrec_ok) .nil)) (drawR_ok tau) fun x post hp => HoldW.of (rval_w x.1 post) (h x.1 (fun y0 => post (y0, ())) hp)
theorem rval_ok : SpecOK Tryz.prog rval_sp := rval_of fun a post hp => by
  obtain ⟨l⟩ := a
  unfold rval_P at hp
  unfold rval_W
  dsimp only at hp ⊢
  intro _
  refine IFB.mk (fun hb => hp _ ?_) (fun hb _ => ?_)
  · have hb := of_decide_eq_true hb
    constructor
    · intro h; cases h
    · intro h; have := h.1; omega
  · have hb := of_decide_eq_false hb
    refine loopCmp (n := l.length) (by omega) (p := fun j => proper (ix l (j : Int))) (fun rec k hk hpre hrec => ⟨by omega, IFB.mk (fun hb => hp _ ?_) (fun hb => hrec ?_)⟩) fun hall => ?_
    · constructor
      · intro h; cases h
      · intro h
        have := properB_iff.2 (h.2.1 _ (ix_mem (l := l) (i := (k : Int)) (by omega) (by omega)))
        unfold properB at this
        rw [this] at hb
        cases hb
    · exact properB_iff.1 (by unfold properB; simpa using hb)
    · have hall := all_ix hall
      refine JOIN.opq fun (J : Bool → Prop) hJ => ?_
      have hf : (canonF fun (x y : Int) => howS 1 (cov l x y) (cov [] x y)) = canonF (cov l) := congrArg canonF (comb_or_nil l)
      rw [hf]
      have := cov_len hall
      refine ⟨⟨by omega, by omega⟩, by omega, fun q hq => ?_⟩
      rw [hJ]
      refine hp q (hq.trans ⟨fun h => ⟨by omega, hall, (canon_iff l).1 h⟩, fun h => (canon_iff l).2 h.2.2⟩)

def rof_P (l : List (api_Rect)) (post : List (api_Rect) → Int → Prop) : Prop := post (ofS l).1 (ofS l).2
def rof_sp : Spec := ⟨36, false, true, [.sl (.st .api_Rect)], .tup [.agg [.dat (.sl (.st .api_Rect))], .dat (.int .i64)], fun x post => rof_P (x.1 : List (api_Rect)) (fun y0 y1 => post (y0, y1, ()))⟩
def rof_C : CtxR := ⟨tau, [rule1 rcomb_sp], lookJ [(9192, 0, ⟨[(0, .tup [.agg [.dat (.sl (.st .api_Rect))], .dat (.int .i64)])], [], [], [], []⟩), (0, 9, ⟨[(12, .dat (.int .i64))], [], [13, 14, 15, 5, 16, 17, 18, 20], [], []⟩)]⟩
def rof_W (l : List (api_Rect)) (post : List (api_Rect) → Int → Prop) : Prop := (↑l.length : Int) ≤ (9223372036854775807 : Int) → IFB (decide ((120 : Int) < (↑l.length : Int))) (post [] (1 : Int)) ((↑l.length : Int) ≤ (9223372036854775807 : Int) → LOOP [Ty.int IntKind.i64] (fun (rec1 : Int → Prop) (z2 : Int) ↦ IFB (decide (z2 < (↑l.length : Int))) (((0 : Int) ≤ z2 ∧ z2 < (↑l.length : Int)) ∧ IFB (!(decide ((0 : Int) ≤ (ix l z2).1) && decide ((ix l z2).1 < (ix l z2).3) && decide ((ix l z2).3 ≤ (16384 : Int)) && decide ((0 : Int) ≤ (ix l z2).2) && decide ((ix l z2).2 < (ix l z2).4) && decide ((ix l z2).4 ≤ (16384 : Int)))) (post [] (2 : Int)) (rec1 (IntKind.i64.wrap (z2 + (1 : Int))))) ((l.length ≤ (1000 : Nat) ∧ (0 : Nat) ≤ (1000 : Nat)) ∧ JOIN [(Ty.st Sn.api_Rect).sl, Ty.int IntKind.i64] (fun (y3 : List api_Rect) (y4 : Int) ↦ post y3 y4) fun (J5 : List api_Rect → Int → Prop) ↦ (↑(canonF fun (x y : Int) ↦ howS (1 : Int) (cov l x y) (cov [] x y)).length : Int) ≤ (9223372036854775807 : Int) → IFB (decide ((120 : Int) < (↑(canonF fun (x y : Int) ↦ howS (1 : Int) (cov l x y) (cov [] x y)).length : Int))) (J5 [] (1 : Int)) (J5 (canonF fun (x y : Int) ↦ howS (1 : Int) (cov l x y) (cov [] x y)) (0 : Int)))) ((0 : Int), PUnit.unit))
theorem rof_w (l : List (api_Rect)) (post : dens (shT rof_sp.rs []) → Prop) : rof_W l (fun y0 y1 => post (y0, y1, ())) = walkG (callR Tryz.prog rof_C (drawR Tryz.prog tau) 8 0) 36 false [tv (.sl (.st .api_Rect)) l] rof_sp.rs post := by kernel_rfl
theorem rof_of (h : ∀ (l : List (api_Rect)) (post : List (api_Rect) → Int → Prop), rof_P l post → rof_W l post) : SpecOK Tryz.prog rof_sp := SpecOK.of_rules (C := rof_C) (dr := drawR Tryz.prog tau) (n := 8) (fk := 0) (.cons (rule1_ok rcomb_ok) .nil) (drawR_ok tau) fun x post hp => HoldW.of (rof_w x.1 post) (h x.1 (fun y0 y1 => post (y0, y1, ())) hp)
theorem rof_main (l : List api_Rect) (post : List api_Rect → Int → Prop) (hp : rof_P l post) : rof_W l post := by
  unfold rof_P at hp
  unfold rof_W
  intro _
  refine IFB.mk (fun hb => ?_) (fun hb _ => ?_)
  · have hb := of_decide_eq_true hb
    unfold ofS at hp
    rw [if_pos (by omega)] at hp
    exact hp
  · have hb := of_decide_eq_false hb
    unfold ofS at hp
    rw [if_neg (by omega)] at hp
    refine loopCmp (n := l.length) (by omega) (p := fun j => proper (ix l (j : Int))) (fun rec k hk hpre hrec => ⟨by omega, IFB.mk (fun hb => ?_) (fun hb => hrec ?_)⟩) fun hall => ?_
    · rw [if_pos] at hp
      · exact hp
      · intro h
        have := properB_iff.2 (h _ (ix_mem (l := l) (i := (k : Int)) (by omega) (by omega)))
        unfold properB at this
        rw [this] at hb
        cases hb
    · exact properB_iff.1 (by unfold properB; simpa using hb)
    · have hall := all_ix hall
      rw [if_neg (fun h => h hall)] at hp
      have hf : (canonF fun (x y : Int) => howS 1 (cov l x y) (cov [] x y)) = canonF (cov l) := congrArg canonF (comb_or_nil l)
      rw [hf]
      have hlen := cov_len hall
      refine ⟨⟨by omega, by omega⟩, JOIN.opq fun (J : List api_Rect → Int → Prop) hJ _ => IFB.mk (fun hb => ?_) (fun hb => ?_)⟩
      · have hb := of_decide_eq_true hb
        rw [if_pos (by omega)] at hp
        rw [hJ]; exact hp
      · have hb := of_decide_eq_false hb
        rw [if_neg (by omega)] at hp
        rw [hJ]; exact hp
theorem rof_ok : SpecOK Tryz.prog rof_sp := rof_of rof_main

def rboth_P (a : api_Region) (b : api_Region) (post : List (api_Rect) → Int → Prop) : Prop := post (bothS a.1 b.1).1 (bothS a.1 b.1).2
def rboth_sp : Spec := ⟨31, false, true, [.st .api_Region, .st .api_Region], .tup [.agg [.dat (.sl (.st .api_Rect))], .dat (.int .i64)], fun x post => rboth_P (x.1 : api_Region) (x.2.1 : api_Region) (fun y0 y1 => post (y0, y1, ()))⟩
def rboth_C : CtxR := ⟨tau, [rule1 rcomb_sp, rule1 rval_sp], lookJ [(1024, 0, ⟨[(0, .tup [.agg [.dat (.sl (.st .api_Rect))], .dat (.int .i64)])], [], [], [], []⟩), (1067462654, 0, ⟨[(0, .tup [.agg [.dat (.sl (.st .api_Rect))], .dat (.int .i64)])], [], [], [], []⟩)]⟩
def rboth_W (a : api_Region) (b : api_Region) (post : List (api_Rect) → Int → Prop) : Prop := JOIN [(Ty.st Sn.api_Rect).sl, Ty.int IntKind.i64] (fun (y1 : List api_Rect) (y2 : Int) ↦ post y1 y2) fun (J3 : List api_Rect → Int → Prop) ↦ ∀ (v4 : Bool), (v4 = true ↔ validP a.1) → JOIN [Ty.bool] (fun (y5 : Bool) ↦ IFB (!v4 || !y5) (J3 [] (7 : Int)) ((a.1.length ≤ (1000 : Nat) ∧ b.1.length ≤ (1000 : Nat)) ∧ JOIN [(Ty.st Sn.api_Rect).sl, Ty.int IntKind.i64] (fun (y6 : List api_Rect) (y7 : Int) ↦ J3 y6 y7) fun (J8 : List api_Rect → Int → Prop) ↦ (↑(canonF fun (x y : Int) ↦ howS (2 : Int) (cov a.1 x y) (cov b.1 x y)).length : Int) ≤ (9223372036854775807 : Int) → IFB (decide ((120 : Int) < (↑(canonF fun (x y : Int) ↦ howS (2 : Int) (cov a.1 x y) (cov b.1 x y)).length : Int))) (J8 [] (1 : Int)) (J8 (canonF fun (x y : Int) ↦ howS (2 : Int) (cov a.1 x y) (cov b.1 x y)) (0 : Int)))) fun (J9 : Bool → Prop) ↦ IFB (gx false !v4) (∀ (v10 : Bool), (v10 = true ↔ validP b.1) → J9 v10) (J9 false)
theorem rboth_w (a : api_Region) (b : api_Region) (post : dens (shT rboth_sp.rs []) → Prop) : rboth_W a b (fun y0 y1 => post (y0, y1, ())) = walkG (callR Tryz.prog rboth_C (drawR Tryz.prog tau) 8 0) 31 false [tv (.st .api_Region) a, tv (.st .api_Region) b] rboth_sp.rs post := by kernel_rfl
theorem rboth_of (h : ∀ (a : api_Region) (b : api_Region) (post : List (api_Rect) → Int → Prop), rboth_P a b post → rboth_W a b post) : SpecOK Tryz.prog rboth_sp := SpecOK.of_rules (C := rboth_C) (dr := drawR Tryz.prog tau) (n := 8) (fk := 0) (.cons (rule1_ok rcomb_ok) (.cons (rule1_ok rval_ok) .nil)) (drawR_ok tau) fun x post hp => HoldW.of (rboth_w x.1 x.2.1 post) (h x.1 x.2.1 (fun y0 y1 => post (y0, y1, ())) hp)
theorem rboth_ok : SpecOK Tryz.prog rboth_sp := rboth_of fun a b post hp => by
  obtain ⟨l⟩ := a
  obtain ⟨m⟩ := b
  unfold rboth_P at hp
  unfold rboth_W
  dsimp only at hp ⊢
  refine JOIN.opq fun (J3 : List api_Rect → Int → Prop) hJ3 => ?_
  have hp : J3 (bothS l m).1 (bothS l m).2 := by rw [hJ3]; exact hp
  intro v1 h1
  refine JOIN.opq fun (J : Bool → Prop) hJ => ?_
  have main : ∀ y2 : Bool, ((v1 && y2) = true ↔ validP l ∧ validP m) → J y2 := by
    intro y2 h2
    rw [hJ]
    dsimp only
    refine IFB.mk (fun hb => ?_) (fun hb => ?_)
    · have hv : ¬ (validP l ∧ validP m) := by
        intro h
        have := h2.2 h
        rw [Bool.and_eq_true] at this
        rw [this.1, this.2] at hb
        cases hb
      unfold bothS at hp
      rw [if_pos hv] at hp
      exact hp
    · have hv : validP l ∧ validP m := by
        refine h2.1 ?_
        revert hb
        cases v1 <;> cases y2 <;> simp
      unfold bothS at hp
      rw [if_neg (fun h => h hv)] at hp
      have := hv.1.1
      have := hv.2.1
      refine ⟨⟨by omega, by omega⟩, JOIN.opq fun (J8 : List api_Rect → Int → Prop) hJ8 _ => IFB.mk (fun hb => ?_) (fun hb => ?_)⟩
      · have hb := of_decide_eq_true hb
        rw [if_pos (by show 120 < (canonF fun (x y : Int) => howS 2 (cov l x y) (cov m x y)).length; omega)] at hp
        rw [hJ8]; exact hp
      · have hb := of_decide_eq_false hb
        rw [if_neg (by show ¬ 120 < (canonF fun (x y : Int) => howS 2 (cov l x y) (cov m x y)).length; omega)] at hp
        rw [hJ8]; exact hp
  refine IFB.mk (fun hb v6 h6 => main v6 ?_) (fun hb => main false ?_)
  · have hb : (!!v1) = true := hb
    rw [Bool.and_eq_true, h1, h6]
  · have hb : (!!v1) = false := hb
    have hb : v1 = false := by simpa using hb
    rw [hb] at h1 ⊢
    constructor
    · intro h; cases h
    · intro h; exact (h1.2 h.1)

def rsame_P (a : api_Region) (b : api_Region) (post : Bool → Prop) : Prop := (a.1.length ≤ 1000000000) ∧ ∀ q : Bool, (q = true ↔ a = b) → post q
def rsame_sp : Spec := ⟨34, false, false, [.st .api_Region, .st .api_Region], .dat (.bool), fun x post => rsame_P (x.1 : api_Region) (x.2.1 : api_Region) (fun y0 => post (y0, ()))⟩
def rsame_C : CtxR := ⟨tau, [rule1 rrec_sp], lookJ []⟩
def rsame_W (a : api_Region) (b : api_Region) (post : Bool → Prop) : Prop := a.1.length ≤ (1000000000 : Nat) ∧ ∀ (v1 : Bool), (v1 = true ↔ a.1 = b.1) → post v1
theorem rsame_w (a : api_Region) (b : api_Region) (post : dens (shT rsame_sp.rs []) → Prop) : rsame_W a b (fun y0 => post (y0, ())) = walkG (callR Tryz.prog rsame_C (drawR Tryz.prog tau) 8 0) 34 false [tv (.st .api_Region) a, tv (.st .api_Region) b] rsame_sp.rs post := by kernel_rfl
theorem rsame_of (h : ∀ (a : api_Region) (b : api_Region) (post : Bool → Prop), rsame_P a b post → rsame_W a b post) : SpecOK Tryz.prog rsame_sp := SpecOK.of_rules (C := rsame_C) (dr := drawR Tryz.prog tau) (n := 8) (fk := 0) (.cons (rule1_ok rrec_ok) .nil) (drawR_ok tau) fun x post hp => HoldW.of (rsame_w x.1 x.2.1 post) (h x.1 x.2.1 (fun y0 => post (y0, ())) hp)
theorem rsame_ok : SpecOK Tryz.prog rsame_sp := rsame_of fun a b post hp => by
  obtain ⟨hl, hp⟩ := hp
  refine ⟨hl, fun v h => hp v (h.trans ⟨fun h => ?_, fun h => h ▸ rfl⟩)⟩
  cases a
  cases b
  dsimp only at h
  rw [h]

end RE
end Go.Proofs.YtpeggkeenboacaaGreat
namespace Go.Proofs
open Go.Shelf
def Tryz.lays189_ren : Go.Shelf.Ren := ⟨fun | 189 => 197 | 125 => 172 | 257 => 226 | 128 => 213 | 129 => 214 | 294 => 240 | 295 => 241 | 296 => 242 | 297 => 243 | 298 => 244 | 299 => 245 | 216 => 246 | 300 => 247 | 301 => 248 | 328 => 261 | 329 => 233 | 330 => 234 | 331 => 262 | 332 => 263 | 215 => 167 | 343 => 267 | n => n, fun | 28 => 22 | 3 => 3 | 46 => 214 | 0 => 0 | 51 => 250 | 53 => 252 | 4 => 4 | 183 => 243 | 182 => 242 | 131 => 247 | 5 => 5 | 9 => 9 | 218 => 265 | 222 => 269 | 228 => 285 | 229 => 119 | n => n, fun | n => n⟩
theorem Tryz.lays189 : Go.Proofs.Lays.n189 Tryz.prog Tryz.lays189_ren := {
  mixed := by kernel_rfl
  f125 := Tryz.func172.trans (congrArg some (by kernel_rfl))
  f128 := Tryz.func213.trans (congrArg some (by kernel_rfl))
  f129 := Tryz.func214.trans (congrArg some (by kernel_rfl))
  f189 := Tryz.func197.trans (congrArg some (by kernel_rfl))
  f215 := Tryz.func167.trans (congrArg some (by kernel_rfl))
  f216 := Tryz.func246.trans (congrArg some (by kernel_rfl))
  f257 := Tryz.func226.trans (congrArg some (by kernel_rfl))
  f294 := Tryz.func240.trans (congrArg some (by kernel_rfl))
  f295 := Tryz.func241.trans (congrArg some (by kernel_rfl))
  f296 := Tryz.func242.trans (congrArg some (by kernel_rfl))
  f297 := Tryz.func243.trans (congrArg some (by kernel_rfl))
  f298 := Tryz.func244.trans (congrArg some (by kernel_rfl))
  f299 := Tryz.func245.trans (congrArg some (by kernel_rfl))
  f300 := Tryz.func247.trans (congrArg some (by kernel_rfl))
  f301 := Tryz.func248.trans (congrArg some (by kernel_rfl))
  f328 := Tryz.func261.trans (congrArg some (by kernel_rfl))
  f329 := Tryz.func233.trans (congrArg some (by kernel_rfl))
  f330 := Tryz.func234.trans (congrArg some (by kernel_rfl))
  f331 := Tryz.func262.trans (congrArg some (by kernel_rfl))
  f332 := Tryz.func263.trans (congrArg some (by kernel_rfl))
  f343 := Tryz.func267.trans (congrArg some (by kernel_rfl))
  t0 := Tryz.underlying0
  a0 := Tryz.isAgg0
  z0 := Tryz.sizeOf0
  v0 := Tryz.zeroValue0
  t3 := Tryz.underlying3
  a3 := Tryz.isAgg3
  z3 := Tryz.sizeOf3
  v3 := Tryz.zeroValue3
  t4 := Tryz.underlying4
  a4 := Tryz.isAgg4
  z4 := Tryz.sizeOf4
  v4 := Tryz.zeroValue4
  t5 := Tryz.underlying5
  a5 := Tryz.isAgg5
  z5 := Tryz.sizeOf5
  v5 := Tryz.zeroValue5
  t9 := Tryz.underlying9
  a9 := Tryz.isAgg9
  z9 := Tryz.sizeOf9
  v9 := Tryz.zeroValue9
  t28 := Tryz.underlying22
  a28 := Tryz.isAgg22
  z28 := Tryz.sizeOf22
  v28 := Tryz.zeroValue22
  t46 := Tryz.underlying214
  a46 := Tryz.isAgg214
  z46 := Tryz.sizeOf214
  v46 := Tryz.zeroValue214
  t51 := Tryz.underlying250
  a51 := Tryz.isAgg250
  z51 := Tryz.sizeOf250
  v51 := Tryz.zeroValue250
  t53 := Tryz.underlying252
  a53 := Tryz.isAgg252
  z53 := Tryz.sizeOf252
  v53 := Tryz.zeroValue252
  t131 := Tryz.underlying247
  a131 := Tryz.isAgg247
  z131 := Tryz.sizeOf247
  v131 := Tryz.zeroValue247
  t182 := Tryz.underlying242
  a182 := Tryz.isAgg242
  z182 := Tryz.sizeOf242
  v182 := Tryz.zeroValue242
  t183 := Tryz.underlying243
  a183 := Tryz.isAgg243
  z183 := Tryz.sizeOf243
  v183 := Tryz.zeroValue243
  t218 := Tryz.underlying265
  a218 := Tryz.isAgg265
  z218 := Tryz.sizeOf265
  v218 := Tryz.zeroValue265
  t222 := Tryz.underlying269
  a222 := Tryz.isAgg269
  z222 := Tryz.sizeOf269
  v222 := Tryz.zeroValue269
  t228 := Tryz.underlying285
  a228 := Tryz.isAgg285
  z228 := Tryz.sizeOf285
  v228 := Tryz.zeroValue285
  t229 := Tryz.underlying119
  a229 := Tryz.isAgg119
  z229 := Tryz.sizeOf119
  v229 := Tryz.zeroValue119 }
open Go.Sort Go.RowKit in
theorem Tryz.slices_Sort_int (blk off cap : Nat) (zs : List Int) (w : World) (hH : Holds (Value.int .i64) w blk off zs.toArray) (hblk : blk < w.heap.size) (hsz : zs.length < 4611686018427387904) :
    Calls Tryz.prog 197 #[.slice (some ⟨blk, off, none⟩) zs.length cap] w fun e w' =>
      e = .returned (.tuple #[]) ∧ ∃ n os, w' = grow (putRow (Value.int .i64) (Sort.ahead w n) blk off (zs.mergeSort fun x y => decide (x ≤ y)).toArray) os := Any.slices_Sort_int Tryz.lays189 blk off cap zs w hH hblk hsz
def Tryz.laysNm220_ren : Go.Shelf.Ren := ⟨fun | 20 => 198 | n => n, fun | 22 => 22 | 3 => 3 | 4 => 4 | 0 => 0 | n => n, fun | n => n⟩
theorem Tryz.laysNm220 : Go.Proofs.Lays2.n20 Tryz.prog Tryz.laysNm220_ren := {
  mixed := by kernel_rfl
  f20 := Tryz.func198.trans (congrArg some (by kernel_rfl))
  t0 := Tryz.underlying0
  a0 := Tryz.isAgg0
  z0 := Tryz.sizeOf0
  v0 := Tryz.zeroValue0
  t3 := Tryz.underlying3
  a3 := Tryz.isAgg3
  z3 := Tryz.sizeOf3
  v3 := Tryz.zeroValue3
  t4 := Tryz.underlying4
  a4 := Tryz.isAgg4
  z4 := Tryz.sizeOf4
  v4 := Tryz.zeroValue4
  t22 := Tryz.underlying22
  a22 := Tryz.isAgg22
  z22 := Tryz.sizeOf22
  v22 := Tryz.zeroValue22
  i3 := by kernel_rfl }
open Go.RowKit Go.Lib Go.Sort in
/-- slices.Compact at []int: "Compact replaces consecutive runs of equal elements with a single copy. This is like the uniq command found on Unix. Compact modifies the contents of the slice s and returns the modified slice, which may have a smaller length. Compact zeroes the elements between the new length and the original length. The result preserves the nilness of s.": IT RETURNS THE SLICE CUT TO 'Lib.compact zs'; ITS CELLS HOLD 'Lib.compact zs', THEN ZERO VALUES up to the old length; all else is as it was, but for the count of draws. IN THE WORDS OF slices.Sort's CONTRACT ('Holds', 'putRow'): so the everyday 'slices.Sort(xs); xs = slices.Compact(xs)' goes from the one contract to the other. It asks 'zs.length ≤ cap' (every slice's: the reslicing 's[:k]' looks at it). Length 0, nil: '.._empty'. (LAID: no walk: one application.) -/
theorem Tryz.slices_Compact_int (blk off cap : Nat) (zs : List Int) (w : World) (hH : Holds (Value.int .i64) w blk off zs.toArray) (hsz : zs.length ≤ 9223372036854775807) (hcap : zs.length ≤ cap) :
    Calls Tryz.prog 198 #[.slice (some ⟨blk, off, none⟩) zs.length cap] w fun e w' => e = .returned (.slice (some ⟨blk, off, none⟩) (Lib.compact zs).length cap) ∧ ∃ q, w' = putRow (Value.int .i64) (Sort.ahead w q) blk off (Lib.compact zs ++ List.replicate (zs.length - (Lib.compact zs).length) 0).toArray := Any.slices_Compact_int Tryz.laysNm220 blk off cap zs w hH hsz hcap
open Go.RowKit Go.Lib Go.Sort in
/-- The same at a slice of length 0, a nil one too: it comes back as it is. (LAID: no walk: one application.) -/
theorem Tryz.slices_Compact_int_empty (a : Option Addr) (cap : Nat) (w : World) :
    Calls Tryz.prog 198 #[.slice a 0 cap] w fun e w' => e = .returned (.slice a 0 cap) ∧ w' = w := Any.slices_Compact_int_empty Tryz.laysNm220 a cap w
open Go.RowKit Go.Sort in
/-- .. and plain. (LAID: no walk: one application.) -/
theorem Tryz.slices_Sort_int_none (p : Option Addr) (cap : Nat) (w : World) :
    Calls Tryz.prog 197 #[.slice p 0 cap] w fun e w' => e = .returned (.tuple #[]) ∧ w' = w := Any.slices_Sort_int_none Tryz.lays189 p cap w
end Go.Proofs
set_option linter.unusedVariables false
set_option maxRecDepth 100000
namespace Go.Proofs.YtpeggkeenboacaaGreat
open Go.RowKit Go.Sort
namespace RE
open PL
namespace PL
def sortI (l : List Int) : List Int := l.mergeSort fun x y => decide (x ≤ y)
end PL
def ssort_sp : Spec3 := ⟨197, .int .i64, none, fun (l : List Int) post => l.length ≤ 1000000 ∧ post (sortI l)⟩
theorem row_ints {w : World} {S : Cells} {cur : Array Value} {l : List Int} (h : ∀ (i : Nat) (x : Int), l[i]? = some x → ∀ (j : Nat) (c : D), (enc (.int .i64) x)[j]? = some c → ∃ u : Value, cur[i * size (.int .i64) + j]? = some u ∧ u.oneCell' = true ∧ Rd S w c u) :
    cur.toList.take l.length = l.map (Value.int .i64) := by
  apply List.ext_getElem?
  intro i
  by_cases hi : i < l.length
  · rw [List.getElem?_take_of_lt hi, Array.getElem?_toList, List.getElem?_map]
    obtain ⟨u, h1, _, h3⟩ := h i l[i] (List.getElem?_eq_getElem hi) 0 _ rfl
    have h1 : cur[i * 1 + 0]? = some u := h1
    rw [Nat.mul_one, Nat.add_zero] at h1
    rw [h1, List.getElem?_eq_getElem hi]
    have h3 : Rd S w (.v (.int .i64 l[i])) u := h3
    rw [rd_v h3]; rfl
  · rw [List.getElem?_take_eq_none (by omega), List.getElem?_eq_none (by simp; omega)]
theorem ssort_ok : Spec3OK Tryz.prog ssort_sp := by
  intro (l : List Int) post hp w S v F e hrow hS hF
  obtain ⟨hlen, hp⟩ := hp
  obtain ⟨h0, ⟨rfl, ⟨ad, rfl⟩, hn⟩ | ⟨g, cap, cur, rfl, hFg, hg, hnl, hcm, hcs, hrr⟩⟩ := hrow
  · refine (Tryz.slices_Sort_int_none ad 0 w).mono ?_
    rintro e' w' ⟨rfl, rfl⟩
    have e : sortI [] = [] := List.mergeSort_nil
    have hp : post (sortI []) := hp
    rw [e] at hp
    exact ⟨_, [], rfl, hp, ⟨h0, .inl ⟨rfl, ⟨ad, rfl⟩, hn⟩⟩, rfl, rfl, rfl, Nat.le_refl _, fun _ _ _ => rfl⟩
  · have hgl := (Array.getElem?_eq_some_iff.1 hg).1
    have hnl : List.length (l : List Int) ≤ cap := hnl
    have hl2 : (sortI l).length = List.length (l : List Int) := List.length_mergeSort ..
    refine (Tryz.slices_Sort_int g 0 cap l w (holds_of_blockI hg (row_ints hrr)) hgl (by have hlen : List.length (l : List Int) ≤ 1000000 := hlen; omega)).mono ?_
    rintro e' w' ⟨rfl, n, os, rfl⟩
    have hG := grownBy_sortedI (w := w) (n := n) (g := g) (os := os) (sortI l).toArray
    refine ⟨_, sortI l, rfl, hp, ⟨h0, .inr ⟨g, cap, _, congrArg (fun n => Value.slice (some ⟨g, 0, none⟩) n cap) hl2.symm, hFg, heap_sortedI _ hg, hl2 ▸ hnl, hcm, by simp [putCells, hcs], fun i (x : Int) hx j c hc => ?_⟩⟩, hG.os, hG.tape, hG.output, hG.size, fun b hb hnF => hG.block b hb fun e => hnF ((hFg b).2 (Option.some.inj e))⟩
    have hi : i < (sortI l).length := (List.getElem?_eq_some_iff.1 hx).1
    cases j with
    | succ j => cases (show ([] : List D)[j]? = some c from hc)
    | zero =>
      have hc : [D.v (.int .i64 x)][0]? = some c := hc
      simp at hc
      subst hc
      refine ⟨.int .i64 x, ?_, rfl, .v _⟩
      show (putCells (Value.int .i64) 0 (sortI l).toArray cur)[i * 1 + 0]? = _
      rw [Nat.mul_one, Nat.add_zero]
      have hcs : cur.size = cap * 1 := hcs
      have h1 : i < cur.size := by omega
      simp only [putCells, Array.getElem?_mapIdx, Array.getElem?_eq_getElem h1, Option.map_some, Nat.zero_le, true_and, Nat.zero_add, List.size_toArray, if_pos hi, Nat.sub_zero]
      have : (sortI l).toArray[i]! = x := by
        have h2 : (sortI l)[i] = x := (List.getElem?_eq_some_iff.1 hx).2
        rw [← h2]
        simp [hi]
      rw [this]
end RE
end Go.Proofs.YtpeggkeenboacaaGreat
set_option linter.unusedVariables false
set_option maxRecDepth 100000
namespace Go.Proofs.YtpeggkeenboacaaGreat
open Go.RowKit Go.Sort
namespace RE
open PL
namespace PL
def compI (l : List Int) : List Int := Lib.compact l
noncomputable def uniqI (l : List Int) : List Int := compI (sortI l)
end PL
theorem compact_up {d : Array Int} (h : ∀ j k, j ≤ k → k < d.size → d[j]! ≤ d[k]!) : ∀ m, m ≤ d.size → (Lib.compactUpTo d m).Pairwise (· < ·) ∧ ∀ x, x ∈ Lib.compactUpTo d m ↔ ∃ j, j < m ∧ d[j]! = x
  | 0, _ => ⟨by simp [Lib.compactUpTo], fun x => by simp [Lib.compactUpTo]⟩
  | m + 1, hm => by
    obtain ⟨h1, h2⟩ := compact_up h m (by omega)
    rw [Lib.compactUpTo_succ]
    by_cases hk : Lib.keeps d m = true
    · rw [if_pos hk]
      constructor
      · rw [List.pairwise_append]
        refine ⟨h1, List.pairwise_singleton _ _, fun x hx y hy => ?_⟩
        rw [List.mem_singleton] at hy
        subst hy
        obtain ⟨j, hj, rfl⟩ := (h2 x).1 hx
        have hne : d[m]! ≠ d[m - 1]! := by
          simp only [Lib.keeps, decide_eq_true_eq] at hk
          rcases hk with hk | hk
          · omega
          · exact hk
        have a1 := h j (m - 1) (by omega) (by omega)
        have a2 := h (m - 1) m (by omega) (by omega)
        omega
      · intro x
        rw [List.mem_append, h2, List.mem_singleton]
        constructor
        · rintro (⟨j, hj, e⟩ | e)
          · exact ⟨j, by omega, e⟩
          · exact ⟨m, by omega, e.symm⟩
        · rintro ⟨j, hj, e⟩
          by_cases he : j = m
          · subst he; exact .inr e.symm
          · exact .inl ⟨j, by omega, e⟩
    · rw [if_neg hk, List.append_nil]
      refine ⟨h1, fun x => ?_⟩
      rw [h2]
      have hk : ¬ (m = 0 ∨ d[m]! ≠ d[m - 1]!) := by simpa [Lib.keeps] using hk
      constructor
      · rintro ⟨j, hj, e⟩; exact ⟨j, by omega, e⟩
      · rintro ⟨j, hj, e⟩
        by_cases he : j = m
        · subst he
          refine ⟨j - 1, by omega, ?_⟩
          rw [← e]
          exact (Classical.not_not.1 fun h => hk (.inr h)).symm
        · exact ⟨j, by omega, e⟩
theorem uniqI_ok (l : List Int) : (uniqI l).Pairwise (· < ·) ∧ ∀ x, x ∈ uniqI l ↔ x ∈ l := by
  have hs : (sortI l).Pairwise (fun x y => decide (x ≤ y) = true) := List.pairwise_mergeSort (fun a b c => by simp; omega) (fun a b => by simp; omega) l
  have hmono : ∀ j k, j ≤ k → k < (sortI l).toArray.size → (sortI l).toArray[j]! ≤ (sortI l).toArray[k]! := by
    intro j k hjk hk
    have hk : k < (sortI l).length := by simpa using hk
    rw [List.pairwise_iff_getElem] at hs
    by_cases e : j = k
    · subst e; exact Int.le_refl _
    · have := hs j k (by omega) hk (by omega)
      simp only [decide_eq_true_eq] at this
      simpa [hk, (by omega : j < (sortI l).length)] using this
  obtain ⟨h1, h2⟩ := compact_up hmono (sortI l).length (by simp)
  refine ⟨h1, fun x => ?_⟩
  rw [show uniqI l = Lib.compactUpTo (sortI l).toArray (sortI l).length from rfl, h2]
  have hm : x ∈ sortI l ↔ x ∈ l := List.mem_mergeSort
  rw [← hm]
  constructor
  · rintro ⟨j, hj, e⟩
    have : (sortI l)[j] = x := by simpa [hj] using e
    rw [← this]; exact List.getElem_mem hj
  · intro h
    obtain ⟨j, hj, rfl⟩ := List.getElem_of_mem h
    exact ⟨j, hj, by simp [hj]⟩
theorem uniqI_eq {l xs : List Int} (h1 : xs.Pairwise (· < ·)) (h2 : ∀ x, x ∈ xs ↔ x ∈ l) : uniqI l = xs := inc_uniq (uniqI_ok l).1 h1 fun x => by rw [(uniqI_ok l).2, h2]
theorem uniqI_len (l : List Int) : (uniqI l).length ≤ l.length := Nat.le_trans (Go.Lib.compact_length_le (α := Int) _) (by unfold sortI; simp)
/-- A function that takes over a row and gives back a row. -/
theorem Spec2OK.of_row {P : Program} {f : FuncId} {e : TypeId} {t : Ty} {pt : List (den t) → (List (den t) → Prop) → Prop}
    (h : ∀ l post, pt l post → ∀ w (S : Cells) (v : Value) (F : Nat → Prop), RowAt w S v F e t l → (∀ b o, S b o → b < w.heap.size) → (∀ b, F b → b < w.heap.size ∧ ∀ k, ¬ S b k) →
      Calls P f #[v] w fun e' w' => ∃ r l', e' = .returned r ∧ post l' ∧ RowAt w' S r F e t l' ∧ w'.os = w.os ∧ w'.tape = w.tape ∧ w'.output = w.output ∧ w.heap.size ≤ w'.heap.size ∧ ∀ b, b < w.heap.size → ¬ F b → w'.heap[b]? = w.heap[b]?) :
    Spec2OK P ⟨f, [.own e t], .own e t, fun x post => pt (x.1 : List (den t)) fun y => post (y, ())⟩ := by
  rintro ⟨(l : List (den t)), ⟨⟩⟩ post hp us w c hox hl hr
  match us, hl with
  | [u], _ =>
  have hu := srel_os (hr 0 (.os 0) u rfl rfl).1
  subst hu
  have hob : (mem2 [.own e t] ((l, ()) : dens (shTL [.own e t] []))).obs 0 = some (.row e t l) := rfl
  obtain ⟨_, _, hrow⟩ := hox.objs 0 _ hob
  have hfb := hox.fb 0 _ hob rfl
  refine (h l _ hp w c.S (c.H 0) (c.F 0) hrow hox.sb fun b hb => ⟨(hfb b hb).1, (hfb b hb).2.1⟩).mono ?_
  rintro e' w' ⟨rv, l', rfl, hp, hrow', g1, g2, g3, g4, g5⟩
  have hone : ∀ x y, put (fun _ => none) 1 (some (Ob.row e t l')) x = some y → x = 1 ∧ y = .row e t l' := fun x y hx => by
    by_cases e : x = 1
    · subst e
      rw [put_same] at hx
      injection hx with hx
      exact ⟨rfl, hx.symm⟩
    · rw [put_ne _ _ e] at hx; cases hx
  have hU : ∀ k, (mem2 [.own e t] ((l, ()) : dens (shTL [.own e t] []))).U k → k = 0 := fun k hk => by
    have : k < 1 := hk
    omega
  refine ⟨rv, (l', ()), ⟨c.S, put c.H 1 rv, put c.F 1 (c.F 0), c.T⟩, put (fun _ => none) 1 (some (.row e t l')), fun k => k < 2, rfl, hp, ⟨fun b o hb => Nat.lt_of_lt_of_le (hox.sb b o hb) g4, fun x y hx => ?_, fun x y hx ho b hb => ?_, fun i j x y hx ox hy oy hne b hb hb' => ?_, fun T hT => ?_, fun e => ?_, hox.tF⟩, ⟨g1, g2, g3, g4, fun _ h => h, fun _ h => .inl h, fun k hk => ?_, fun k hk => ?_, fun _ _ h => h, fun _ _ h => .inl h, fun b hb hf hT => g5 b hb fun hF => hf ⟨0, _, hob, rfl, hF⟩, fun b hb => ?_⟩, ?_, fun j r hj => ?_⟩
  · obtain ⟨rfl, rfl⟩ := hone x y hx
    refine ⟨by omega, trivial, ?_⟩
    show RowAt w' c.S (put c.H 1 rv 1) (put c.F 1 (c.F 0) 1) e t l'
    rw [put_same, put_same]
    exact hrow'
  · obtain ⟨rfl, rfl⟩ := hone x y hx
    have hb : put c.F 1 (c.F 0) 1 b := hb
    rw [put_same] at hb
    obtain ⟨u1, u2, u3⟩ := hfb b hb
    exact ⟨Nat.lt_of_lt_of_le u1 g4, u2, u3⟩
  · obtain ⟨rfl, rfl⟩ := hone i x hx
    obtain ⟨rfl, rfl⟩ := hone j y hy
    exact absurd rfl hne
  · obtain ⟨t1, t2⟩ := hox.nT T hT
    exact ⟨Nat.lt_of_lt_of_le t1 g4, t2⟩
  · cases e
  · have := hU k hk
    show k < 2
    omega
  · have := hU k hk
    subst this
    exact ⟨put_ne (k := 1) (i := 0) c.H rv (by omega), put_ne (k := 1) (i := 0) c.F (c.F 0) (by omega)⟩
  · obtain ⟨x, y, hx, ho, hb⟩ := hb
    obtain ⟨rfl, rfl⟩ := hone x y hx
    have hb : put c.F 1 (c.F 0) 1 b := hb
    rw [put_same] at hb
    exact .inl ⟨0, _, hob, rfl, hb⟩
  · show SRel ⟨c.S, put c.H 1 rv, put c.F 1 (c.F 0), c.T⟩ w' (.os 1) rv
    have := SRel.os (c := ⟨c.S, put c.H 1 rv, put c.F 1 (c.F 0), c.T⟩) (w := w') 1
    rwa [show (Cx.mk c.S (put c.H 1 rv) (put c.F 1 (c.F 0)) c.T).H 1 = rv from put_same c.H 1 rv] at this
  · match j, hj with
    | 0, hj =>
      have hj : some ((e, ⟨t, l'⟩) : Row) = some r := hj
      injection hj with hj
      subst hj
      exact put_same _ _ _
    | j + 1, hj => cases (show (none : Option Row) = some r from hj)
def scompact_sp : Spec2 := ⟨198, [.own 3 (.int .i64)], .own 3 (.int .i64), fun x post => (fun (l : List Int) (post : List Int → Prop) => l.length ≤ 1000000 ∧ post (compI l)) (x.1 : List Int) fun y => post (y, ())⟩
theorem scompact_row : ∀ (l : List Int) (post : List Int → Prop), (l.length ≤ 1000000 ∧ post (compI l)) → ∀ (w : World) (S : Cells) (v : Value) (F : Nat → Prop), RowAt w S v F 3 (.int .i64) l → (∀ b o, S b o → b < w.heap.size) → (∀ b, F b → b < w.heap.size ∧ ∀ k, ¬ S b k) →
    Calls Tryz.prog 198 #[v] w fun e' w' => ∃ (r : Value) (l' : List Int), e' = .returned r ∧ post l' ∧ RowAt w' S r F 3 (.int .i64) l' ∧ w'.os = w.os ∧ w'.tape = w.tape ∧ w'.output = w.output ∧ w.heap.size ≤ w'.heap.size ∧ ∀ b, b < w.heap.size → ¬ F b → w'.heap[b]? = w.heap[b]? := by
  intro l post ⟨hlen, hp⟩ w S v F hrow hS hF
  obtain ⟨h0, ⟨rfl, ⟨ad, rfl⟩, hn⟩ | ⟨g, cap, cur, rfl, hFg, hg, hnl, hcm, hcs, hrr⟩⟩ := hrow
  · refine (Tryz.slices_Compact_int_empty ad 0 w).mono ?_
    rintro e' w' ⟨rfl, rfl⟩
    have e : Lib.compact ([] : List Int) = [] := rfl
    have hp : post (Lib.compact ([] : List Int)) := hp
    rw [e] at hp
    exact ⟨_, [], rfl, hp, ⟨h0, .inl ⟨rfl, ⟨ad, rfl⟩, hn⟩⟩, rfl, rfl, rfl, Nat.le_refl _, fun _ _ _ => rfl⟩
  · have hnl : List.length (l : List Int) ≤ cap := hnl
    have hlen : List.length (l : List Int) ≤ 1000000 := hlen
    have hcl : (Lib.compact (l : List Int)).length ≤ List.length (l : List Int) := Go.Lib.compact_length_le (α := Int) l
    refine (Tryz.slices_Compact_int g 0 cap l w (holds_of_blockI hg (row_ints hrr)) (by omega) hnl).mono ?_
    rintro e' w' ⟨rfl, n, rfl⟩
    generalize hd : (Lib.compact (l : List Int) ++ List.replicate (List.length (l : List Int) - (Lib.compact (l : List Int)).length) 0).toArray = d
    have hG := grownBy_sortedI (w := w) (n := n) (g := g) (os := #[]) d
    have hH := heap_sortedI (n := n) (os := #[]) d hg
    rw [grow_empty] at hG hH
    refine ⟨_, Lib.compact (l : List Int), rfl, hp, ⟨h0, .inr ⟨g, cap, _, rfl, hFg, hH, Nat.le_trans hcl hnl, hcm, by simp [putCells, hcs], fun i (x : Int) hx j c hc => ?_⟩⟩, hG.os, hG.tape, hG.output, hG.size, fun b hb hnF => hG.block b hb fun e => hnF ((hFg b).2 (Option.some.inj e))⟩
    have hi : i < (Lib.compact (l : List Int)).length := (List.getElem?_eq_some_iff.1 hx).1
    cases j with
    | succ j => cases (show ([] : List D)[j]? = some c from hc)
    | zero =>
      have hc : [D.v (.int .i64 x)][0]? = some c := hc
      simp at hc
      subst hc
      refine ⟨.int .i64 x, ?_, rfl, .v _⟩
      show (putCells (Value.int .i64) 0 d cur)[i * 1 + 0]? = _
      rw [Nat.mul_one, Nat.add_zero]
      have hcs : cur.size = cap * 1 := hcs
      have h1 : i < cur.size := by omega
      have h2 : i < d.size := by rw [← hd]; simp; omega
      simp only [putCells, Array.getElem?_mapIdx, Array.getElem?_eq_getElem h1, Option.map_some, Nat.zero_le, true_and, Nat.zero_add, if_pos h2, Nat.sub_zero]
      have : d[i]! = x := by
        have h2 : (Lib.compact (l : List Int))[i] = x := (List.getElem?_eq_some_iff.1 hx).2
        rw [← h2, ← hd]
        simp [List.getElem?_append_left hi, List.getElem?_eq_getElem hi]
      rw [this]
theorem scompact_ok : Spec2OK Tryz.prog scompact_sp := Spec2OK.of_row (t := .int .i64) scompact_row
end RE
end Go.Proofs.YtpeggkeenboacaaGreat
namespace Go.Proofs
open Go.Shelf
def Tryz.sortSp_ren : Go.Shelf.Ren := ⟨fun | 6 => 201 | 15 => 172 | 14 => 230 | 28 => 213 | 29 => 214 | 20 => 250 | 21 => 251 | 22 => 252 | 23 => 253 | 24 => 254 | 25 => 255 | 26 => 256 | 27 => 257 | 46 => 264 | 47 => 233 | 48 => 234 | 49 => 265 | 50 => 266 | 57 => 268 | n => n, fun | 22 => 203 | 24 => 232 | 25 => 238 | 3 => 3 | 39 => 214 | 0 => 0 | 53 => 250 | 55 => 252 | 4 => 4 | 46 => 243 | 45 => 242 | 50 => 247 | 5 => 5 | 9 => 9 | 66 => 265 | 70 => 269 | 76 => 285 | 77 => 119 | n => n, fun | n => n⟩
theorem Tryz.sortSp : Go.Proofs.SlLaysF0.n6 Tryz.prog Tryz.sortSp_ren := {
  mixed := by kernel_rfl
  f6 := ⟨Tryz.f201.name, by decide, Tryz.func201.trans (congrArg some (by kernel_rfl))⟩
  f14 := ⟨Tryz.f230.name, by decide, Tryz.func230.trans (congrArg some (by kernel_rfl))⟩
  f15 := Tryz.func172.trans (congrArg some (by kernel_rfl))
  f20 := ⟨Tryz.f250.name, by decide, Tryz.func250.trans (congrArg some (by kernel_rfl))⟩
  f21 := ⟨Tryz.f251.name, by decide, Tryz.func251.trans (congrArg some (by kernel_rfl))⟩
  f22 := ⟨Tryz.f252.name, by decide, Tryz.func252.trans (congrArg some (by kernel_rfl))⟩
  f23 := ⟨Tryz.f253.name, by decide, Tryz.func253.trans (congrArg some (by kernel_rfl))⟩
  f24 := ⟨Tryz.f254.name, by decide, Tryz.func254.trans (congrArg some (by kernel_rfl))⟩
  f25 := ⟨Tryz.f255.name, by decide, Tryz.func255.trans (congrArg some (by kernel_rfl))⟩
  f26 := ⟨Tryz.f256.name, by decide, Tryz.func256.trans (congrArg some (by kernel_rfl))⟩
  f27 := ⟨Tryz.f257.name, by decide, Tryz.func257.trans (congrArg some (by kernel_rfl))⟩
  f28 := Tryz.func213.trans (congrArg some (by kernel_rfl))
  f29 := Tryz.func214.trans (congrArg some (by kernel_rfl))
  f46 := ⟨Tryz.f264.name, by decide, Tryz.func264.trans (congrArg some (by kernel_rfl))⟩
  f47 := Tryz.func233.trans (congrArg some (by kernel_rfl))
  f48 := Tryz.func234.trans (congrArg some (by kernel_rfl))
  f49 := ⟨Tryz.f265.name, by decide, Tryz.func265.trans (congrArg some (by kernel_rfl))⟩
  f50 := ⟨Tryz.f266.name, by decide, Tryz.func266.trans (congrArg some (by kernel_rfl))⟩
  f57 := ⟨Tryz.f268.name, by decide, Tryz.func268.trans (congrArg some (by kernel_rfl))⟩
  t0 := Tryz.underlying0
  a0 := Tryz.isAgg0
  z0 := Tryz.sizeOf0
  v0 := Tryz.zeroValue0
  t3 := Tryz.underlying3
  a3 := Tryz.isAgg3
  z3 := Tryz.sizeOf3
  v3 := Tryz.zeroValue3
  t4 := Tryz.underlying4
  a4 := Tryz.isAgg4
  z4 := Tryz.sizeOf4
  v4 := Tryz.zeroValue4
  t5 := Tryz.underlying5
  a5 := Tryz.isAgg5
  z5 := Tryz.sizeOf5
  v5 := Tryz.zeroValue5
  t9 := Tryz.underlying9
  a9 := Tryz.isAgg9
  z9 := Tryz.sizeOf9
  v9 := Tryz.zeroValue9
  t22 := Tryz.underlying203
  a22 := Tryz.isAgg203
  z22 := Tryz.sizeOf203
  v22 := Tryz.zeroValue203
  t25 := Tryz.underlying238
  a25 := Tryz.isAgg238
  z25 := Tryz.sizeOf238
  v25 := Tryz.zeroValue238
  t39 := Tryz.underlying214
  a39 := Tryz.isAgg214
  z39 := Tryz.sizeOf214
  v39 := Tryz.zeroValue214
  t45 := Tryz.underlying242
  a45 := Tryz.isAgg242
  z45 := Tryz.sizeOf242
  v45 := Tryz.zeroValue242
  t46 := Tryz.underlying243
  a46 := Tryz.isAgg243
  z46 := Tryz.sizeOf243
  v46 := Tryz.zeroValue243
  t50 := Tryz.underlying247
  a50 := Tryz.isAgg247
  z50 := Tryz.sizeOf247
  v50 := Tryz.zeroValue247
  t53 := Tryz.underlying250
  a53 := Tryz.isAgg250
  z53 := Tryz.sizeOf250
  v53 := Tryz.zeroValue250
  t55 := Tryz.underlying252
  a55 := Tryz.isAgg252
  z55 := Tryz.sizeOf252
  v55 := Tryz.zeroValue252
  t66 := Tryz.underlying265
  a66 := Tryz.isAgg265
  z66 := Tryz.sizeOf265
  v66 := Tryz.zeroValue265
  t70 := Tryz.underlying269
  a70 := Tryz.isAgg269
  z70 := Tryz.sizeOf269
  v70 := Tryz.zeroValue269
  t76 := Tryz.underlying285
  a76 := Tryz.isAgg285
  z76 := Tryz.sizeOf285
  v76 := Tryz.zeroValue285
  t77 := Tryz.underlying119
  a77 := Tryz.isAgg119
  z77 := Tryz.sizeOf119
  v77 := Tryz.zeroValue119 }
def Tryz.cmpSp_ren : Go.Shelf.Ren := ⟨fun | 5 => 104 | 7 => 167 | n => n, fun | 22 => 3 | 3 => 3 | 4 => 4 | n => n, fun | n => n⟩
theorem Tryz.cmpSp : Go.Proofs.SlLaysC2.n5 Tryz.prog Tryz.cmpSp_ren := {
  mixed := by kernel_rfl
  f5 := ⟨Tryz.f104.name, by decide, Tryz.func104.trans (congrArg some (by kernel_rfl))⟩
  f7 := ⟨Tryz.f167.name, by decide, Tryz.func167.trans (congrArg some (by kernel_rfl))⟩
  t3 := Tryz.underlying3
  a3 := Tryz.isAgg3
  z3 := Tryz.sizeOf3
  v3 := Tryz.zeroValue3
  t4 := Tryz.underlying4
  a4 := Tryz.isAgg4
  z4 := Tryz.sizeOf4
  v4 := Tryz.zeroValue4
  t22 := Tryz.underlying3
  a22 := Tryz.isAgg3
  z22 := Tryz.sizeOf3
  v22 := Tryz.zeroValue3 }
def Tryz.growSp_ren : Go.Shelf.Ren := ⟨fun | 4 => 227 | n => n, fun | 22 => 203 | 25 => 232 | 3 => 3 | 4 => 4 | 9 => 9 | 20 => 20 | 0 => 0 | 2 => 3 | n => n, fun | n => n⟩
theorem Tryz.growSp : Go.Proofs.Lays8.n4 Tryz.prog Tryz.growSp_ren := {
  mixed := by kernel_rfl
  f4 := ⟨Tryz.f227.name, by decide, Tryz.func227.trans (congrArg some (by kernel_rfl))⟩
  t0 := Tryz.underlying0
  a0 := Tryz.isAgg0
  z0 := Tryz.sizeOf0
  v0 := Tryz.zeroValue0
  t3 := Tryz.underlying3
  a3 := Tryz.isAgg3
  z3 := Tryz.sizeOf3
  v3 := Tryz.zeroValue3
  t4 := Tryz.underlying4
  a4 := Tryz.isAgg4
  z4 := Tryz.sizeOf4
  v4 := Tryz.zeroValue4
  t9 := Tryz.underlying9
  a9 := Tryz.isAgg9
  z9 := Tryz.sizeOf9
  v9 := Tryz.zeroValue9
  t20 := Tryz.underlying20
  a20 := Tryz.isAgg20
  z20 := Tryz.sizeOf20
  v20 := Tryz.zeroValue20
  t22 := Tryz.underlying203
  a22 := Tryz.isAgg203
  z22 := Tryz.sizeOf203
  v22 := Tryz.zeroValue203 }
end Go.Proofs
set_option linter.unusedVariables false
set_option maxRecDepth 100000
namespace Go.Proofs.YtpeggkeenboacaaGreat
open Go.RowKit Go.Sort Go.Lib
namespace RE
open PL
def encS (x : region_Span) : List Value := [.int .i64 x.1, .int .i64 x.2]
def cfS (x y : region_Span) : Int := Lib.compareInt x.1 y.1
theorem ltS (x y : region_Span) : ltOf cfS x y = decide (x.1 < y.1) := by
  unfold ltOf cfS Lib.compareInt
  by_cases h1 : x.1 < y.1
  · simp [h1]
  · by_cases h2 : y.1 < x.1 <;> simp [h1, h2]
theorem swoS : SWO (ltOf cfS) where
  irrefl x := by rw [ltS]; simp
  trans x y z h1 h2 := by rw [ltS] at *; simp at *; omega
  ntrans x y z h1 h2 := by rw [ltS] at *; simp at *; omega
set_option maxHeartbeats 1000000 in
theorem clos158 (x y : region_Span) (W : World) : Calls Tryz.prog 202 #[.agg #[.int .i64 x.1, .int .i64 x.2], .agg #[.int .i64 y.1, .int .i64 y.2]] W fun e w' => e = .returned (.int .i64 (Lib.compareInt x.1 y.1)) ∧ ∃ q os', w' = grow (W.drewN q) os' := by
  have hcon := fun W' => AnyG.cmp_Compare_int Tryz.cmpSp x.1 y.1 W'
  change ∀ W', Calls Tryz.prog 104 _ _ _ at hcon
  generalize Lib.compareInt x.1 y.1 = r at hcon ⊢
  go_enter Tryz.func202, Tryz.ntmps202
  go_wp2_with (go_at_call 104; refine (hcon _).mono ?_; rintro e w' ⟨rfl, rfl⟩)
  go_ret
  exact ⟨rfl, 0, _, by rw [alloc_eq_grow, alloc_eq_grow, grow_grow]; rfl⟩
theorem cmpLays158 (blk off size : Nat) (w : World) : CmpLays Tryz.prog 202 #[] encS 2 cfS blk off size w :=
  fun _ _ _ _ x y => clos158 x y _
theorem heap_sortedV {w : World} {g n : Nat} {os : Array Obj} {cur : Array Value} {e : TypeId} {fr : Nat × Nat} (d : Array Value) (hb : w.heap[g]? = some (.cells cur e fr)) :
    (grow (putRow id (Sort.ahead w n) g 0 d) os).heap[g]? = some (.cells (putCells id 0 d cur) e fr) := by
  have hg : g < w.heap.size := (Array.getElem?_eq_some_iff.1 hb).1
  rw [heap_grow_old _ _ (by simpa using hg)]
  simp [putRow, mapBlock, Sort.ahead, Array.getElem?_modify, hb, onCells]
theorem grownBy_sortedV {w : World} {g n : Nat} {os : Array Obj} (d : Array Value) : w.grownBy (grow (putRow id (Sort.ahead w n) g 0 d) os) (some g) := by
  refine ⟨rfl, rfl, rfl, by simp, fun k hk hne => ?_⟩
  rw [heap_grow_old _ _ (by simpa using hk)]
  have : g ≠ k := fun e => hne (by rw [e])
  simp [putRow, mapBlock, Sort.ahead, Array.getElem?_modify, this]
theorem holdsS {w : World} {S : Cells} {g cap : Nat} {cur : Array Value} {e : TypeId} {l : List region_Span} (hb : w.heap[g]? = some (.cells cur e (0, 0)))
    (h : ∀ (i : Nat) (x : region_Span), l[i]? = some x → ∀ (j : Nat) (c : D), (enc (.st .region_Span) x)[j]? = some c → ∃ u : Value, cur[i * 2 + j]? = some u ∧ u.oneCell' = true ∧ Rd S w c u) :
    HoldsK encS 2 w g 0 l.toArray := by
  intro t ht
  have ht : t < l.length * 2 := by simpa using ht
  have hi : t / 2 < l.length := by omega
  refine ⟨?_, by simp [World.frozen?, hb]⟩
  have hx := List.getElem?_eq_getElem hi
  have key : ∀ j, j < 2 → t % 2 = j → cur[t]? = some (encS l[t / 2])[j]! := by
    intro j hj htj
    have ht2 : t / 2 * 2 + j = t := by omega
    match j, hj with
    | 0, _ =>
      obtain ⟨u, h1, _, h3⟩ := h (t / 2) l[t / 2] hx 0 _ rfl
      have h3 : Rd S w (.v (.int .i64 l[t / 2].1)) u := h3
      rw [ht2] at h1
      rw [h1, rd_v h3]; rfl
    | 1, _ =>
      obtain ⟨u, h1, _, h3⟩ := h (t / 2) l[t / 2] hx 1 _ rfl
      have h3 : Rd S w (.v (.int .i64 l[t / 2].2)) u := h3
      rw [ht2] at h1
      rw [h1, rd_v h3]; rfl
  have hk := key (t % 2) (Nat.mod_lt _ (by omega)) rfl
  show w.cell? ⟨g, 0 + t, none⟩ = some (flatK encS 2 l.toArray)[t]!
  rw [get_flatK _ _ _ t (by simpa using ht)]
  have e1 : (l.toArray)[t / 2]! = l[t / 2] := by simp [hi]
  rw [e1, Nat.zero_add]
  rw [← hk]
  simp [World.cell?, hb]
def psort_sp : Spec3 := ⟨201, .st .region_Span, some 202, fun (l : List region_Span) post => (l.length ≤ 1000000) ∧ ∀ l2, l2.Perm l → l2.Pairwise (fun s t => s.1 ≤ t.1) → post l2⟩
theorem psort_row (l : List region_Span) (post : List region_Span → Prop) (hp : (l.length ≤ 1000000) ∧ ∀ l2, l2.Perm l → l2.Pairwise (fun s t => s.1 ≤ t.1) → post l2) (w : World) (S : Cells) (v : Value) (F : Nat → Prop) (e : TypeId) (hrow : RowAt w S v F e (.st .region_Span) l) :
    Calls Tryz.prog 201 #[v, .func (.func 202) #[] #[]] w fun e' w' => ∃ r, ∃ l' : List region_Span, e' = .returned r ∧ post l' ∧ RowAt w' S v F e (.st .region_Span) l' ∧ w'.os = w.os ∧ w'.tape = w.tape ∧ w'.output = w.output ∧ w.heap.size ≤ w'.heap.size ∧ ∀ b, b < w.heap.size → ¬ F b → w'.heap[b]? = w.heap[b]? := by
  obtain ⟨hlen, hp⟩ := hp
  obtain ⟨h0, ⟨rfl, ⟨ad, rfl⟩, hn⟩ | ⟨g, cap, cur, rfl, hFg, hg, hnl, hcm, hcs, hrr⟩⟩ := hrow
  · refine (AnyF.slices_SortFunc_none Tryz.sortSp ad 0 _ w).mono ?_
    rintro e' w' ⟨rfl, rfl⟩
    exact ⟨_, [], rfl, hp [] (List.Perm.refl _) List.Pairwise.nil, ⟨h0, .inl ⟨rfl, ⟨ad, rfl⟩, hn⟩⟩, rfl, rfl, rfl, Nat.le_refl _, fun _ _ _ => rfl⟩
  · have hgl := (Array.getElem?_eq_some_iff.1 hg).1
    have hnl : List.length (l : List region_Span) ≤ cap := hnl
    have eg : ∀ args w, (callFunc 202 args).run Tryz.prog w = .ok (.enter 202 args) w := enters_of Tryz.func202 (by kernel_rfl) rfl
    refine (AnyQ.slices_SortFunc Tryz.sortSp 2 Tryz.isAgg232 Tryz.sizeOf232 encS (fun _ => rfl) (fun x v hv => by simp [encS] at hv; rcases hv with rfl | rfl <;> rfl) cfS swoS 202 #[] g 0 cap l.toArray w eg (cmpLays158 g 0 _ w) (holdsS (cap := cap) hg hrr) hgl (by simp; omega)).mono ?_
    rintro e' w' ⟨rfl, d, n, os, ⟨q1, q2, q3⟩, q4, rfl⟩
    have hdl : d.size = l.length := by rw [q1]; simp
    have hdt : List.length (d.toList : List region_Span) = l.length := by rw [Array.length_toList]; exact hdl
    have hG := grownBy_sortedV (w := w) (n := n) (g := g) (os := os) (flatK encS 2 d)
    have hH := heap_sortedV (n := n) (os := os) (flatK encS 2 d) hg
    refine ⟨_, d.toList, rfl, hp _ ?_ ?_, ⟨h0, .inr ⟨g, cap, _, ?_, hFg, hH, Nat.le_trans (Nat.le_of_eq hdt) hnl, hcm, by simp [putCells, hcs], fun i (x : region_Span) hx j c hc => ?_⟩⟩, hG.os, hG.tape, hG.output, hG.size, fun b hb hnF => hG.block b hb fun e => hnF ((hFg b).2 (Option.some.inj e))⟩
    · have e1 : d.extract 0 l.toArray.size = d := by rw [← q1]; simp
      have e2 : l.toArray.extract 0 l.toArray.size = l.toArray := by simp
      rw [e1, e2] at q3
      simpa using q3
    · rw [List.pairwise_iff_getElem]
      intro i j hi hj hij
      have hi' : i < d.size := by simpa using hi
      have hj' : j < d.size := by simpa using hj
      have := q4 i j (Nat.zero_le _) hij (by rw [← q1]; exact hj')
      rw [ltS, getElem!_pos d i hi', getElem!_pos d j hj'] at this
      have := of_decide_eq_false this
      simp only [Array.getElem_toList]
      omega
    · show Value.slice (some ⟨g, 0, none⟩) l.length cap = Value.slice (some ⟨g, 0, none⟩) (List.length (d.toList : List region_Span)) cap
      rw [hdt]
    · have hx : (d.toList : List region_Span)[i]? = some x := hx
      rw [Array.getElem?_toList] at hx
      have hi : i < d.size := (Array.getElem?_eq_some_iff.1 hx).1
      have hxe : d[i]! = x := by
        rw [getElem!_pos d i hi]
        exact (Array.getElem?_eq_some_iff.1 hx).2
      have hcs : cur.size = cap * 2 := hcs
      have key : ∀ k, k < 2 → (putCells id 0 (flatK encS 2 d) cur)[i * 2 + k]? = some (encS x)[k]! := by
        intro k hk
        have h1 : i * 2 + k < cur.size := by omega
        have h2 : i * 2 + k < d.size * 2 := by omega
        simp only [putCells, Array.getElem?_mapIdx, Array.getElem?_eq_getElem h1, Option.map_some, Nat.zero_le, true_and, Nat.zero_add, size_flatK, if_pos h2, Nat.sub_zero, id]
        rw [get_flatK _ _ _ _ h2, show (i * 2 + k) / 2 = i by omega, show (i * 2 + k) % 2 = k by omega, hxe]
      match j, hc with
      | 0, hc =>
        have hc : some (D.v (.int .i64 x.1)) = some c := hc
        injection hc with hc
        subst hc
        exact ⟨_, key 0 (by omega), rfl, .v _⟩
      | 1, hc =>
        have hc : some (D.v (.int .i64 x.2)) = some c := hc
        injection hc with hc
        subst hc
        exact ⟨_, key 1 (by omega), rfl, .v _⟩
      | j + 2, hc => cases (show (none : Option D) = some c from hc)
theorem psort_ok : Spec3OK Tryz.prog psort_sp := fun l post hp w S v F e hrow _ _ => psort_row l post hp w S v F e hrow
end RE
end Go.Proofs.YtpeggkeenboacaaGreat
set_option maxRecDepth 100000
set_option linter.unusedVariables false
namespace Go.Proofs.YtpeggkeenboacaaGreat
open Go.RowKit
namespace RE
open PL
def pcuts_P (ls : List (List (api_Rect))) (post : List (Int) → Prop) : Prop := (ls.flatten.length ≤ 10000 ∧ ls.length ≤ 10) ∧ post (cutsS ls.flatten)
def pcuts_sp : Spec := ⟨161, false, true, [.sl (.sl (.st .api_Rect))], .dat (.sl (.int .i64)), fun x post => pcuts_P (x.1 : List (List (api_Rect))) (fun y0 => post (y0, ()))⟩
def pcuts_C : CtxR := ⟨tau, [rule3 ssort_sp, rule2 scompact_sp], lookJ [(0, 7, ⟨[(10, .dat (.int .i64)), (3, .own 3 (.int .i64))], [], [11, 12, 13, 5, 14, 15, 27, 26, 25, 24, 23, 22, 21, 20, 7, 19, 18, 16, 17, 28], [], []⟩), (0, 13, ⟨[(16, .dat (.int .i64)), (3, .own 3 (.int .i64))], [], [17, 18, 19, 7, 20, 21, 22, 23, 24, 25, 26, 27], [0], []⟩)]⟩
def pcuts_W (ls : List (List (api_Rect))) (post : List (Int) → Prop) : Prop := (↑ls.length : Int) ≤ (9223372036854775807 : Int) → LOOP [Ty.int IntKind.i64, (Ty.int IntKind.i64).sl] (fun (rec1 : Int → List Int → Prop) (z2 : Int) (z3 : List Int) ↦ IFB (decide (z2 < (↑ls.length : Int))) (((0 : Int) ≤ z2 ∧ z2 < (↑ls.length : Int)) ∧ ((↑(ix ls z2).length : Int) ≤ (9223372036854775807 : Int) → LOOP [Ty.int IntKind.i64, (Ty.int IntKind.i64).sl] (fun (rec4 : Int → List Int → Prop) (z5 : Int) (z6 : List Int) ↦ IFB (decide (z5 < (↑(ix ls z2).length : Int))) (((0 : Int) ≤ z5 ∧ z5 < (↑(ix ls z2).length : Int)) ∧ (z6.length + [(ix (ix ls z2) z5).2, (ix (ix ls z2) z5).4].length) * (8 : Nat) ≤ (140737488355328 : Nat) ∧ rec4 (IntKind.i64.wrap (z5 + (1 : Int))) (z6 ++ [(ix (ix ls z2) z5).2, (ix (ix ls z2) z5).4])) (rec1 (IntKind.i64.wrap (z2 + (1 : Int))) z6)) ((0 : Int), z3, PUnit.unit))) (z3.length ≤ (1000000 : Nat) ∧ (sortI z3).length ≤ (1000000 : Nat) ∧ post (compI (sortI z3)))) ((0 : Int), [], PUnit.unit)
theorem pcuts_w (ls : List (List (api_Rect))) (post : dens (shT pcuts_sp.rs []) → Prop) : pcuts_W ls (fun y0 => post (y0, ())) = walkG (callR Tryz.prog pcuts_C (drawR Tryz.prog tau) 8 0) 161 false [tv (.sl (.sl (.st .api_Rect))) ls] pcuts_sp.rs post := by kernel_rfl
theorem pcuts_of (h : ∀ (ls : List (List (api_Rect))) (post : List (Int) → Prop), pcuts_P ls post → pcuts_W ls post) : SpecOK Tryz.prog pcuts_sp := SpecOK.of_rules (C := pcuts_C) (dr := drawR Tryz.prog tau) (n := 8) (fk := 0) (.cons (rule3_ok ssort_ok) (.cons (rule2_ok scompact_ok) .nil)) (drawR_ok tau) fun x post hp => HoldW.of (pcuts_w x.1 post) (h x.1 (fun y0 => post (y0, ())) hp)
def cutL (l : List Rc) : List Int := l.flatMap fun r => [r.Low, r.High]
theorem cutL_cons {r : Rc} {l : List Rc} : cutL (r :: l) = r.Low :: r.High :: cutL l := rfl
theorem cutL_app {a b : List Rc} : cutL (a ++ b) = cutL a ++ cutL b := by unfold cutL; simp
theorem cutL_len {l : List Rc} : (cutL l).length = 2 * l.length := by
  induction l with
  | nil => rfl
  | cons r l ih => rw [cutL_cons]; simp only [List.length_cons, ih]; omega
theorem cutL_mem {l : List Rc} {x : Int} : x ∈ cutL l ↔ ∃ r ∈ l, x = r.Low ∨ x = r.High := by unfold cutL; simp
theorem cuts_uniq (l : List Rc) : uniqI (cutL l) = cutsS l := uniqI_eq cutsS_ok.1 fun x => by rw [cutsS_ok.2, cutL_mem]
theorem cuts_in {l : List Rc} {A : List Int} {K : List Int → Prop} (hl : A.length + 2 * l.length ≤ 100000) (hK : K (A ++ cutL l)) :
    LOOP [Ty.int IntKind.i64, (Ty.int IntKind.i64).sl] (fun (rec4 : Int → List Int → Prop) (z5 : Int) (z6 : List Int) ↦ IFB (decide (z5 < (↑l.length : Int))) (((0 : Int) ≤ z5 ∧ z5 < (↑l.length : Int)) ∧ (z6.length + [(ix l z5).2, (ix l z5).4].length) * 8 ≤ 140737488355328 ∧ rec4 (IntKind.i64.wrap (z5 + (1 : Int))) (z6 ++ [(ix l z5).2, (ix l z5).4])) (K z6)) ((0 : Int), A, PUnit.unit) := by
  refine LOOP.list l (fun k (s : List Int) => ((k : Int), s, ())) (fun u => Int.toNat u.1) (fun k r (s : List Int) => s ++ cutL r = A ++ cutL l ∧ s.length = A.length + 2 * k) A rfl ⟨rfl, by omega⟩ (fun k s h => by simp) ?_ ?_
  · intro rec k x r s hd hk hkl ⟨g1, g2⟩ hrec
    have hx := ix_of hk
    show IFB _ _ _
    refine IFB.mk (fun _ => ⟨by show 0 ≤ (k : Int) ∧ (k : Int) < l.length; omega, ?_⟩) (fun h => absurd (of_decide_eq_false h) (by show ¬ ¬ ((k : Int) < l.length); omega))
    dsimp only
    rw [hx]
    refine ⟨by simp only [List.length_cons, List.length_nil]; omega, ?_⟩
    rw [wrapS (by omega)]
    refine hrec _ ⟨?_, ?_⟩
    · rw [← g1, cutL_cons]; simp
    · simp only [List.length_append, List.length_cons, List.length_nil]; omega
  · intro rec s ⟨g1, g2⟩
    show IFB _ _ _
    refine IFB.mk (fun h => absurd (of_decide_eq_true h) (by show ¬ ((l.length : Int) < l.length); omega)) (fun _ => ?_)
    have g1 : s = A ++ cutL l := by simpa [cutL] using g1
    show K s
    rw [g1]; exact hK
theorem pcuts_ok : SpecOK Tryz.prog pcuts_sp := pcuts_of fun ls post hp => by
  obtain ⟨⟨h1, h2⟩, hp⟩ := hp
  unfold pcuts_W
  intro _
  refine LOOP.list ls (fun k (s : List Int) => ((k : Int), s, ())) (fun u => Int.toNat u.1) (fun k r (s : List Int) => s ++ cutL r.flatten = cutL ls.flatten) [] rfl rfl (fun k s h => by simp) ?_ ?_
  · intro rec k x r s hd hk hkl g1 hrec
    have hx := ix_of hk
    have hlen : s.length + (2 * x.length + 2 * r.flatten.length) ≤ 20000 := by
      have := congrArg List.length g1
      rw [List.length_append, cutL_len, cutL_len, List.flatten_cons, List.length_append] at this
      omega
    show IFB _ _ _
    refine IFB.mk (fun _ => ⟨by show 0 ≤ (k : Int) ∧ (k : Int) < ls.length; omega, ?_⟩) (fun h => absurd (of_decide_eq_false h) (by show ¬ ¬ ((k : Int) < ls.length); omega))
    dsimp only
    rw [hx]
    intro _
    refine cuts_in (l := x) (A := s) (K := fun z6 => rec (IntKind.i64.wrap ((k : Int) + 1)) z6) (by omega) ?_
    rw [wrapS (by omega)]
    refine hrec _ ?_
    rw [← g1, List.flatten_cons, cutL_app, List.append_assoc]
  · intro rec s g1
    show IFB _ _ _
    refine IFB.mk (fun h => absurd (of_decide_eq_true h) (by show ¬ ((ls.length : Int) < ls.length); omega)) (fun _ => ?_)
    have g1 : s = cutL ls.flatten := by simpa [cutL] using g1
    have hlen : s.length ≤ 20000 := by rw [g1, cutL_len]; omega
    have hsl : (sortI s).length = s.length := by unfold sortI; simp
    dsimp only
    refine ⟨by omega, by omega, ?_⟩
    rw [← cuts_uniq, ← g1] at hp
    exact hp

def prow_P (l : List (api_Rect)) (y : Int) (post : List (region_Span) → Prop) : Prop := ((∀ r ∈ l, r.Left < r.Right) ∧ l.length ≤ 10000) ∧ post (rowS l y)
def prow_sp : Spec := ⟨164, false, true, [.sl (.st .api_Rect), .int .i64], .dat (.sl (.st .region_Span)), fun x post => prow_P (x.1 : List (api_Rect)) (x.2.1 : Int) (fun y0 => post (y0, ()))⟩
def prow_C : CtxR := ⟨tau, [rule3 psort_sp], lookJ [(0, 23, ⟨[(41, .dat (.int .i64)), (8, .own 232 (.st .region_Span))], [], [42, 73, 72, 71, 70, 69, 68, 67, 66, 65, 64, 63, 62, 61, 60, 58, 57, 56, 55, 54, 53, 52, 51, 50, 59, 49, 48, 47, 11, 46, 45, 10, 44, 43, 77, 76, 75, 74, 78], [], []⟩), (0, 34, ⟨[(8, .own 232 (.st .region_Span))], [], [74, 75, 76, 77, 43, 44, 10, 45, 46, 11, 47, 48, 49, 59, 50, 51, 52, 53, 54, 55, 56, 57, 58, 60, 61, 62, 63, 64, 65, 66, 67, 68, 69, 70, 71, 72, 73], [1], []⟩), (0, 7, ⟨[(14, .dat (.int .i64)), (5, .own 232 (.st .region_Span))], [], [15, 35, 34, 33, 32, 31, 30, 29, 28, 26, 25, 24, 23, 27, 22, 21, 20, 19, 18, 7, 17, 16, 36], [], []⟩), (0, 14, ⟨[(5, .own 232 (.st .region_Span))], [], [16, 17, 7, 18, 19, 20, 21, 22, 27, 23, 24, 25, 26, 28, 29, 30, 31, 32, 33, 34, 35], [0], []⟩)]⟩
def prow_W (l : List (api_Rect)) (y : Int) (post : List (region_Span) → Prop) : Prop := (↑l.length : Int) ≤ (9223372036854775807 : Int) → LOOP [Ty.int IntKind.i64, (Ty.st Sn.region_Span).sl] (fun (rec1 : Int → List region_Span → Prop) (z2 : Int) (z3 : List region_Span) ↦ IFB (decide (z2 < (↑l.length : Int))) (JOIN [(Ty.st Sn.region_Span).sl] (fun (y4 : List region_Span) ↦ rec1 (IntKind.i64.wrap (z2 + (1 : Int))) y4) fun (J5 : List region_Span → Prop) ↦ ((0 : Int) ≤ z2 ∧ z2 < (↑l.length : Int)) ∧ IFB (decide ((ix l z2).2 ≤ y) && decide (y < (ix l z2).4)) ((z3.length + [{ Left := (ix l z2).1, Right := (ix l z2).3 : region_Span }].length) * (16 : Nat) ≤ (140737488355328 : Nat) ∧ J5 (z3 ++ [{ Left := (ix l z2).1, Right := (ix l z2).3 : region_Span }])) (J5 z3)) (z3.length ≤ (1000000 : Nat) ∧ ∀ (v6 : List region_Span), v6.Perm z3 → List.Pairwise (fun (s t : region_Span) ↦ s.1 ≤ t.1) v6 → (↑v6.length : Int) ≤ (9223372036854775807 : Int) → LOOP [Ty.int IntKind.i64, (Ty.st Sn.region_Span).sl] (fun (rec7 : Int → List region_Span → Prop) (z8 : Int) (z9 : List region_Span) ↦ IFB (decide (z8 < (↑v6.length : Int))) (JOIN [(Ty.st Sn.region_Span).sl] (fun (y10 : List region_Span) ↦ rec7 (IntKind.i64.wrap (z8 + (1 : Int))) y10) fun (J11 : List region_Span → Prop) ↦ ((0 : Int) ≤ z8 ∧ z8 < (↑v6.length : Int)) ∧ ((↑z9.length : Int) ≤ (9223372036854775807 : Int) → (gx true (decide ((0 : Int) < (↑z9.length : Int))) = true → (0 : Int) ≤ IntKind.i64.wrap ((↑z9.length : Int) - (1 : Int)) ∧ IntKind.i64.wrap ((↑z9.length : Int) - (1 : Int)) < (↑z9.length : Int)) ∧ IFB (decide ((0 : Int) < (↑z9.length : Int)) && decide ((ix v6 z8).1 ≤ (ix z9 (IntKind.i64.wrap ((↑z9.length : Int) - (1 : Int)))).2)) (((0 : Int) ≤ IntKind.i64.wrap ((↑z9.length : Int) - (1 : Int)) ∧ IntKind.i64.wrap ((↑z9.length : Int) - (1 : Int)) < (↑z9.length : Int)) ∧ ((0 : Int) ≤ IntKind.i64.wrap ((↑z9.length : Int) - (1 : Int)) ∧ IntKind.i64.wrap ((↑z9.length : Int) - (1 : Int)) < (↑z9.length : Int)) ∧ J11 (z9.set (IntKind.i64.wrap ((↑z9.length : Int) - (1 : Int))).toNat { Left := (ix z9 (IntKind.i64.wrap ((↑z9.length : Int) - (1 : Int)))).1, Right := Max.max (ix z9 (IntKind.i64.wrap ((↑z9.length : Int) - (1 : Int)))).2 (ix v6 z8).2 : region_Span })) ((z9.length + [{ Left := (ix v6 z8).1, Right := (ix v6 z8).2 : region_Span }].length) * (16 : Nat) ≤ (140737488355328 : Nat) ∧ J11 (z9 ++ [{ Left := (ix v6 z8).1, Right := (ix v6 z8).2 : region_Span }])))) (post z9)) ((0 : Int), [], PUnit.unit))) ((0 : Int), [], PUnit.unit)
theorem prow_w (l : List (api_Rect)) (y : Int) (post : dens (shT prow_sp.rs []) → Prop) : prow_W l y (fun y0 => post (y0, ())) = walkG (callR Tryz.prog prow_C (drawR Tryz.prog tau) 10 0) 164 false [tv (.sl (.st .api_Rect)) l, tv (.int .i64) y] prow_sp.rs post := by kernel_rfl
theorem prow_of (h : ∀ (l : List (api_Rect)) (y : Int) (post : List (region_Span) → Prop), prow_P l y post → prow_W l y post) : SpecOK Tryz.prog prow_sp := SpecOK.of_rules (C := prow_C) (dr := drawR Tryz.prog tau) (n := 10) (fk := 0) (.cons (rule3_ok psort_ok) .nil) (drawR_ok tau) fun x post hp => HoldW.of (prow_w x.1 x.2.1 post) (h x.1 x.2.1 (fun y0 => post (y0, ())) hp)
theorem onRow_cons {y : Int} {r : Rc} {l : List Rc} : onRow y (r :: l) = if (decide (r.Low ≤ y) && decide (y < r.High)) = true then r :: onRow y l else onRow y l := by
  unfold onRow
  rw [List.filter_cons]
theorem prow_ok : SpecOK Tryz.prog prow_sp := prow_of fun l y post hp => by
  obtain ⟨⟨h1, h2⟩, hp⟩ := hp
  unfold prow_W
  intro _
  refine LOOP.list l (fun k (s : List Sp) => ((k : Int), s, ())) (fun u => Int.toNat u.1) (fun k r (s : List Sp) => s ++ (onRow y r).map spanOf = (onRow y l).map spanOf ∧ s.length ≤ k) [] rfl ⟨rfl, Nat.le_refl _⟩ (fun k s h => by simp) ?_ ?_
  · intro rec k x r s hd hk hkl ⟨g1, g2⟩ hrec
    have hx := ix_of hk
    show IFB _ _ _
    refine IFB.mk (fun _ => ?_) (fun h => absurd (of_decide_eq_false h) (by show ¬ ¬ ((k : Int) < l.length); omega))
    refine JOIN.opq fun (J : List Sp → Prop) hJ => ?_
    dsimp only
    rw [hx]
    refine ⟨by omega, IFB.mk (fun hb => ?_) (fun hb => ?_)⟩
    · refine ⟨by simp only [List.length_cons, List.length_nil]; omega, ?_⟩
      rw [hJ]
      show rec (IntKind.i64.wrap ((k : Int) + 1)) _
      rw [wrapS (by omega)]
      refine hrec _ ⟨?_, by simp only [List.length_append, List.length_cons, List.length_nil]; omega⟩
      rw [← g1, onRow_cons, if_pos hb]
      simp [spanOf]
    · rw [hJ]
      show rec (IntKind.i64.wrap ((k : Int) + 1)) _
      rw [wrapS (by omega)]
      refine hrec _ ⟨?_, by omega⟩
      rw [← g1, onRow_cons, if_neg (by rw [hb]; simp)]
  · intro rec s ⟨g1, g2⟩
    show IFB _ _ _
    refine IFB.mk (fun h => absurd (of_decide_eq_true h) (by show ¬ ((l.length : Int) < l.length); omega)) (fun _ => ?_)
    have g1 : s = (onRow y l).map spanOf := by simpa [onRow] using g1
    have hsl : s.length ≤ 10000 := by omega
    refine ⟨by show s.length ≤ 1000000; omega, fun v hperm hsort _ => ?_⟩
    have hvl : v.length = s.length := hperm.length_eq
    rw [← rowS_sorted h1 (g1 ▸ hperm) hsort] at hp
    refine LOOP.list v (fun k (s : List Sp) => ((k : Int), s, ())) (fun u => Int.toNat u.1) (fun k r (s : List Sp) => rowG s r = rowG [] v ∧ s.length ≤ k) [] rfl ⟨rfl, Nat.le_refl _⟩ (fun k s h => by simp) ?_ ?_
    · intro rec k x r out hd hk hkl ⟨q1, q2⟩ hrec
      have hx := ix_of hk
      show IFB _ _ _
      refine IFB.mk (fun _ => ?_) (fun h => absurd (of_decide_eq_false h) (by show ¬ ¬ ((k : Int) < v.length); omega))
      refine JOIN.opq fun (J : List Sp → Prop) hJ => ?_
      dsimp only
      rw [hx]
      have hgo : (joinSp out x).length ≤ k + 1 → J (joinSp out x) := fun hle => by
        rw [hJ]
        show rec (IntKind.i64.wrap ((k : Int) + 1)) _
        rw [wrapS (by omega)]
        exact hrec _ ⟨q1, hle⟩
      refine ⟨by omega, fun _ => ?_⟩
      rcases List.eq_nil_or_concat out with rfl | ⟨A, q, rfl⟩
      · have hj : joinSp [] x = [x] := rfl
        rw [hj] at hgo
        refine ⟨fun h => ?_, IFB.mk (fun hb => ?_) (fun hb => ⟨by simp, hgo (by simp)⟩)⟩
        · cases h
        · cases hb
      · rw [List.concat_eq_append] at *
        have w1 : IntKind.i64.wrap (((A ++ [q]).length : Int) - 1) = A.length := by
          simp only [List.length_append, List.length_cons, List.length_nil]
          rw [wrap_in (by omega) (by simp only [List.length_append, List.length_cons, List.length_nil] at q2; omega)]
          omega
        have hq : ix (A ++ [q]) (A.length : Int) = q := ix_app rfl
        have hset : ∀ z, (A ++ [q]).set (A.length : Int).toNat z = A ++ [z] := fun z => set_app (by simp)
        rw [w1, hq, hset]
        have hAl : (A ++ [q]).length = A.length + 1 := by simp
        have hj : joinSp (A ++ [q]) x = if x.Left ≤ q.Right then A ++ [⟨q.Left, max q.Right x.Right⟩] else A ++ [q] ++ [x] := by
          unfold joinSp
          simp
        rw [hj] at hgo
        refine ⟨fun _ => by omega, IFB.mk (fun hb => ⟨by omega, by omega, ?_⟩) (fun hb => ⟨by simp only [List.length_append, List.length_cons, List.length_nil] at *; omega, ?_⟩)⟩
        · rw [Bool.and_eq_true] at hb
          have hb2 : x.Left ≤ q.Right := of_decide_eq_true hb.2
          rw [if_pos hb2] at hgo
          exact hgo (by simp only [List.length_append, List.length_cons, List.length_nil] at *; omega)
        · have hb2 : ¬ x.Left ≤ q.Right := by
            intro h
            rw [Bool.and_eq_false_iff] at hb
            rcases hb with hb | hb
            · have := of_decide_eq_false hb; omega
            · exact of_decide_eq_false hb h
          rw [if_neg hb2] at hgo
          exact hgo (by simp only [List.length_append, List.length_cons, List.length_nil] at *; omega)
    · intro rec out ⟨q1, q2⟩
      show IFB _ _ _
      refine IFB.mk (fun h => absurd (of_decide_eq_true h) (by show ¬ ((v.length : Int) < v.length); omega)) (fun _ => ?_)
      have q1 : out = rowG [] v := q1
      show post out
      rw [q1]; exact hp

end RE
end Go.Proofs.YtpeggkeenboacaaGreat
set_option linter.unusedVariables false
set_option maxRecDepth 100000
namespace Go.Proofs.YtpeggkeenboacaaGreat
open Go.RowKit Go.Sort Go.Lib Go.Shelf
namespace RE
open PL
def growCp (ss : List SV) (m : MS) (k : SV → MS → Prop) : Prop := match ss with
  | [.d (.v (.slice none 0 0)), .d (.v (.int .i64 n))] => (0 ≤ n ∧ n ≤ 1000000) ∧ k (.os m.nx) ⟨(m.nx, some (.row 232 (.st .region_Span) [])) :: m.ob, m.nx + 1, m.tp⟩
  | _ => False
def pgrow_rule : Rule := ⟨227, growCp⟩
noncomputable def info187 : TypeInfo := (Tryz.prog.info? 232).get!
noncomputable def zero187 : Value := info187.zero.get!
theorem info187_eq : Tryz.prog.info? 232 = some info187 := by kernel_rfl
theorem zero187_eq : info187.zero = some zero187 := by kernel_rfl
theorem size187 : info187.size = 2 := by kernel_rfl
theorem bytes187 : info187.bytes = 16 := by kernel_rfl
theorem cells187 : zero187.cells.size = 2 := by kernel_rfl
theorem newRow {m : MS} {w w' : World} {c : Cx} (hox : OXM m w c) {v : Value} {F : Nat → Prop} {e : TypeId} {t : Ty} {l : List (den t)} (h1 : w'.os = w.os) (h2 : w'.tape = w.tape) (h3 : w'.output = w.output) (h4 : w.heap.size ≤ w'.heap.size) (h5 : ∀ b, b < w.heap.size → w'.heap[b]? = w.heap[b]?)
    (hF : ∀ b, F b → w.heap.size ≤ b ∧ b < w'.heap.size) (hr : RowAt w' c.S v F e t l) :
    ∃ c', OXM ⟨(m.nx, some (.row e t l)) :: m.ob, m.nx + 1, m.tp⟩ w' c' ∧ TrM m w c ⟨(m.nx, some (.row e t l)) :: m.ob, m.nx + 1, m.tp⟩ w' c' ∧ c'.H m.nx = v := by
  have ho : (MS.obs ⟨(m.nx, some (.row e t l)) :: m.ob, m.nx + 1, m.tp⟩) = put m.obs m.nx (some (.row e t l)) := lookO_cons _ _ _
  have hU : ∀ i, m.U i → i ≠ m.nx := fun i hi e => by have : i < m.nx := hi; omega
  obtain ⟨k1, k2⟩ := OX.upd (ob' := put m.obs m.nx (some (.row e t l))) (U' := fun i => i < m.nx + 1) (w' := w') (c' := ⟨c.S, put c.H m.nx v, put c.F m.nx F, c.T⟩) hox m.nx (.row e t l) (fun i => i ≠ m.nx)
    (fun i hi => Nat.lt_succ_of_lt hi) (Nat.lt_succ_self _) (put_same _ _ _) (fun i y hi e => ⟨e, by rw [put_ne _ _ e] at hi; exact hi⟩) (fun e => e rfl) (fun i hi => ⟨put_ne _ _ (hU i hi), put_ne _ _ (hU i hi)⟩) (fun _ _ h => h) (fun _ _ h => .inl h) (fun b o hb => Nat.lt_of_lt_of_le (hox.sb b o hb) h4)
    rfl h1 h2 h3 h4 (fun b hb _ => h5 b hb) (by
      show RowAt w' c.S (put c.H m.nx v m.nx) (put c.F m.nx F m.nx) e t l
      rw [put_same, put_same]; exact hr) trivial (fun _ b hb => .inr (hF b (by
        have hb : put c.F m.nx F m.nx b := hb
        rw [put_same] at hb; exact hb)).1) (fun _ b hb => by
        have hb : put c.F m.nx F m.nx b := hb
        rw [put_same] at hb
        obtain ⟨q1, q2⟩ := hF b hb
        exact ⟨q2, fun o hs => by have := hox.sb b o hs; omega⟩)
  refine ⟨⟨c.S, put c.H m.nx v, put c.F m.nx F, c.T⟩, ?_, ?_, put_same _ _ _⟩
  · show OX _ _ _ _ _
    rw [ho]; exact k1
  · show Tr _ _ _ _ _ _ _ _
    rw [ho]; exact k2
theorem growRun (n : Nat) (hn : n ≤ 1000000) (w : World) (S : Cells) : Calls Tryz.prog 227 #[.slice none 0 0, .int .i64 n] w fun e w' => ∃ v F, e = .returned v ∧ w'.os = w.os ∧ w'.tape = w.tape ∧ w'.output = w.output ∧ w.heap.size ≤ w'.heap.size ∧ (∀ b, b < w.heap.size → w'.heap[b]? = w.heap[b]?) ∧ (∀ b, F b → w.heap.size ≤ b ∧ b < w'.heap.size) ∧ RowAt w' S v F 232 (.st .region_Span) [] := by
  by_cases h0 : n = 0
  · subst h0
    refine (Any8.slices_Grow_room Tryz.growSp none 0 0 0 w (by omega) (by omega) (by omega) (by omega)).mono ?_
    rintro e w' ⟨rfl, rfl⟩
    exact ⟨_, fun _ => False, rfl, rfl, rfl, rfl, Nat.le_refl _, fun _ _ => rfl, fun b h => h.elim, by decide, .inl ⟨rfl, ⟨none, rfl⟩, fun b h => h⟩⟩
  · refine (Any8.slices_Grow_grow Tryz.growSp info187 zero187 info187_eq zero187_eq (by rw [size187]; omega) none 0 0 n [] w (by omega) (by omega) ?_ (by omega) rfl (fun _ => rfl) (fun a h => by cases h)).mono ?_
    · rw [bytes187]
      omega
    rintro e w' ⟨rfl, rfl⟩
    have hge := grownCap_ge w (0 + n) 0 232
    refine ⟨_, fun b => b = w.heap.size, rfl, rfl, rfl, rfl, by simp, fun b hb => heap_alloc_old w.drew _ hb, fun b h => ⟨by omega, by simp [h]⟩, by decide, .inr ⟨w.heap.size, _, _, rfl, fun b => Iff.rfl, heap_alloc_new w.drew _, Nat.zero_le _, grownCap_le_maxLen w (0 + n) 0 232 (by simp only [maxLen]; omega), ?_, fun i x hx => by simp at hx⟩⟩
    show _ = _ * 2
    simp only [Array.size_append, List.size_toArray, List.length_nil, size_zeroCells, cells187, Nat.zero_add, show Tryz.growSp_ren.t 25 = 232 from rfl] at hge ⊢
    omega
theorem pgrow_rule_ok : RuleOK Tryz.prog pgrow_rule := by
  intro ss m k hk us w c hox hl hr
  have hk2 : growCp ss m k := hk
  clear hk
  unfold growCp at hk2
  split at hk2
  · rename_i n
    obtain ⟨⟨p1, p2⟩, hk2⟩ := hk2
    match us, hl with
    | [a, b], _ =>
    have ha : a = .slice none 0 0 := srel_v (hr 0 _ a rfl rfl).1
    have hb : b = .int .i64 n := srel_v (hr 1 _ b rfl rfl).1
    subst ha hb
    obtain ⟨q, rfl⟩ : ∃ q : Nat, n = q := ⟨n.toNat, by omega⟩
    refine (growRun q (by omega) w c.S).mono ?_
    rintro e w' ⟨v, F, rfl, g1, g2, g3, g4, g5, g6, g7⟩
    obtain ⟨c', k1, k2, k3⟩ := newRow hox g1 g2 g3 g4 g5 g6 g7
    exact ⟨v, _, _, c', rfl, hk2, ⟨⟨[(m.nx, some (.row 232 (.st .region_Span) []))], rfl⟩, id⟩, k1, k2, by rw [← k3]; exact .os _, Nat.lt_succ_self _⟩
  · exact hk2.elim
end RE
end Go.Proofs.YtpeggkeenboacaaGreat
set_option maxRecDepth 100000
set_option linter.unusedVariables false
namespace Go.Proofs.YtpeggkeenboacaaGreat
open Go.RowKit
namespace RE
open PL
def pins_P (l : List (region_Span)) (x : Int) (post : Bool → Prop) : Prop := (l.length ≤ 1000000) ∧ post (insS l x)
def pins_sp : Spec := ⟨200, false, false, [.sl (.st .region_Span), .int .i64], .dat (.bool), fun x post => pins_P (x.1 : List (region_Span)) (x.2.1 : Int) (fun y0 => post (y0, ()))⟩
def pins_C : CtxR := ⟨tau, [], lookJ [(1067460608, 0, ⟨[(0, .dat (.int .i64))], [], [], [], []⟩), (1067460608, 5, ⟨[(8, .dat (.int .i64))], [], [9, 10, 5, 11, 12, 13, 14, 15, 16, 18], [], []⟩)]⟩
def pins_W (l : List (region_Span)) (x : Int) (post : Bool → Prop) : Prop := JOIN [Ty.int IntKind.i64] (fun (y1 : Int) ↦ post (decide ((0 : Int) ≤ y1))) fun (J2 : Int → Prop) ↦ (↑l.length : Int) ≤ (9223372036854775807 : Int) → LOOP [Ty.int IntKind.i64] (fun (rec3 : Int → Prop) (z4 : Int) ↦ IFB (decide (z4 < (↑l.length : Int))) (((0 : Int) ≤ z4 ∧ z4 < (↑l.length : Int)) ∧ IFB (decide ((ix l z4).1 ≤ x) && decide (x < (ix l z4).2)) (J2 z4) (rec3 (IntKind.i64.wrap (z4 + (1 : Int))))) (J2 (-1 : Int))) ((0 : Int), PUnit.unit)
theorem pins_w (l : List (region_Span)) (x : Int) (post : dens (shT pins_sp.rs []) → Prop) : pins_W l x (fun y0 => post (y0, ())) = walkG (callR Tryz.prog pins_C (drawR Tryz.prog tau) 8 0) 200 false [tv (.sl (.st .region_Span)) l, tv (.int .i64) x] pins_sp.rs post := by kernel_rfl
theorem pins_of (h : ∀ (l : List (region_Span)) (x : Int) (post : Bool → Prop), pins_P l x post → pins_W l x post) : SpecOK Tryz.prog pins_sp := SpecOK.of_rules (C := pins_C) (dr := drawR Tryz.prog tau) (n := 8) (fk := 0) .nil (drawR_ok tau) fun x post hp => HoldW.of (pins_w x.1 x.2.1 post) (h x.1 x.2.1 (fun y0 => post (y0, ())) hp)
theorem pins_ok : SpecOK Tryz.prog pins_sp := pins_of fun l x post hp => by
  obtain ⟨hl, hp⟩ := hp
  unfold pins_W
  refine JOIN.opq fun (J : Int → Prop) hJ => ?_
  intro _
  have hJ : ∀ z, post (decide (0 ≤ z)) → J z := fun z h => by rw [hJ]; exact h
  refine loopCmp (n := l.length) (by omega) (p := fun j => (decide ((ix l (j : Int)).1 ≤ x) && decide (x < (ix l (j : Int)).2)) = false) (fun rec k hk hpre hrec => ⟨by omega, IFB.mk (fun hb => hJ _ ?_) (fun hb => hrec hb)⟩) fun hall => hJ _ ?_
  · have : insS l x = true := by
      unfold insS
      rw [List.any_eq_true]
      exact ⟨_, ix_mem (l := l) (i := (k : Int)) (by omega) (by omega), hb⟩
    rw [this] at hp
    rw [decide_eq_true (by omega)]
    exact hp
  · have : insS l x = false := by
      unfold insS
      rw [List.any_eq_false]
      intro r hr
      obtain ⟨j, hj, rfl⟩ := List.getElem_of_mem hr
      have := hall j hj
      rw [ix_lt hj] at this
      simpa using this
    rw [this] at hp
    rw [decide_eq_false (by omega)]
    exact hp

def pconc_P (ls : List (List (region_Span))) (post : List (region_Span) → Prop) : Prop := (ls.flatten.length ≤ 100000 ∧ ls.length ≤ 10) ∧ post (ls.flatten)
def pconc_sp : Spec := ⟨199, false, true, [.sl (.sl (.st .region_Span))], .dat (.sl (.st .region_Span)), fun x post => pconc_P (x.1 : List (List (region_Span))) (fun y0 => post (y0, ()))⟩
def pconc_C : CtxR := ⟨tau, [pgrow_rule], lookJ [(0, 23, ⟨[(27, .dat (.int .i64)), (6, .own 232 (.st .region_Span))], [], [28, 29, 30, 8, 31, 32, 33, 34], [0], []⟩), (0, 7, ⟨[(11, .dat (.int .i64)), (3, .dat (.int .i64))], [], [12, 21, 20, 19, 18, 17, 16, 15, 5, 14, 13, 22], [], []⟩), (0, 16, ⟨[(3, .dat (.int .i64))], [], [13, 14, 5, 15, 16, 17, 18, 19, 20, 21], [], []⟩)]⟩
def pconc_W (ls : List (List (region_Span))) (post : List (region_Span) → Prop) : Prop := (↑ls.length : Int) ≤ (9223372036854775807 : Int) → LOOP [Ty.int IntKind.i64, Ty.int IntKind.i64] (fun (rec1 : Int → Int → Prop) (z2 z3 : Int) ↦ IFB (decide (z2 < (↑ls.length : Int))) (JOIN [Ty.int IntKind.i64] (fun (y4 : Int) ↦ rec1 (IntKind.i64.wrap (z2 + (1 : Int))) y4) fun (J5 : Int → Prop) ↦ ((0 : Int) ≤ z2 ∧ z2 < (↑ls.length : Int)) ∧ ((↑(ix ls z2).length : Int) ≤ (9223372036854775807 : Int) → IFB (decide (IntKind.i64.wrap (z3 + (↑(ix ls z2).length : Int)) < (0 : Int))) False (J5 (IntKind.i64.wrap (z3 + (↑(ix ls z2).length : Int)))))) (((0 : Int) ≤ z3 ∧ z3 ≤ (1000000 : Int)) ∧ ((↑ls.length : Int) ≤ (9223372036854775807 : Int) → LOOP [Ty.int IntKind.i64, (Ty.st Sn.region_Span).sl] (fun (rec6 : Int → List region_Span → Prop) (z7 : Int) (z8 : List region_Span) ↦ IFB (decide (z7 < (↑ls.length : Int))) (((0 : Int) ≤ z7 ∧ z7 < (↑ls.length : Int)) ∧ (z8.length + (ix ls z7).length) * (16 : Nat) ≤ (140737488355328 : Nat) ∧ rec6 (IntKind.i64.wrap (z7 + (1 : Int))) (z8 ++ ix ls z7)) (post z8)) ((0 : Int), [], PUnit.unit)))) ((0 : Int), (0 : Int), PUnit.unit)
theorem pconc_w (ls : List (List (region_Span))) (post : dens (shT pconc_sp.rs []) → Prop) : pconc_W ls (fun y0 => post (y0, ())) = walkG (callR Tryz.prog pconc_C (drawR Tryz.prog tau) 8 0) 199 false [tv (.sl (.sl (.st .region_Span))) ls] pconc_sp.rs post := by kernel_rfl
theorem pconc_of (h : ∀ (ls : List (List (region_Span))) (post : List (region_Span) → Prop), pconc_P ls post → pconc_W ls post) : SpecOK Tryz.prog pconc_sp := SpecOK.of_rules (C := pconc_C) (dr := drawR Tryz.prog tau) (n := 8) (fk := 0) (.cons pgrow_rule_ok .nil) (drawR_ok tau) fun x post hp => HoldW.of (pconc_w x.1 post) (h x.1 (fun y0 => post (y0, ())) hp)
theorem pconc_ok : SpecOK Tryz.prog pconc_sp := pconc_of fun ls post hp => by
  obtain ⟨⟨h1, h2⟩, hp⟩ := hp
  unfold pconc_W
  intro _
  refine LOOP.list ls (fun k (s : Int) => ((k : Int), s, ())) (fun u => Int.toNat u.1) (fun k r (s : Int) => 0 ≤ s ∧ s + r.flatten.length = ls.flatten.length) 0 rfl ⟨Int.le_refl _, by omega⟩ (fun k s h => by simp) ?_ ?_
  · intro rec k x r s hd hk hkl ⟨g1, g2⟩ hrec
    have hx := ix_of hk
    rw [List.flatten_cons, List.length_append] at g2
    show IFB _ _ _
    refine IFB.mk (fun _ => ?_) (fun h => absurd (of_decide_eq_false h) (by show ¬ ¬ ((k : Int) < ls.length); omega))
    refine JOIN.opq fun (J : Int → Prop) hJ => ?_
    dsimp only
    rw [hx]
    have w1 : IntKind.i64.wrap (s + (x.length : Int)) = s + x.length := wrap_in (by omega) (by omega)
    rw [w1]
    refine ⟨by omega, fun _ => IFB.mk (fun hb => absurd (of_decide_eq_true hb) (by omega)) (fun _ => ?_)⟩
    rw [hJ]
    show rec (IntKind.i64.wrap ((k : Int) + 1)) _
    rw [wrapS (by omega)]
    exact hrec _ ⟨by omega, by omega⟩
  · intro rec s ⟨g1, g2⟩
    have g2 : s + (([] : List (List Sp)).flatten.length : Int) = ls.flatten.length := g2
    simp only [List.flatten_nil, List.length_nil] at g2
    show IFB _ _ _
    refine IFB.mk (fun h => absurd (of_decide_eq_true h) (by show ¬ ((ls.length : Int) < ls.length); omega)) (fun _ => ?_)
    dsimp only
    refine ⟨by omega, fun _ => ?_⟩
    refine LOOP.list ls (fun k (s : List Sp) => ((k : Int), s, ())) (fun u => Int.toNat u.1) (fun k r (s : List Sp) => s ++ r.flatten = ls.flatten) [] rfl rfl (fun k s h => by simp) ?_ ?_
    · intro rec k x r s hd hk hkl g1 hrec
      have hx := ix_of hk
      have hlen : s.length + (x.length + r.flatten.length) ≤ 100000 := by
        have := congrArg List.length g1
        rw [List.length_append, List.flatten_cons, List.length_append] at this
        omega
      show IFB _ _ _
      refine IFB.mk (fun _ => ⟨by show 0 ≤ (k : Int) ∧ (k : Int) < ls.length; omega, ?_⟩) (fun h => absurd (of_decide_eq_false h) (by show ¬ ¬ ((k : Int) < ls.length); omega))
      dsimp only
      rw [hx, wrapS (by omega)]
      refine ⟨by omega, hrec _ ?_⟩
      rw [← g1, List.flatten_cons, List.append_assoc]
    · intro rec s g1
      show IFB _ _ _
      refine IFB.mk (fun h => absurd (of_decide_eq_true h) (by show ¬ ((ls.length : Int) < ls.length); omega)) (fun _ => ?_)
      have g1 : s = ls.flatten := by simpa using g1
      show post s
      rw [g1]; exact hp

def peqs_P (a : List (region_Span)) (b : List (region_Span)) (post : Bool → Prop) : Prop := (a.length ≤ 1000000000) ∧ ∀ q : Bool, (q = true ↔ a = b) → post q
def peqs_sp : Spec := ⟨195, false, false, [.sl (.st .region_Span), .sl (.st .region_Span)], .dat (.bool), fun x post => peqs_P (x.1 : List (region_Span)) (x.2.1 : List (region_Span)) (fun y0 => post (y0, ()))⟩
def peqs_C : CtxR := ⟨tau, [], lookJ [(0, 9, ⟨[(13, .dat (.int .i64))], [], [14, 15, 5, 16, 17, 18, 19, 20, 21, 22, 23, 24, 25], [], []⟩)]⟩
def peqs_W (a : List (region_Span)) (b : List (region_Span)) (post : Bool → Prop) : Prop := (↑a.length : Int) ≤ (9223372036854775807 : Int) → (↑b.length : Int) ≤ (9223372036854775807 : Int) → IFB (!decide ((↑a.length : Int) = (↑b.length : Int))) (post false) ((↑a.length : Int) ≤ (9223372036854775807 : Int) → LOOP [Ty.int IntKind.i64] (fun (rec1 : Int → Prop) (z2 : Int) ↦ IFB (decide (z2 < (↑a.length : Int))) (((0 : Int) ≤ z2 ∧ z2 < (↑a.length : Int)) ∧ ((0 : Int) ≤ z2 ∧ z2 < (↑b.length : Int)) ∧ IFB (!(decide ((ix a z2).1 = (ix b z2).1) && (decide ((ix a z2).2 = (ix b z2).2) && true))) (post false) (rec1 (IntKind.i64.wrap (z2 + (1 : Int))))) (post true)) ((0 : Int), PUnit.unit))
theorem peqs_w (a : List (region_Span)) (b : List (region_Span)) (post : dens (shT peqs_sp.rs []) → Prop) : peqs_W a b (fun y0 => post (y0, ())) = walkG (callR Tryz.prog peqs_C (drawR Tryz.prog tau) 8 0) 195 false [tv (.sl (.st .region_Span)) a, tv (.sl (.st .region_Span)) b] peqs_sp.rs post := by kernel_rfl
theorem peqs_of (h : ∀ (a : List (region_Span)) (b : List (region_Span)) (post : Bool → Prop), peqs_P a b post → peqs_W a b post) : SpecOK Tryz.prog peqs_sp := SpecOK.of_rules (C := peqs_C) (dr := drawR Tryz.prog tau) (n := 8) (fk := 0) .nil (drawR_ok tau) fun x post hp => HoldW.of (peqs_w x.1 x.2.1 post) (h x.1 x.2.1 (fun y0 => post (y0, ())) hp)
theorem peqs_ok : SpecOK Tryz.prog peqs_sp := peqs_of fun a b post hp => by
  obtain ⟨hl, hp⟩ := hp
  unfold peqs_W
  intro _ _
  refine IFB.mk (fun hb => hp _ ?_) (fun hb _ => ?_)
  · have hb : ¬ (a.length : Int) = b.length := by simpa using hb
    constructor
    · intro h; cases h
    · intro h; rw [h] at hb; exact absurd rfl hb
  · have hb : (a.length : Int) = b.length := by simpa using hb
    have hab : a.length = b.length := by omega
    have hiff := list_eq_iff hab
    refine loopCmp (n := a.length) (by omega) (p := fun j => ix a (j : Int) = ix b (j : Int)) (fun rec k hk hpre hrec => ⟨by omega, by omega, IFB.mk (fun hb => hp _ ?_) (fun hb => hrec ?_)⟩) fun hall => hp _ ?_
    · constructor
      · intro h; cases h
      · intro h
        rw [hiff.1 h k hk] at hb
        simp at hb
    · generalize ix a (k : Int) = u at hb ⊢
      generalize ix b (k : Int) = v at hb ⊢
      cases u
      cases v
      simp at hb
      simp [hb]
    · exact ⟨fun _ => hiff.2 hall, fun _ => rfl⟩

def peqr_P (a : List (api_Rect)) (b : List (api_Rect)) (post : Bool → Prop) : Prop := (a.length ≤ 1000000000) ∧ ∀ q : Bool, (q = true ↔ a = b) → post q
def peqr_sp : Spec := ⟨178, false, false, [.sl (.st .api_Rect), .sl (.st .api_Rect)], .dat (.bool), fun x post => peqr_P (x.1 : List (api_Rect)) (x.2.1 : List (api_Rect)) (fun y0 => post (y0, ()))⟩
def peqr_C : CtxR := ⟨tau, [], lookJ [(0, 9, ⟨[(13, .dat (.int .i64))], [], [14, 15, 5, 16, 17, 18, 19, 20, 21, 22, 23, 24, 25], [], []⟩)]⟩
def peqr_W (a : List (api_Rect)) (b : List (api_Rect)) (post : Bool → Prop) : Prop := (↑a.length : Int) ≤ (9223372036854775807 : Int) → (↑b.length : Int) ≤ (9223372036854775807 : Int) → IFB (!decide ((↑a.length : Int) = (↑b.length : Int))) (post false) ((↑a.length : Int) ≤ (9223372036854775807 : Int) → LOOP [Ty.int IntKind.i64] (fun (rec1 : Int → Prop) (z2 : Int) ↦ IFB (decide (z2 < (↑a.length : Int))) (((0 : Int) ≤ z2 ∧ z2 < (↑a.length : Int)) ∧ ((0 : Int) ≤ z2 ∧ z2 < (↑b.length : Int)) ∧ IFB (!(decide ((ix a z2).1 = (ix b z2).1) && (decide ((ix a z2).2 = (ix b z2).2) && (decide ((ix a z2).3 = (ix b z2).3) && (decide ((ix a z2).4 = (ix b z2).4) && true))))) (post false) (rec1 (IntKind.i64.wrap (z2 + (1 : Int))))) (post true)) ((0 : Int), PUnit.unit))
theorem peqr_w (a : List (api_Rect)) (b : List (api_Rect)) (post : dens (shT peqr_sp.rs []) → Prop) : peqr_W a b (fun y0 => post (y0, ())) = walkG (callR Tryz.prog peqr_C (drawR Tryz.prog tau) 8 0) 178 false [tv (.sl (.st .api_Rect)) a, tv (.sl (.st .api_Rect)) b] peqr_sp.rs post := by kernel_rfl
theorem peqr_of (h : ∀ (a : List (api_Rect)) (b : List (api_Rect)) (post : Bool → Prop), peqr_P a b post → peqr_W a b post) : SpecOK Tryz.prog peqr_sp := SpecOK.of_rules (C := peqr_C) (dr := drawR Tryz.prog tau) (n := 8) (fk := 0) .nil (drawR_ok tau) fun x post hp => HoldW.of (peqr_w x.1 x.2.1 post) (h x.1 x.2.1 (fun y0 => post (y0, ())) hp)
theorem peqr_ok : SpecOK Tryz.prog peqr_sp := peqr_of fun a b post hp => by
  obtain ⟨hl, hp⟩ := hp
  unfold peqr_W
  intro _ _
  refine IFB.mk (fun hb => hp _ ?_) (fun hb _ => ?_)
  · have hb : ¬ (a.length : Int) = b.length := by simpa using hb
    constructor
    · intro h; cases h
    · intro h; rw [h] at hb; exact absurd rfl hb
  · have hb : (a.length : Int) = b.length := by simpa using hb
    have hab : a.length = b.length := by omega
    have hiff := list_eq_iff hab
    refine loopCmp (n := a.length) (by omega) (p := fun j => ix a (j : Int) = ix b (j : Int)) (fun rec k hk hpre hrec => ⟨by omega, by omega, IFB.mk (fun hb => hp _ ?_) (fun hb => hrec ?_)⟩) fun hall => hp _ ?_
    · constructor
      · intro h; cases h
      · intro h
        rw [hiff.1 h k hk] at hb
        simp at hb
    · generalize ix a (k : Int) = u at hb ⊢
      generalize ix b (k : Int) = v at hb ⊢
      cases u
      cases v
      simp at hb
      simp [hb]
    · exact ⟨fun _ => hiff.2 hall, fun _ => rfl⟩

def prects_P (l : List (region_band)) (post : List (api_Rect) → Prop) : Prop := ((flat l).length ≤ 1000000000 ∧ l.length ≤ 1000000000) ∧ post (flat l)
def prects_sp : Spec := ⟨196, false, true, [.sl (.st .region_band)], .dat (.sl (.st .api_Rect)), fun x post => prects_P (x.1 : List (region_band)) (fun y0 => post (y0, ()))⟩
def prects_C : CtxR := ⟨tau, [], lookJ [(0, 7, ⟨[(10, .dat (.int .i64)), (3, .own 65 (.st .api_Rect))], [], [11, 12, 13, 5, 14, 15, 16, 33, 32, 31, 30, 29, 28, 27, 26, 25, 24, 23, 22, 21, 7, 20, 19, 17, 18, 34], [], []⟩), (0, 13, ⟨[(17, .dat (.int .i64)), (3, .own 65 (.st .api_Rect))], [], [18, 19, 20, 7, 21, 22, 23, 24, 25, 26, 27, 28, 29, 30, 31, 32, 33], [0], []⟩)]⟩
def prects_W (l : List (region_band)) (post : List (api_Rect) → Prop) : Prop := (↑l.length : Int) ≤ (9223372036854775807 : Int) → LOOP [Ty.int IntKind.i64, (Ty.st Sn.api_Rect).sl] (fun (rec1 : Int → List api_Rect → Prop) (z2 : Int) (z3 : List api_Rect) ↦ IFB (decide (z2 < (↑l.length : Int))) (((0 : Int) ≤ z2 ∧ z2 < (↑l.length : Int)) ∧ ((↑(ix l z2).3.length : Int) ≤ (9223372036854775807 : Int) → LOOP [Ty.int IntKind.i64, (Ty.st Sn.api_Rect).sl] (fun (rec4 : Int → List api_Rect → Prop) (z5 : Int) (z6 : List api_Rect) ↦ IFB (decide (z5 < (↑(ix l z2).3.length : Int))) (((0 : Int) ≤ z5 ∧ z5 < (↑(ix l z2).3.length : Int)) ∧ (z6.length + [{ Left := (ix (ix l z2).3 z5).1, Low := (ix l z2).1, Right := (ix (ix l z2).3 z5).2, High := (ix l z2).2 : api_Rect }].length) * (32 : Nat) ≤ (140737488355328 : Nat) ∧ rec4 (IntKind.i64.wrap (z5 + (1 : Int))) (z6 ++ [{ Left := (ix (ix l z2).3 z5).1, Low := (ix l z2).1, Right := (ix (ix l z2).3 z5).2, High := (ix l z2).2 : api_Rect }])) (rec1 (IntKind.i64.wrap (z2 + (1 : Int))) z6)) ((0 : Int), z3, PUnit.unit))) (post z3)) ((0 : Int), [], PUnit.unit)
theorem prects_w (l : List (region_band)) (post : dens (shT prects_sp.rs []) → Prop) : prects_W l (fun y0 => post (y0, ())) = walkG (callR Tryz.prog prects_C (drawR Tryz.prog tau) 8 0) 196 false [tv (.sl (.st .region_band)) l] prects_sp.rs post := by kernel_rfl
theorem prects_of (h : ∀ (l : List (region_band)) (post : List (api_Rect) → Prop), prects_P l post → prects_W l post) : SpecOK Tryz.prog prects_sp := SpecOK.of_rules (C := prects_C) (dr := drawR Tryz.prog tau) (n := 8) (fk := 0) .nil (drawR_ok tau) fun x post hp => HoldW.of (prects_w x.1 post) (h x.1 (fun y0 => post (y0, ())) hp)
theorem flat1_cons {u v : Int} {s : Sp} {r : List Sp} : flat1 ⟨u, v, s :: r⟩ = ⟨s.1, u, s.2, v⟩ :: flat1 ⟨u, v, r⟩ := rfl
theorem rects_in {b : Bd} {A : List Rc} {K : List Rc → Prop} (hl : A.length + (flat1 b).length ≤ 1000000000) (hK : K (A ++ flat1 b)) :
    LOOP [Ty.int IntKind.i64, (Ty.st Sn.api_Rect).sl] (fun (rec4 : Int → List api_Rect → Prop) (z5 : Int) (z6 : List api_Rect) ↦ IFB (decide (z5 < (↑b.3.length : Int))) (((0 : Int) ≤ z5 ∧ z5 < (↑b.3.length : Int)) ∧ (z6.length + [{ Left := (ix b.3 z5).1, Low := b.1, Right := (ix b.3 z5).2, High := b.2 : api_Rect }].length) * 32 ≤ 140737488355328 ∧ rec4 (IntKind.i64.wrap (z5 + (1 : Int))) (z6 ++ [{ Left := (ix b.3 z5).1, Low := b.1, Right := (ix b.3 z5).2, High := b.2 : api_Rect }])) (K z6)) ((0 : Int), A, PUnit.unit) := by
  have hfl : (flat1 b).length = b.3.length := by unfold flat1; simp
  refine LOOP.list b.3 (fun k (s : List Rc) => ((k : Int), s, ())) (fun u => Int.toNat u.1) (fun k r (s : List Rc) => s ++ flat1 ⟨b.1, b.2, r⟩ = A ++ flat1 b ∧ s.length = A.length + k) A rfl ⟨rfl, rfl⟩ (fun k s h => by simp) ?_ ?_
  · intro rec k x r s hd hk hkl ⟨g1, g2⟩ hrec
    have hx := ix_of hk
    show IFB _ _ _
    refine IFB.mk (fun _ => ⟨by show 0 ≤ (k : Int) ∧ (k : Int) < b.3.length; omega, ?_⟩) (fun h => absurd (of_decide_eq_false h) (by show ¬ ¬ ((k : Int) < b.3.length); omega))
    dsimp only
    rw [hx]
    refine ⟨by simp only [List.length_cons, List.length_nil]; omega, ?_⟩
    rw [wrapS (by omega)]
    refine hrec _ ⟨?_, ?_⟩
    · rw [← g1, flat1_cons]; simp
    · simp only [List.length_append, List.length_cons, List.length_nil]; omega
  · intro rec s ⟨g1, g2⟩
    show IFB _ _ _
    refine IFB.mk (fun h => absurd (of_decide_eq_true h) (by show ¬ ((b.3.length : Int) < b.3.length); omega)) (fun _ => ?_)
    have g1 : s = A ++ flat1 b := by simpa [flat1] using g1
    show K s
    rw [g1]; exact hK
theorem prects_ok : SpecOK Tryz.prog prects_sp := prects_of fun l post hp => by
  obtain ⟨⟨h1, h2⟩, hp⟩ := hp
  unfold prects_W
  intro _
  refine LOOP.list l (fun k (s : List Rc) => ((k : Int), s, ())) (fun u => Int.toNat u.1) (fun k r (s : List Rc) => s ++ flat r = flat l) [] rfl rfl (fun k s h => by simp) ?_ ?_
  · intro rec k x r s hd hk hkl g1 hrec
    have hx := ix_of hk
    have hfc : flat (x :: r) = flat1 x ++ flat r := rfl
    have hlen : s.length + ((flat1 x).length + (flat r).length) ≤ 1000000000 := by
      have := congrArg List.length g1
      rw [List.length_append, hfc, List.length_append] at this
      omega
    show IFB _ _ _
    refine IFB.mk (fun _ => ⟨by show 0 ≤ (k : Int) ∧ (k : Int) < l.length; omega, ?_⟩) (fun h => absurd (of_decide_eq_false h) (by show ¬ ¬ ((k : Int) < l.length); omega))
    dsimp only
    rw [hx]
    intro _
    refine rects_in (b := x) (A := s) (K := fun z6 => rec (IntKind.i64.wrap ((k : Int) + 1)) z6) (by omega) ?_
    rw [wrapS (by omega)]
    refine hrec _ ?_
    rw [← g1, hfc, List.append_assoc]
  · intro rec s g1
    show IFB _ _ _
    refine IFB.mk (fun h => absurd (of_decide_eq_true h) (by show ¬ ((l.length : Int) < l.length); omega)) (fun _ => ?_)
    have g1 : s = flat l := by simpa [flat] using g1
    show post s
    rw [g1]; exact hp

end RE
end Go.Proofs.YtpeggkeenboacaaGreat
