import Derived.Test.YtmmekdkllccmdaaEgL
import Derived.Test.YtmmekdkllccmdaaEgX
/-
  Regions whose order is drawn, and whose effects do not follow each other in a chain: every order is walked; all of them end in one state.
-/
open Go
namespace Go.Proofs.Ytmmekdkllccmdaa
namespace Eng
variable {P : Program}
theorem opwp_q {o : Oper} {a : Act} {w : World} {K : Act → World → Prop} {Q Q' : Exit → Act → World → Prop} (hp : ∀ c a w, Q' (.panic c) a w → Q (.panic c) a w) (hl : LetsOut Q' → LetsOut Q) (hh : o.wp P a w K Q') : o.wp P a w K Q := by
  unfold Oper.wp at *
  generalize (execOp a.eval o).run P w = r at *
  cases r with
  | ok n w' =>
    cases n <;> simp only [Oper.upon] at hh ⊢ <;>
      first
        | exact hh
        | exact Calls.mono hh (fun e w'' he => by cases e <;> first | exact hl he | exact hp _ _ _ he | exact he)
  | halt x w' => cases x <;> simp only [Oper.upon] at hh ⊢ <;> first | exact hp _ _ _ hh | exact hh
section
variable {w0 : World} {S0 : Ev} {T : Nat → Prop} {ops : Array Oper} {st : St} {Q : St → Prop} {L : Array Bool} {n : Nat}
/-- A drawn region from where it stands: `L` tells what is done. -/
def AD (P : Program) (w0 : World) (S0 : Ev) (T : Nat → Prop) (ops : Array Oper) (n : Nat) (L : Array Bool) (st : St) (Q : St → Prop) : Prop :=
  ∀ a w, Rel w0 S0 T st a w → ∀ Qx : Exit → Act → World → Prop, (∀ c a w, ¬ Qx (.panic c) a w) → (∀ st' a' w', Rel w0 S0 T st' a' w' → Q st' → Qx .normal a' w') → wpAny P .any ops Qx n L a w
theorem AD.done (hd : Region.ready .any ops L = []) (h : Q st) : AD P w0 S0 T ops n L st Q := fun a w hr _ _ hQ => wpAny_done hd (hQ st a w hr h) n
/-- Any of these may come next. -/
inductive ADs (P : Program) (w0 : World) (S0 : Ev) (T : Nat → Prop) (ops : Array Oper) (n : Nat) (L : Array Bool) (st : St) (Q : St → Prop) : List Nat → Prop
  | nil : ADs P w0 S0 T ops n L st Q []
  | cons {i : Nat} {r : List Nat} {o : Oper} (ho : ops[i]? = some o) (h : AO P w0 S0 T ops [o] st (fun st' => AD P w0 S0 T ops n (L.setIfInBounds i true) st' Q)) (t : ADs P w0 S0 T ops n L st Q r) : ADs P w0 S0 T ops n L st Q (i :: r)
theorem ADs.get {r : List Nat} (h : ADs P w0 S0 T ops n L st Q r) : ∀ i ∈ r, ∃ o, ops[i]? = some o ∧ AO P w0 S0 T ops [o] st (fun st' => AD P w0 S0 T ops n (L.setIfInBounds i true) st' Q) := by
  induction h with
  | nil => intro i hi; cases hi
  | cons ho h t ih =>
    intro i hi
    rcases List.mem_cons.1 hi with rfl | hi
    · exact ⟨_, ho, h⟩
    · exact ih i hi
def qOf (K : Act → World → Prop) (Qx : Exit → Act → World → Prop) : Exit → Act → World → Prop
  | .normal, a, w => K a w
  | e, a, w => Qx e a w
theorem ao_op {i : Nat} {o : Oper} (ho : ops[i]? = some o) (h : AO P w0 S0 T ops [o] st Q) {a : Act} {w : World} (hr : Rel w0 S0 T st a w) {K : Act → World → Prop} {Qx : Exit → Act → World → Prop} (hQ : ∀ st' a' w', Rel w0 S0 T st' a' w' → Q st' → K a' w') : wpOp P ops Qx i K a w := by
  have h1 := h a w hr (qOf K Qx) hQ
  unfold wpOp
  rw [ho]
  unfold wpList at h1
  have hn : wpList P ops (qOf K Qx) [] = K := rfl
  rw [hn] at h1
  have hl : LetsOut (qOf K Qx) → LetsOut Qx := fun ⟨a, w, h⟩ => ⟨a, w, h⟩
  by_cases hw : Region.wanted o (yielded ops a.tmps) = true
  · simp only [hw, if_true] at h1 ⊢
    exact h1.imp (fun h => opwp_q (fun _ _ _ h => h) hl h) (fun h => ⟨h.1, hl h.2⟩)
  · simp only [hw] at h1 ⊢
    exact h1
theorem AD.step {rs : List Nat} (hd : Region.ready .any ops L = rs) (hne : rs.isEmpty = false) (h : ADs P w0 S0 T ops n L st Q rs) : AD P w0 S0 T ops (n + 1) L st Q := by
  intro a w hr Qx hnp hQ
  refine wpAny_all hd (fun e => by rw [e] at hne; cases hne) fun i hi => ?_
  obtain ⟨o, ho, ha⟩ := h.get i hi
  exact ao_op ho ha hr fun st' a' w' hr' hk => hk a' w' hr' Qx hnp hQ
/-- An operation that moves a slot is done ahead of the others. -/
theorem AD.take {i d : Nat} {x : Operand} {ty : TypeId} {pos : String} {after : Array Edge} {s : SV} (ho : ops[i]? = some ⟨some d, .move x, ty, pos, after, none⟩) (hs : SLe (st.ev x) s) (hd : Nat.ble (d + 1) st.n = true) (ht : Nat.ble s.top st.nx = true)
    (hns : Region.noSelect ops = true) (hf : Region.free .any ops L i = true) (hr : (Region.ready .any ops L).contains i = true) (h : AD P w0 S0 T ops n (L.setIfInBounds i true) (st.put d s) Q) : AD P w0 S0 T ops (n + 1) L st Q := by
  rintro a w ⟨c, hT, hx⟩ Qx hnp hQ
  refine wpAny_take (v := a.eval x) ho hns hf hr (fun c a w h => absurd h (hnp _ _ _)) (.inl ⟨by simp [Region.wanted], fun w => by simp [execOp]⟩) ?_
  have he := Ext.refl (S := c.S) (w := w) hx.sb
  exact h _ _ ⟨⟨c.S, c.B, c.O, c.T⟩, hT, (hx.grow he).put (Nat.le_of_ble_eq_true hd) (hs _ _ _ (ev_rel hx x)) (Nat.le_of_ble_eq_true ht)⟩ Qx hnp hQ
theorem AC.drawAll {id : Nat} {Q : Exit → St → Prop} (stF : St) (hm : P.follows .mixedOrders = true) (hn : ops.size = n) (h : AD P w0 S0 T ops n (Array.replicate n false) st (fun st' => Le st' stF)) (h2 : Q .normal stF) : AC P w0 S0 T (.region id ops true) st Q := by
  rintro a w ⟨c, hT, hr⟩
  subst hn
  let Qx : Exit → Act → World → Prop := fun e a' w' => e = .normal ∧ Rel w0 S0 T stF a' w'
  refine wp_mono (Q := Qx) ?_ (fun e a' w' ⟨he, k⟩ => ⟨stF, k, by rw [he]; exact h2⟩)
  refine wp_region_any hm ?_
  exact h a _ ⟨c, hT, hr.drew _⟩ Qx (fun c a w h => by cases h.1) (fun st' a' w' k1 k2 => ⟨rfl, k2 _ _ _ _ _ k1⟩)
end
end Eng
end Go.Proofs.Ytmmekdkllccmdaa
