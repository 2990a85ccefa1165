/-
  The function that makes the tape.
-/
import Derived.Test.YtblcakaohlgagaaGreatUEngC
import Derived.Test.YtblcakaohlgagaaGreatProg
import Derived.KernelRfl
import Derived.WalkKit
import Derived.WalkSpells
import Derived.WalkLawsBesides
import Derived.BigQuiet
import Derived.Deep.QuietTactic
set_option maxRecDepth 20000
namespace Go.Proofs.YtblcakaohlgagaaGreat
open Go.RowKit
namespace RE
namespace PL
end PL
open PL
/-- A loop over a list, from the front: what is said of the rest that is still to come. -/
theorem LOOP.list {ts : List Ty} {F : Cur ts → Cur ts} {v : dens ts} {α σ : Type} (l : List α) (st : Nat → σ → dens ts) (idx : dens ts → Nat) (G : Nat → List α → σ → Prop) (s0 : σ) (h0 : v = st 0 s0) (hG : G 0 l s0)
    (hidx : ∀ k s, k ≤ l.length → idx (st k s) = k)
    (hs : ∀ (rec : Cur ts) (k : Nat) (x : α) (r : List α) (s : σ), l.drop k = x :: r → l[k]? = some x → k < l.length → G k (x :: r) s → (∀ s', G (k + 1) r s' → app ts rec (st (k + 1) s')) → app ts (F rec) (st k s))
    (he : ∀ (rec : Cur ts) (s : σ), G l.length [] s → app ts (F rec) (st l.length s)) : LOOP ts F v := by
  refine ⟨fun u => ∃ k s, k ≤ l.length ∧ u = st k s ∧ G k (l.drop k) s, fun u => l.length - idx u, ⟨0, s0, Nat.zero_le _, h0, hG⟩, ?_⟩
  rintro x ⟨k, s, hk, rfl, hg⟩
  by_cases hlt : k < l.length
  · have hd : l.drop k = l[k] :: l.drop (k + 1) := List.drop_eq_getElem_cons hlt
    refine hs _ k l[k] (l.drop (k + 1)) s hd (List.getElem?_eq_getElem hlt) hlt (hd ▸ hg) fun s' hg' => ?_
    rw [app_lam]
    refine ⟨⟨k + 1, s', hlt, rfl, hg'⟩, ?_⟩
    show l.length - idx (st (k + 1) s') < l.length - idx (st k s)
    rw [hidx k s hk, hidx (k + 1) s' hlt]
    omega
  · have hk' : k = l.length := by omega
    subst hk'
    rw [List.drop_length] at hg
    exact he _ s hg
/-- A loop that counts down a number. -/
theorem LOOP.fuel {ts : List Ty} {F : Cur ts → Cur ts} {v : dens ts} (I : dens ts → Prop) (μ : dens ts → Nat) (h0 : I v)
    (hs : ∀ (rec : Cur ts) x, I x → (∀ y, I y → μ y < μ x → app ts rec y) → app ts (F rec) x) : LOOP ts F v :=
  ⟨I, μ, h0, fun x hx => hs _ x hx fun y hy hm => by rw [app_lam]; exact ⟨hy, hm⟩⟩
theorem ix_of {α : Type} [Inhabited α] {l : List α} {k : Nat} {x : α} (h : l[k]? = some x) : ix l (k : Int) = x := by
  unfold ix
  rw [Int.toNat_natCast, List.getD_eq_getElem?_getD, h]; rfl
theorem wrap_in {z : Int} (h1 : -9223372036854775808 ≤ z) (h2 : z ≤ 9223372036854775807) : IntKind.i64.wrap z = z := w64_eq h1 h2
theorem gx_t (b : Bool) : gx true b = b := rfl
end RE
end Go.Proofs.YtblcakaohlgagaaGreat
set_option maxRecDepth 100000
set_option linter.unusedVariables false
namespace Go.Proofs.YtblcakaohlgagaaGreat
open Go.RowKit
namespace RE
open PL
def NewP (a : Option Addr) (len cap : Nat) (w : World) (e : Ending) (w' : World) : Prop := ∃ m, m ≤ len ∧ m ≤ 400 ∧ e = .returned (.pointer (some ⟨w.heap.size, 0, none⟩)) ∧ w' = w.alloc (.cells #[.slice a m cap, .int .i64 0] 76)
theorem knew_any (a : Option Addr) (len cap : Nat) (w : World) (h1 : len ≤ cap) (h2 : cap ≤ 9223372036854775807) (h3 : a = none → len = 0) : Calls Tryz.prog 10 #[.slice a len cap] w (NewP a len cap w) := by
  cases a with
  | none =>
    have h3 := h3 rfl
    subst h3
    go_enter Tryz.func10, Tryz.ntmps10
    go_wp2
    go_ret
    exact ⟨0, by omega, by omega, rfl, rfl⟩
  | some x =>
    by_cases hlt : (len : Int) ≤ 400
    · go_enter Tryz.func10, Tryz.ntmps10
      go_wp2
      go_ret
      exact ⟨len, by omega, by omega, rfl, rfl⟩
    · have hcap : 400 ≤ cap := by omega
      go_enter Tryz.func10, Tryz.ntmps10
      go_wp2
      go_ret
      exact ⟨400, by omega, by omega, rfl, rfl⟩
theorem knew_ok : NewOK Tryz.prog 10 := by
  intro l w S u hS hr
  cases hr with
  | sl _ _ ad cap b off f hc hm ha hx h =>
    refine (knew_any ad l.length cap w hc (by unfold maxLen at hm; omega) (fun e => ?_)).mono ?_
    · rcases ha with ha | ha
      · rw [ha]; rfl
      · rw [e] at ha; cases ha
    · rintro e w' ⟨m, hm1, hm2, rfl, rfl⟩
      refine ⟨w.heap.size, rfl, Nat.le_refl _, ⟨ad, m, cap, 0, _, heap_alloc_new w _, Nat.zero_le _, hm2, fun hl => ?_⟩, (Below.refl _ _).alloc (Nat.le_refl _) _⟩
      rcases ha with ha | ha
      · rw [ha] at hm1; have : m ≤ 0 := hm1; omega
      · refine ⟨b, off, ha, fun i hi => ?_⟩
        have hil : i < l.length := by omega
        obtain ⟨k1, k2, k3⟩ := hx i hil 0 (by decide)
        have hsz : off + i * size (.int .i64) + 0 = off + i := by show off + i * 1 + 0 = _; omega
        rw [hsz] at k1 k2
        refine ⟨k1, l[i], ?_⟩
        rw [World.cell?_of_block (Below.heap_alloc w _ _ (hS _ _ k1)), k2]
        have := h i l[i] 0 _ (List.getElem?_eq_getElem hil) rfl
        have this : Rd S w (.v (.int .i64 l[i])) (f i 0) := this
        rw [rd_v this]
end RE
end Go.Proofs.YtblcakaohlgagaaGreat
set_option linter.unusedVariables false
set_option maxRecDepth 100000
namespace Go.Proofs.YtblcakaohlgagaaGreat
open Go.RowKit
namespace RE
namespace PL
abbrev Sp := region_Span
def inSp (l : List Sp) (x : Int) : Prop := ∃ s ∈ l, s.1 ≤ x ∧ x < s.2
def SpOK (l : List Sp) : Prop := (∀ s ∈ l, s.1 < s.2) ∧ l.Pairwise (fun s t => s.2 < t.1)
abbrev Bd := region_band
def inBd (l : List Bd) (x y : Int) : Prop := ∃ b ∈ l, b.low ≤ y ∧ y < b.high ∧ inSp b.spans x
structure BdOK (l : List Bd) : Prop where
  each : ∀ b ∈ l, b.low < b.high ∧ b.spans ≠ [] ∧ SpOK b.spans
  srt : l.Pairwise (fun b c => b.high ≤ c.low)
  ne : l.Pairwise (fun b c => b.high = c.low → b.spans ≠ c.spans)
end PL
open PL
theorem PL.SpOK.cons {s : Sp} {r : List Sp} (h : SpOK (s :: r)) : s.1 < s.2 ∧ (∀ t ∈ r, s.2 < t.1) ∧ SpOK r := by
  obtain ⟨h1, h2⟩ := h
  rw [List.pairwise_cons] at h2
  exact ⟨h1 s (by simp), h2.1, fun t ht => h1 t (by simp [ht]), h2.2⟩
theorem PL.SpOK.nil : SpOK [] := ⟨fun s h => (by cases h), List.Pairwise.nil⟩
theorem PL.SpOK.mk {s : Sp} {r : List Sp} (h1 : s.1 < s.2) (h2 : ∀ t ∈ r, s.2 < t.1) (h3 : SpOK r) : SpOK (s :: r) :=
  ⟨fun t ht => (List.mem_cons.1 ht).elim (fun e => e ▸ h1) (h3.1 t), List.pairwise_cons.2 ⟨h2, h3.2⟩⟩
theorem inSp_cons {s : Sp} {r : List Sp} {x : Int} : inSp (s :: r) x ↔ (s.1 ≤ x ∧ x < s.2) ∨ inSp r x := by
  unfold inSp
  constructor
  · rintro ⟨t, ht, h⟩
    rcases List.mem_cons.1 ht with rfl | ht
    · exact .inl h
    · exact .inr ⟨t, ht, h⟩
  · rintro (h | ⟨t, ht, h⟩)
    · exact ⟨s, by simp, h⟩
    · exact ⟨t, by simp [ht], h⟩
theorem inSp_nil {x : Int} : ¬ inSp [] x := fun ⟨s, h, _⟩ => by cases h
theorem inSp_app {a b : List Sp} {x : Int} : inSp (a ++ b) x ↔ inSp a x ∨ inSp b x := by
  unfold inSp
  constructor
  · rintro ⟨t, ht, h⟩
    rcases List.mem_append.1 ht with ht | ht
    · exact .inl ⟨t, ht, h⟩
    · exact .inr ⟨t, ht, h⟩
  · rintro (⟨t, ht, h⟩ | ⟨t, ht, h⟩)
    · exact ⟨t, by simp [ht], h⟩
    · exact ⟨t, by simp [ht], h⟩
/-- Spans of a row are told by their squares. -/
theorem sp_uniq : ∀ {a b : List Sp}, SpOK a → SpOK b → (∀ x, inSp a x ↔ inSp b x) → a = b
  | [], [], _, _, _ => rfl
  | [], t :: q, _, hb, h => by
    have hb := hb.cons
    exact absurd ((h t.1).2 (inSp_cons.2 (.inl ⟨Int.le_refl _, hb.1⟩))) inSp_nil
  | s :: r, [], ha, _, h => by
    have ha := ha.cons
    exact absurd ((h s.1).1 (inSp_cons.2 (.inl ⟨Int.le_refl _, ha.1⟩))) inSp_nil
  | s :: r, t :: q, ha, hb, h => by
    obtain ⟨a1, a2, a3⟩ := ha.cons
    obtain ⟨b1, b2, b3⟩ := hb.cons
    have lowA : ∀ x, inSp r x → s.2 < x := fun x ⟨u, hu, h1, h2⟩ => by have := a2 u hu; omega
    have lowB : ∀ x, inSp q x → t.2 < x := fun x ⟨u, hu, h1, h2⟩ => by have := b2 u hu; omega
    have e1 : s.1 = t.1 := by
      have h1 := inSp_cons.1 ((h s.1).1 (inSp_cons.2 (.inl ⟨Int.le_refl _, a1⟩)))
      have h2 := inSp_cons.1 ((h t.1).2 (inSp_cons.2 (.inl ⟨Int.le_refl _, b1⟩)))
      rcases h1 with h1 | h1
      · rcases h2 with h2 | h2
        · omega
        · have := lowA _ h2; omega
      · have := lowB _ h1
        rcases h2 with h2 | h2
        · omega
        · have := lowA _ h2; omega
    have e2 : s.2 = t.2 := by
      rcases Int.lt_trichotomy s.2 t.2 with hlt | he | hlt
      · have h1 := inSp_cons.1 ((h s.2).2 (inSp_cons.2 (.inl ⟨by omega, hlt⟩)))
        rcases h1 with h1 | h1
        · omega
        · have := lowA _ h1; omega
      · exact he
      · have h1 := inSp_cons.1 ((h t.2).1 (inSp_cons.2 (.inl ⟨by omega, hlt⟩)))
        rcases h1 with h1 | h1
        · omega
        · have := lowB _ h1; omega
    have hs : s = t := by cases s; cases t; simp_all
    subst hs
    congr 1
    refine sp_uniq a3 b3 fun x => ?_
    constructor
    · intro hx
      have := lowA x hx
      rcases inSp_cons.1 ((h x).1 (inSp_cons.2 (.inr hx))) with h1 | h1
      · omega
      · exact h1
    · intro hx
      have := lowB x hx
      rcases inSp_cons.1 ((h x).2 (inSp_cons.2 (.inr hx))) with h1 | h1
      · omega
      · exact h1
theorem sp_some {a : List Sp} (h : SpOK a) (h2 : a ≠ []) : ∃ x, inSp a x := by
  cases a with
  | nil => exact absurd rfl h2
  | cons s r => exact ⟨s.1, inSp_cons.2 (.inl ⟨Int.le_refl _, h.cons.1⟩)⟩
theorem inBd_cons {b : Bd} {r : List Bd} {x y : Int} : inBd (b :: r) x y ↔ (b.low ≤ y ∧ y < b.high ∧ inSp b.spans x) ∨ inBd r x y := by
  unfold inBd
  constructor
  · rintro ⟨t, ht, h⟩
    rcases List.mem_cons.1 ht with rfl | ht
    · exact .inl h
    · exact .inr ⟨t, ht, h⟩
  · rintro (h | ⟨t, ht, h⟩)
    · exact ⟨b, by simp, h⟩
    · exact ⟨t, by simp [ht], h⟩
theorem inBd_nil {x y : Int} : ¬ inBd [] x y := fun ⟨s, h, _⟩ => by cases h
theorem PL.BdOK.cons {b : Bd} {r : List Bd} (h : BdOK (b :: r)) : (b.low < b.high ∧ b.spans ≠ [] ∧ SpOK b.spans) ∧ (∀ c ∈ r, b.high ≤ c.low) ∧ BdOK r ∧ (∀ c ∈ r, b.high = c.low → b.spans ≠ c.spans) := by
  obtain ⟨h1, h2, h3⟩ := h
  rw [List.pairwise_cons] at h2 h3
  exact ⟨h1 b (by simp), h2.1, ⟨fun c hc => h1 c (by simp [hc]), h2.2, h3.2⟩, h3.1⟩
/-- A row of bands that begin behind it has nothing. -/
theorem bd_low {r : List Bd} {m x y : Int} (h : ∀ c ∈ r, m ≤ c.low) (hx : inBd r x y) : m ≤ y := by
  obtain ⟨b, hb, h1, _⟩ := hx
  have := h b hb; omega
/-- The row where a list of bands begins. -/
theorem bd_at {c : Bd} {q : List Bd} (h : BdOK (c :: q)) {m x y : Int} (hm : ∀ d ∈ c :: q, m ≤ d.low) (hx : inBd (c :: q) x m) : c.low = m ∧ inSp c.spans x := by
  obtain ⟨h1, h2, h3, _⟩ := h.cons
  rcases inBd_cons.1 hx with ⟨e1, e2, e3⟩ | hx
  · have := hm c (by simp)
    exact ⟨by omega, e3⟩
  · obtain ⟨u, hu, k1, k2, k3⟩ := hx
    have := h2 u hu
    have := hm c (by simp)
    omega
theorem bd_uniq : ∀ {a b : List Bd}, BdOK a → BdOK b → (∀ x y, inBd a x y ↔ inBd b x y) → a = b
  | [], [], _, _, _ => rfl
  | [], c :: q, _, hb, h => by
    obtain ⟨⟨h1, h2, h3⟩, _⟩ := hb.cons
    obtain ⟨x, hx⟩ := sp_some h3 h2
    exact absurd ((h x c.low).2 (inBd_cons.2 (.inl ⟨Int.le_refl _, h1, hx⟩))) inBd_nil
  | b :: r, [], ha, _, h => by
    obtain ⟨⟨h1, h2, h3⟩, _⟩ := ha.cons
    obtain ⟨x, hx⟩ := sp_some h3 h2
    exact absurd ((h x b.low).1 (inBd_cons.2 (.inl ⟨Int.le_refl _, h1, hx⟩))) inBd_nil
  | b :: r, c :: q, ha, hb, h => by
    obtain ⟨⟨a1, a2, a3⟩, a4, a5, a6⟩ := ha.cons
    obtain ⟨⟨b1, b2, b3⟩, b4, b5, b6⟩ := hb.cons
    have allA : ∀ d ∈ b :: r, b.low ≤ d.low := fun d hd => by
      rcases List.mem_cons.1 hd with rfl | hd
      · exact Int.le_refl _
      · have := a4 d hd; omega
    have allB : ∀ d ∈ c :: q, c.low ≤ d.low := fun d hd => by
      rcases List.mem_cons.1 hd with rfl | hd
      · exact Int.le_refl _
      · have := b4 d hd; omega
    obtain ⟨xa, hxa⟩ := sp_some a3 a2
    obtain ⟨xb, hxb⟩ := sp_some b3 b2
    have e1 : b.low = c.low := by
      have h1 := bd_low allB ((h xa b.low).1 (inBd_cons.2 (.inl ⟨Int.le_refl _, a1, hxa⟩)))
      have h2 := bd_low allA ((h xb c.low).2 (inBd_cons.2 (.inl ⟨Int.le_refl _, b1, hxb⟩)))
      omega
    have rowA : ∀ x y, b.low ≤ y → y < b.high → (inBd (b :: r) x y ↔ inSp b.spans x) := fun x y h1 h2 => by
      rw [inBd_cons]
      constructor
      · rintro (h | h)
        · exact h.2.2
        · have := bd_low a4 h; omega
      · exact fun h => .inl ⟨h1, h2, h⟩
    have rowB : ∀ x y, c.low ≤ y → y < c.high → (inBd (c :: q) x y ↔ inSp c.spans x) := fun x y h1 h2 => by
      rw [inBd_cons]
      constructor
      · rintro (h | h)
        · exact h.2.2
        · have := bd_low b4 h; omega
      · exact fun h => .inl ⟨h1, h2, h⟩
    have e2 : b.spans = c.spans := sp_uniq a3 b3 fun x => by
      rw [← rowA x b.low (Int.le_refl _) a1, h, e1, rowB x c.low (Int.le_refl _) b1]
    have e3 : b.high = c.high := by
      rcases Int.lt_trichotomy b.high c.high with hlt | he | hlt
      · exfalso
        have h1 : ∀ x, inBd r x b.high ↔ inSp c.spans x := fun x => by
          rw [← rowB x b.high (by omega) hlt, ← h, inBd_cons]
          constructor
          · exact fun h => .inr h
          · rintro (h | h)
            · omega
            · exact h
        cases r with
        | nil => exact absurd ((h1 xb).2 hxb) inBd_nil
        | cons d t =>
          obtain ⟨k1, _⟩ := bd_at (y := 0) a5 a4 ((h1 xb).2 hxb)
          refine a6 d (by simp) k1.symm ?_
          rw [e2]
          obtain ⟨⟨d1, d2, d3⟩, _⟩ := a5.cons
          refine sp_uniq b3 d3 fun x => ?_
          rw [← h1 x]
          constructor
          · exact fun hx => (bd_at (y := 0) a5 a4 hx).2
          · exact fun hx => inBd_cons.2 (.inl ⟨by omega, by omega, hx⟩)
      · exact he
      · exfalso
        have h1 : ∀ x, inBd q x c.high ↔ inSp b.spans x := fun x => by
          rw [← rowA x c.high (by omega) hlt, h, inBd_cons]
          constructor
          · exact fun h => .inr h
          · rintro (h | h)
            · omega
            · exact h
        cases q with
        | nil => exact absurd ((h1 xa).2 hxa) inBd_nil
        | cons d t =>
          obtain ⟨k1, _⟩ := bd_at (y := 0) b5 b4 ((h1 xa).2 hxa)
          refine b6 d (by simp) k1.symm ?_
          rw [← e2]
          obtain ⟨⟨d1, d2, d3⟩, _⟩ := b5.cons
          refine sp_uniq a3 d3 fun x => ?_
          rw [← h1 x]
          constructor
          · exact fun hx => (bd_at (y := 0) b5 b4 hx).2
          · exact fun hx => inBd_cons.2 (.inl ⟨by omega, by omega, hx⟩)
    have hbc : b = c := by cases b; cases c; simp_all
    subst hbc
    congr 1
    refine bd_uniq a5 b5 fun x y => ?_
    constructor
    · intro hx
      have := bd_low a4 hx
      rcases inBd_cons.1 ((h x y).1 (inBd_cons.2 (.inr hx))) with h1 | h1
      · omega
      · exact h1
    · intro hx
      have := bd_low b4 hx
      rcases inBd_cons.1 ((h x y).2 (inBd_cons.2 (.inr hx))) with h1 | h1
      · omega
      · exact h1
/-! ### spans out of edges -/
namespace PL
/-- A span more, joined with the last one if they touch. -/
def addSp (out : List Sp) (u v : Int) : List Sp := match out.getLast? with
  | some s => if s.2 = u then out.dropLast ++ [⟨s.1, v⟩] else out ++ [⟨u, v⟩]
  | none => [⟨u, v⟩]
/-- The spans between neighbouring edges that are chosen. -/
def spansG (p : Int → Bool) : List Sp → List Int → List Sp
  | out, u :: v :: r => spansG p (if p u = true then addSp out u v else out) (v :: r)
  | out, _ => out
def spansOf (p : Int → Bool) (xs : List Int) : List Sp := spansG p [] xs
/-- In the part between two neighbouring edges of which the first is chosen. -/
def inEdges (p : Int → Bool) : List Int → Int → Prop
  | u :: v :: r, x => (u ≤ x ∧ x < v ∧ p u = true) ∨ inEdges p (v :: r) x
  | _, _ => False
end PL
theorem addSp_ok {out : List Sp} {u v : Int} (h : SpOK out) (huv : u < v) (hl : ∀ s ∈ out, s.2 ≤ u) : SpOK (addSp out u v) ∧ (∀ s ∈ addSp out u v, s.2 ≤ v) ∧ ∀ x, inSp (addSp out u v) x ↔ inSp out x ∨ (u ≤ x ∧ x < v) := by
  unfold addSp
  rcases List.eq_nil_or_concat out with rfl | ⟨A, s, rfl⟩
  · refine ⟨SpOK.mk huv (fun t ht => by cases ht) SpOK.nil, fun s hs => ?_, fun x => ?_⟩
    · simp at hs; subst hs; exact Int.le_refl _
    · simp [inSp_cons, inSp_nil]
  · simp only [List.concat_eq_append] at *
    simp only [List.getLast?_append, List.getLast?_singleton, Option.some_or]
    obtain ⟨h1, h2⟩ := h
    rw [List.pairwise_append] at h2
    obtain ⟨p1, _, p3⟩ := h2
    have hs := h1 s (by simp)
    have hsl := hl s (by simp)
    split
    · rename_i e
      rw [List.dropLast_concat]
      refine ⟨⟨fun t ht => ?_, ?_⟩, fun t ht => ?_, fun x => ?_⟩
      · rcases List.mem_append.1 ht with ht | ht
        · exact h1 t (by simp [ht])
        · rw [List.mem_singleton.1 ht]; show s.1 < v; omega
      · rw [List.pairwise_append]
        refine ⟨p1, List.pairwise_singleton _ _, fun a ha b hb => ?_⟩
        rw [List.mem_singleton.1 hb]
        exact p3 a ha s (by simp)
      · rcases List.mem_append.1 ht with ht | ht
        · have := hl t (by simp [ht]); omega
        · rw [List.mem_singleton.1 ht]; exact Int.le_refl _
      · rw [inSp_app, inSp_app, inSp_cons, inSp_cons]
        simp only [inSp_nil, or_false]
        constructor
        · rintro (h | h)
          · exact .inl (.inl h)
          · by_cases hx : x < u
            · exact .inl (.inr ⟨h.1, by omega⟩)
            · exact .inr ⟨by omega, h.2⟩
        · rintro ((h | h) | h)
          · exact .inl h
          · exact .inr ⟨h.1, by show x < v; omega⟩
          · exact .inr ⟨by show s.1 ≤ x; omega, h.2⟩
    · rename_i e
      refine ⟨⟨fun t ht => ?_, ?_⟩, fun t ht => ?_, fun x => ?_⟩
      · rcases List.mem_append.1 ht with ht | ht
        · exact h1 t ht
        · rw [List.mem_singleton.1 ht]; exact huv
      · rw [List.pairwise_append]
        refine ⟨List.pairwise_append.2 ⟨p1, List.pairwise_singleton _ _, p3⟩, List.pairwise_singleton _ _, fun a ha b hb => ?_⟩
        rw [List.mem_singleton.1 hb]
        show a.2 < u
        rcases List.mem_append.1 ha with ha | ha
        · have := p3 a ha s (by simp); have := hl s (by simp); omega
        · rw [List.mem_singleton.1 ha]; omega
      · rcases List.mem_append.1 ht with ht | ht
        · have := hl t ht; omega
        · rw [List.mem_singleton.1 ht]; exact Int.le_refl _
      · rw [inSp_app, inSp_cons]
        simp only [inSp_nil, or_false]
theorem spansG_ok {p : Int → Bool} : ∀ {xs : List Int} {out : List Sp}, xs.Pairwise (· < ·) → SpOK out → (∀ u r, xs = u :: r → ∀ s ∈ out, s.2 ≤ u) → SpOK (spansG p out xs) ∧ ∀ x, inSp (spansG p out xs) x ↔ inSp out x ∨ inEdges p xs x
  | [], out, _, h, _ => ⟨h, fun x => by simp [spansG, inEdges]⟩
  | [u], out, _, h, _ => ⟨h, fun x => by simp [spansG, inEdges]⟩
  | u :: v :: r, out, hx, h, hl => by
    rw [List.pairwise_cons] at hx
    have huv := hx.1 v (by simp)
    have hlu := hl u (v :: r) rfl
    unfold spansG
    by_cases hp : p u = true
    · rw [if_pos hp]
      obtain ⟨q1, q2, q3⟩ := addSp_ok h huv hlu
      obtain ⟨i1, i2⟩ := spansG_ok (p := p) hx.2 q1 (fun u' r' e s hs => by injection e with e; subst e; exact q2 s hs)
      refine ⟨i1, fun x => ?_⟩
      rw [i2, q3]
      show _ ↔ _ ∨ (_ ∨ _)
      simp only [hp, and_true]
      rw [or_assoc]
    · rw [if_neg hp]
      obtain ⟨i1, i2⟩ := spansG_ok (p := p) hx.2 h (fun u' r' e s hs => by injection e with e; subst e; have := hlu s hs; omega)
      refine ⟨i1, fun x => ?_⟩
      rw [i2]
      show _ ↔ _ ∨ (_ ∨ _)
      simp [hp]
theorem spansOf_ok {p : Int → Bool} {xs : List Int} (h : xs.Pairwise (· < ·)) : SpOK (spansOf p xs) ∧ ∀ x, inSp (spansOf p xs) x ↔ inEdges p xs x := by
  obtain ⟨h1, h2⟩ := spansG_ok (p := p) h SpOK.nil (fun _ _ _ s hs => by cases hs)
  exact ⟨h1, fun x => by unfold spansOf; rw [h2]; simp [inSp_nil]⟩
/-- Where what is chosen changes at edges only, and outside of them is nothing, the spans have just what is chosen. -/
theorem edges_set {f : Int → Bool} : ∀ {xs : List Int}, xs.Pairwise (· < ·) → (∀ x, f x = true → ∃ u ∈ xs, u ≤ x) → (∀ x, f x = true → ∃ v ∈ xs, x < v) → (∀ u x, u ∈ xs → u ≤ x → (∀ v ∈ xs, v ≤ x → v ≤ u) → f x = f u) → ∀ x, inEdges f xs x ↔ f x = true
  | [], _, h1, _, _, x => by
    constructor
    · exact fun h => h.elim
    · intro h; obtain ⟨u, hu, _⟩ := h1 x h; cases hu
  | [u], _, h1, h2, _, x => by
    constructor
    · exact fun h => h.elim
    · intro h
      obtain ⟨a, ha, h3⟩ := h1 x h
      obtain ⟨b, hb, h4⟩ := h2 x h
      rw [List.mem_singleton.1 ha] at h3
      rw [List.mem_singleton.1 hb] at h4
      omega
  | u :: v :: r, hx, h1, h2, h3, x => by
    have hx' := hx
    rw [List.pairwise_cons] at hx
    have huv := hx.1 v (by simp)
    have hvr : ∀ w ∈ v :: r, v ≤ w := fun w hw => by
      rcases List.mem_cons.1 hw with rfl | hw
      · exact Int.le_refl _
      · have := (List.pairwise_cons.1 hx.2).1 w hw; omega
    -- what is chosen from v on
    have ih := edges_set (f := fun z => f z && decide (v ≤ z)) (xs := v :: r) hx.2 (fun z hz => by
      obtain ⟨_, hz2⟩ := Bool.and_eq_true_iff.1 hz
      exact ⟨v, by simp, of_decide_eq_true hz2⟩) (fun z hz => by
      obtain ⟨hz1, hz2⟩ := Bool.and_eq_true_iff.1 hz
      have hz2 := of_decide_eq_true hz2
      obtain ⟨w, hw, h4⟩ := h2 z hz1
      rcases List.mem_cons.1 hw with rfl | hw
      · omega
      · exact ⟨w, hw, h4⟩) (fun a z ha haz hmax => by
      have hva := hvr a ha
      have : f z = f a := h3 a z (by simp [ha]) haz (fun w hw hwz => by
        rcases List.mem_cons.1 hw with rfl | hw
        · omega
        · exact hmax w hw hwz)
      show (f z && decide (v ≤ z)) = (f a && decide (v ≤ a))
      rw [this, decide_eq_true (by omega : v ≤ z), decide_eq_true hva]) x
    have hcongr : inEdges f (v :: r) x ↔ inEdges (fun z => f z && decide (v ≤ z)) (v :: r) x := by
      have : ∀ {l : List Int}, (∀ w ∈ l, v ≤ w) → (inEdges f l x ↔ inEdges (fun z => f z && decide (v ≤ z)) l x) := by
        intro l
        induction l with
        | nil => intro _; exact Iff.rfl
        | cons a l ih =>
          intro hl
          cases l with
          | nil => exact Iff.rfl
          | cons b l =>
            have ha := hl a (by simp)
            have i2 := ih (fun w hw => hl w (by simp [hw]))
            show (_ ∨ _) ↔ (_ ∨ _)
            rw [i2]
            simp [ha]
      exact this hvr
    show ((u ≤ x ∧ x < v ∧ f u = true) ∨ inEdges f (v :: r) x) ↔ _
    rw [hcongr, ih]
    have hpart : u ≤ x → x < v → f x = f u := fun h4 h5 => h3 u x (by simp) h4 fun w hw hwx => by
      rcases List.mem_cons.1 hw with rfl | hw
      · exact Int.le_refl _
      · have := hvr w hw; omega
    constructor
    · rintro (⟨h4, h5, h6⟩ | h4)
      · rw [hpart h4 h5]; exact h6
      · exact (Bool.and_eq_true_iff.1 h4).1
    · intro hf
      by_cases hvx : v ≤ x
      · exact .inr (Bool.and_eq_true_iff.2 ⟨hf, decide_eq_true hvx⟩)
      · obtain ⟨a, ha, h4⟩ := h1 x hf
        have hux : u ≤ x := by
          rcases List.mem_cons.1 ha with rfl | ha
          · exact h4
          · have := hvr a ha; omega
        exact .inl ⟨hux, by omega, by rw [← hpart hux (by omega)]; exact hf⟩
end RE
end Go.Proofs.YtblcakaohlgagaaGreat
set_option linter.unusedVariables false
set_option maxRecDepth 100000
namespace Go.Proofs.YtblcakaohlgagaaGreat
open Go.RowKit
namespace RE
open PL
namespace PL
/-- A band more, joined with the last one if they touch and have the same squares. -/
def addBd (out : List Bd) (u v : Int) (ss : List Sp) : List Bd := match out.getLast? with
  | some b => if b.high = u ∧ b.spans = ss then out.dropLast ++ [⟨b.low, v, b.spans⟩] else out ++ [⟨u, v, ss⟩]
  | none => [⟨u, v, ss⟩]
def buildG (R : Int → List Sp) : List Bd → List Int → List Bd
  | out, u :: v :: r => buildG R (addBd out u v (R u)) (v :: r)
  | out, _ => out
def full (l : List Bd) : List Bd := l.filter fun b => !b.spans.isEmpty
structure BdW (l : List Bd) : Prop where
  each : ∀ b ∈ l, b.low < b.high ∧ SpOK b.spans
  srt : l.Pairwise (fun b c => b.high ≤ c.low)
  ne : l.Pairwise (fun b c => b.high = c.low → b.spans ≠ c.spans)
end PL
theorem PL.BdW.ok {l : List Bd} (h : BdW l) : BdOK (full l) := by
  refine ⟨fun b hb => ?_, h.srt.filter _, h.ne.filter _⟩
  obtain ⟨h1, h2⟩ := List.mem_filter.1 hb
  obtain ⟨h3, h4⟩ := h.each b h1
  exact ⟨h3, by simpa using h2, h4⟩
theorem full_in {l : List Bd} {x y : Int} : inBd (full l) x y ↔ inBd l x y := by
  unfold inBd full
  constructor
  · rintro ⟨b, hb, h⟩
    exact ⟨b, (List.mem_filter.1 hb).1, h⟩
  · rintro ⟨b, hb, h1, h2, s, hs, h3⟩
    refine ⟨b, List.mem_filter.2 ⟨hb, ?_⟩, h1, h2, s, hs, h3⟩
    cases hsp : b.spans with
    | nil => rw [hsp] at hs; cases hs
    | cons _ _ => rfl
theorem inBd_app {a b : List Bd} {x y : Int} : inBd (a ++ b) x y ↔ inBd a x y ∨ inBd b x y := by
  unfold inBd
  constructor
  · rintro ⟨t, ht, h⟩
    rcases List.mem_append.1 ht with ht | ht
    · exact .inl ⟨t, ht, h⟩
    · exact .inr ⟨t, ht, h⟩
  · rintro (⟨t, ht, h⟩ | ⟨t, ht, h⟩)
    · exact ⟨t, by simp [ht], h⟩
    · exact ⟨t, by simp [ht], h⟩
theorem addBd_ok {out : List Bd} {u v : Int} {ss : List Sp} (h : BdW out) (huv : u < v) (hs : SpOK ss) (hl : ∀ b ∈ out, b.high ≤ u) : BdW (addBd out u v ss) ∧ (∀ b ∈ addBd out u v ss, b.high ≤ v) ∧ ∀ x y, inBd (addBd out u v ss) x y ↔ inBd out x y ∨ (u ≤ y ∧ y < v ∧ inSp ss x) := by
  unfold addBd
  rcases List.eq_nil_or_concat out with rfl | ⟨A, b, rfl⟩
  · refine ⟨⟨fun c hc => ?_, List.pairwise_singleton _ _, List.pairwise_singleton _ _⟩, fun c hc => ?_, fun x y => ?_⟩
    · rw [List.mem_singleton.1 hc]; exact ⟨huv, hs⟩
    · rw [List.mem_singleton.1 hc]; exact Int.le_refl _
    · simp [inBd_cons, inBd_nil]
  · simp only [List.concat_eq_append] at *
    simp only [List.getLast?_append, List.getLast?_singleton, Option.some_or]
    obtain ⟨h1, h2, h3⟩ := h
    rw [List.pairwise_append] at h2 h3
    obtain ⟨p1, _, p3⟩ := h2
    obtain ⟨q1, _, q3⟩ := h3
    obtain ⟨hb1, hb2⟩ := h1 b (by simp)
    have hbl := hl b (by simp)
    split
    · rename_i e
      obtain ⟨e1, e2⟩ := e
      rw [List.dropLast_concat]
      refine ⟨⟨fun c hc => ?_, ?_, ?_⟩, fun c hc => ?_, fun x y => ?_⟩
      · rcases List.mem_append.1 hc with hc | hc
        · exact h1 c (by simp [hc])
        · rw [List.mem_singleton.1 hc]; exact ⟨by show b.low < v; omega, hb2⟩
      · rw [List.pairwise_append]
        refine ⟨p1, List.pairwise_singleton _ _, fun a ha c hc => ?_⟩
        rw [List.mem_singleton.1 hc]
        exact p3 a ha b (by simp)
      · rw [List.pairwise_append]
        refine ⟨q1, List.pairwise_singleton _ _, fun a ha c hc => ?_⟩
        rw [List.mem_singleton.1 hc]
        exact q3 a ha b (by simp)
      · rcases List.mem_append.1 hc with hc | hc
        · have := hl c (by simp [hc]); omega
        · rw [List.mem_singleton.1 hc]; exact Int.le_refl _
      · rw [inBd_app, inBd_app, inBd_cons, inBd_cons]
        simp only [inBd_nil, or_false]
        rw [← e2]
        constructor
        · rintro (h | ⟨h4, h5, h6⟩)
          · exact .inl (.inl h)
          · by_cases hy : y < u
            · exact .inl (.inr ⟨h4, by omega, h6⟩)
            · exact .inr ⟨by omega, h5, h6⟩
        · rintro ((h | ⟨h4, h5, h6⟩) | ⟨h4, h5, h6⟩)
          · exact .inl h
          · exact .inr ⟨h4, by show y < v; omega, h6⟩
          · exact .inr ⟨by show b.low ≤ y; omega, h5, h6⟩
    · rename_i e
      refine ⟨⟨fun c hc => ?_, ?_, ?_⟩, fun c hc => ?_, fun x y => ?_⟩
      · rcases List.mem_append.1 hc with hc | hc
        · exact h1 c hc
        · rw [List.mem_singleton.1 hc]; exact ⟨huv, hs⟩
      · rw [List.pairwise_append]
        refine ⟨List.pairwise_append.2 ⟨p1, List.pairwise_singleton _ _, p3⟩, List.pairwise_singleton _ _, fun a ha c hc => ?_⟩
        rw [List.mem_singleton.1 hc]
        exact hl a ha
      · rw [List.pairwise_append]
        refine ⟨List.pairwise_append.2 ⟨q1, List.pairwise_singleton _ _, q3⟩, List.pairwise_singleton _ _, fun a ha c hc => ?_⟩
        rw [List.mem_singleton.1 hc]
        intro k1 k2
        rcases List.mem_append.1 ha with ha | ha
        · have := p3 a ha b (by simp)
          have k1 : a.high = u := k1
          omega
        · rw [List.mem_singleton.1 ha] at k1 k2
          exact e ⟨k1, k2⟩
      · rcases List.mem_append.1 hc with hc | hc
        · have := hl c hc; omega
        · rw [List.mem_singleton.1 hc]; exact Int.le_refl _
      · rw [inBd_app, inBd_cons]
        simp only [inBd_nil, or_false]
theorem inEdges_congr {p q : Int → Bool} : ∀ {xs : List Int} {x : Int}, (∀ u ∈ xs, p u = q u) → (inEdges p xs x ↔ inEdges q xs x)
  | [], x, _ => Iff.rfl
  | [u], x, _ => Iff.rfl
  | u :: v :: r, x, h => by
    have ih := inEdges_congr (p := p) (q := q) (xs := v :: r) (x := x) (fun w hw => h w (by simp [hw]))
    show (_ ∨ _) ↔ (_ ∨ _)
    rw [ih, h u (by simp)]
open Classical in
theorem buildG_ok {R : Int → List Sp} : ∀ {xs : List Int} {out : List Bd}, xs.Pairwise (· < ·) → (∀ u ∈ xs, SpOK (R u)) → BdW out → (∀ u r, xs = u :: r → ∀ b ∈ out, b.high ≤ u) → BdW (buildG R out xs) ∧ ∀ x y, inBd (buildG R out xs) x y ↔ inBd out x y ∨ inEdges (fun u => decide (inSp (R u) x)) xs y
  | [], out, _, _, h, _ => ⟨h, fun x y => by simp [buildG, inEdges]⟩
  | [u], out, _, _, h, _ => ⟨h, fun x y => by simp [buildG, inEdges]⟩
  | u :: v :: r, out, hx, hR, h, hl => by
    rw [List.pairwise_cons] at hx
    have huv := hx.1 v (by simp)
    obtain ⟨q1, q2, q3⟩ := addBd_ok h huv (hR u (by simp)) (hl u (v :: r) rfl)
    obtain ⟨i1, i2⟩ := buildG_ok (R := R) hx.2 (fun w hw => hR w (by simp [hw])) q1 (fun u' r' e b hb => by injection e with e; subst e; exact q2 b hb)
    refine ⟨i1, fun x y => ?_⟩
    show inBd (buildG R (addBd out u v (R u)) (v :: r)) x y ↔ _
    rw [i2, q3]
    show _ ↔ _ ∨ (_ ∨ _)
    rw [or_assoc]
    simp only [decide_eq_true_eq]
theorem BdW.nil : BdW [] := ⟨fun b h => (by cases h), List.Pairwise.nil, List.Pairwise.nil⟩
/-- What is built out of the cuts and rows of a set is its canonical form. -/
theorem build_ok {R : Int → List Sp} {F : Int → Int → Bool} {xs : List Int} (hx : xs.Pairwise (· < ·)) (hR : ∀ u ∈ xs, SpOK (R u) ∧ ∀ x, inSp (R u) x ↔ F x u = true) (h1 : ∀ x y, F x y = true → ∃ u ∈ xs, u ≤ y) (h2 : ∀ x y, F x y = true → ∃ v ∈ xs, y < v)
    (h3 : ∀ x u y, u ∈ xs → u ≤ y → (∀ v ∈ xs, v ≤ y → v ≤ u) → F x y = F x u) : BdOK (full (buildG R [] xs)) ∧ ∀ x y, inBd (full (buildG R [] xs)) x y ↔ F x y = true := by
  obtain ⟨q1, q2⟩ := buildG_ok hx (fun u hu => (hR u hu).1) BdW.nil (fun _ _ _ b hb => by cases hb)
  refine ⟨q1.ok, fun x y => ?_⟩
  rw [full_in, q2]
  have e := edges_set (f := fun y => F x y) hx (h1 x) (h2 x) (fun u y hu huy hm => h3 x u y hu huy hm) y
  rw [← e, inEdges_congr (q := fun y => F x y) (fun u hu => by
    have := (hR u hu).2 x
    cases hF : F x u with
    | true => rw [hF] at this; simp [this]
    | false => rw [hF] at this; simp [this])]
  simp [inBd_nil]
end RE
end Go.Proofs.YtblcakaohlgagaaGreat
set_option linter.unusedVariables false
set_option maxRecDepth 100000
namespace Go.Proofs.YtblcakaohlgagaaGreat
open Go.RowKit
namespace RE
open PL
namespace PL
abbrev Rc := api_Rect
def hit (r : Rc) (x y : Int) : Bool := decide (r.Left ≤ x) && decide (x < r.Right) && decide (r.Low ≤ y) && decide (y < r.High)
def cov (l : List Rc) (x y : Int) : Bool := l.any fun r => hit r x y
def flat1 (b : Bd) : List Rc := b.spans.map fun s => ⟨s.1, b.low, s.2, b.high⟩
def flat (l : List Bd) : List Rc := l.flatMap flat1
def Canon (l : List Rc) : Prop := ∃ bs, BdOK bs ∧ l = flat bs
open Classical in
/-- The canonical rectangles of a set. -/
noncomputable def canonF (f : Int → Int → Bool) : List Rc := if h : ∃ l, Canon l ∧ ∀ x y, cov l x y = f x y then Classical.choose h else []
def proper (r : Rc) : Prop := 0 ≤ r.Left ∧ r.Left < r.Right ∧ r.Right ≤ 16384 ∧ 0 ≤ r.Low ∧ r.Low < r.High ∧ r.High ≤ 16384
def validP (l : List Rc) : Prop := l.length ≤ 120 ∧ (∀ r ∈ l, proper r) ∧ Canon l
end PL
theorem hit_iff {r : Rc} {x y : Int} : hit r x y = true ↔ r.Left ≤ x ∧ x < r.Right ∧ r.Low ≤ y ∧ y < r.High := by
  unfold hit; simp [and_assoc]
theorem cov_iff {l : List Rc} {x y : Int} : cov l x y = true ↔ ∃ r ∈ l, r.Left ≤ x ∧ x < r.Right ∧ r.Low ≤ y ∧ y < r.High := by
  unfold cov
  rw [List.any_eq_true]
  simp only [hit_iff]
theorem cov_flat {bs : List Bd} {x y : Int} : cov (flat bs) x y = true ↔ inBd bs x y := by
  rw [cov_iff]
  unfold flat inBd inSp
  constructor
  · rintro ⟨r, hr, h1, h2, h3, h4⟩
    obtain ⟨b, hb, hr⟩ := List.mem_flatMap.1 hr
    obtain ⟨s, hs, rfl⟩ := List.mem_map.1 hr
    exact ⟨b, hb, h3, h4, s, hs, h1, h2⟩
  · rintro ⟨b, hb, h3, h4, s, hs, h1, h2⟩
    exact ⟨⟨s.1, b.low, s.2, b.high⟩, List.mem_flatMap.2 ⟨b, hb, List.mem_map.2 ⟨s, hs, rfl⟩⟩, h1, h2, h3, h4⟩
theorem bool_iff {a b : Bool} (h : a = true ↔ b = true) : a = b := by
  cases a <;> cases b <;> simp_all
theorem canon_uniq {a b : List Rc} (ha : Canon a) (hb : Canon b) (h : ∀ x y, cov a x y = cov b x y) : a = b := by
  obtain ⟨qs, h1, rfl⟩ := ha
  obtain ⟨bs, h2, rfl⟩ := hb
  rw [bd_uniq h1 h2 fun x y => by rw [← cov_flat, ← cov_flat, h]]
theorem canonF_eq {f : Int → Int → Bool} {l : List Rc} (h1 : Canon l) (h2 : ∀ x y, cov l x y = f x y) : canonF f = l := by
  have h : ∃ l, Canon l ∧ ∀ x y, cov l x y = f x y := ⟨l, h1, h2⟩
  unfold canonF
  rw [dif_pos h]
  obtain ⟨h3, h4⟩ := Classical.choose_spec h
  exact canon_uniq h3 h1 fun x y => by rw [h4, h2]
theorem canon_self {l : List Rc} (h : Canon l) : canonF (cov l) = l := canonF_eq h fun _ _ => rfl
theorem canon_nil : Canon [] := ⟨[], ⟨fun b h => (by cases h), List.Pairwise.nil, List.Pairwise.nil⟩, rfl⟩
theorem canon_none {l : List Rc} (h : Canon l) : l = [] ↔ ∀ x y, cov l x y = false := by
  constructor
  · rintro rfl x y; rfl
  · intro h2; exact canon_uniq h canon_nil fun x y => by rw [h2]; rfl
theorem flat_full {bs : List Bd} : flat (full bs) = flat bs := by
  induction bs with
  | nil => rfl
  | cons b r ih =>
    show flat (List.filter _ (b :: r)) = _
    rw [List.filter_cons]
    split
    · show flat1 b ++ flat (full r) = flat1 b ++ flat r
      rw [ih]
    · rename_i h
      have hb : b.spans = [] := by simpa using h
      show flat (full r) = flat1 b ++ flat r
      rw [ih]
      unfold flat1
      rw [hb]; rfl
/-- What is built, rectangle by rectangle. -/
theorem build_canon {R : Int → List Sp} {F : Int → Int → Bool} {xs : List Int} (hx : xs.Pairwise (· < ·)) (hR : ∀ u ∈ xs, SpOK (R u) ∧ ∀ x, inSp (R u) x ↔ F x u = true) (h1 : ∀ x y, F x y = true → ∃ u ∈ xs, u ≤ y) (h2 : ∀ x y, F x y = true → ∃ v ∈ xs, y < v)
    (h3 : ∀ x u y, u ∈ xs → u ≤ y → (∀ v ∈ xs, v ≤ y → v ≤ u) → F x y = F x u) : Canon (flat (buildG R [] xs)) ∧ (∀ x y, cov (flat (buildG R [] xs)) x y = F x y) ∧ canonF F = flat (buildG R [] xs) := by
  obtain ⟨q1, q2⟩ := build_ok hx hR h1 h2 h3
  rw [← flat_full]
  have hc : Canon (flat (full (buildG R [] xs))) := ⟨_, q1, rfl⟩
  have hcov : ∀ x y, cov (flat (full (buildG R [] xs))) x y = F x y := fun x y => bool_iff (by rw [cov_flat, q2])
  exact ⟨hc, hcov, canonF_eq hc hcov⟩
/-! ### edges and cuts -/
namespace PL
def putS (n : Int) : List Int → List Int
  | [] => [n]
  | x :: r => if x < n then x :: putS n r else if x = n then x :: r else n :: x :: r
def edgesS : List Rc → List Int
  | l => l.foldl (fun a r => putS r.Right (putS r.Left a)) []
def cutsS : List Rc → List Int
  | l => l.foldl (fun a r => putS r.High (putS r.Low a)) []
end PL
theorem putS_mem {n x : Int} : ∀ {l : List Int}, x ∈ putS n l ↔ x = n ∨ x ∈ l
  | [] => by simp [putS]
  | y :: r => by
    have ih := putS_mem (n := n) (x := x) (l := r)
    unfold putS
    split
    · simp only [List.mem_cons, ih]
      constructor
      · rintro (h | h | h) <;> simp [h]
      · rintro (h | h | h) <;> simp [h]
    · split
      · rename_i e
        simp only [List.mem_cons]
        constructor
        · exact fun h => .inr h
        · rintro (h | h)
          · exact .inl (h.trans e.symm)
          · exact h
      · simp only [List.mem_cons]
theorem putS_inc {n : Int} : ∀ {l : List Int}, l.Pairwise (· < ·) → (putS n l).Pairwise (· < ·)
  | [], _ => List.pairwise_singleton _ _
  | y :: r, h => by
    have h' := h
    rw [List.pairwise_cons] at h
    unfold putS
    split
    · rw [List.pairwise_cons]
      refine ⟨fun a ha => ?_, putS_inc h.2⟩
      rcases putS_mem.1 ha with rfl | ha
      · assumption
      · exact h.1 a ha
    · split
      · exact h'
      · rename_i h1 h2
        rw [List.pairwise_cons]
        refine ⟨fun a ha => ?_, h'⟩
        rcases List.mem_cons.1 ha with rfl | ha
        · omega
        · have := h.1 a ha; omega
/-- Lists that grow are told by their members. -/
theorem inc_uniq : ∀ {a b : List Int}, a.Pairwise (· < ·) → b.Pairwise (· < ·) → (∀ x, x ∈ a ↔ x ∈ b) → a = b
  | [], [], _, _, _ => rfl
  | [], y :: q, _, _, h => by have := (h y).2 (by simp); cases this
  | x :: r, [], _, _, h => by have := (h x).1 (by simp); cases this
  | x :: r, y :: q, ha, hb, h => by
    rw [List.pairwise_cons] at ha hb
    have e : x = y := by
      have h1 := (h x).1 (by simp)
      have h2 := (h y).2 (by simp)
      rcases List.mem_cons.1 h1 with h1 | h1
      · exact h1
      · rcases List.mem_cons.1 h2 with h2 | h2
        · exact h2.symm
        · have := hb.1 x h1
          have := ha.1 y h2
          omega
    subst e
    congr 1
    refine inc_uniq ha.2 hb.2 fun z => ?_
    constructor
    · intro hz
      have := ha.1 z hz
      rcases List.mem_cons.1 ((h z).1 (by simp [hz])) with h1 | h1
      · omega
      · exact h1
    · intro hz
      have := hb.1 z hz
      rcases List.mem_cons.1 ((h z).2 (by simp [hz])) with h1 | h1
      · omega
      · exact h1
theorem fold_edges {f g : Rc → Int} : ∀ {l : List Rc} {a : List Int}, a.Pairwise (· < ·) → (l.foldl (fun a r => putS (g r) (putS (f r) a)) a).Pairwise (· < ·) ∧ ∀ x, x ∈ l.foldl (fun a r => putS (g r) (putS (f r) a)) a ↔ x ∈ a ∨ ∃ r ∈ l, x = f r ∨ x = g r
  | [], a, h => ⟨h, fun x => by simp⟩
  | r :: l, a, h => by
    obtain ⟨h1, h2⟩ := fold_edges (f := f) (g := g) (l := l) (putS_inc (n := g r) (putS_inc (n := f r) h))
    refine ⟨h1, fun x => ?_⟩
    show x ∈ l.foldl _ _ ↔ _
    rw [h2, putS_mem, putS_mem]
    constructor
    · rintro ((h | h | h) | ⟨q, hq, h⟩)
      · exact .inr ⟨r, by simp, .inr h⟩
      · exact .inr ⟨r, by simp, .inl h⟩
      · exact .inl h
      · exact .inr ⟨q, by simp [hq], h⟩
    · rintro (h | ⟨q, hq, h⟩)
      · exact .inl (.inr (.inr h))
      · rcases List.mem_cons.1 hq with rfl | hq
        · rcases h with h | h
          · exact .inl (.inr (.inl h))
          · exact .inl (.inl h)
        · exact .inr ⟨q, hq, h⟩
theorem cutsS_ok {l : List Rc} : (cutsS l).Pairwise (· < ·) ∧ ∀ x, x ∈ cutsS l ↔ ∃ r ∈ l, x = r.Low ∨ x = r.High := by
  obtain ⟨h1, h2⟩ := fold_edges (f := fun r => r.Low) (g := fun r => r.High) (l := l) List.Pairwise.nil
  exact ⟨h1, fun x => by show x ∈ l.foldl _ _ ↔ _; rw [h2]; simp⟩
theorem edgesS_ok {l : List Rc} : (edgesS l).Pairwise (· < ·) ∧ ∀ x, x ∈ edgesS l ↔ ∃ r ∈ l, x = r.Left ∨ x = r.Right := by
  obtain ⟨h1, h2⟩ := fold_edges (f := fun r => r.Left) (g := fun r => r.Right) (l := l) List.Pairwise.nil
  exact ⟨h1, fun x => by show x ∈ l.foldl _ _ ↔ _; rw [h2]; simp⟩
/-- A choice of two sets of rectangles. -/
def comb (in_ : Bool → Bool → Bool) (a b : List Rc) : Int → Int → Bool := fun x y => in_ (cov a x y) (cov b x y)
theorem cov_rows {l : List Rc} {x u y : Int} (huy : u ≤ y) (hm : ∀ r ∈ l, (r.Low ≤ y → r.Low ≤ u) ∧ (r.High ≤ y → r.High ≤ u)) : cov l x y = cov l x u := by
  refine bool_iff ?_
  rw [cov_iff, cov_iff]
  constructor
  · rintro ⟨r, hr, h1, h2, h3, h4⟩
    exact ⟨r, hr, h1, h2, (hm r hr).1 h3, by omega⟩
  · rintro ⟨r, hr, h1, h2, h3, h4⟩
    refine ⟨r, hr, h1, h2, by omega, ?_⟩
    rcases Int.lt_or_le y r.High with h | h
    · exact h
    · have := (hm r hr).2 h; omega
theorem cov_cols {l : List Rc} {x u y : Int} (huy : u ≤ x) (hm : ∀ r ∈ l, (r.Left ≤ x → r.Left ≤ u) ∧ (r.Right ≤ x → r.Right ≤ u)) : cov l x y = cov l u y := by
  refine bool_iff ?_
  rw [cov_iff, cov_iff]
  constructor
  · rintro ⟨r, hr, h1, h2, h3, h4⟩
    exact ⟨r, hr, (hm r hr).1 h1, by omega, h3, h4⟩
  · rintro ⟨r, hr, h1, h2, h3, h4⟩
    refine ⟨r, hr, by omega, ?_, h3, h4⟩
    rcases Int.lt_or_le x r.Right with h | h
    · exact h
    · have := (hm r hr).2 h; omega
theorem comb_cov {in_ : Bool → Bool → Bool} (h0 : in_ false false = false) {a b : List Rc} {x y : Int} (h : comb in_ a b x y = true) : cov (a ++ b) x y = true := by
  have e : cov (a ++ b) x y = (cov a x y || cov b x y) := by unfold cov; rw [List.any_append]
  rw [e]
  unfold comb at h
  cases h1 : cov a x y
  · cases h2 : cov b x y
    · rw [h1, h2, h0] at h; cases h
    · rfl
  · rfl
/-- Whatever gives the rows of a choice at the cuts builds its canonical form. -/
theorem comb_build {in_ : Bool → Bool → Bool} (h0 : in_ false false = false) {a b : List Rc} {R : Int → List Sp} (hR : ∀ u ∈ cutsS (a ++ b), SpOK (R u) ∧ ∀ x, inSp (R u) x ↔ comb in_ a b x u = true) :
    Canon (flat (buildG R [] (cutsS (a ++ b)))) ∧ (∀ x y, cov (flat (buildG R [] (cutsS (a ++ b)))) x y = comb in_ a b x y) ∧ canonF (comb in_ a b) = flat (buildG R [] (cutsS (a ++ b))) := by
  obtain ⟨c1, c2⟩ := cutsS_ok (l := a ++ b)
  refine build_canon c1 hR (fun x y h => ?_) (fun x y h => ?_) fun x u y hu huy hm => ?_
  · obtain ⟨r, hr, _, _, h3, h4⟩ := cov_iff.1 (comb_cov h0 h)
    exact ⟨r.Low, (c2 _).2 ⟨r, hr, .inl rfl⟩, h3⟩
  · obtain ⟨r, hr, _, _, h3, h4⟩ := cov_iff.1 (comb_cov h0 h)
    exact ⟨r.High, (c2 _).2 ⟨r, hr, .inr rfl⟩, h4⟩
  · have hm' : ∀ r ∈ a ++ b, (r.Low ≤ y → r.Low ≤ u) ∧ (r.High ≤ y → r.High ≤ u) := fun r hr => ⟨hm _ ((c2 _).2 ⟨r, hr, .inl rfl⟩), hm _ ((c2 _).2 ⟨r, hr, .inr rfl⟩)⟩
    unfold comb
    rw [cov_rows huy (fun r hr => hm' r (by simp [hr])), cov_rows huy (fun r hr => hm' r (by simp [hr]))]
/-- The row of a choice, by the edges of the rectangles. -/
theorem comb_row {in_ : Bool → Bool → Bool} (h0 : in_ false false = false) {a b : List Rc} {y : Int} : SpOK (spansOf (fun x => comb in_ a b x y) (edgesS (a ++ b))) ∧ ∀ x, inSp (spansOf (fun x => comb in_ a b x y) (edgesS (a ++ b))) x ↔ comb in_ a b x y = true := by
  obtain ⟨c1, c2⟩ := edgesS_ok (l := a ++ b)
  obtain ⟨h1, h2⟩ := spansOf_ok (p := fun x => comb in_ a b x y) c1
  refine ⟨h1, fun x => ?_⟩
  rw [h2]
  refine edges_set (f := fun x => comb in_ a b x y) c1 (fun x h => ?_) (fun x h => ?_) (fun u x hu hux hm => ?_) x
  · obtain ⟨r, hr, h3, h4, _⟩ := cov_iff.1 (comb_cov h0 h)
    exact ⟨r.Left, (c2 _).2 ⟨r, hr, .inl rfl⟩, h3⟩
  · obtain ⟨r, hr, h3, h4, _⟩ := cov_iff.1 (comb_cov h0 h)
    exact ⟨r.Right, (c2 _).2 ⟨r, hr, .inr rfl⟩, h4⟩
  · have hm' : ∀ r ∈ a ++ b, (r.Left ≤ x → r.Left ≤ u) ∧ (r.Right ≤ x → r.Right ≤ u) := fun r hr => ⟨hm _ ((c2 _).2 ⟨r, hr, .inl rfl⟩), hm _ ((c2 _).2 ⟨r, hr, .inr rfl⟩)⟩
    show comb in_ a b x y = comb in_ a b u y
    unfold comb
    rw [cov_cols hux (fun r hr => hm' r (by simp [hr])), cov_cols hux (fun r hr => hm' r (by simp [hr]))]
/-- The canonical form of a choice. -/
theorem comb_ok {in_ : Bool → Bool → Bool} (h0 : in_ false false = false) (a b : List Rc) : Canon (canonF (comb in_ a b)) ∧ ∀ x y, cov (canonF (comb in_ a b)) x y = comb in_ a b x y := by
  obtain ⟨h1, h2, h3⟩ := comb_build h0 (a := a) (b := b) (R := fun y => spansOf (fun x => comb in_ a b x y) (edgesS (a ++ b))) (fun u _ => comb_row h0)
  rw [h3]
  exact ⟨h1, h2⟩
/-- Its rectangles lie in what the borders of the others span. -/
theorem canon_box {l : List Rc} (h : Canon l) {x0 x1 y0 y1 : Int} (hb : ∀ x y, cov l x y = true → x0 ≤ x ∧ x < x1 ∧ y0 ≤ y ∧ y < y1) : ∀ r ∈ l, x0 ≤ r.Left ∧ r.Left < r.Right ∧ r.Right ≤ x1 ∧ y0 ≤ r.Low ∧ r.Low < r.High ∧ r.High ≤ y1 := by
  intro r hr
  obtain ⟨bs, h1, rfl⟩ := h
  obtain ⟨b, hbm, hrm⟩ := List.mem_flatMap.1 hr
  obtain ⟨s, hs, rfl⟩ := List.mem_map.1 hrm
  obtain ⟨k1, k2, k3⟩ := h1.each b hbm
  have k4 := k3.1 s hs
  have p1 := hb s.1 b.low (cov_flat.2 ⟨b, hbm, Int.le_refl _, k1, s, hs, Int.le_refl _, k4⟩)
  have p2 := hb (s.2 - 1) (b.high - 1) (cov_flat.2 ⟨b, hbm, by omega, by omega, s, hs, by omega, by omega⟩)
  dsimp only
  omega
end RE
end Go.Proofs.YtblcakaohlgagaaGreat
set_option linter.unusedVariables false
set_option maxRecDepth 100000
namespace Go.Proofs.YtblcakaohlgagaaGreat
open Go.RowKit
namespace RE
open PL
namespace PL
/-- A span more, in the order of their beginnings. -/
def joinSp (out : List Sp) (s : Sp) : List Sp := match out.getLast? with
  | some q => if s.Left ≤ q.Right then out.dropLast ++ [⟨q.Left, max q.Right s.Right⟩] else out ++ [s]
  | none => [s]
def rowG (out : List Sp) (l : List Sp) : List Sp := l.foldl joinSp out
noncomputable def rowS (l : List Rc) (y : Int) : List Sp := spansOf (fun x => cov l x y) (edgesS l)
def spanOf (r : Rc) : Sp := ⟨r.Left, r.Right⟩
def onRow (y : Int) (l : List Rc) : List Rc := l.filter fun r => decide (r.Low ≤ y) && decide (y < r.High)
end PL
theorem joinSp_ok {out : List Sp} {s : Sp} (h : SpOK out) (hs : s.1 < s.2) (hl : ∀ q ∈ out, q.1 ≤ s.1) : SpOK (joinSp out s) ∧ (∀ q ∈ joinSp out s, q.1 ≤ s.1) ∧ ∀ x, inSp (joinSp out s) x ↔ inSp out x ∨ (s.1 ≤ x ∧ x < s.2) := by
  unfold joinSp
  rcases List.eq_nil_or_concat out with rfl | ⟨A, q, rfl⟩
  · refine ⟨SpOK.mk hs (fun t ht => by cases ht) SpOK.nil, fun t ht => ?_, fun x => ?_⟩
    · simp at ht; subst ht; exact Int.le_refl _
    · simp [inSp_cons, inSp_nil]
  · simp only [List.concat_eq_append] at *
    simp only [List.getLast?_append, List.getLast?_singleton, Option.some_or]
    obtain ⟨h1, h2⟩ := h
    rw [List.pairwise_append] at h2
    obtain ⟨p1, _, p3⟩ := h2
    have hq := h1 q (by simp)
    have hql := hl q (by simp)
    split
    · rename_i e
      rw [List.dropLast_concat]
      have hm1 : q.2 ≤ max q.2 s.2 := Int.le_max_left _ _
      have hm2 : s.2 ≤ max q.2 s.2 := Int.le_max_right _ _
      have hm3 : max q.2 s.2 = q.2 ∨ max q.2 s.2 = s.2 := by omega
      refine ⟨⟨fun t ht => ?_, ?_⟩, fun t ht => ?_, fun x => ?_⟩
      · rcases List.mem_append.1 ht with ht | ht
        · exact h1 t (by simp [ht])
        · rw [List.mem_singleton.1 ht]; show q.1 < max q.2 s.2; omega
      · rw [List.pairwise_append]
        refine ⟨p1, List.pairwise_singleton _ _, fun a ha b hb => ?_⟩
        rw [List.mem_singleton.1 hb]
        exact p3 a ha q (by simp)
      · rcases List.mem_append.1 ht with ht | ht
        · exact hl t (by simp [ht])
        · rw [List.mem_singleton.1 ht]; exact hql
      · rw [inSp_app, inSp_app, inSp_cons, inSp_cons]
        simp only [inSp_nil, or_false]
        constructor
        · rintro (h | ⟨h3, h4⟩)
          · exact .inl (.inl h)
          · have h4 : x < max q.2 s.2 := h4
            have h3 : q.1 ≤ x := h3
            by_cases hx : x < q.2
            · exact .inl (.inr ⟨h3, hx⟩)
            · exact .inr ⟨by omega, by omega⟩
        · rintro ((h | ⟨h3, h4⟩) | ⟨h3, h4⟩)
          · exact .inl h
          · exact .inr ⟨h3, by show x < max q.2 s.2; omega⟩
          · exact .inr ⟨by show q.1 ≤ x; omega, by show x < max q.2 s.2; omega⟩
    · rename_i e
      refine ⟨⟨fun t ht => ?_, ?_⟩, fun t ht => ?_, fun x => ?_⟩
      · rcases List.mem_append.1 ht with ht | ht
        · exact h1 t ht
        · rw [List.mem_singleton.1 ht]; exact hs
      · rw [List.pairwise_append]
        refine ⟨List.pairwise_append.2 ⟨p1, List.pairwise_singleton _ _, p3⟩, List.pairwise_singleton _ _, fun a ha b hb => ?_⟩
        rw [List.mem_singleton.1 hb]
        rcases List.mem_append.1 ha with ha | ha
        · have := p3 a ha q (by simp); have := h1 q (by simp); omega
        · rw [List.mem_singleton.1 ha]; omega
      · rcases List.mem_append.1 ht with ht | ht
        · exact hl t ht
        · rw [List.mem_singleton.1 ht]; exact Int.le_refl _
      · rw [inSp_app, inSp_cons]
        simp only [inSp_nil, or_false]
theorem rowG_ok : ∀ {l out : List Sp}, SpOK out → (∀ s ∈ l, s.1 < s.2) → l.Pairwise (fun s t => s.1 ≤ t.1) → (∀ q ∈ out, ∀ s ∈ l, q.1 ≤ s.1) → SpOK (rowG out l) ∧ ∀ x, inSp (rowG out l) x ↔ inSp out x ∨ inSp l x
  | [], out, h, _, _, _ => ⟨h, fun x => by simp [rowG, inSp_nil]⟩
  | s :: r, out, h, h1, h2, h3 => by
    rw [List.pairwise_cons] at h2
    obtain ⟨q1, q2, q3⟩ := joinSp_ok h (h1 s (by simp)) (fun q hq => h3 q hq s (by simp))
    obtain ⟨i1, i2⟩ := rowG_ok (l := r) q1 (fun t ht => h1 t (by simp [ht])) h2.2 (fun q hq t ht => by have := q2 q hq; have := h2.1 t ht; omega)
    refine ⟨i1, fun x => ?_⟩
    show inSp (rowG (joinSp out s) r) x ↔ _
    rw [i2, q3, inSp_cons, or_assoc]
theorem cov_onRow {l : List Rc} {x y : Int} : inSp ((onRow y l).map spanOf) x ↔ cov l x y = true := by
  rw [cov_iff]
  unfold inSp onRow
  constructor
  · rintro ⟨s, hs, h1, h2⟩
    obtain ⟨r, hr, rfl⟩ := List.mem_map.1 hs
    obtain ⟨h3, h4⟩ := List.mem_filter.1 hr
    have h4 : r.Low ≤ y ∧ y < r.High := by simpa using h4
    exact ⟨r, h3, h1, h2, h4.1, h4.2⟩
  · rintro ⟨r, hr, h1, h2, h3, h4⟩
    exact ⟨spanOf r, List.mem_map.2 ⟨r, List.mem_filter.2 ⟨hr, by simp [h3, h4]⟩, rfl⟩, h1, h2⟩
theorem cov_nil (x y : Int) : cov [] x y = false := rfl
theorem rowS_ok {l : List Rc} {y : Int} : SpOK (rowS l y) ∧ ∀ x, inSp (rowS l y) x ↔ cov l x y = true := by
  have := comb_row (in_ := fun a _ => a) rfl (a := l) (b := []) (y := y)
  rw [List.append_nil] at this
  exact this
theorem rowS_eq {l : List Rc} {y : Int} {r : List Sp} (h1 : SpOK r) (h2 : ∀ x, inSp r x ↔ cov l x y = true) : r = rowS l y :=
  sp_uniq h1 rowS_ok.1 fun x => by rw [h2, rowS_ok.2]
/-- The row out of its spans, in any order by their beginnings. -/
theorem rowS_sorted {l : List Rc} {y : Int} {ss : List Sp} (hp : ∀ r ∈ l, r.Left < r.Right) (h1 : ss.Perm ((onRow y l).map spanOf)) (h2 : ss.Pairwise (fun s t => s.1 ≤ t.1)) : rowG [] ss = rowS l y := by
  obtain ⟨q1, q2⟩ := rowG_ok (l := ss) SpOK.nil (fun s hs => by
    obtain ⟨r, hr, rfl⟩ := List.mem_map.1 (h1.mem_iff.1 hs)
    exact hp r (List.mem_filter.1 hr).1) h2 (fun q hq => by cases hq)
  refine rowS_eq q1 fun x => ?_
  rw [q2, ← cov_onRow (l := l) (y := y)]
  unfold inSp
  constructor
  · rintro (⟨s, hs, _⟩ | ⟨s, hs, h⟩)
    · cases hs
    · exact ⟨s, h1.mem_iff.1 hs, h⟩
  · rintro ⟨s, hs, h⟩
    exact .inr ⟨s, h1.mem_iff.2 hs, h⟩
/-! ### lengths -/
theorem spans_len : ∀ {l : List Sp} {x0 x1 : Int}, SpOK l → x0 ≤ x1 → (∀ s ∈ l, x0 ≤ s.1 ∧ s.2 ≤ x1) → (l.length : Int) ≤ x1 - x0
  | [], x0, x1, _, h, _ => by simp; omega
  | s :: r, x0, x1, h, h0, hb => by
    obtain ⟨a1, a2, a3⟩ := h.cons
    have hs := hb s (by simp)
    have := spans_len (l := r) (x0 := s.2) (x1 := x1) a3 (by omega) (fun t ht => ⟨by have := a2 t ht; omega, (hb t (by simp [ht])).2⟩)
    simp; omega
theorem flat_len : ∀ {bs : List Bd} {x0 x1 y0 y1 : Int}, BdOK bs → x0 ≤ x1 → y0 ≤ y1 → (∀ b ∈ bs, y0 ≤ b.low ∧ b.high ≤ y1 ∧ ∀ s ∈ b.spans, x0 ≤ s.1 ∧ s.2 ≤ x1) → ((flat bs).length : Int) ≤ (y1 - y0) * (x1 - x0)
  | [], x0, x1, y0, y1, _, hx, hy, _ => by
    have := Int.mul_nonneg (show 0 ≤ y1 - y0 by omega) (show 0 ≤ x1 - x0 by omega)
    simpa [flat] using this
  | b :: r, x0, x1, y0, y1, h, hx, hy, hb => by
    obtain ⟨⟨a1, a2, a3⟩, a4, a5, _⟩ := h.cons
    obtain ⟨b1, b2, b3⟩ := hb b (by simp)
    have h1 := spans_len a3 hx b3
    have h2 := flat_len (bs := r) (x0 := x0) (x1 := x1) (y0 := b.high) (y1 := y1) a5 hx b2 (fun c hc => ⟨a4 c hc, (hb c (by simp [hc])).2⟩)
    have e : (flat (b :: r)).length = b.spans.length + (flat r).length := by
      show (flat1 b ++ flat r).length = _
      unfold flat1
      simp
    rw [e]
    have h3 : (y1 - b.high) * (x1 - x0) + (x1 - x0) ≤ (y1 - y0) * (x1 - x0) := by
      have h4 : (y1 - b.high + 1) * (x1 - x0) ≤ (y1 - y0) * (x1 - x0) := Int.mul_le_mul_of_nonneg_right (by omega) (by omega)
      rw [Int.add_mul, Int.one_mul] at h4
      exact h4
    push_cast
    omega
theorem canon_len {l : List Rc} (h : Canon l) {x0 x1 y0 y1 : Int} (hx : x0 ≤ x1) (hy : y0 ≤ y1) (hb : ∀ x y, cov l x y = true → x0 ≤ x ∧ x < x1 ∧ y0 ≤ y ∧ y < y1) : (l.length : Int) ≤ (y1 - y0) * (x1 - x0) := by
  have hbox := canon_box h hb
  obtain ⟨bs, h1, rfl⟩ := h
  refine flat_len h1 hx hy fun b hbm => ?_
  have hin : ∀ s ∈ b.spans, (⟨s.1, b.low, s.2, b.high⟩ : Rc) ∈ flat bs := fun s hs => List.mem_flatMap.2 ⟨b, hbm, List.mem_map.2 ⟨s, hs, rfl⟩⟩
  obtain ⟨k1, k2, k3⟩ := h1.each b hbm
  obtain ⟨x, s, hs, _⟩ := sp_some k3 k2
  have := hbox _ (hin s hs)
  dsimp only at this
  refine ⟨by omega, by omega, fun t ht => ?_⟩
  have := hbox _ (hin t ht)
  dsimp only at this
  omega
end RE
end Go.Proofs.YtblcakaohlgagaaGreat
set_option linter.unusedVariables false
set_option maxRecDepth 100000
namespace Go.Proofs.YtblcakaohlgagaaGreat
open Go.RowKit
namespace RE
open PL
theorem JOIN.opq {ts : List Ty} {J : Cur ts} {B : Cur ts → Prop} (h : ∀ J', J' = J → B J') : JOIN ts J B := JOIN.mk (h J rfl)
theorem sub_front {α : Type} {l : List α} {k : Nat} : sub l 0 (k : Int) = l.take k := by
  unfold sub; simp
theorem sub_back {α : Type} {l : List α} {k : Nat} : sub l (k : Int) (l.length : Int) = l.drop k := by
  unfold sub
  rw [List.take_of_length_le (by simp)]
  simp
theorem ix_lt {α : Type} [Inhabited α] {l : List α} {k : Nat} (h : k < l.length) : ix l (k : Int) = l[k] := ix_of (List.getElem?_eq_getElem h)
theorem ix_mem {α : Type} [Inhabited α] {l : List α} {i : Int} (h1 : 0 ≤ i) (h2 : i < l.length) : ix l i ∈ l := List.mem_of_getElem? (ix_get (l := l) (i := i) ⟨h1, h2⟩)
theorem wrapS {k : Nat} (h : k ≤ 1000000000) : IntKind.i64.wrap ((k : Int) + 1) = ((k + 1 : Nat) : Int) := by
  rw [wrap_in (by omega) (by omega)]; rfl
theorem ix_app {α : Type} [Inhabited α] {A B : List α} {x : α} {k : Int} (hk : k = A.length) : ix (A ++ x :: B) k = x := by
  subst hk
  exact ix_of (by simp)
theorem set_app {α : Type} {A B : List α} {x y : α} {k : Nat} (hk : k = A.length) : (A ++ x :: B).set k y = A ++ y :: B := by
  subst hk; simp
theorem map_step {α : Type} {l : List α} {f : α → α} {k : Nat} {x : α} (hk : l[k]? = some x) : ((l.take k).map f ++ l.drop k).set k (f x) = (l.take (k + 1)).map f ++ l.drop (k + 1) := by
  have hlt := (List.getElem?_eq_some_iff.1 hk).1
  have hx := (List.getElem?_eq_some_iff.1 hk).2
  have hd : l.drop k = x :: l.drop (k + 1) := by rw [← hx]; exact List.drop_eq_getElem_cons hlt
  have ht : l.take (k + 1) = l.take k ++ [x] := by rw [← hx]; simp
  rw [hd, set_app (by simp; omega), ht]; simp
theorem map_at {α : Type} [Inhabited α] {l : List α} {f : α → α} {k : Nat} {x : α} (hk : l[k]? = some x) : ix ((l.take k).map f ++ l.drop k) (k : Int) = x := by
  have hlt := (List.getElem?_eq_some_iff.1 hk).1
  have hx := (List.getElem?_eq_some_iff.1 hk).2
  have hd : l.drop k = x :: l.drop (k + 1) := by rw [← hx]; exact List.drop_eq_getElem_cons hlt
  rw [hd]; exact ix_app (by simp; omega)
theorem map_len {α : Type} {l : List α} {f : α → α} {k : Nat} : ((l.take k).map f ++ l.drop k).length = l.length := by
  simp; omega
theorem drop_two {α : Type} [Inhabited α] {l : List α} {k : Nat} (h : k + 1 < l.length) : l.drop k = ix l (k : Int) :: ix l ((k + 1 : Nat) : Int) :: l.drop (k + 2) ∧ l.drop (k + 1) = ix l ((k + 1 : Nat) : Int) :: l.drop (k + 2) := by
  have h2 : l.drop (k + 1) = ix l ((k + 1 : Nat) : Int) :: l.drop (k + 2) := by rw [ix_lt h]; exact List.drop_eq_getElem_cons h
  refine ⟨?_, h2⟩
  rw [← h2, ix_lt (by omega : k < l.length)]
  exact List.drop_eq_getElem_cons (by omega)
/-- Two lists of one length, compared element by element. -/
theorem map_eq_iff {α β : Type} [Inhabited α] {f : α → β} {a b : List α} (h : a.length = b.length) : a.map f = b.map f ↔ ∀ j : Nat, j < a.length → f (ix a (j : Int)) = f (ix b (j : Int)) := by
  constructor
  · intro e j hj
    rw [ix_lt hj, ix_lt (by omega)]
    have := congrArg (fun l => l[j]?) e
    simpa [hj, (by omega : j < b.length)] using this
  · intro hh
    refine List.ext_getElem (by simpa using h) fun j h1 h2 => ?_
    have h1 : j < a.length := by simpa using h1
    have := hh j h1
    rw [ix_lt h1, ix_lt (by omega)] at this
    simpa using this
theorem list_eq_iff {α : Type} [Inhabited α] {a b : List α} (h : a.length = b.length) : a = b ↔ ∀ j : Nat, j < a.length → ix a (j : Int) = ix b (j : Int) := by
  have := map_eq_iff (f := id) h
  simpa using this
/-- A loop that compares two lists. -/
theorem loopCmp {n : Nat} (hn : n ≤ 1000000000) {B : (Int → Prop) → Int → Prop} {K : Prop} {p : Nat → Prop} (hB : ∀ (rec : Int → Prop) (k : Nat), k < n → (∀ j, j < k → p j) → (p k → rec (IntKind.i64.wrap ((k : Int) + 1))) → B rec (k : Int)) (hK : (∀ j, j < n → p j) → K) :
    LOOP [Ty.int IntKind.i64] (fun (rec : Int → Prop) (z : Int) => IFB (decide (z < (n : Int))) (B rec z) K) ((0 : Int), PUnit.unit) := by
  refine LOOP.fuel (fun u => ∃ k : Nat, u.1 = (k : Int) ∧ k ≤ n ∧ ∀ j, j < k → p j) (fun u => n - Int.toNat u.1) ⟨0, rfl, Nat.zero_le _, fun j hj => by omega⟩ ?_
  rintro rec ⟨(z : Int), ⟨⟩⟩ ⟨k, hz, hk, hp⟩ hrec
  have hz : z = (k : Int) := hz
  subst hz
  refine IFB.mk (fun hb => ?_) (fun hb => hK fun j hj => hp j (by have := of_decide_eq_false hb; omega))
  have hb : (k : Int) < n := of_decide_eq_true hb
  refine hB rec k (by omega) hp fun hpk => ?_
  rw [wrapS (by omega)]
  refine hrec (((k + 1 : Nat) : Int), ()) ⟨k + 1, rfl, by omega, fun j hj => ?_⟩ (by show n - ((k + 1 : Nat) : Int).toNat < n - (k : Int).toNat; omega)
  by_cases h : j = k
  · rw [h]; exact hpk
  · exact hp j (by omega)
end RE
end Go.Proofs.YtblcakaohlgagaaGreat
set_option linter.unusedVariables false
set_option maxRecDepth 100000
namespace Go.Proofs.YtblcakaohlgagaaGreat
open Go.RowKit
namespace RE
open PL
namespace PL
def howS (h : Int) : Bool → Bool → Bool := fun x y => if h = 1 then x || y else if h = 2 then x && y else x && !y
def mkR (u v : Int) (s : Sp) : Rc := ⟨s.1, u, s.2, v⟩
def lastR (acc : List Bd) : List Rc := match acc.getLast? with
  | none => []
  | some b => flat1 b
end PL
theorem howS_0 (h : Int) : howS h false false = false := by unfold howS; simp
theorem flat_app {a b : List Bd} : flat (a ++ b) = flat a ++ flat b := by unfold flat; simp
theorem flat_last {acc : List Bd} : flat acc.dropLast ++ lastR acc = flat acc := by
  rcases List.eq_nil_or_concat acc with rfl | ⟨A, b, rfl⟩
  · rfl
  · simp only [List.concat_eq_append]
    rw [List.dropLast_concat, flat_app]
    unfold lastR
    simp [flat]
theorem addSp_len {out : List Sp} {u v : Int} : (addSp out u v).length ≤ out.length + 1 := by
  unfold addSp
  rcases List.eq_nil_or_concat out with rfl | ⟨A, s, rfl⟩
  · simp
  · simp only [List.concat_eq_append, List.getLast?_append, List.getLast?_singleton, Option.some_or]
    split
    · rw [List.dropLast_concat]; simp
    · simp
theorem spansG_len {p : Int → Bool} : ∀ {xs : List Int} {out : List Sp}, (spansG p out xs).length ≤ out.length + xs.length
  | [], out => by simp [spansG]
  | [u], out => by simp [spansG]
  | u :: v :: r, out => by
    have ih := spansG_len (p := p) (xs := v :: r) (out := if p u = true then addSp out u v else out)
    unfold spansG
    have := addSp_len (out := out) (u := u) (v := v)
    simp only [List.length_cons] at ih ⊢
    split at ih
    · rename_i h; rw [if_pos h]; omega
    · rename_i h; rw [if_neg h]; omega
/-- A span more, as the reference lays it. -/
theorem addSp_map {sp : List Sp} {u v x x' : Int} : (sp = [] ∧ (addSp sp x x').map (mkR u v) = [mkR u v ⟨x, x'⟩]) ∨ ∃ A s, sp = A ++ [s] ∧ (s.2 = x ∧ (addSp sp x x').map (mkR u v) = (sp.map (mkR u v)).set A.length { mkR u v s with Right := x' } ∨ s.2 ≠ x ∧ (addSp sp x x').map (mkR u v) = sp.map (mkR u v) ++ [mkR u v ⟨x, x'⟩]) := by
  unfold addSp
  rcases List.eq_nil_or_concat sp with rfl | ⟨A, s, rfl⟩
  · exact .inl ⟨rfl, rfl⟩
  · right
    refine ⟨A, s, by simp, ?_⟩
    simp only [List.concat_eq_append, List.getLast?_append, List.getLast?_singleton, Option.some_or]
    by_cases h : s.2 = x
    · left
      refine ⟨h, ?_⟩
      rw [if_pos h, List.dropLast_concat, List.map_append, List.map_append]
      simp [mkR]
    · right
      refine ⟨h, ?_⟩
      rw [if_neg h]
      simp
/-- A band more, as the reference lays it. -/
theorem addBd_ref {acc : List Bd} {u v : Int} {ss : List Sp} : ((lastR acc ≠ [] ∧ (lastR acc).map spanOf = ss ∧ (ix (lastR acc) 0).High = u) ∧ flat (addBd acc u v ss).dropLast = flat acc.dropLast ∧ lastR (addBd acc u v ss) = (lastR acc).map (fun r => { r with High := v })) ∨
    (¬ (lastR acc ≠ [] ∧ (lastR acc).map spanOf = ss ∧ (ix (lastR acc) 0).High = u) ∧ flat (addBd acc u v ss).dropLast = flat acc.dropLast ++ lastR acc ∧ lastR (addBd acc u v ss) = ss.map (mkR u v)) := by
  rcases List.eq_nil_or_concat acc with rfl | ⟨A, b, rfl⟩
  · right
    exact ⟨fun h => h.1 rfl, rfl, rfl⟩
  · simp only [List.concat_eq_append]
    have hl : lastR (A ++ [b]) = flat1 b := by unfold lastR; simp
    have hm : (flat1 b).map spanOf = b.spans := by
      unfold flat1
      rw [List.map_map]
      have : (spanOf ∘ fun s : Sp => (⟨s.1, b.low, s.2, b.high⟩ : Rc)) = id := by funext s; rfl
      rw [this, List.map_id]
    have hne : flat1 b ≠ [] ↔ b.spans ≠ [] := by unfold flat1; simp
    have hhigh : flat1 b ≠ [] → (ix (flat1 b) 0).High = b.high := fun h => by
      unfold flat1 at h ⊢
      cases hsp : b.spans with
      | nil => rw [hsp] at h; exact absurd rfl h
      | cons s r => rfl
    rw [hl, hm]
    unfold addBd
    simp only [List.getLast?_append, List.getLast?_singleton, Option.some_or]
    by_cases hc : b.high = u ∧ b.spans = ss
    · rw [if_pos hc, List.dropLast_concat, List.dropLast_concat]
      have hl2 : lastR (A ++ [⟨b.low, v, b.spans⟩]) = flat1 ⟨b.low, v, b.spans⟩ := by unfold lastR; simp
      rw [hl2]
      by_cases hs : b.spans = []
      · right
        refine ⟨fun h => (hne.1 h.1) hs, ?_, ?_⟩
        · unfold flat1; rw [hs]; simp
        · rw [← hc.2, hs]; unfold flat1; simp
      · left
        refine ⟨⟨hne.2 hs, hc.2, by rw [hhigh (hne.2 hs)]; exact hc.1⟩, rfl, ?_⟩
        unfold flat1
        rw [List.map_map]
        rfl
    · right
      rw [if_neg hc]
      have hl2 : lastR (A ++ [b] ++ [⟨u, v, ss⟩]) = flat1 ⟨u, v, ss⟩ := by unfold lastR; simp
      rw [hl2, List.dropLast_concat, List.dropLast_concat]
      refine ⟨fun h => hc ⟨by rw [← hhigh h.1]; exact h.2.2, h.2.1⟩, ?_, rfl⟩
      rw [flat_app]
      simp [flat]
end RE
end Go.Proofs.YtblcakaohlgagaaGreat
set_option linter.unusedVariables false
set_option maxRecDepth 100000
namespace Go.Proofs.YtblcakaohlgagaaGreat
open Go.RowKit
namespace RE
open PL
namespace PL
def withinP (a b : List Rc) : Prop := validP a ∧ validP b ∧ ∀ x y, cov a x y = true → cov b x y = true
open Classical in
noncomputable def ofS (l : List Rc) : List Rc × Int := if 120 < l.length then ([], 1) else if ¬ ∀ r ∈ l, proper r then ([], 2) else if 120 < (canonF (cov l)).length then ([], 1) else (canonF (cov l), 0)
def insS (l : List Sp) (x : Int) : Bool := l.any fun s => decide (s.Left ≤ x) && decide (x < s.Right)
def properB (r : Rc) : Bool := decide (0 ≤ r.Left) && decide (r.Left < r.Right) && decide (r.Right ≤ 16384) && decide (0 ≤ r.Low) && decide (r.Low < r.High) && decide (r.High ≤ 16384)
end PL
theorem properB_iff {r : Rc} : properB r = true ↔ proper r := by unfold properB proper; simp [and_assoc]
theorem comb_or_nil (a : List Rc) : comb (howS 1) a [] = cov a := by
  funext x y
  unfold comb howS
  simp [cov_nil]
theorem canon_cov (a : List Rc) : Canon (canonF (cov a)) ∧ ∀ x y, cov (canonF (cov a)) x y = cov a x y := by
  have := comb_ok (howS_0 1) a []
  rw [comb_or_nil] at this
  exact this
theorem canon_iff (a : List Rc) : canonF (cov a) = a ↔ Canon a := ⟨fun h => h ▸ (canon_cov a).1, canon_self⟩
theorem not_none (a b : List Rc) : canonF (comb (howS 3) a b) = [] ↔ ∀ x y, cov a x y = true → cov b x y = true := by
  obtain ⟨h1, h2⟩ := comb_ok (howS_0 3) a b
  rw [canon_none h1]
  constructor
  · intro h x y ha
    have := h x y
    rw [h2] at this
    unfold comb howS at this
    simpa [ha] using this
  · intro h x y
    rw [h2]
    unfold comb howS
    cases ha : cov a x y with
    | false => simp
    | true => simp [h x y ha]
theorem proper_box {l : List Rc} (h : ∀ r ∈ l, proper r) {x y : Int} (hc : cov l x y = true) : 0 ≤ x ∧ x < 16384 ∧ 0 ≤ y ∧ y < 16384 := by
  obtain ⟨r, hr, h1, h2, h3, h4⟩ := cov_iff.1 hc
  obtain ⟨p1, p2, p3, p4, p5, p6⟩ := h r hr
  omega
theorem box_len {f : Int → Int → Bool} (hc : Canon (canonF f)) (h : ∀ x y, cov (canonF f) x y = true → 0 ≤ x ∧ x < 16384 ∧ 0 ≤ y ∧ y < 16384) : (canonF f).length ≤ 268435456 := by
  have := canon_len hc (x0 := 0) (x1 := 16384) (y0 := 0) (y1 := 16384) (by omega) (by omega) h
  omega
theorem cov_len {l : List Rc} (h : ∀ r ∈ l, proper r) : (canonF (cov l)).length ≤ 268435456 := box_len (canon_cov l).1 fun x y hc => proper_box h (by rwa [(canon_cov l).2] at hc)
theorem all_ix {l : List Rc} {p : Rc → Prop} (h : ∀ j : Nat, j < l.length → p (ix l (j : Int))) : ∀ r ∈ l, p r := by
  intro r hr
  obtain ⟨j, hj, rfl⟩ := List.getElem_of_mem hr
  have := h j hj
  rwa [ix_lt hj] at this
end RE
end Go.Proofs.YtblcakaohlgagaaGreat
