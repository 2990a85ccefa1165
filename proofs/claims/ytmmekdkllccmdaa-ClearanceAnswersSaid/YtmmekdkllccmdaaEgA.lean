/-
  An engine for walks: what the slots of a frame hold: plain data that is read (never written) in memory, boxes and rows of the call's own, the tape.
-/
import Derived.Test.YtmmekdkllccmdaaRows
import Derived.WalkKit
import Derived.WalkSpells
import Derived.WalkLawsBesides
import Derived.BigQuiet
import Derived.Deep.QuietTactic
import Derived.Deep.MidRow
import Derived.Lib.Hide
import Derived.Lib.QuietBelow
import Derived.Laws.OwnMore
import Derived.LoopN
import Derived.Laws.IdiomCopy
import Derived.Deep.AppendSrc
import Derived.Deep.Upon
namespace Go.Proofs.Ytmmekdkllccmdaa
open Go.RowKit
set_option linter.unusedVariables false
namespace Eng
/-- Data that a value reads as: an exact value, a function with what it captured, a struct's cells, several results, a slice's rows, a pointer to cells. -/
inductive D where
  | v (x : Value)
  | fn (f : FuncId) (caps : List D)
  | agg (cs : List D)
  | tup (cs : List D)
  | sl (sz : Nat) (xs : List (List D))
  | p (cs : List D)
instance : Inhabited D := ⟨.v default⟩
abbrev Cells := Nat → Nat → Prop
/-- Value u reads as data in world w, by cells that are stable (S). -/
inductive Rd (S : Cells) (w : World) : D → Value → Prop
  | v (x : Value) : Rd S w (.v x) x
  | fn (f : FuncId) (cs : List D) (us : List Value) (hl : us.length = cs.length) (h : ∀ (i : Nat) (c : D) (u : Value), cs[i]? = some c → us[i]? = some u → Rd S w c u) : Rd S w (.fn f cs) (.func (.func f) #[] us.toArray)
  | agg (cs : List D) (us : List Value) (hl : us.length = cs.length) (h1 : ∀ u ∈ us, u.oneCell' = true) (h : ∀ (i : Nat) (c : D) (u : Value), cs[i]? = some c → us[i]? = some u → Rd S w c u) : Rd S w (.agg cs) (.agg us.toArray)
  | tup (cs : List D) (us : List Value) (hl : us.length = cs.length) (h : ∀ (i : Nat) (c : D) (u : Value), cs[i]? = some c → us[i]? = some u → Rd S w c u) : Rd S w (.tup cs) (.tuple us.toArray)
  | sl (sz : Nat) (xs : List (List D)) (ad : Option Addr) (cap b off : Nat) (f : Nat → Nat → Value) (hc : xs.length ≤ cap) (hm : cap ≤ maxLen) (ha : xs = [] ∨ ad = some ⟨b, off, none⟩)
      (hx : ∀ (i : Nat) (row : List D), xs[i]? = some row → row.length = sz ∧ ∀ j, j < sz → S b (off + i * sz + j) ∧ w.cell? ⟨b, off + i * sz + j, none⟩ = some (f i j) ∧ (f i j).oneCell' = true)
      (h : ∀ (i : Nat) (row : List D) (j : Nat) (c : D), xs[i]? = some row → row[j]? = some c → Rd S w c (f i j)) : Rd S w (.sl sz xs) (.slice ad xs.length cap)
  | p (cs : List D) (b off : Nat) (f : Nat → Value) (hx : ∀ j, j < cs.length → S b (off + j) ∧ w.cell? ⟨b, off + j, none⟩ = some (f j) ∧ (f j).oneCell' = true)
      (h : ∀ (j : Nat) (c : D), cs[j]? = some c → Rd S w c (f j)) : Rd S w (.p cs) (.pointer (some ⟨b, off, none⟩))
theorem Rd.mono {S S' : Cells} {w w' : World} (hS : ∀ b o, S b o → S' b o) (hw : ∀ b o, S b o → w'.cell? ⟨b, o, none⟩ = w.cell? ⟨b, o, none⟩) {x : D} {u : Value} (h : Rd S w x u) : Rd S' w' x u := by
  induction h with
  | v x => exact .v x
  | fn f cs us hl h ih => exact .fn f cs us hl ih
  | agg cs us hl h1 h ih => exact .agg cs us hl h1 ih
  | tup cs us hl h ih => exact .tup cs us hl ih
  | sl sz xs ad cap b off f hc hm ha hx h ih =>
    refine .sl sz xs ad cap b off f hc hm ha (fun i row hi => ⟨(hx i row hi).1, fun j hj => ?_⟩) ih
    obtain ⟨h1, h2, h3⟩ := (hx i row hi).2 j hj
    exact ⟨hS _ _ h1, (hw _ _ h1).trans h2, h3⟩
  | p cs b off f hx h ih =>
    refine .p cs b off f (fun j hj => ?_) ih
    obtain ⟨h1, h2, h3⟩ := hx j hj
    exact ⟨hS _ _ h1, (hw _ _ h1).trans h2, h3⟩
mutual
/-- Data that no memory stands behind. -/
def D.flat : D → Bool
  | .v _ => true
  | .agg cs => flatL cs
  | .tup cs => flatL cs
  | _ => false
def flatL : List D → Bool
  | [] => true
  | x :: r => x.flat && flatL r
end
theorem flatL_get : ∀ {cs : List D}, flatL cs = true → ∀ {i : Nat} {c : D}, cs[i]? = some c → c.flat = true
  | [], _, i, c, h => by simp at h
  | x :: r, hf, i, c, h => by
    simp only [flatL, Bool.and_eq_true] at hf
    cases i with
    | zero => simp at h; subst h; exact hf.1
    | succ i => simp at h; exact flatL_get hf.2 h
theorem Rd.flat {S S' : Cells} {w w' : World} {x : D} {u : Value} (h : Rd S w x u) : x.flat = true → Rd S' w' x u := by
  induction h with
  | v x => exact fun _ => .v x
  | fn f cs us hl h ih => exact fun hf => by simp [D.flat] at hf
  | agg cs us hl h1 h ih => exact fun hf => .agg cs us hl h1 fun i c u hc hu => ih i c u hc hu (flatL_get (by simpa [D.flat] using hf) hc)
  | tup cs us hl h ih => exact fun hf => .tup cs us hl fun i c u hc hu => ih i c u hc hu (flatL_get (by simpa [D.flat] using hf) hc)
  | sl => exact fun hf => by simp [D.flat] at hf
  | p => exact fun hf => by simp [D.flat] at hf
/-- What a slot holds: data; a pointer into a box; a row of the call's own, or a pointer into it; a struct or several results with such parts; a function with what it captured; something under a condition; the tape; nothing that is known. -/
inductive SV where
  | d (x : D)
  | bx (id off : Nat)
  | os (id : Nat)
  | op (id off : Nat)
  | agg (cs : List SV)
  | tup (cs : List SV)
  | fn (f : FuncId) (cs : List SV)
  | cnd (g : Bool) (x : SV)
  | tp
  | un
instance : Inhabited SV := ⟨.un⟩
/-- Where things are: stable cells, the boxes' blocks, the owned rows' values, the tape's block. -/
structure Cx where
  S : Cells
  B : Nat → Nat
  O : Nat → Value
  T : Nat
inductive SRel (c : Cx) (w : World) : SV → Value → Prop
  | d (x : D) (u : Value) (h : Rd c.S w x u) : SRel c w (.d x) u
  | bx (id off : Nat) : SRel c w (.bx id off) (.pointer (some ⟨c.B id, off, none⟩))
  | os (id : Nat) : SRel c w (.os id) (c.O id)
  | op (id off g n cap : Nat) (h : c.O id = .slice (some ⟨g, 0, none⟩) n cap) : SRel c w (.op id off) (.pointer (some ⟨g, off, none⟩))
  | agg (cs : List SV) (us : List Value) (hl : us.length = cs.length) (h1 : ∀ u ∈ us, u.oneCell' = true) (h : ∀ (i : Nat) (s : SV) (u : Value), cs[i]? = some s → us[i]? = some u → SRel c w s u) : SRel c w (.agg cs) (.agg us.toArray)
  | tup (cs : List SV) (us : List Value) (hl : us.length = cs.length) (h : ∀ (i : Nat) (s : SV) (u : Value), cs[i]? = some s → us[i]? = some u → SRel c w s u) : SRel c w (.tup cs) (.tuple us.toArray)
  | fn (f : FuncId) (cs : List SV) (us : List Value) (hl : us.length = cs.length) (h : ∀ (i : Nat) (s : SV) (u : Value), cs[i]? = some s → us[i]? = some u → SRel c w s u) : SRel c w (.fn f cs) (.func (.func f) #[] us.toArray)
  | cnd (g : Bool) (x : SV) (u : Value) (h : g = true → SRel c w x u) (h' : g = false → u = undef) : SRel c w (.cnd g x) u
  | tp : SRel c w .tp (.pointer (some ⟨c.T, 0, none⟩))
  | un (u : Value) : SRel c w .un u
def mx (a b : Nat) : Nat := bif Nat.ble a b then b else a
theorem le_mx (a b n : Nat) : mx a b ≤ n ↔ a ≤ n ∧ b ≤ n := by
  unfold mx
  cases h : Nat.ble a b with
  | true => have := Nat.le_of_ble_eq_true h; simp only [cond_true]; omega
  | false =>
    have : ¬ a ≤ b := fun e => by rw [Nat.ble_eq_true_of_le e] at h; cases h
    simp only [cond_false]; omega
mutual
/-- A bound on the numbers of the boxes and rows that are named. -/
def SV.top : SV → Nat
  | .bx id _ => id + 1
  | .os id => id + 1
  | .op id _ => id + 1
  | .agg cs => topL cs
  | .tup cs => topL cs
  | .fn _ cs => topL cs
  | .cnd _ x => x.top
  | _ => 0
def topL : List SV → Nat
  | [] => 0
  | s :: r => mx s.top (topL r)
end
theorem topL_get {n : Nat} : ∀ {cs : List SV}, topL cs ≤ n → ∀ {i : Nat} {s : SV}, cs[i]? = some s → s.top ≤ n
  | [], _, i, s, h => by simp at h
  | x :: r, ht, i, s, h => by
    obtain ⟨h1, h2⟩ := (le_mx _ _ _).1 (by simpa [topL] using ht)
    cases i with
    | zero => simp at h; subst h; exact h1
    | succ i => simp at h; exact topL_get h2 h
theorem SRel.mono {c c' : Cx} {w w' : World} {n : Nat} (hS : ∀ b o, c.S b o → c'.S b o) (hw : ∀ b o, c.S b o → w'.cell? ⟨b, o, none⟩ = w.cell? ⟨b, o, none⟩) (hT : c'.T = c.T) (hB : ∀ id, id < n → c'.B id = c.B id ∧ c'.O id = c.O id)
    {s : SV} {u : Value} (h : SRel c w s u) : s.top ≤ n → SRel c' w' s u := by
  induction h with
  | d x u h => exact fun _ => .d x u (h.mono hS hw)
  | bx id off => exact fun ht => by rw [← (hB id ht).1]; exact .bx id off
  | os id => exact fun ht => by rw [← (hB id ht).2]; exact .os id
  | op id off g m cap h => exact fun ht => .op id off g m cap (by rw [(hB id ht).2]; exact h)
  | agg cs us hl h1 h ih => exact fun ht => .agg cs us hl h1 fun i s u hs hu => ih i s u hs hu (topL_get (by simpa [SV.top] using ht) hs)
  | tup cs us hl h ih => exact fun ht => .tup cs us hl fun i s u hs hu => ih i s u hs hu (topL_get (by simpa [SV.top] using ht) hs)
  | fn f cs us hl h ih => exact fun ht => .fn f cs us hl fun i s u hs hu => ih i s u hs hu (topL_get (by simpa [SV.top] using ht) hs)
  | cnd g x u h h' ih => exact fun ht => .cnd g x u (fun hg => ih hg ht) h'
  | tp => exact fun _ => by rw [← hT]; exact .tp
  | un u => exact fun _ => .un u
theorem SRel.mono' {c : Cx} {S' : Cells} {w w' : World} (hS : ∀ b o, c.S b o → S' b o) (hw : ∀ b o, c.S b o → w'.cell? ⟨b, o, none⟩ = w.cell? ⟨b, o, none⟩) {s : SV} {u : Value} (h : SRel c w s u) : SRel ⟨S', c.B, c.O, c.T⟩ w' s u :=
  SRel.mono (c' := ⟨S', c.B, c.O, c.T⟩) (n := s.top) hS hw rfl (fun _ _ => ⟨rfl, rfl⟩) h (Nat.le_refl _)
theorem srel_d {c : Cx} {w : World} {x : D} {u : Value} (h : SRel c w (.d x) u) : Rd c.S w x u := by cases h; assumption
theorem srel_v {c : Cx} {w : World} {x u : Value} (h : SRel c w (.d (.v x)) u) : u = x := by
  have h' := srel_d h
  cases h'; rfl
theorem v_srel {c : Cx} {w : World} (x : Value) : SRel c w (.d (.v x)) x := .d _ _ (.v x)
theorem srel_bx {c : Cx} {w : World} {id off : Nat} {u : Value} (h : SRel c w (.bx id off) u) : u = .pointer (some ⟨c.B id, off, none⟩) := by cases h; rfl
theorem srel_os {c : Cx} {w : World} {id : Nat} {u : Value} (h : SRel c w (.os id) u) : u = c.O id := by cases h; rfl
theorem srel_tp {c : Cx} {w : World} {u : Value} (h : SRel c w .tp u) : u = .pointer (some ⟨c.T, 0, none⟩) := by cases h; rfl
theorem srel_cnd {c : Cx} {w : World} {g : Bool} {x : SV} {u : Value} (h : SRel c w (.cnd g x) u) : (g = true → SRel c w x u) ∧ (g = false → u = undef) := by cases h; exact ⟨by assumption, by assumption⟩

def look : List (Nat × SV) → Nat → SV
  | [], _ => .un
  | (k, v) :: r, x => bif Nat.beq k x then v else look r x
def lookA {α : Type} : List (Nat × α) → Nat → Option α
  | [], _ => none
  | (k, v) :: r, x => bif Nat.beq k x then some v else lookA r x
def setA {α : Type} : List (Nat × α) → Nat → α → List (Nat × α)
  | [], _, _ => []
  | (k, v) :: r, id, cs => bif Nat.beq k id then (k, cs) :: r else (k, v) :: setA r id cs
def delA {α : Type} : List (Nat × α) → Nat → List (Nat × α)
  | [], _ => []
  | (k, v) :: r, id => bif Nat.beq k id then delA r id else (k, v) :: delA r id
theorem beq_eq {a b : Nat} (h : Nat.beq a b = true) : a = b := Nat.eq_of_beq_eq_true h
theorem beq_ne {a b : Nat} (h : a ≠ b) : Nat.beq a b = false := by
  cases hb : Nat.beq a b with
  | false => rfl
  | true => exact absurd (beq_eq hb) h
theorem lookA_cons {α : Type} (k : Nat) (v : α) (r : List (Nat × α)) (i : Nat) : lookA ((k, v) :: r) i = if k = i then some v else lookA r i := by
  show (bif Nat.beq k i then _ else _) = _
  by_cases h : k = i
  · subst h; simp
  · rw [beq_ne h, if_neg h]; rfl
theorem lookA_setA {α : Type} : ∀ (l : List (Nat × α)) (id : Nat) (x : α) (i : Nat) (y : α), lookA (setA l id x) i = some y → (i = id ∧ y = x ∧ ∃ z, lookA l id = some z) ∨ (i ≠ id ∧ lookA l i = some y)
  | [], _, _, _, _, h => by simp [setA, lookA] at h
  | (k, v) :: r, id, x, i, y, h => by
    by_cases hk : k = id
    · subst hk
      simp only [setA, Nat.beq_refl, cond_true] at h
      rw [lookA_cons] at h
      by_cases hi : k = i
      · subst hi; rw [if_pos rfl] at h; exact .inl ⟨rfl, (Option.some.inj h).symm, v, by rw [lookA_cons, if_pos rfl]⟩
      · rw [if_neg hi] at h; exact .inr ⟨Ne.symm hi, by rw [lookA_cons, if_neg hi]; exact h⟩
    · simp only [setA, beq_ne hk, cond_false] at h
      rw [lookA_cons] at h
      by_cases hi : k = i
      · subst hi; rw [if_pos rfl] at h; exact .inr ⟨hk, by rw [lookA_cons, if_pos rfl]; exact h⟩
      · rw [if_neg hi] at h
        rcases lookA_setA r id x i y h with ⟨h1, h2, z, h3⟩ | ⟨h1, h2⟩
        · exact .inl ⟨h1, h2, z, by rw [lookA_cons, if_neg hk]; exact h3⟩
        · exact .inr ⟨h1, by rw [lookA_cons, if_neg hi]; exact h2⟩
theorem lookA_delA {α : Type} : ∀ (l : List (Nat × α)) (id i : Nat) (y : α), lookA (delA l id) i = some y → i ≠ id ∧ lookA l i = some y
  | [], _, _, _, h => by simp [delA, lookA] at h
  | (k, v) :: r, id, i, y, h => by
    by_cases hk : k = id
    · subst hk
      simp only [delA, Nat.beq_refl, cond_true] at h
      obtain ⟨h1, h2⟩ := lookA_delA r k i y h
      exact ⟨h1, by rw [lookA_cons, if_neg (Ne.symm h1)]; exact h2⟩
    · simp only [delA, beq_ne hk, cond_false] at h
      rw [lookA_cons] at h
      by_cases hi : k = i
      · subst hi; rw [if_pos rfl] at h; exact ⟨hk, by rw [lookA_cons, if_pos rfl]; exact h⟩
      · rw [if_neg hi] at h
        obtain ⟨h1, h2⟩ := lookA_delA r id i y h
        exact ⟨h1, by rw [lookA_cons, if_neg hi]; exact h2⟩
/-- A row that the call owns: its elements' type and size, and the elements. -/
structure OwnE where
  e : TypeId
  sz : Nat
  rows : List (List D)
/-- The state of a walk: slots, boxes, owned rows; the next number; is the tape at hand; the frame's size. -/
structure St where
  sl : List (Nat × SV)
  bx : List (Nat × List SV)
  own : List (Nat × OwnE)
  nx : Nat
  tp : Bool
  n : Nat
def St.put (st : St) (d : Nat) (v : SV) : St := ⟨(d, v) :: st.sl, st.bx, st.own, st.nx, st.tp, st.n⟩
def St.ev (st : St) : Operand → SV
  | .tmp t => look st.sl t
  | .const v => .d (.v v)
  | .func f => .d (.v (.func (.func f) #[] #[]))
  | .global _ => .un
def blkOf : Value → Option Nat
  | .slice (some a) _ _ => some a.block
  | .map (some g) => some g
  | _ => none
/-- The owned row lies at the head of a block of the call's own, of which nothing is stable. -/
def OwnAt (base : Nat) (w : World) (S : Cells) (v : Value) (x : OwnE) : Prop :=
  (v = .slice none 0 0 ∧ x.rows = []) ∨
  ∃ g cap cur, v = .slice (some ⟨g, 0, none⟩) x.rows.length cap ∧ base ≤ g ∧ w.heap[g]? = some (.cells cur x.e (0, 0)) ∧ x.rows.length ≤ cap ∧ cap ≤ maxLen ∧ cur.size = cap * x.sz ∧ (∀ o, ¬ S g o) ∧
    ∀ (i : Nat) (row : List D), x.rows[i]? = some row → row.length = x.sz ∧ ∀ (j : Nat) (c : D), row[j]? = some c → ∃ u : Value, cur[i * x.sz + j]? = some u ∧ u.oneCell' = true ∧ Rd S w c u
/-- A map of the call's own: its entries, in turn, key and value. -/
def MapAt (base : Nat) (w : World) (S : Cells) (v : Value) (x : OwnE) : Prop :=
  x.sz = 0 ∧ ∃ (g : Nat) (es : Array MapEntry) (clock : Nat), v = .map (some g) ∧ base ≤ g ∧ w.heap[g]? = some (.map es clock) ∧ (∀ o, ¬ S g o) ∧ es.toList.map (fun e => [D.v e.key, D.v e.val]) = x.rows
def OwnX (base : Nat) (w : World) (S : Cells) (v : Value) (x : OwnE) : Prop := (0 < x.sz ∧ OwnAt base w S v x) ∨ MapAt base w S v x
theorem OwnX.slice {base : Nat} {w : World} {S : Cells} {v : Value} {x : OwnE} (h : OwnX base w S v x) (hs : 0 < x.sz) : OwnAt base w S v x := h.elim (·.2) (fun h => absurd h.1 (by omega))
theorem OwnX.map {base : Nat} {w : World} {S : Cells} {v : Value} {x : OwnE} (h : OwnX base w S v x) (hs : x.sz = 0) : MapAt base w S v x := h.elim (fun h => absurd h.1 (by omega)) id
theorem OwnX.blk {base : Nat} {w : World} {S : Cells} {v : Value} {x : OwnE} (h : OwnX base w S v x) {b : Nat} (hb : blkOf v = some b) : base ≤ b ∧ b < w.heap.size ∧ ∀ o, ¬ S b o := by
  rcases h with ⟨_, ⟨hn, _⟩ | ⟨g, cap, cur, hv, hg1, hg, _, _, _, hS, _⟩⟩ | ⟨_, g, es, clock, hv, hg1, hg, hS, _⟩
  · rw [hn] at hb; cases hb
  · rw [hv] at hb; cases hb; exact ⟨hg1, (Array.getElem?_eq_some_iff.1 hg).1, hS⟩
  · rw [hv] at hb; cases hb; exact ⟨hg1, (Array.getElem?_eq_some_iff.1 hg).1, hS⟩
theorem OwnX.one {base : Nat} {w : World} {S : Cells} {v : Value} {x : OwnE} (h : OwnX base w S v x) : v.cells = #[v] ∧ v.oneCell' = true := by
  rcases h with ⟨_, ⟨hn, _⟩ | ⟨g, cap, cur, hv, _⟩⟩ | ⟨_, g, es, clock, hv, _⟩
  · rw [hn]; exact ⟨rfl, rfl⟩
  · rw [hv]; exact ⟨rfl, rfl⟩
  · rw [hv]; exact ⟨rfl, rfl⟩
def BoxAt (base : Nat) (w : World) (c : Cx) (b : Nat) (cs : List SV) : Prop :=
  base ≤ b ∧ (∀ o, ¬ c.S b o) ∧ ∃ (arr : List Value) (t : TypeId), w.heap[b]? = some (.cells arr.toArray t (0, 0)) ∧ arr.length = cs.length ∧ (∀ u ∈ arr, u.oneCell' = true) ∧ ∀ (j : Nat) (s : SV) (u : Value), cs[j]? = some s → arr[j]? = some u → SRel c w s u
/-- The tape in block T: what it has left are numbers that can be read, in stable cells. -/
def TapeS (w : World) (T : Nat) (S : Cells) : Prop := ∃ (a : Option Addr) (len cap at_ : Nat), w.heap[T]? = some (.cells #[.slice a len cap, .int .i64 (at_ : Nat)] 89 (0, 0)) ∧ at_ ≤ len ∧ len ≤ 400 ∧
  (0 < len → ∃ bl off : Nat, a = some ⟨bl, off, none⟩ ∧ ∀ i, i < len → S bl (off + i) ∧ ∃ z : Int, w.cell? ⟨bl, off + i, none⟩ = some (.int .i64 z))
theorem TapeS.lt {w : World} {T : Nat} {S : Cells} (h : TapeS w T S) : T < w.heap.size := by
  obtain ⟨a, len, cap, at_, hb, _⟩ := h
  exact (Array.getElem?_eq_some_iff.1 hb).1
theorem TapeS.mono {w w' : World} {T : Nat} {S S' : Cells} (h : TapeS w T S) (hS : ∀ b o, S b o → S' b o) (hw : ∀ b o, S b o → w'.cell? ⟨b, o, none⟩ = w.cell? ⟨b, o, none⟩) (hT : w'.heap[T]? = w.heap[T]?) : TapeS w' T S' := by
  obtain ⟨a, len, cap, at_, hb, h1, h2, h3⟩ := h
  refine ⟨a, len, cap, at_, hT.trans hb, h1, h2, fun hl => ?_⟩
  obtain ⟨bl, off, ha, hc⟩ := h3 hl
  exact ⟨bl, off, ha, fun i hi => ⟨hS _ _ (hc i hi).1, by obtain ⟨z, hz⟩ := (hc i hi).2; exact ⟨z, (hw _ _ (hc i hi).1).trans hz⟩⟩⟩
/-- What was stable when the call began, and the cells that the tape reads. -/
structure Ev where
  S0 : Cells
  St : Cells
/-- The frame and the world are as the state says. -/
structure RelX (w0 : World) (S0 : Ev) (st : St) (a : Act) (w : World) (c : Cx) : Prop where
  below : w0.grownBy w (some c.T)
  df : a.defers = []
  sz : a.tmps.size = st.n
  sl : ∀ x, SRel c w (look st.sl x) (a.tmps.getD x undef)
  top : ∀ x, (look st.sl x).top ≤ st.nx
  sb : ∀ b o, c.S b o → b < w.heap.size
  bx : ∀ id cs, lookA st.bx id = some cs → id < st.nx ∧ topL cs ≤ st.nx ∧ BoxAt w0.heap.size w c (c.B id) cs
  bxd : ∀ i j x y, lookA st.bx i = some x → lookA st.bx j = some y → i ≠ j → c.B i ≠ c.B j
  ow : ∀ id x, lookA st.own id = some x → id < st.nx ∧ OwnX w0.heap.size w c.S (c.O id) x
  owd : ∀ i j x y, lookA st.own i = some x → lookA st.own j = some y → i ≠ j → ∀ b, blkOf (c.O i) = some b → blkOf (c.O j) ≠ some b
  owb : ∀ i x, lookA st.own i = some x → ∀ id cs, lookA st.bx id = some cs → blkOf (c.O i) ≠ some (c.B id)
  old : ∀ b o, b < w0.heap.size → (c.S b o ↔ S0.S0 b o)
  stt : ∀ b o, S0.St b o → c.S b o
  tp : st.tp = true → TapeS w c.T S0.St ∧ (∀ o, ¬ c.S c.T o) ∧ (∀ id cs, lookA st.bx id = some cs → c.B id ≠ c.T) ∧ ∀ i x, lookA st.own i = some x → blkOf (c.O i) ≠ some c.T
def Rel (w0 : World) (S0 : Ev) (T : Nat → Prop) (st : St) (a : Act) (w : World) : Prop := ∃ c : Cx, T c.T ∧ RelX w0 S0 st a w c
theorem tmv {T : Nat → Prop} {a b : Nat} (e : a = b) (h : T b) : T a := e ▸ h
/-- From w to w' some blocks were laid, and stable cells are those that were, or lie in new blocks. -/
structure Ext (S : Cells) (w : World) (S' : Cells) (w' : World) : Prop where
  below : Below w.heap.size w w'
  old : ∀ b o, b < w.heap.size → (S' b o ↔ S b o)
  sb : ∀ b o, S' b o → b < w'.heap.size
theorem Ext.refl {S : Cells} {w : World} (h : ∀ b o, S b o → b < w.heap.size) : Ext S w S w := ⟨Below.refl _ _, fun _ _ _ => Iff.rfl, h⟩
theorem Ext.keep {S S' : Cells} {w w' : World} (h : Ext S w S' w') (hs : ∀ b o, S b o → b < w.heap.size) : (∀ b o, S b o → S' b o) ∧ ∀ b o, S b o → w'.cell? ⟨b, o, none⟩ = w.cell? ⟨b, o, none⟩ :=
  ⟨fun b o hb => (h.old b o (hs b o hb)).2 hb, fun b o hb => h.below.cell (p := ⟨b, o, none⟩) (hs b o hb)⟩
theorem getD_put {a : Act} {d : Nat} {v : Value} (hd : d < a.tmps.size) (x : Nat) : (a.put (some d) v).tmps.getD x undef = if d = x then v else a.tmps.getD x undef := by
  simp only [Act.put, Array.getD_eq_getD_getElem?, Array.getElem?_setIfInBounds]
  by_cases h : d = x
  · subst h; simp [hd]
  · simp [h]
theorem look_cons (d : Nat) (v : SV) (l : List (Nat × SV)) (x : Nat) : look ((d, v) :: l) x = if d = x then v else look l x := by
  show (bif Nat.beq d x then v else look l x) = _
  by_cases h : d = x
  · subst h; simp
  · rw [beq_ne h, if_neg h]; rfl
theorem grown_below {a w w' : World} {T : Option Nat} (h : a.grownBy w T) (hb : Below w.heap.size w w') : a.grownBy w' T :=
  ⟨hb.os.trans h.os, hb.tape.trans h.tape, hb.output.trans h.output, Nat.le_trans h.size hb.size, fun i hi hne => (hb.block i (Nat.lt_of_lt_of_le hi h.size)).trans (h.block i hi hne)⟩

/-- Of the state's objects the blocks b of P stay, and the stable cells: then the objects are as they were. Which blocks: those of boxes and rows. -/
theorem BoxAt.keep {base : Nat} {c : Cx} {S' : Cells} {w w' : World} {b : Nat} {cs : List SV} (h : BoxAt base w c b cs) (k1 : ∀ b o, c.S b o → S' b o) (k2 : ∀ b o, c.S b o → w'.cell? ⟨b, o, none⟩ = w.cell? ⟨b, o, none⟩) (hb : w'.heap[b]? = w.heap[b]?) (hn : ∀ o, ¬ S' b o) :
    BoxAt base w' ⟨S', c.B, c.O, c.T⟩ b cs := by
  obtain ⟨h1, h2, arr, t, h3, h4, h5, h6⟩ := h
  exact ⟨h1, hn, arr, t, hb.trans h3, h4, h5, fun j s u hs hu => (h6 j s u hs hu).mono' k1 k2⟩
theorem OwnAt.keep {base : Nat} {S S' : Cells} {w w' : World} {v : Value} {x : OwnE} (h : OwnAt base w S v x) (k1 : ∀ b o, S b o → S' b o) (k2 : ∀ b o, S b o → w'.cell? ⟨b, o, none⟩ = w.cell? ⟨b, o, none⟩) (hb : ∀ b, blkOf v = some b → w'.heap[b]? = w.heap[b]? ∧ ∀ o, ¬ S' b o) : OwnAt base w' S' v x := by
  rcases h with h | ⟨g, cap, cur, hv, hg1, hg, hn, hc, hs, hf, hr⟩
  · exact .inl h
  · obtain ⟨q1, q2⟩ := hb g (by rw [hv]; rfl)
    exact .inr ⟨g, cap, cur, hv, hg1, q1.trans hg, hn, hc, hs, q2, fun i row hi => ⟨(hr i row hi).1, fun j c hj => by
      obtain ⟨u, h1, h2, h3⟩ := (hr i row hi).2 j c hj
      exact ⟨u, h1, h2, h3.mono k1 k2⟩⟩⟩
theorem OwnX.keep {base : Nat} {S S' : Cells} {w w' : World} {v : Value} {x : OwnE} (h : OwnX base w S v x) (k1 : ∀ b o, S b o → S' b o) (k2 : ∀ b o, S b o → w'.cell? ⟨b, o, none⟩ = w.cell? ⟨b, o, none⟩) (hb : ∀ b, blkOf v = some b → w'.heap[b]? = w.heap[b]? ∧ ∀ o, ¬ S' b o) : OwnX base w' S' v x := by
  rcases h with h | ⟨hz, g, es, clock, hv, hg1, hg, hS, he⟩
  · exact .inl ⟨h.1, h.2.keep k1 k2 hb⟩
  · obtain ⟨q1, q2⟩ := hb g (by rw [hv]; rfl)
    exact .inr ⟨hz, g, es, clock, hv, hg1, q1.trans hg, q2, he⟩
theorem RelX.bxlt {w0 : World} {S0 : Ev} {st : St} {a : Act} {w : World} {c : Cx} (h : RelX w0 S0 st a w c) {id : Nat} {cs : List SV} (hc : lookA st.bx id = some cs) : c.B id < w.heap.size := by
  obtain ⟨_, _, _, _, arr, t, h3, _⟩ := h.bx id cs hc
  exact (Array.getElem?_eq_some_iff.1 h3).1
theorem RelX.owlt {w0 : World} {S0 : Ev} {st : St} {a : Act} {w : World} {c : Cx} (h : RelX w0 S0 st a w c) {id : Nat} {x : OwnE} (hc : lookA st.own id = some x) {b : Nat} (hb : blkOf (c.O id) = some b) : b < w.heap.size ∧ ∀ o, ¬ c.S b o := ((h.ow id x hc).2.blk hb).2
/-- The world changes, but not in the blocks of boxes, rows and stable cells (the tape apart); slots as they were. -/
theorem RelX.move {w0 : World} {S0 : Ev} {st : St} {a : Act} {w : World} {c : Cx} (h : RelX w0 S0 st a w c) {S' : Cells} {w' : World} (hg : w0.grownBy w' (some c.T)) (k1 : ∀ b o, c.S b o → S' b o) (k2 : ∀ b o, c.S b o → w'.cell? ⟨b, o, none⟩ = w.cell? ⟨b, o, none⟩)
    (hsz : w.heap.size ≤ w'.heap.size) (hs : ∀ b o, S' b o → b < w'.heap.size) (hold : ∀ b o, b < w.heap.size → (S' b o ↔ c.S b o)) (hbx : ∀ id cs, lookA st.bx id = some cs → w'.heap[c.B id]? = w.heap[c.B id]?) (how : ∀ id x b, lookA st.own id = some x → blkOf (c.O id) = some b → w'.heap[b]? = w.heap[b]?)
    (htp : st.tp = true → TapeS w' c.T S0.St) : RelX w0 S0 st a w' ⟨S', c.B, c.O, c.T⟩ := by
  refine ⟨hg, h.df, h.sz, fun x => (h.sl x).mono' k1 k2, h.top, hs, fun id cs hc => ?_, h.bxd, fun id x hx => ?_, h.owd, h.owb, fun b o hb => (hold b o (Nat.lt_of_lt_of_le hb h.below.size)).trans (h.old b o hb), fun b o hb => k1 b o (h.stt b o hb), fun hp => ?_⟩
  · obtain ⟨h1, h2, h3⟩ := h.bx id cs hc
    exact ⟨h1, h2, h3.keep k1 k2 (hbx id cs hc) (fun o ho => h3.2.1 o ((hold _ o (h.bxlt hc)).1 ho))⟩
  · obtain ⟨h1, h2⟩ := h.ow id x hx
    exact ⟨h1, h2.keep k1 k2 (fun b hb => ⟨how id x b hx hb, fun o ho => (h.owlt hx hb).2 o ((hold b o (h.owlt hx hb).1).1 ho)⟩)⟩
  · obtain ⟨t1, t3, t4, t5⟩ := h.tp hp
    exact ⟨htp hp, fun o ho => t3 o ((hold _ o t1.lt).1 ho), t4, t5⟩
theorem RelX.grow {w0 : World} {S0 : Ev} {st : St} {a : Act} {w : World} {c : Cx} (h : RelX w0 S0 st a w c) {S' : Cells} {w' : World} (he : Ext c.S w S' w') : RelX w0 S0 st a w' ⟨S', c.B, c.O, c.T⟩ := by
  obtain ⟨k1, k2⟩ := he.keep h.sb
  exact h.move (grown_below h.below he.below) k1 k2 he.below.size he.sb he.old (fun id cs hc => he.below.block _ (h.bxlt hc)) (fun id x b hx hb => he.below.block b (h.owlt hx hb).1) (fun hp => (h.tp hp).1.mono (fun _ _ h => h) (fun b o hb => k2 b o (h.stt b o hb)) (he.below.block _ (h.tp hp).1.lt))
theorem RelX.growT {w0 : World} {S0 : Ev} {st : St} {a : Act} {w : World} {c : Cx} (h : RelX w0 S0 st a w c) (hp : st.tp = true) {S' : Cells} {w' : World} (hg : w.grownBy w' (some c.T)) (ho : ∀ b o, b < w.heap.size → (S' b o ↔ c.S b o)) (hs : ∀ b o, S' b o → b < w'.heap.size) (hT : TapeS w' c.T S0.St) : RelX w0 S0 st a w' ⟨S', c.B, c.O, c.T⟩ := by
  obtain ⟨t1, t3, t4, t5⟩ := h.tp hp
  have hblk : ∀ k, k < w.heap.size → k ≠ c.T → w'.heap[k]? = w.heap[k]? := fun k hk hne => hg.block k hk (fun e => hne (Option.some.inj e))
  refine h.move ⟨hg.os.trans h.below.os, hg.tape.trans h.below.tape, hg.output.trans h.below.output, Nat.le_trans h.below.size hg.size, fun k hk hne => (hblk k (Nat.lt_of_lt_of_le hk h.below.size) (fun e => hne (by rw [e]))).trans (h.below.block k hk hne)⟩
    (fun b o hb => (ho b o (h.sb b o hb)).2 hb) (fun b o hb => World.cell?_of_block (hblk b (h.sb b o hb) (fun e => t3 o (e ▸ hb)))) hg.size hs ho (fun id cs hc => hblk _ (h.bxlt hc) (t4 id cs hc)) (fun id x b hx hb => hblk b (h.owlt hx hb).1 (fun e => t5 id x hx (e ▸ hb))) (fun _ => hT)
theorem RelX.put {w0 : World} {S0 : Ev} {st : St} {a : Act} {w : World} {c : Cx} (h : RelX w0 S0 st a w c) {d : Nat} {r : SV} {v : Value} (hd : d < st.n) (hr : SRel c w r v) (ht : r.top ≤ st.nx) : RelX w0 S0 (st.put d r) (a.put (some d) v) w c := by
  have hd' : d < a.tmps.size := by rw [h.sz]; exact hd
  refine ⟨h.below, h.df, by show (a.tmps.setIfInBounds d v).size = st.n; rw [Array.size_setIfInBounds]; exact h.sz, fun x => ?_, fun x => ?_, h.sb, h.bx, h.bxd, h.ow, h.owd, h.owb, h.old, h.stt, h.tp⟩
  · show SRel c w (look ((d, r) :: st.sl) x) _
    rw [getD_put hd', look_cons]
    split
    · exact hr
    · exact h.sl x
  · show (look ((d, r) :: st.sl) x).top ≤ st.nx
    rw [look_cons]
    split
    · exact ht
    · exact h.top x
end Eng
end Go.Proofs.Ytmmekdkllccmdaa
