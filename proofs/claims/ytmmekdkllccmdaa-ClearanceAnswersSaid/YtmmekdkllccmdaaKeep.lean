/-
  The walks of package landaidkeep: a tape hands out numbers within bounds, and changes nothing but itself.
-/
import Derived.Test.YtmmekdkllccmdaaRows
import Derived.WalkKit
import Derived.WalkSpells
import Derived.WalkLawsBesides
import Derived.BigQuiet
import Derived.Deep.QuietTactic
import Derived.Lib.Hide
namespace Go.Proofs.Ytmmekdkllccmdaa
open Go.RowKit
namespace Keep
theorem ret_int {k : IntKind} {a b : Int} (h : a = b) : Ending.returned (.int k a) = .returned (.int k b) := by rw [h]

/-- What Mod returns. -/
def md (k n : Int) : Int := if n < 1 then 0 else k % n
theorem md_bd (k n : Int) : 0 ≤ md k n ∧ (md k n < n ∨ md k n = 0) := by
  unfold md
  split
  · omega
  · have h1 := Int.emod_nonneg k (show n ≠ 0 by omega)
    have h2 := Int.emod_lt_of_pos k (show 0 < n by omega)
    omega
theorem tmod_cases (k n : Int) (hn : 1 ≤ n) : (0 ≤ k.tmod n ∧ k.tmod n < n ∧ k % n = k.tmod n) ∨ (k.tmod n < 0 ∧ -n < k.tmod n ∧ k % n = k.tmod n + n) := by
  have h1 := Int.mul_tdiv_add_tmod k n
  have hd : k % n = (k.tmod n) % n := by
    conv => lhs; rw [← h1]
    rw [Int.add_comm, Int.add_mul_emod_self_left]
  have ha : -n < k.tmod n ∧ k.tmod n < n := by
    exact ⟨Int.lt_tmod_of_pos k (by omega), Int.tmod_lt_of_pos k (by omega)⟩
  rw [hd]
  rcases Int.le_total 0 (k.tmod n) with h | h
  · left; exact ⟨h, ha.2, Int.emod_eq_of_lt h ha.2⟩
  · by_cases h0 : k.tmod n = 0
    · left; rw [h0]; simp; omega
    · right
      refine ⟨by omega, ha.1, ?_⟩
      have : (k.tmod n + n) % n = k.tmod n % n := by simp
      rw [← this]
      exact Int.emod_eq_of_lt (by omega) (by omega)

theorem mod_any (k n : Int) (h3 : n ≤ 9223372036854775807) (w : World) :
    Calls Try.prog 25 #[.int .i64 k, .int .i64 n] w fun e w' => e = .returned (.int .i64 (md k n)) ∧ w = w' := by
  unfold md
  by_cases hn : n < 1
  · rw [if_pos hn]
    go_enter Try.func25, Try.ntmps25
    go_wp2
    go_ret
    exact ⟨rfl, rfl⟩
  · rw [if_neg hn]
    rcases tmod_cases k n (by omega) with ⟨a, b, c⟩ | ⟨a, b, c⟩
    all_goals
      have c' := Lib.hid c
      clear c
      go_enter Try.func25, Try.ntmps25
      go_wp2
      go_ret
      exact ⟨ret_int c'.out.symm, rfl⟩
theorem i64_of_md {k n : Int} (h3 : n ≤ 9223372036854775807) : 0 ≤ md k n ∧ md k n ≤ 9223372036854775807 := by
  have := md_bd k n; omega

/-- Ints that can be read, from an address that is not in block bt. -/
def Read (w : World) (bt : Nat) (a : Option Addr) (len : Nat) : Prop :=
  0 < len → ∃ bl off : Nat, a = some ⟨bl, off, none⟩ ∧ bl < bt ∧ ∀ i, i < len → ∃ z : Int, w.cell? ⟨bl, off + i, none⟩ = some (.int .i64 z)
theorem Read.below {w w' : World} {bt : Nat} {a : Option Addr} {len : Nat} (h : Read w bt a len) (hb : ∀ k, k < w.heap.size → k ≠ bt → w'.heap[k]? = w.heap[k]?) : Read w' bt a len := by
  intro hl
  obtain ⟨bl, off, ha, hne, hc⟩ := h hl
  refine ⟨bl, off, ha, hne, fun i hi => ?_⟩
  obtain ⟨z, hz⟩ := hc i hi
  have hl := World.block_lt_of_cell? w _ hz
  exact ⟨z, (World.cell?_of_block (hb bl hl (by omega))).trans hz⟩

/-- The tape in block bt: what it has left are numbers that can be read. -/
def TapeAt (w : World) (bt : Nat) : Prop := ∃ (a : Option Addr) (len cap at_ : Nat), w.heap[bt]? = some (.cells #[.slice a len cap, .int .i64 (at_ : Nat)] 89 (0, 0)) ∧ at_ ≤ len ∧ len ≤ 400 ∧ Read w bt a len

theorem TapeAt.lt {w : World} {bt : Nat} (h : TapeAt w bt) : bt < w.heap.size := by
  obtain ⟨a, len, cap, at_, hb, _⟩ := h
  exact (Array.getElem?_eq_some_iff.1 hb).1

/-- The tape stays while the world grows. -/
theorem TapeAt.below {w w' : World} {bt : Nat} (h : TapeAt w bt) (hb : ∀ k, k < w.heap.size → w'.heap[k]? = w.heap[k]?) : TapeAt w' bt := by
  have hlt := h.lt
  obtain ⟨a, len, cap, at_, hbt, h1, h2, h3⟩ := h
  exact ⟨a, len, cap, at_, by rw [hb bt hlt]; exact hbt, h1, h2, h3.below fun k hk _ => hb k hk⟩

def NextPost (bt : Nat) (n : Int) (w : World) (e : Ending) (w' : World) : Prop :=
  ∃ r : Int, e = .returned (.int .i64 r) ∧ 0 ≤ r ∧ (r < n ∨ r = 0) ∧ TapeAt w' bt ∧ w.grownBy w' (some bt)

theorem grownBy_refl (w : World) (row : Option Nat) : w.grownBy w row := ⟨rfl, rfl, rfl, Nat.le_refl _, fun _ _ _ => rfl⟩
theorem grownBy_trans {a b c : World} {row : Option Nat} (h : a.grownBy b row) (k : b.grownBy c row) : a.grownBy c row :=
  ⟨k.os.trans h.os, k.tape.trans h.tape, k.output.trans h.output, Nat.le_trans h.size k.size, fun i hi hr => (k.block i (Nat.lt_of_lt_of_le hi h.size) hr).trans (h.block i hi hr)⟩
theorem grownBy_setCell (w : World) (bt o : Nat) (v : Value) : w.grownBy (w.setCell ⟨bt, o, none⟩ v) (some bt) :=
  ⟨rfl, rfl, rfl, by simp [World.setCell], fun k _ hr => Below.heap_setCell _ _ _ _ (by intro e; exact hr (by rw [e]))⟩

theorem only_drewN {a w : World} {row : Option Nat} (h : a.grownBy w row) (n : Nat) : a.grownBy (w.drewN n) row := ⟨h.os, h.tape, h.output, h.size, h.block⟩
theorem tapeAt_drewN {w : World} {bt : Nat} (h : TapeAt w bt) (n : Nat) : TapeAt (w.drewN n) bt := h
theorem quiet_left {P : Program} {f : FuncId} {args : Array Value} {w : World} {n : Nat} {v : Value}
    (h : Calls P f args (w.drewN n) fun e w' => e = .returned v ∧ w.drewN n = w') : Calls P f args (w.drewN n) fun e w'' => e = .returned v ∧ ∃ m, w'' = w.drewN m :=
  h.mono fun _ _ ⟨he, hm⟩ => ⟨he, n, hm.symm⟩

set_option maxHeartbeats 400000 in
theorem next_any (bt : Nat) (n : Int) (h3 : n ≤ 9223372036854775807) (w : World) (h : TapeAt w bt) :
    Calls Try.prog 19 #[.pointer (some ⟨bt, 0, none⟩), .int .i64 n] w (NextPost bt n w) := by
  obtain ⟨a, len, cap, at_, hb, hat, hlen, hv⟩ := h
  have c0 : w.cell? ⟨bt, 0, none⟩ = some (.slice a len cap) := by simp [World.cell?, hb]
  have c1 : w.cell? ⟨bt, 1, none⟩ = some (.int .i64 (at_ : Nat)) := by simp [World.cell?, hb]
  have f1 : w.frozen? ⟨bt, 1, none⟩ = false := by simp [World.frozen?, hb]
  have hT : TapeAt w bt := ⟨a, len, cap, at_, hb, hat, hlen, hv⟩
  have hfin : ∀ n', NextPost bt n w (.returned (.int .i64 0)) (w.drewN n') := fun n' =>
    ⟨0, rfl, by omega, by omega, tapeAt_drewN hT n', only_drewN (grownBy_refl w _) n'⟩
  have hmd : ∀ (z : Int) (W : World), TapeAt W bt → w.grownBy W (some bt) → NextPost bt n w (.returned (.int .i64 (md z n))) W := fun z W h1 h2 =>
    ⟨md z n, rfl, (md_bd z n).1, (md_bd z n).2, h1, h2⟩
  by_cases hlt : at_ < len
  · have hv2 := hv
    obtain ⟨bl, off, rfl, hne', hc⟩ := hv (by omega)
    have hne : bl ≠ bt := by omega
    obtain ⟨z, hz⟩ := hc at_ hlt
    have hno : ¬ len ≤ at_ := by omega
    have hT2 : ∀ nq n' : Nat, TapeAt (((w.drewN nq).setCell ⟨bt, 1, none⟩ (.int .i64 ((at_ : Int) + 1))).drewN n') bt := by
      intro nq n'
      refine ⟨_, len, cap, at_ + 1, ?_, by omega, hlen, hv2.below fun k _ hk => Below.heap_setCell (w.drewN nq) _ _ _ hk⟩
      show ((w.drewN nq).setCell ⟨bt, 1, none⟩ (.int .i64 ((at_ : Int) + 1))).heap[bt]? = _
      have hb' : (w.drewN nq).heap[bt]? = some (.cells #[.slice (some ⟨bl, off, none⟩) len cap, .int .i64 (at_ : Nat)] 89 (0, 0)) := hb
      simp only [World.setCell, Array.getElem?_modify, if_true, hb']
      simp
    have hG : ∀ nq n' : Nat, w.grownBy (((w.drewN nq).setCell ⟨bt, 1, none⟩ (.int .i64 ((at_ : Int) + 1))).drewN n') (some bt) := fun nq n' =>
      only_drewN (grownBy_trans (only_drewN (grownBy_refl w _) nq) (grownBy_setCell _ bt 1 _)) n'
    have hW0 : ∀ nq : Nat, ((w.drewN nq).setCell ⟨bt, 1, none⟩ (.int .i64 ((at_ : Int) + 1))).cell? ⟨bt, 0, none⟩ = some (.slice (some ⟨bl, off, none⟩) len cap) := fun nq => by
      rw [World.cell?_setCell_other _ _ _ _ (by simp)]; exact c0
    have hW1 : ∀ nq : Nat, ((w.drewN nq).setCell ⟨bt, 1, none⟩ (.int .i64 ((at_ : Int) + 1))).cell? ⟨bt, 1, none⟩ = some (.int .i64 ((at_ : Int) + 1)) := fun nq =>
      World.cell?_setCell_same (u := .int .i64 (at_ : Nat)) _ _ _ c1
    have hWz : ∀ nq : Nat, ((w.drewN nq).setCell ⟨bt, 1, none⟩ (.int .i64 ((at_ : Int) + 1))).cell? ⟨bl, off + at_, none⟩ = some (.int .i64 z) := fun nq => by
      rw [World.cell?_of_block (w := w.drewN nq) (Below.heap_setCell _ _ _ _ hne)]; exact hz
    clear hb hc hfin hz hv hv2
    have hmd' := Lib.hid hmd
    have hT2' := Lib.hid hT2
    have hG' := Lib.hid hG
    have hW0' := Lib.hid hW0
    have hW1' := Lib.hid hW1
    have hWz' := Lib.hid hWz
    clear hmd hT2 hG hW0 hW1 hWz
    go_enter Try.func19, Try.ntmps19
    go_wp2
    go_quiet (fail)
    rename_i nq
    go_wp2
    have k0 := hW0'.out nq
    have k1 := hW1'.out nq
    have kz := hWz'.out nq
    obtain ⟨W, hW⟩ : ∃ W, W = ((w.drewN nq).setCell ⟨bt, 1, none⟩ (.int .i64 ((at_ : Int) + 1))) := ⟨_, rfl⟩
    rw [← hW] at k0 k1 kz ⊢
    have hW2 := Lib.hid hW
    clear hW c0 c1 f1
    have ks : IntKind.i64.wrap ((at_ : Int) + 1 - 1) = at_ := by rw [IntWalk.i64_in _ (by omega)]; omega
    go_quiet ((go_at_call 25; exact quiet_left (mod_any _ _ (by omega) _)))
    go_wp2
    go_ret
    rw [hW2.out]
    exact hmd'.out z _ (hT2'.out _ _) (hG'.out _ _)
  · have hno : len ≤ at_ := by omega
    clear hb hat hlen hmd hv
    go_enter Try.func19, Try.ntmps19
    go_wp2
    go_quiet (fail)
    go_wp2
    go_ret
    exact hfin _

def RangePost (bt : Nat) (lo hi : Int) (w : World) (e : Ending) (w' : World) : Prop :=
  ∃ r : Int, e = .returned (.int .i64 r) ∧ lo ≤ r ∧ (r ≤ hi ∨ r = lo) ∧ TapeAt w' bt ∧ w.grownBy w' (some bt)

set_option maxHeartbeats 400000 in
theorem range_any (bt : Nat) (lo hi : Int) (h1 : -1099511627776 ≤ lo) (h2 : lo ≤ 1099511627776) (h3 : -1099511627776 ≤ hi) (h4 : hi ≤ 1099511627776) (w : World) (h : TapeAt w bt) :
    Calls Try.prog 33 #[.pointer (some ⟨bt, 0, none⟩), .int .i64 lo, .int .i64 hi] w (RangePost bt lo hi w) := by
  go_enter Try.func33, Try.ntmps33
  go_wp2_with fail
  refine (next_any bt _ (by omega) _ h).mono ?_
  rintro e w' ⟨r, rfl, hr0, hr1, hT, hG⟩
  have hfin : RangePost bt lo hi w (.returned (.int .i64 (lo + r))) w' := ⟨lo + r, rfl, by omega, by omega, hT, hG⟩
  have hfin' := Lib.hid hfin
  clear hfin
  have hr2 : r ≤ 4398046511104 := by omega
  clear hr1
  go_wp2
  go_ret
  exact hfin'.out

/-- A slice of ints that can be read. -/
def IntsAt (w : World) (a : Option Addr) (len cap : Nat) : Prop := len ≤ cap ∧ cap ≤ 9223372036854775807 ∧ (a = none → len = 0 ∧ cap = 0) ∧
  (0 < len → ∃ bl off : Nat, a = some ⟨bl, off, none⟩ ∧ ∀ i, i < len → ∃ z : Int, w.cell? ⟨bl, off + i, none⟩ = some (.int .i64 z))

theorem IntsAt.below {w w' : World} {a : Option Addr} {len cap : Nat} (h : IntsAt w a len cap) (hb : ∀ k, k < w.heap.size → w'.heap[k]? = w.heap[k]?) : IntsAt w' a len cap := by
  obtain ⟨h1, h2, h3, h4⟩ := h
  refine ⟨h1, h2, h3, fun hl => ?_⟩
  obtain ⟨bl, off, ha, hc⟩ := h4 hl
  refine ⟨bl, off, ha, fun i hi => ?_⟩
  obtain ⟨z, hz⟩ := hc i hi
  exact ⟨z, (World.cell?_of_block (hb bl (World.block_lt_of_cell? w _ hz))).trans hz⟩

def NewPost (w : World) (e : Ending) (w' : World) : Prop :=
  e = .returned (.pointer (some ⟨w.heap.size, 0, none⟩)) ∧ TapeAt w' w.heap.size ∧ Below w.heap.size w w' ∧ w'.heap.size = w.heap.size + 1

theorem new_world (w : World) (a : Option Addr) (len m cap : Nat) (h : IntsAt w a len cap) (hm : m ≤ len) (hm2 : m ≤ 400) :
    NewPost w (.returned (.pointer (some ⟨w.heap.size, 0, none⟩))) (w.alloc (.cells #[.slice a m cap, .int .i64 0] 89)) := by
  refine ⟨rfl, ⟨a, m, cap, 0, heap_alloc_new w _, by omega, hm2, fun hl => ?_⟩, (Below.refl _ _).alloc (Nat.le_refl _) _, by simp⟩
  obtain ⟨bl, off, ha, hc⟩ := h.2.2.2 (by omega)
  have hbl : bl < w.heap.size := by
    obtain ⟨z, hz⟩ := hc 0 (by omega)
    exact World.block_lt_of_cell? w _ hz
  refine ⟨bl, off, ha, by omega, fun i hi => ?_⟩
  obtain ⟨z, hz⟩ := hc i (by omega)
  exact ⟨z, (World.cell?_of_block (Below.heap_alloc w _ _ hbl)).trans hz⟩

set_option maxHeartbeats 400000 in
theorem new_any (a : Option Addr) (len cap : Nat) (w : World) (h : IntsAt w a len cap) : Calls Try.prog 16 #[.slice a len cap] w (NewPost w) := by
  have h2 := h.2.1
  have h1 := h.1
  cases a with
  | none =>
    obtain ⟨rfl, rfl⟩ := h.2.2.1 rfl
    have hfin := Lib.hid (new_world w none 0 0 0 h (by omega) (by omega))
    go_enter Try.func16, Try.ntmps16
    go_wp2
    go_ret
    exact hfin.out
  | some x =>
    by_cases hlt : (len : Int) ≤ 400
    · have hfin := Lib.hid (new_world w (some x) len len cap h (by omega) (by omega))
      clear h
      go_enter Try.func16, Try.ntmps16
      go_wp2
      go_ret
      exact hfin.out
    · have hfin := Lib.hid (new_world w (some x) len 400 cap h (by omega) (by omega))
      have hcap : 400 ≤ cap := by omega
      clear h
      go_enter Try.func16, Try.ntmps16
      go_wp2
      go_ret
      exact hfin.out

/-- A row of ints, as a statement's frame gives it. -/
theorem intsAt_of_row (w : World) (a : Option Addr) (len cap : Nat) (zs : List Int)
    (h : (a = none ∧ len = 0 ∧ cap = 0 ∧ zs = []) ∨ ∃ x, a = some x ∧ len ≤ cap ∧ cap ≤ maxLen ∧ zs.length = cap ∧ (∀ i, i < zs.length → w.cell? (x.add i) = some (.int .i64 (zs.getD i 0))) ∧ ∀ n ∈ zs, (Lit.int .i64 n).wf = true) :
    IntsAt w a len cap := by
  rcases h with ⟨rfl, rfl, rfl, _⟩ | ⟨x, rfl, h1, h2, h3, h4, _⟩
  · exact ⟨by omega, by omega, fun _ => ⟨rfl, rfl⟩, fun hl => by omega⟩
  · unfold maxLen at h2
    refine ⟨h1, h2, (fun h => by cases h), fun hl => ?_⟩
    obtain ⟨bl, off, spot⟩ := x
    have h0 := h4 0 (by omega)
    have hs : spot = none := by
      simp only [Addr.add, if_true] at h0
      unfold World.cell? at h0
      split at h0
      · simp only at h0
        cases spot with
        | none => rfl
        | some k => simp at h0
      · cases h0
    subst hs
    refine ⟨bl, off, rfl, fun i hi => ⟨zs.getD i 0, ?_⟩⟩
    have := h4 i (by omega)
    rwa [show (⟨bl, off, none⟩ : Addr).add i = ⟨bl, off + i, none⟩ from by unfold Addr.add; split <;> simp_all] at this
/-! A block that the law made, over a call that writes to the tape alone, or to nothing. -/
theorem blk_grown {w w' : World} {bt b : Nat} {o : Obj} (h : w.heap[b]? = some o) (hG : w.grownBy w' (some bt)) (hne : b ≠ bt) : w'.heap[b]? = some o :=
  (hG.block b (Array.getElem?_eq_some_iff.1 h).1 (by intro e; injection e with e; exact hne e)).trans h
theorem blk_below {w w' : World} {b : Nat} {o : Obj} (h : w.heap[b]? = some o) (hB : Below w.heap.size w w') : w'.heap[b]? = some o :=
  (hB.block b (Array.getElem?_eq_some_iff.1 h).1).trans h
theorem blk_cells3 {w : World} {b : Nat} {v0 v1 v2 : Value} {t : TypeId} (h : w.heap[b]? = some (.cells #[v0, v1, v2] t (0, 0))) :
    w.cell? ⟨b, 0, none⟩ = some v0 ∧ w.cell? ⟨b, 1, none⟩ = some v1 ∧ w.cell? ⟨b, 2, none⟩ = some v2 ∧ w.frozen? ⟨b, 0, none⟩ = false ∧ w.frozen? ⟨b, 1, none⟩ = false ∧ w.frozen? ⟨b, 2, none⟩ = false := by
  refine ⟨?_, ?_, ?_, ?_, ?_, ?_⟩
  · rw [cell_of_row _ _ _ _ _ _ h]; rfl
  · rw [cell_of_row _ _ _ _ _ _ h]; rfl
  · rw [cell_of_row _ _ _ _ _ _ h]; rfl
  · simp [World.frozen?, h]
  · simp [World.frozen?, h]
  · simp [World.frozen?, h]
theorem grown_alloc {a w : World} {row : Option Nat} (h : a.grownBy w row) (o : Obj) : a.grownBy (w.alloc o) row :=
  ⟨h.os, h.tape, h.output, Nat.le_trans h.size (by simp), fun i hi hne => (Below.heap_alloc w o i (Nat.lt_of_lt_of_le hi h.size)).trans (h.block i hi hne)⟩
theorem grown_setCell {a w : World} {g : Nat} (h : a.grownBy w (some g)) {p : Addr} (hp : p.block = g ∨ a.heap.size ≤ p.block) (u : Value) : a.grownBy (w.setCell p u) (some g) :=
  ⟨h.os, h.tape, h.output, by simpa [World.setCell] using h.size, fun i hi hne => (Below.heap_setCell w p u i (by
    rintro rfl
    rcases hp with hp | hp
    · exact hne (by rw [hp])
    · omega)).trans (h.block i hi hne)⟩
theorem grown_of_below {a w w' : World} {row : Option Nat} (h : a.grownBy w row) (hb : Below w.heap.size w w') : a.grownBy w' row :=
  ⟨hb.os.trans h.os, hb.tape.trans h.tape, hb.output.trans h.output, Nat.le_trans h.size hb.size, fun i hi hne => (hb.block i (Nat.lt_of_lt_of_le hi h.size)).trans (h.block i hi hne)⟩

/-! The tape in the course of a law: block bt, made by the law itself; below block B the world is as w0 was. -/
def Tp (B bt : Nat) (w0 w : World) : Prop := TapeAt w bt ∧ Below B w0 w ∧ B ≤ bt
theorem Tp.grown {B bt : Nat} {w0 w w' : World} (h : Tp B bt w0 w) (hT : TapeAt w' bt) (hG : w.grownBy w' (some bt)) : Tp B bt w0 w' :=
  ⟨hT, h.2.1.grown hG (by have := h.1.lt; have := h.2.2; omega) (fun k hk => by injection hk with hk; have := h.2.2; omega), h.2.2⟩
theorem Tp.drew {B bt : Nat} {w0 w : World} (h : Tp B bt w0 w) : Tp B bt w0 w.drew := ⟨h.1, h.2.1.drew, h.2.2⟩
theorem Tp.drewN {B bt : Nat} {w0 w : World} (h : Tp B bt w0 w) (n : Nat) : Tp B bt w0 (w.drewN n) := ⟨h.1, ⟨h.2.1.os, h.2.1.tape, h.2.1.output, h.2.1.size, h.2.1.block⟩, h.2.2⟩
theorem Tp.setCell {B bt : Nat} {w0 w : World} (h : Tp B bt w0 w) {p : Addr} (hp : bt < p.block) (u : Value) : Tp B bt w0 (w.setCell p u) := by
  obtain ⟨⟨a, len, cap, at_, hb, h1, h2, h3⟩, hB, hBt⟩ := h
  refine ⟨⟨a, len, cap, at_, by rw [Below.heap_setCell _ _ _ _ (by omega)]; exact hb, h1, h2, ?_⟩, hB.setCell (by omega) u, hBt⟩
  intro hl
  obtain ⟨bl, off, ha, hn, hc⟩ := h3 hl
  refine ⟨bl, off, ha, hn, fun i hi => ?_⟩
  obtain ⟨z, hz⟩ := hc i hi
  exact ⟨z, (World.cell?_of_block (Below.heap_setCell _ _ _ _ (show bl ≠ p.block by omega))).trans hz⟩
theorem Tp.next {B bt : Nat} {w0 w w' : World} (h : Tp B bt w0 w) (hb : Below w.heap.size w w') : Tp B bt w0 w' :=
  ⟨h.1.below hb.block, h.2.1.trans (hb.mono (by have := h.1.lt; have := h.2.2; omega)), h.2.2⟩

theorem new_tp (a : Option Addr) (len cap : Nat) (w0 w : World) (hb : Below w0.heap.size w0 w) (h : IntsAt w a len cap) :
    Calls Try.prog 16 #[.slice a len cap] w fun e w' => ∃ bt, e = .returned (.pointer (some ⟨bt, 0, none⟩)) ∧ Tp w0.heap.size bt w0 w' ∧ w'.heap.size = bt + 1 ∧ Below w.heap.size w w' :=
  (new_any a len cap w h).mono fun _ _ ⟨he, hT, hB, hs⟩ => ⟨w.heap.size, he, ⟨hT, hb.trans (hB.mono hb.size), hb.size⟩, hs, hB⟩
theorem next_tp {B bt : Nat} {w0 : World} (n : Int) (h3 : n ≤ 9223372036854775807) (w : World) (h : Tp B bt w0 w) :
    Calls Try.prog 19 #[.pointer (some ⟨bt, 0, none⟩), .int .i64 n] w fun e w' => ∃ r : Int, e = .returned (.int .i64 r) ∧ 0 ≤ r ∧ (r < n ∨ r = 0) ∧ Tp B bt w0 w' ∧ w.grownBy w' (some bt) :=
  (next_any bt n h3 w h.1).mono fun _ _ ⟨r, he, h0, h1, hT, hG⟩ => ⟨r, he, h0, h1, h.grown hT hG, hG⟩
theorem range_tp {B bt : Nat} {w0 : World} (lo hi : Int) (h1 : -1099511627776 ≤ lo) (h2 : lo ≤ 1099511627776) (h3 : -1099511627776 ≤ hi) (h4 : hi ≤ 1099511627776) (w : World) (h : Tp B bt w0 w) :
    Calls Try.prog 33 #[.pointer (some ⟨bt, 0, none⟩), .int .i64 lo, .int .i64 hi] w fun e w' => ∃ r : Int, e = .returned (.int .i64 r) ∧ lo ≤ r ∧ (r ≤ hi ∨ r = lo) ∧ Tp B bt w0 w' ∧ w.grownBy w' (some bt) :=
  (range_any bt lo hi h1 h2 h3 h4 w h.1).mono fun _ _ ⟨r, he, h0, h1, hT, hG⟩ => ⟨r, he, h0, h1, h.grown hT hG, hG⟩
end Keep
end Go.Proofs.Ytmmekdkllccmdaa
