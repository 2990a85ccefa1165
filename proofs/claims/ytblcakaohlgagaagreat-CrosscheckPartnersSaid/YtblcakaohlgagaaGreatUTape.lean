/-
  The tape hands out numbers within bounds.
-/
import Derived.Test.YtblcakaohlgagaaGreatUEngC
import Derived.Test.YtblcakaohlgagaaGreatUPlain
import Derived.WalkKit
import Derived.WalkSpells
import Derived.WalkLawsBesides
import Derived.BigQuiet
import Derived.Deep.QuietTactic
import Derived.Lib.Hide
import Derived.Test.YtblcakaohlgagaaGreatUReg
set_option maxRecDepth 100000
set_option linter.unusedVariables false
namespace Go.Proofs.YtblcakaohlgagaaGreat
open Go.RowKit
namespace RE
open PL
namespace Keep
theorem ret_int {k : IntKind} {a b : Int} (h : a = b) : Ending.returned (.int k a) = .returned (.int k b) := by rw [h]

/-- What Mod returns. -/
def md (k n : Int) : Int := if n < 1 then 0 else k % n
theorem md_bd (k n : Int) : 0 ≤ md k n ∧ (md k n < n ∨ md k n = 0) := by
  unfold md
  split
  · omega
  · have h1 := Int.emod_nonneg k (show n ≠ 0 by omega)
    have h2 := Int.emod_lt_of_pos k (show 0 < n by omega)
    omega
theorem tmod_cases (k n : Int) (hn : 1 ≤ n) : (0 ≤ k.tmod n ∧ k.tmod n < n ∧ k % n = k.tmod n) ∨ (k.tmod n < 0 ∧ -n < k.tmod n ∧ k % n = k.tmod n + n) := by
  have h1 := Int.mul_tdiv_add_tmod k n
  have hd : k % n = (k.tmod n) % n := by
    conv => lhs; rw [← h1]
    rw [Int.add_comm, Int.add_mul_emod_self_left]
  have ha : -n < k.tmod n ∧ k.tmod n < n := by
    exact ⟨Int.lt_tmod_of_pos k (by omega), Int.tmod_lt_of_pos k (by omega)⟩
  rw [hd]
  rcases Int.le_total 0 (k.tmod n) with h | h
  · left; exact ⟨h, ha.2, Int.emod_eq_of_lt h ha.2⟩
  · by_cases h0 : k.tmod n = 0
    · left; rw [h0]; simp; omega
    · right
      refine ⟨by omega, ha.1, ?_⟩
      have : (k.tmod n + n) % n = k.tmod n % n := by simp
      rw [← this]
      exact Int.emod_eq_of_lt (by omega) (by omega)

theorem mod_any (k n : Int) (h3 : n ≤ 9223372036854775807) (w : World) :
    Calls Tryz.prog 26 #[.int .i64 k, .int .i64 n] w fun e w' => e = .returned (.int .i64 (md k n)) ∧ w = w' := by
  unfold md
  by_cases hn : n < 1
  · rw [if_pos hn]
    go_enter Tryz.func26, Tryz.ntmps26
    go_wp2
    go_ret
    exact ⟨rfl, rfl⟩
  · rw [if_neg hn]
    rcases tmod_cases k n (by omega) with ⟨a, b, c⟩ | ⟨a, b, c⟩
    all_goals
      have c' := Lib.hid c
      clear c
      go_enter Tryz.func26, Tryz.ntmps26
      go_wp2
      go_ret
      exact ⟨ret_int c'.out.symm, rfl⟩
def NextPost (bt : Nat) (S : Cells) (n : Int) (w : World) (e : Ending) (w' : World) : Prop :=
  ∃ r : Int, e = .returned (.int .i64 r) ∧ 0 ≤ r ∧ (r < n ∨ r = 0) ∧ TapeS w' bt S ∧ w.grownBy w' (some bt)
theorem grownBy_refl (w : World) (row : Option Nat) : w.grownBy w row := ⟨rfl, rfl, rfl, Nat.le_refl _, fun _ _ _ => rfl⟩
theorem grownBy_trans {a b c : World} {row : Option Nat} (h : a.grownBy b row) (k : b.grownBy c row) : a.grownBy c row :=
  ⟨k.os.trans h.os, k.tape.trans h.tape, k.output.trans h.output, Nat.le_trans h.size k.size, fun i hi hr => (k.block i (Nat.lt_of_lt_of_le hi h.size) hr).trans (h.block i hi hr)⟩
theorem grownBy_setCell (w : World) (bt o : Nat) (v : Value) : w.grownBy (w.setCell ⟨bt, o, none⟩ v) (some bt) :=
  ⟨rfl, rfl, rfl, by simp [World.setCell], fun k _ hr => Below.heap_setCell _ _ _ _ (by intro e; exact hr (by rw [e]))⟩

theorem only_drewN {a w : World} {row : Option Nat} (h : a.grownBy w row) (n : Nat) : a.grownBy (w.drewN n) row := ⟨h.os, h.tape, h.output, h.size, h.block⟩
theorem quiet_left {P : Program} {f : FuncId} {args : Array Value} {w : World} {n : Nat} {v : Value}
    (h : Calls P f args (w.drewN n) fun e w' => e = .returned v ∧ w.drewN n = w') : Calls P f args (w.drewN n) fun e w'' => e = .returned v ∧ ∃ m, w'' = w.drewN m :=
  h.mono fun _ _ ⟨he, hm⟩ => ⟨he, n, hm.symm⟩

set_option maxHeartbeats 400000 in
theorem next_any (bt : Nat) (n : Int) (h3 : n ≤ 9223372036854775807) (w : World) (S : Cells) (hS : ∀ k, ¬ S bt k) (h : TapeS w bt S) :
    Calls Tryz.prog 24 #[.pointer (some ⟨bt, 0, none⟩), .int .i64 n] w (NextPost bt S n w) := by
  obtain ⟨a, len, cap, at_, ty, hb, hat, hlen, hv⟩ := h
  have c0 : w.cell? ⟨bt, 0, none⟩ = some (.slice a len cap) := by simp [World.cell?, hb]
  have c1 : w.cell? ⟨bt, 1, none⟩ = some (.int .i64 (at_ : Nat)) := by simp [World.cell?, hb]
  have f1 : w.frozen? ⟨bt, 1, none⟩ = false := by simp [World.frozen?, hb]
  have hT : TapeS w bt S := ⟨a, len, cap, at_, ty, hb, hat, hlen, hv⟩
  have hfin : ∀ n', NextPost bt S n w (.returned (.int .i64 0)) (w.drewN n') := fun n' =>
    ⟨0, rfl, by omega, by omega, hT, only_drewN (grownBy_refl w _) n'⟩
  have hmd : ∀ (z : Int) (W : World), TapeS W bt S → w.grownBy W (some bt) → NextPost bt S n w (.returned (.int .i64 (md z n))) W := fun z W h1 h2 =>
    ⟨md z n, rfl, (md_bd z n).1, (md_bd z n).2, h1, h2⟩
  by_cases hlt : at_ < len
  · have hv2 := hv
    obtain ⟨bl, off, rfl, hc⟩ := hv (by omega)
    have hne : bl ≠ bt := fun e => hS _ (e ▸ (hc at_ hlt).1)
    obtain ⟨hsz, z, hz⟩ := hc at_ hlt
    have hno : ¬ len ≤ at_ := by omega
    have hT2 : ∀ nq n' : Nat, TapeS (((w.drewN nq).setCell ⟨bt, 1, none⟩ (.int .i64 ((at_ : Int) + 1))).drewN n') bt S := by
      intro nq n'
      refine ⟨_, len, cap, at_ + 1, ty, ?_, by omega, hlen, fun hl => ⟨bl, off, rfl, fun i hi => ⟨(hc i hi).1, ?_⟩⟩⟩
      rotate_left
      · obtain ⟨z', hz'⟩ := (hc i hi).2
        refine ⟨z', ?_⟩
        show ((w.drewN nq).setCell ⟨bt, 1, none⟩ (.int .i64 ((at_ : Int) + 1))).cell? _ = _
        rw [World.cell?_of_block (w := w.drewN nq) (Below.heap_setCell _ _ _ _ hne)]; exact hz'
      show ((w.drewN nq).setCell ⟨bt, 1, none⟩ (.int .i64 ((at_ : Int) + 1))).heap[bt]? = _
      have hb' : (w.drewN nq).heap[bt]? = some (.cells #[.slice (some ⟨bl, off, none⟩) len cap, .int .i64 (at_ : Nat)] ty (0, 0)) := hb
      simp only [World.setCell, Array.getElem?_modify, if_true, hb']
      simp
    have hG : ∀ nq n' : Nat, w.grownBy (((w.drewN nq).setCell ⟨bt, 1, none⟩ (.int .i64 ((at_ : Int) + 1))).drewN n') (some bt) := fun nq n' =>
      only_drewN (grownBy_trans (only_drewN (grownBy_refl w _) nq) (grownBy_setCell _ bt 1 _)) n'
    have hW0 : ∀ nq : Nat, ((w.drewN nq).setCell ⟨bt, 1, none⟩ (.int .i64 ((at_ : Int) + 1))).cell? ⟨bt, 0, none⟩ = some (.slice (some ⟨bl, off, none⟩) len cap) := fun nq => by
      rw [World.cell?_setCell_other _ _ _ _ (by simp)]; exact c0
    have hW1 : ∀ nq : Nat, ((w.drewN nq).setCell ⟨bt, 1, none⟩ (.int .i64 ((at_ : Int) + 1))).cell? ⟨bt, 1, none⟩ = some (.int .i64 ((at_ : Int) + 1)) := fun nq =>
      World.cell?_setCell_same (u := .int .i64 (at_ : Nat)) _ _ _ c1
    have hWz : ∀ nq : Nat, ((w.drewN nq).setCell ⟨bt, 1, none⟩ (.int .i64 ((at_ : Int) + 1))).cell? ⟨bl, off + at_, none⟩ = some (.int .i64 z) := fun nq => by
      rw [World.cell?_of_block (w := w.drewN nq) (Below.heap_setCell _ _ _ _ hne)]; exact hz
    clear hb hc hfin hz hv hv2
    have hmd' := Lib.hid hmd
    have hT2' := Lib.hid hT2
    have hG' := Lib.hid hG
    have hW0' := Lib.hid hW0
    have hW1' := Lib.hid hW1
    have hWz' := Lib.hid hWz
    clear hmd hT2 hG hW0 hW1 hWz
    go_enter Tryz.func24, Tryz.ntmps24
    go_wp2
    go_quiet (fail)
    rename_i nq
    go_wp2
    have k0 := hW0'.out nq
    have k1 := hW1'.out nq
    have kz := hWz'.out nq
    obtain ⟨W, hW⟩ : ∃ W, W = ((w.drewN nq).setCell ⟨bt, 1, none⟩ (.int .i64 ((at_ : Int) + 1))) := ⟨_, rfl⟩
    rw [← hW] at k0 k1 kz ⊢
    have hW2 := Lib.hid hW
    clear hW c0 c1 f1
    have ks : IntKind.i64.wrap ((at_ : Int) + 1 - 1) = at_ := by rw [IntWalk.i64_in _ (by omega)]; omega
    go_quiet ((go_at_call 26; exact quiet_left (mod_any _ _ (by omega) _)))
    go_wp2
    go_ret
    rw [hW2.out]
    exact hmd'.out z _ (hT2'.out _ _) (hG'.out _ _)
  · have hno : len ≤ at_ := by omega
    clear hb hat hlen hmd hv
    go_enter Tryz.func24, Tryz.ntmps24
    go_wp2
    go_quiet (fail)
    go_wp2
    go_ret
    exact hfin _

end Keep
def knext_P (n : Int) (post : Int → Prop) : Prop := n ≤ 9223372036854775807 ∧ ∀ r : Int, 0 ≤ r → (r < n ∨ r = 0) → post r
def knext_sp : Spec := ⟨24, true, true, [.int .i64], .dat (.int .i64), fun x post => knext_P (x.1 : Int) (fun y0 => post (y0, ()))⟩
theorem knext_ok : SpecOK Tryz.prog knext_sp := by
  intro x post hp w S T us hS hT hl hr
  obtain ⟨n, ⟨⟩⟩ := x
  obtain ⟨hn, hp⟩ := hp
  obtain ⟨t, rfl, hT, hSt⟩ := hT
  match us, hl with
  | [u], _ =>
    have h0 := hr 0 _ _ rfl rfl
    have hu : u = .int .i64 n := by
      have h0 : Rd S w (.v (.int .i64 n)) u := h0
      cases h0; rfl
    subst hu
    refine (Keep.next_any t n hn w S hSt hT).mono ?_
    rintro e w' ⟨r, rfl, h1, h2, h3, h4⟩
    refine ⟨_, (r, ()), cx0 S (some t), rfl, hp r h1 h2, ?_, ?_, ?_⟩
    · refine ⟨fun b o h => Nat.lt_of_lt_of_le (hS b o h) h4.size, fun id x hx => (by cases hx), fun id x hx => (by cases hx), fun i j x y hx => (by cases hx), fun T hT' => ?_, fun _ => ⟨t, rfl, h3⟩, fun h => (by cases h)⟩
      cases hT'
      exact ⟨h3.lt, hSt⟩
    · refine ⟨h4.os, h4.tape, h4.output, h4.size, fun _ h => h, fun _ h => .inl h, fun _ h => h, fun _ _ => ⟨rfl, rfl⟩, fun _ _ h => h, fun _ _ h => .inl h, fun b hb _ ht => h4.block b hb (fun e => ht e.symm), fun _ h => .inl h⟩
    · exact .d _ _ (.v _)
end RE
end Go.Proofs.YtblcakaohlgagaaGreat
set_option maxRecDepth 100000
set_option linter.unusedVariables false
namespace Go.Proofs.YtblcakaohlgagaaGreat
open Go.RowKit
namespace RE
open PL
def krange_P (lo : Int) (hi : Int) (post : Int → Prop) : Prop := (-1099511627776 ≤ lo ∧ lo ≤ 1099511627776 ∧ -1099511627776 ≤ hi ∧ hi ≤ 1099511627776) ∧ ∀ r : Int, lo ≤ r → (r ≤ hi ∨ r = lo) → post r
def krange_sp : Spec := ⟨36, true, true, [.int .i64, .int .i64], .dat (.int .i64), fun x post => krange_P (x.1 : Int) (x.2.1 : Int) (fun y0 => post (y0, ()))⟩
def krange_C : CtxR := ⟨tau, [rule1 knext_sp], lookJ []⟩
def krange_W (lo : Int) (hi : Int) (post : Int → Prop) : Prop := IntKind.i64.wrap (IntKind.i64.wrap (hi - lo) + (1 : Int)) ≤ (9223372036854775807 : Int) ∧ ∀ (v1 : Int), (0 : Int) ≤ v1 → v1 < IntKind.i64.wrap (IntKind.i64.wrap (hi - lo) + (1 : Int)) ∨ v1 = (0 : Int) → post (IntKind.i64.wrap (lo + v1))
theorem krange_w (lo : Int) (hi : Int) (post : dens (shT krange_sp.rs []) → Prop) : krange_W lo hi (fun y0 => post (y0, ())) = walkG (callR Tryz.prog krange_C (drawR Tryz.prog tau) 8 0) 36 true [tv (.int .i64) lo, tv (.int .i64) hi] krange_sp.rs post := by kernel_rfl
theorem krange_of (h : ∀ (lo : Int) (hi : Int) (post : Int → Prop), krange_P lo hi post → krange_W lo hi post) : SpecOK Tryz.prog krange_sp := SpecOK.of_rules (C := krange_C) (dr := drawR Tryz.prog tau) (n := 8) (fk := 0) (.cons (rule1_ok knext_ok) .nil) (drawR_ok tau) fun x post hp => HoldW.of (krange_w x.1 x.2.1 post) (h x.1 x.2.1 (fun y0 => post (y0, ())) hp)
theorem krange_ok : SpecOK Tryz.prog krange_sp := krange_of fun lo hi post hp => by
  obtain ⟨⟨h1, h2, h3, h4⟩, hp⟩ := hp
  unfold krange_W
  have w1 : IntKind.i64.wrap (hi - lo) = hi - lo := wrap_in (by omega) (by omega)
  have w2 : IntKind.i64.wrap (hi - lo + 1) = hi - lo + 1 := wrap_in (by omega) (by omega)
  rw [w1, w2]
  refine ⟨by omega, fun v a b => ?_⟩
  rw [wrap_in (by omega) (by omega)]
  exact hp _ (by omega) (by omega)

def krect_P (n : Int) (post : api_Rect → Prop) : Prop := (1 ≤ n ∧ n ≤ 16384) ∧ ∀ r : api_Rect, (proper r ∧ r.Right ≤ n ∧ r.High ≤ n) → post r
def krect_sp : Spec := ⟨78, true, true, [.int .i64], .dat (.st .api_Rect), fun x post => krect_P (x.1 : Int) (fun y0 => post (y0, ()))⟩
def krect_C : CtxR := ⟨tau, [rule1 knext_sp], lookJ []⟩
def krect_W (n : Int) (post : api_Rect → Prop) : Prop := n ≤ (9223372036854775807 : Int) ∧ ∀ (v1 : Int), (0 : Int) ≤ v1 → v1 < n ∨ v1 = (0 : Int) → n ≤ (9223372036854775807 : Int) ∧ ∀ (v2 : Int), (0 : Int) ≤ v2 → v2 < n ∨ v2 = (0 : Int) → IntKind.i64.wrap (n - v1) ≤ (9223372036854775807 : Int) ∧ ∀ (v3 : Int), (0 : Int) ≤ v3 → v3 < IntKind.i64.wrap (n - v1) ∨ v3 = (0 : Int) → IntKind.i64.wrap (n - v2) ≤ (9223372036854775807 : Int) ∧ ∀ (v4 : Int), (0 : Int) ≤ v4 → v4 < IntKind.i64.wrap (n - v2) ∨ v4 = (0 : Int) → post { Left := v1, Low := v2, Right := IntKind.i64.wrap (IntKind.i64.wrap (v1 + (1 : Int)) + v3), High := IntKind.i64.wrap (IntKind.i64.wrap (v2 + (1 : Int)) + v4) : api_Rect }
theorem krect_w (n : Int) (post : dens (shT krect_sp.rs []) → Prop) : krect_W n (fun y0 => post (y0, ())) = walkG (callR Tryz.prog krect_C (drawR Tryz.prog tau) 8 0) 78 true [tv (.int .i64) n] krect_sp.rs post := by kernel_rfl
theorem krect_of (h : ∀ (n : Int) (post : api_Rect → Prop), krect_P n post → krect_W n post) : SpecOK Tryz.prog krect_sp := SpecOK.of_rules (C := krect_C) (dr := drawR Tryz.prog tau) (n := 8) (fk := 0) (.cons (rule1_ok knext_ok) .nil) (drawR_ok tau) fun x post hp => HoldW.of (krect_w x.1 post) (h x.1 (fun y0 => post (y0, ())) hp)
theorem valid_nil : validP [] := ⟨by simp, fun r h => (by cases h), canon_nil⟩
theorem canon_one {r : Rc} (h : proper r) : Canon [r] := by
  obtain ⟨p1, p2, p3, p4, p5, p6⟩ := h
  refine ⟨[⟨r.Low, r.High, [⟨r.Left, r.Right⟩]⟩], ⟨fun b hb => ?_, List.pairwise_singleton _ _, ?_⟩, rfl⟩
  · rw [List.mem_singleton] at hb
    subst hb
    exact ⟨p5, by simp, fun s hs => by rw [List.mem_singleton] at hs; subst hs; exact p2, List.pairwise_singleton _ _⟩
  · first | exact List.pairwise_singleton _ _ | exact trivial | (intro i; simp)
theorem canon_proper {l : List Rc} (h : Canon l) {n m : Int} (hn : n ≤ 16384) (hm : m ≤ 16384) (hb : ∀ x y, cov l x y = true → 0 ≤ x ∧ x < n ∧ 0 ≤ y ∧ y < m) : ∀ r ∈ l, proper r := fun r hr => by
  obtain ⟨q1, q2, q3, q4, q5, q6⟩ := canon_box h hb r hr
  exact ⟨q1, q2, by omega, q4, q5, by omega⟩
theorem ofS_valid {l : List Rc} {n : Int} (hn : n ≤ 16384) (h : ∀ r ∈ l, proper r ∧ r.Right ≤ n ∧ r.High ≤ n) : validP (ofS l).1 ∧ ∀ x y, cov (ofS l).1 x y = true → x < n ∧ y < n := by
  unfold ofS
  have hnil : validP ([] : List Rc) ∧ ∀ x y, cov ([] : List Rc) x y = true → x < n ∧ y < n := ⟨valid_nil, fun x y h => by simp [cov_nil] at h⟩
  split
  · exact hnil
  · split
    · exact hnil
    · split
      · exact hnil
      · rename_i h3
        have hc := canon_cov l
        have hb : ∀ x y, cov (canonF (cov l)) x y = true → 0 ≤ x ∧ x < n ∧ 0 ≤ y ∧ y < n := fun x y hxy => by
          rw [hc.2] at hxy
          obtain ⟨r, hr, q1, q2, q3, q4⟩ := cov_iff.1 hxy
          obtain ⟨⟨p1, p2, p3, p4, p5, p6⟩, p7, p8⟩ := h r hr
          omega
        exact ⟨⟨by show (canonF (cov l)).length ≤ 120; omega, canon_proper hc.1 hn hn hb, hc.1⟩, fun x y hxy => ⟨(hb x y hxy).2.1, (hb x y hxy).2.2.2⟩⟩

theorem krect_ok : SpecOK Tryz.prog krect_sp := krect_of fun n post hp => by
  obtain ⟨⟨h1, h2⟩, hp⟩ := hp
  unfold krect_W
  refine ⟨by omega, fun v1 a1 b1 => ⟨by omega, fun v2 a2 b2 => ?_⟩⟩
  have w1 : IntKind.i64.wrap (n - v1) = n - v1 := wrap_in (by omega) (by omega)
  have w2 : IntKind.i64.wrap (n - v2) = n - v2 := wrap_in (by omega) (by omega)
  rw [w1, w2]
  refine ⟨by omega, fun v3 a3 b3 => ⟨by omega, fun v4 a4 b4 => ?_⟩⟩
  rw [wrap_in (z := v1 + 1) (by omega) (by omega), wrap_in (z := v2 + 1) (by omega) (by omega), wrap_in (z := v1 + 1 + v3) (by omega) (by omega), wrap_in (z := v2 + 1 + v4) (by omega) (by omega)]
  refine hp _ ⟨⟨?_, ?_, ?_, ?_, ?_, ?_⟩, ?_, ?_⟩ <;> dsimp only <;> omega

def regI (n z : Int) (l : List Rc) : Prop := 0 ≤ z ∧ z + (l.length : Int) ≤ 200 ∧ ∀ r ∈ l, proper r ∧ r.Right ≤ n ∧ r.High ≤ n
def rcombO_P (a : List (api_Rect)) (b : List (api_Rect)) (h : Int) (post : List (api_Rect) → Prop) : Prop := (a.length ≤ 1000 ∧ b.length ≤ 1000) ∧ post (canonF (comb (howS h) a b))
def rcombO_sp : Spec := ⟨43, false, true, [.sl (.st .api_Rect), .sl (.st .api_Rect), .int .i64], .own 89 (.st .api_Rect), fun x post => rcombO_P (x.1 : List (api_Rect)) (x.2.1 : List (api_Rect)) (x.2.2.1 : Int) (fun y0 => post (y0, ()))⟩
def rcombO_C : CtxR := ⟨tau, [rule1 rput_sp, rule1 rins_sp, rule1 rsm_sp], lookJ [(0, 27, ⟨[(15, .dat (.int .i64)), (14, .own 89 (.st .api_Rect)), (13, .own 89 (.st .api_Rect))], [], [50, 51, 52, 53, 54, 158, 157, 159, 19, 160, 161, 162, 163, 164, 165, 166, 167, 168, 169, 156, 155, 153, 152, 151, 150, 149, 148, 147, 146, 145, 142, 141, 140, 154, 144, 143, 139, 138, 137, 136, 61, 60, 59, 58, 57, 17, 16, 86, 64, 65, 66, 67, 68, 69, 70, 71, 72, 73, 74, 75, 76, 77, 78, 79, 80, 81, 82, 83, 84, 85, 113, 112, 111, 110, 109, 108, 107, 106, 105, 104, 102, 101, 100, 99, 98, 97, 96, 95, 94, 93, 92, 103, 91, 90, 89, 18, 88, 87, 114, 115, 116, 117, 118, 119, 120, 121, 122, 123, 124, 125, 126, 127, 128, 129, 130, 131, 132, 133, 134, 135, 62, 63, 173, 172, 171, 170, 55, 56], [], []⟩), (0, 28, ⟨[(14, .own 89 (.st .api_Rect)), (13, .own 89 (.st .api_Rect))], [], [170, 171, 172, 173, 63, 62, 135, 134, 133, 132, 131, 130, 129, 128, 127, 126, 125, 124, 123, 122, 121, 120, 119, 118, 117, 116, 115, 114, 87, 88, 18, 89, 90, 91, 103, 92, 93, 94, 95, 96, 97, 98, 99, 100, 101, 102, 104, 105, 106, 107, 108, 109, 110, 111, 112, 113, 85, 84, 83, 82, 81, 80, 79, 78, 77, 76, 75, 74, 73, 72, 71, 70, 69, 68, 67, 66, 65, 64, 86, 16, 17, 57, 58, 59, 60, 61, 136, 137, 138, 139, 143, 144, 154, 140, 141, 142, 145, 146, 147, 148, 149, 150, 151, 152, 153, 155, 156, 169, 168, 167, 166, 165, 164, 163, 162, 161, 160, 19, 159, 157, 158], [2, 1], []⟩), (0, 53, ⟨[(157, .dat (.int .i64))], [], [158, 159, 19, 160, 161, 162, 163, 164, 165, 166, 167, 168, 169], [], [(1, 89, (.st .api_Rect))]⟩), (0, 35, ⟨[(17, .dat (.int .i64)), (16, .own 89 (.st .api_Rect))], [], [57, 58, 59, 60, 61, 86, 64, 65, 66, 67, 68, 69, 70, 71, 72, 73, 74, 75, 76, 77, 78, 79, 80, 81, 82, 83, 84, 85, 113, 112, 111, 110, 109, 108, 107, 106, 105, 104, 102, 101, 100, 99, 98, 97, 96, 95, 94, 93, 92, 103, 91, 90, 89, 18, 88, 87, 114, 115, 116, 117, 118, 119, 120, 121, 122, 123, 124, 125, 126, 127, 128, 129, 130, 131, 132, 133, 134, 135, 62, 63], [], []⟩), (0, 36, ⟨[(16, .own 89 (.st .api_Rect))], [], [135, 134, 133, 132, 131, 130, 129, 128, 127, 126, 125, 124, 123, 122, 121, 120, 119, 118, 117, 116, 115, 114, 87, 88, 18, 89, 90, 91, 103, 92, 93, 94, 95, 96, 97, 98, 99, 100, 101, 102, 104, 105, 106, 107, 108, 109, 110, 111, 112, 113, 85, 84, 83, 82, 81, 80, 79, 78, 77, 76, 75, 74, 73, 72, 71, 70, 69, 68, 67, 66, 65, 64, 86], [3], []⟩), (0, 1000023, ⟨[(16, .own 89 (.st .api_Rect))], [], [114, 115, 116, 117, 118, 119, 120, 121, 122, 123, 124, 125, 126, 127, 128, 129, 130, 131, 132, 133, 134, 135], [3], []⟩), (0, 1000019, ⟨[(86, .dat .bool)], [], [64, 65, 66, 67, 68, 69, 70, 71, 72, 73, 74, 75, 76, 77, 78, 79, 80, 81, 82, 83, 84, 85], [], []⟩), (19421, 0, ⟨[(0, .dat .bool)], [], [], [], []⟩), (0, 7, ⟨[(24, .dat (.int .i64)), (8, .dat (.sl (.int .i64))), (7, .dat (.sl (.int .i64)))], [], [25, 26, 27, 10, 28, 29, 48, 34, 35, 36, 37, 38, 39, 40, 41, 42, 43, 44, 45, 46, 47, 12, 33, 32, 30, 31, 49], [], []⟩), (0, 13, ⟨[(30, .dat (.int .i64)), (8, .dat (.sl (.int .i64))), (7, .dat (.sl (.int .i64)))], [], [31, 32, 33, 12, 47, 46, 45, 44, 43, 42, 41, 40, 39, 38, 37, 36, 35, 34, 48], [], []⟩), (0, 1000008, ⟨[(8, .dat (.sl (.int .i64))), (7, .dat (.sl (.int .i64)))], [], [34, 35, 36, 37, 38, 39, 40, 41, 42, 43, 44, 45, 46, 47], [], []⟩)]⟩
def rcombO_W (a : List (api_Rect)) (b : List (api_Rect)) (h : Int) (post : List (api_Rect) → Prop) : Prop := (↑[a, b].length : Int) ≤ (9223372036854775807 : Int) → LOOP [Ty.int IntKind.i64, (Ty.int IntKind.i64).sl, (Ty.int IntKind.i64).sl] (fun (rec1 : Int → List Int → List Int → Prop) (z2 : Int) (z3 z4 : List Int) ↦ IFB (decide (z2 < (↑[a, b].length : Int))) (((0 : Int) ≤ z2 ∧ z2 < (↑[a, b].length : Int)) ∧ ((↑(ix [a, b] z2).length : Int) ≤ (9223372036854775807 : Int) → LOOP [Ty.int IntKind.i64, (Ty.int IntKind.i64).sl, (Ty.int IntKind.i64).sl] (fun (rec5 : Int → List Int → List Int → Prop) (z6 : Int) (z7 z8 : List Int) ↦ IFB (decide (z6 < (↑(ix [a, b] z2).length : Int))) (((0 : Int) ≤ z6 ∧ z6 < (↑(ix [a, b] z2).length : Int)) ∧ JOIN [(Ty.int IntKind.i64).sl, (Ty.int IntKind.i64).sl] (fun (y9 y10 : List Int) ↦ rec5 (IntKind.i64.wrap (z6 + (1 : Int))) y9 y10) fun (J11 : List Int → List Int → Prop) ↦ z8.length ≤ (1000000 : Nat) ∧ (putS (ix (ix [a, b] z2) z6).1 z8).length ≤ (1000000 : Nat) ∧ z7.length ≤ (1000000 : Nat) ∧ (putS (ix (ix [a, b] z2) z6).2 z7).length ≤ (1000000 : Nat) ∧ J11 (putS (ix (ix [a, b] z2) z6).4 (putS (ix (ix [a, b] z2) z6).2 z7)) (putS (ix (ix [a, b] z2) z6).3 (putS (ix (ix [a, b] z2) z6).1 z8))) (rec1 (IntKind.i64.wrap (z2 + (1 : Int))) z7 z8)) ((0 : Int), z3, z4, PUnit.unit))) (LOOP [Ty.int IntKind.i64, (Ty.st Sn.api_Rect).sl, (Ty.st Sn.api_Rect).sl] (fun (rec12 : Int → List api_Rect → List api_Rect → Prop) (z13 : Int) (z14 z15 : List api_Rect) ↦ (↑z3.length : Int) ≤ (9223372036854775807 : Int) → IFB (decide (IntKind.i64.wrap (z13 + (1 : Int)) < (↑z3.length : Int))) (JOIN [(Ty.st Sn.api_Rect).sl, (Ty.st Sn.api_Rect).sl] (fun (y16 y17 : List api_Rect) ↦ rec12 (IntKind.i64.wrap (z13 + (1 : Int))) y16 y17) fun (J18 : List api_Rect → List api_Rect → Prop) ↦ LOOP [Ty.int IntKind.i64, (Ty.st Sn.api_Rect).sl] (fun (rec19 : Int → List api_Rect → Prop) (z20 : Int) (z21 : List api_Rect) ↦ (↑z4.length : Int) ≤ (9223372036854775807 : Int) → IFB (decide (IntKind.i64.wrap (z20 + (1 : Int)) < (↑z4.length : Int))) (JOIN [(Ty.st Sn.api_Rect).sl] (fun (y22 : List api_Rect) ↦ rec19 (IntKind.i64.wrap (z20 + (1 : Int))) y22) fun (J23 : List api_Rect → Prop) ↦ JOIN [Ty.bool] (fun (y24 : Bool) ↦ IFB y24 (J23 z21) ((↑z21.length : Int) ≤ (9223372036854775807 : Int) → (gx true (decide ((0 : Int) < (↑z21.length : Int))) = true → (0 : Int) ≤ IntKind.i64.wrap ((↑z21.length : Int) - (1 : Int)) ∧ IntKind.i64.wrap ((↑z21.length : Int) - (1 : Int)) < (↑z21.length : Int)) ∧ (gx true (decide ((0 : Int) < (↑z21.length : Int))) = true → (0 : Int) ≤ z20 ∧ z20 < (↑z4.length : Int)) ∧ IFB (decide ((0 : Int) < (↑z21.length : Int)) && decide ((ix z21 (IntKind.i64.wrap ((↑z21.length : Int) - (1 : Int)))).3 = ix z4 z20)) (((0 : Int) ≤ IntKind.i64.wrap (z20 + (1 : Int)) ∧ IntKind.i64.wrap (z20 + (1 : Int)) < (↑z4.length : Int)) ∧ ((0 : Int) ≤ IntKind.i64.wrap ((↑z21.length : Int) - (1 : Int)) ∧ IntKind.i64.wrap ((↑z21.length : Int) - (1 : Int)) < (↑z21.length : Int)) ∧ J23 (z21.set (IntKind.i64.wrap ((↑z21.length : Int) - (1 : Int))).toNat { Left := (ix z21 (IntKind.i64.wrap ((↑z21.length : Int) - (1 : Int)))).1, Low := (ix z21 (IntKind.i64.wrap ((↑z21.length : Int) - (1 : Int)))).2, Right := ix z4 (IntKind.i64.wrap (z20 + (1 : Int))), High := (ix z21 (IntKind.i64.wrap ((↑z21.length : Int) - (1 : Int)))).4 : api_Rect })) (JOIN [(Ty.st Sn.api_Rect).sl] (fun (y25 : List api_Rect) ↦ J23 y25) fun (J26 : List api_Rect → Prop) ↦ ((0 : Int) ≤ z20 ∧ z20 < (↑z4.length : Int)) ∧ ((0 : Int) ≤ z13 ∧ z13 < (↑z3.length : Int)) ∧ ((0 : Int) ≤ IntKind.i64.wrap (z20 + (1 : Int)) ∧ IntKind.i64.wrap (z20 + (1 : Int)) < (↑z4.length : Int)) ∧ ((0 : Int) ≤ IntKind.i64.wrap (z13 + (1 : Int)) ∧ IntKind.i64.wrap (z13 + (1 : Int)) < (↑z3.length : Int)) ∧ (z21.length + [{ Left := ix z4 z20, Low := ix z3 z13, Right := ix z4 (IntKind.i64.wrap (z20 + (1 : Int))), High := ix z3 (IntKind.i64.wrap (z13 + (1 : Int))) : api_Rect }].length) * (32 : Nat) ≤ (140737488355328 : Nat) ∧ J26 (z21 ++ [{ Left := ix z4 z20, Low := ix z3 z13, Right := ix z4 (IntKind.i64.wrap (z20 + (1 : Int))), High := ix z3 (IntKind.i64.wrap (z13 + (1 : Int))) : api_Rect }])))) fun (J27 : Bool → Prop) ↦ ((0 : Int) ≤ z20 ∧ z20 < (↑z4.length : Int)) ∧ ((0 : Int) ≤ z13 ∧ z13 < (↑z3.length : Int)) ∧ ((0 : Int) ≤ z20 ∧ z20 < (↑z4.length : Int)) ∧ ((0 : Int) ≤ z13 ∧ z13 < (↑z3.length : Int)) ∧ a.length ≤ (1000000 : Nat) ∧ b.length ≤ (1000000 : Nat) ∧ JOIN [Ty.bool] (fun (y28 : Bool) ↦ J27 !y28) fun (J29 : Bool → Prop) ↦ IFB (decide (h = (1 : Int))) (J29 (cov a (ix z4 z20) (ix z3 z13) || cov b (ix z4 z20) (ix z3 z13))) (IFB (decide (h = (2 : Int))) (J29 (cov a (ix z4 z20) (ix z3 z13) && cov b (ix z4 z20) (ix z3 z13))) (J29 (cov a (ix z4 z20) (ix z3 z13) && !cov b (ix z4 z20) (ix z3 z13))))) ((↑z14.length : Int) ≤ (9223372036854775807 : Int) → JOIN [Ty.bool] (fun (y30 : Bool) ↦ (gx true (decide ((0 : Int) < (↑z14.length : Int)) && y30) = true → Int.NonNeg (0 : Int) ∧ (0 : Int) < (↑z14.length : Int)) ∧ (gx true (decide ((0 : Int) < (↑z14.length : Int)) && y30) = true → (0 : Int) ≤ z13 ∧ z13 < (↑z3.length : Int)) ∧ IFB (decide ((0 : Int) < (↑z14.length : Int)) && y30 && decide ((ix z14 (0 : Int)).4 = ix z3 z13)) ((↑z14.length : Int) ≤ (9223372036854775807 : Int) → LOOP [Ty.int IntKind.i64, (Ty.st Sn.api_Rect).sl] (fun (rec31 : Int → List api_Rect → Prop) (z32 : Int) (z33 : List api_Rect) ↦ IFB (decide (z32 < (↑z14.length : Int))) (((0 : Int) ≤ IntKind.i64.wrap (z13 + (1 : Int)) ∧ IntKind.i64.wrap (z13 + (1 : Int)) < (↑z3.length : Int)) ∧ ((0 : Int) ≤ z32 ∧ z32 < (↑z33.length : Int)) ∧ rec31 (IntKind.i64.wrap (z32 + (1 : Int))) (z33.set z32.toNat { Left := (ix z33 z32).1, Low := (ix z33 z32).2, Right := (ix z33 z32).3, High := ix z3 (IntKind.i64.wrap (z13 + (1 : Int))) : api_Rect })) (J18 z33 z15)) ((0 : Int), z14, PUnit.unit)) ((z15.length + z14.length) * (32 : Nat) ≤ (140737488355328 : Nat) ∧ J18 z21 (z15 ++ z14)) ∧ IFB (decide ((0 : Int) < (↑z14.length : Int)) && y30 && decide ((ix z14 (0 : Int)).4 = ix z3 z13)) ((↑z14.length : Int) ≤ (9223372036854775807 : Int) → LOOP [Ty.int IntKind.i64, (Ty.st Sn.api_Rect).sl] (fun (rec34 : Int → List api_Rect → Prop) (z35 : Int) (z36 : List api_Rect) ↦ IFB (decide (z35 < (↑z14.length : Int))) (((0 : Int) ≤ IntKind.i64.wrap (z13 + (1 : Int)) ∧ IntKind.i64.wrap (z13 + (1 : Int)) < (↑z3.length : Int)) ∧ ((0 : Int) ≤ z35 ∧ z35 < (↑z36.length : Int)) ∧ rec34 (IntKind.i64.wrap (z35 + (1 : Int))) (z36.set z35.toNat { Left := (ix z36 z35).1, Low := (ix z36 z35).2, Right := (ix z36 z35).3, High := ix z3 (IntKind.i64.wrap (z13 + (1 : Int))) : api_Rect })) (J18 z36 z15)) ((0 : Int), z14, PUnit.unit)) ((z15.length + z14.length) * (32 : Nat) ≤ (140737488355328 : Nat) ∧ J18 z21 (z15 ++ z14))) fun (J37 : Bool → Prop) ↦ IFB (gx true (decide ((0 : Int) < (↑z14.length : Int)))) (z14.length ≤ (100000000 : Nat) ∧ ∀ (v38 : Bool), (v38 = true ↔ List.map spanOf z14 = List.map spanOf z21) → J37 v38) (J37 false))) ((0 : Int), [], PUnit.unit)) ((z15.length + z14.length) * (32 : Nat) ≤ (140737488355328 : Nat) ∧ post (z15 ++ z14))) ((0 : Int), [], [], PUnit.unit))) ((0 : Int), [], [], PUnit.unit)
theorem rcombO_w (a : List (api_Rect)) (b : List (api_Rect)) (h : Int) (post : dens (shT rcombO_sp.rs []) → Prop) : rcombO_W a b h (fun y0 => post (y0, ())) = walkG (callR Tryz.prog rcombO_C (drawR Tryz.prog tau) 8 0) 43 false [tv (.sl (.st .api_Rect)) a, tv (.sl (.st .api_Rect)) b, tv (.int .i64) h] rcombO_sp.rs post := by kernel_rfl
theorem rcombO_of (h : ∀ (a : List (api_Rect)) (b : List (api_Rect)) (h : Int) (post : List (api_Rect) → Prop), rcombO_P a b h post → rcombO_W a b h post) : SpecOK Tryz.prog rcombO_sp := SpecOK.of_rules (C := rcombO_C) (dr := drawR Tryz.prog tau) (n := 8) (fk := 0) (.cons (rule1_ok rput_ok) (.cons (rule1_ok rins_ok) (.cons (rule1_ok rsm_ok) .nil))) (drawR_ok tau) fun x post hp => HoldW.of (rcombO_w x.1 x.2.1 x.2.2.1 post) (h x.1 x.2.1 x.2.2.1 (fun y0 => post (y0, ())) hp)
theorem rcombO_ok : SpecOK Tryz.prog rcombO_sp := rcombO_of rcomb_main

def rofO_P (l : List (api_Rect)) (post : List (api_Rect) → Int → Prop) : Prop := post (ofS l).1 (ofS l).2
def rofO_sp : Spec := ⟨79, false, true, [.sl (.st .api_Rect)], .tup [.agg [.own 89 (.st .api_Rect)], .dat (.int .i64)], fun x post => rofO_P (x.1 : List (api_Rect)) (fun y0 y1 => post (y0, y1, ()))⟩
def rofO_C : CtxR := ⟨tau, [rule1 rcombO_sp], lookJ [(9192, 0, ⟨[(0, .tup [.agg [.own 89 (.st .api_Rect)], .dat (.int .i64)])], [], [], [1], []⟩), (0, 9, ⟨[(12, .dat (.int .i64))], [], [13, 14, 15, 5, 16, 17, 18, 20], [], []⟩)]⟩
def rofO_W (l : List (api_Rect)) (post : List (api_Rect) → Int → Prop) : Prop := (↑l.length : Int) ≤ (9223372036854775807 : Int) → IFB (decide ((120 : Int) < (↑l.length : Int))) (post [] (1 : Int)) ((↑l.length : Int) ≤ (9223372036854775807 : Int) → LOOP [Ty.int IntKind.i64] (fun (rec1 : Int → Prop) (z2 : Int) ↦ IFB (decide (z2 < (↑l.length : Int))) (((0 : Int) ≤ z2 ∧ z2 < (↑l.length : Int)) ∧ IFB (!(decide ((0 : Int) ≤ (ix l z2).1) && decide ((ix l z2).1 < (ix l z2).3) && decide ((ix l z2).3 ≤ (16384 : Int)) && decide ((0 : Int) ≤ (ix l z2).2) && decide ((ix l z2).2 < (ix l z2).4) && decide ((ix l z2).4 ≤ (16384 : Int)))) (post [] (2 : Int)) (rec1 (IntKind.i64.wrap (z2 + (1 : Int))))) ((l.length ≤ (1000 : Nat) ∧ (0 : Nat) ≤ (1000 : Nat)) ∧ JOIN [(Ty.st Sn.api_Rect).sl, Ty.int IntKind.i64] (fun (y3 : List api_Rect) (y4 : Int) ↦ post y3 y4) fun (J5 : List api_Rect → Int → Prop) ↦ (↑(canonF fun (x y : Int) ↦ howS (1 : Int) (cov l x y) (cov [] x y)).length : Int) ≤ (9223372036854775807 : Int) → IFB (decide ((120 : Int) < (↑(canonF fun (x y : Int) ↦ howS (1 : Int) (cov l x y) (cov [] x y)).length : Int))) (J5 [] (1 : Int)) (J5 (canonF fun (x y : Int) ↦ howS (1 : Int) (cov l x y) (cov [] x y)) (0 : Int)))) ((0 : Int), PUnit.unit))
theorem rofO_w (l : List (api_Rect)) (post : dens (shT rofO_sp.rs []) → Prop) : rofO_W l (fun y0 y1 => post (y0, y1, ())) = walkG (callR Tryz.prog rofO_C (drawR Tryz.prog tau) 8 0) 79 false [tv (.sl (.st .api_Rect)) l] rofO_sp.rs post := by kernel_rfl
theorem rofO_of (h : ∀ (l : List (api_Rect)) (post : List (api_Rect) → Int → Prop), rofO_P l post → rofO_W l post) : SpecOK Tryz.prog rofO_sp := SpecOK.of_rules (C := rofO_C) (dr := drawR Tryz.prog tau) (n := 8) (fk := 0) (.cons (rule1_ok rcombO_ok) .nil) (drawR_ok tau) fun x post hp => HoldW.of (rofO_w x.1 post) (h x.1 (fun y0 y1 => post (y0, y1, ())) hp)
theorem rofO_ok : SpecOK Tryz.prog rofO_sp := rofO_of rof_main

def kregionO_P (n : Int) (m : Int) (post : List (api_Rect) → Prop) : Prop := (1 ≤ n ∧ n ≤ 16384 ∧ 0 ≤ m ∧ m ≤ 100) ∧ ∀ a : List api_Rect, (validP a ∧ ∀ x y, cov a x y = true → x < n ∧ y < n) → post a
def kregionO_sp : Spec := ⟨41, true, true, [.int .i64, .int .i64], .agg [.own 89 (.st .api_Rect)], fun x post => kregionO_P (x.1 : Int) (x.2.1 : Int) (fun y0 => post (y0, ()))⟩
def kregionO_C : CtxR := ⟨tau, [rule1 knext_sp, rule1 krect_sp, rule1 rofO_sp], lookJ [(0, 7, ⟨[(8, .dat (.int .i64)), (7, .own 89 (.st .api_Rect))], [], [15, 16, 19, 20, 21, 22, 23, 24, 17, 18], [], []⟩)]⟩
def kregionO_W (n : Int) (m : Int) (post : List (api_Rect) → Prop) : Prop := IntKind.i64.wrap (m + (1 : Int)) ≤ (9223372036854775807 : Int) ∧ ∀ (v1 : Int), (0 : Int) ≤ v1 → v1 < IntKind.i64.wrap (m + (1 : Int)) ∨ v1 = (0 : Int) → LOOP [Ty.int IntKind.i64, (Ty.st Sn.api_Rect).sl] (fun (rec2 : Int → List api_Rect → Prop) (z3 : Int) (z4 : List api_Rect) ↦ IFB (decide ((0 : Int) < z3)) (((1 : Int) ≤ n ∧ n ≤ (16384 : Int)) ∧ ∀ (v5 : api_Rect), proper v5 ∧ v5.3 ≤ n ∧ v5.4 ≤ n → (z4.length + [{ Left := v5.1, Low := v5.2, Right := v5.3, High := v5.4 : api_Rect }].length) * (32 : Nat) ≤ (140737488355328 : Nat) ∧ rec2 (IntKind.i64.wrap (z3 - (1 : Int))) (z4 ++ [{ Left := v5.1, Low := v5.2, Right := v5.3, High := v5.4 : api_Rect }])) (post (ofS z4).1)) (v1, [], PUnit.unit)
theorem kregionO_w (n : Int) (m : Int) (post : dens (shT kregionO_sp.rs []) → Prop) : kregionO_W n m (fun y0 => post (y0, ())) = walkG (callR Tryz.prog kregionO_C (drawR Tryz.prog tau) 8 0) 41 true [tv (.int .i64) n, tv (.int .i64) m] kregionO_sp.rs post := by kernel_rfl
theorem kregionO_of (h : ∀ (n : Int) (m : Int) (post : List (api_Rect) → Prop), kregionO_P n m post → kregionO_W n m post) : SpecOK Tryz.prog kregionO_sp := SpecOK.of_rules (C := kregionO_C) (dr := drawR Tryz.prog tau) (n := 8) (fk := 0) (.cons (rule1_ok knext_ok) (.cons (rule1_ok krect_ok) (.cons (rule1_ok rofO_ok) .nil))) (drawR_ok tau) fun x post hp => HoldW.of (kregionO_w x.1 x.2.1 post) (h x.1 x.2.1 (fun y0 => post (y0, ())) hp)
theorem kregionO_ok : SpecOK Tryz.prog kregionO_sp := kregionO_of fun n m post hp => by
  obtain ⟨⟨h1, h2, h3, h4⟩, hp⟩ := hp
  unfold kregionO_W
  have w1 : IntKind.i64.wrap (m + 1) = m + 1 := wrap_in (by omega) (by omega)
  rw [w1]
  refine ⟨by omega, fun v a b => ?_⟩
  refine LOOP.fuel (fun u => regI n u.1 u.2.1) (fun u => Int.toNat u.1) ⟨a, by show v + (([] : List Rc).length : Int) ≤ 200; simp only [List.length_nil]; omega, fun r hr => (by cases hr)⟩ ?_
  rintro rec ⟨(z : Int), (l : List Rc), ⟨⟩⟩ ⟨i1, i2, i3⟩ hrec
  have i1 : 0 ≤ z := i1
  have i2 : z + (l.length : Int) ≤ 200 := i2
  refine IFB.mk (fun hb => ⟨⟨h1, h2⟩, fun r hr => ⟨by simp only [List.length_cons, List.length_nil]; omega, ?_⟩⟩) (fun hb => ?_)
  · have hb : 0 < z := of_decide_eq_true hb
    rw [wrap_in (by omega) (by omega)]
    refine hrec (z - 1, _, ()) ⟨?_, ?_, ?_⟩ (by show (z - 1).toNat < z.toNat; omega)
    · show 0 ≤ z - 1; omega
    · show z - 1 + (List.length (l ++ _) : Int) ≤ 200
      simp only [List.length_append, List.length_cons, List.length_nil]; omega
    · intro q hq
      rcases List.mem_append.1 hq with hq | hq
      · exact i3 q hq
      · rw [List.mem_singleton] at hq
        subst hq
        exact hr
  · exact hp (ofS l).1 (ofS_valid h2 i3)

def klandO_P (n : Int) (m : Int) (post : List (api_Rect) → Prop) : Prop := (1 ≤ n ∧ n ≤ 16384 ∧ 0 ≤ m ∧ m ≤ 100) ∧ ∀ a : List api_Rect, (validP a ∧ a ≠ [] ∧ ∀ x y, cov a x y = true → x < n ∧ y < n) → post a
def klandO_sp : Spec := ⟨72, true, true, [.int .i64, .int .i64], .agg [.own 89 (.st .api_Rect)], fun x post => klandO_P (x.1 : Int) (x.2.1 : Int) (fun y0 => post (y0, ()))⟩
def klandO_C : CtxR := ⟨tau, [rule1 kregionO_sp, rule1 krect_sp], lookJ [(0, 8, ⟨[], [(2, [.own 89 (.st .api_Rect)])], [12, 13, 14, 15, 16, 17, 18, 19, 20], [1], []⟩)]⟩
def klandO_W (n : Int) (m : Int) (post : List (api_Rect) → Prop) : Prop := ((1 : Int) ≤ n ∧ n ≤ (16384 : Int) ∧ (0 : Int) ≤ m ∧ m ≤ (100 : Int)) ∧ ∀ (v1 : List api_Rect), (validP v1 ∧ ∀ (x y : Int), cov v1 x y = true → x < n ∧ y < n) → JOIN [(Ty.st Sn.api_Rect).sl] (fun (y2 : List api_Rect) ↦ post y2) fun (J3 : List api_Rect → Prop) ↦ (↑v1.length : Int) ≤ (9223372036854775807 : Int) → IFB (decide ((↑v1.length : Int) = (0 : Int))) (((1 : Int) ≤ n ∧ n ≤ (16384 : Int)) ∧ ∀ (v4 : api_Rect), proper v4 ∧ v4.3 ≤ n ∧ v4.4 ≤ n → J3 [{ Left := v4.1, Low := v4.2, Right := v4.3, High := v4.4 : api_Rect }]) (J3 v1)
theorem klandO_w (n : Int) (m : Int) (post : dens (shT klandO_sp.rs []) → Prop) : klandO_W n m (fun y0 => post (y0, ())) = walkG (callR Tryz.prog klandO_C (drawR Tryz.prog tau) 8 0) 72 true [tv (.int .i64) n, tv (.int .i64) m] klandO_sp.rs post := by kernel_rfl
theorem klandO_of (h : ∀ (n : Int) (m : Int) (post : List (api_Rect) → Prop), klandO_P n m post → klandO_W n m post) : SpecOK Tryz.prog klandO_sp := SpecOK.of_rules (C := klandO_C) (dr := drawR Tryz.prog tau) (n := 8) (fk := 0) (.cons (rule1_ok kregionO_ok) (.cons (rule1_ok krect_ok) .nil)) (drawR_ok tau) fun x post hp => HoldW.of (klandO_w x.1 x.2.1 post) (h x.1 x.2.1 (fun y0 => post (y0, ())) hp)
theorem klandO_ok : SpecOK Tryz.prog klandO_sp := klandO_of fun n m post hp => by
  obtain ⟨hd, hp⟩ := hp
  unfold klandO_W
  refine ⟨hd, fun l ha => ?_⟩
  obtain ⟨h1, h2⟩ := ha
  refine JOIN.opq fun (J : List Rc → Prop) hJ _ => IFB.mk (fun hb => ⟨⟨hd.1, hd.2.1⟩, fun r hr => ?_⟩) (fun hb => ?_)
  · rw [hJ]
    refine hp [r] ⟨⟨by simp, fun q hq => ?_, canon_one hr.1⟩, by simp, fun x y hxy => ?_⟩
    · rw [List.mem_singleton] at hq
      subst hq
      exact hr.1
    · obtain ⟨q, hq, q1, q2, q3, q4⟩ := cov_iff.1 hxy
      rw [List.mem_singleton] at hq
      subst hq
      obtain ⟨_, p7, p8⟩ := hr
      omega
  · have hb : ¬ (l.length : Int) = 0 := of_decide_eq_false hb
    rw [hJ]
    exact hp l ⟨h1, fun e => hb (by show (l.length : Int) = 0; rw [show l = [] from e]; rfl), h2⟩

end RE
end Go.Proofs.YtblcakaohlgagaaGreat
set_option maxRecDepth 100000
set_option linter.unusedVariables false
namespace Go.Proofs.YtblcakaohlgagaaGreat
open Go.RowKit
namespace RE
open PL

namespace PL
def boxed (p : Int) (l : List Rc) : Prop := Canon l ∧ ∀ x y, cov l x y = true → 10 * p ≤ x ∧ x < 10 * p + 9 ∧ 0 ≤ y ∧ y < 9
def linesOK (a : List api_Line) : Prop := ∀ x ∈ a, ∃ p : Int, 0 ≤ p ∧ p ≤ 2 ∧ boxed p x.Region.Rects
end PL

def klines_P (cs : List (api_Crop)) (m : Int) (post : List (api_Line) → List (Int) → List (api_Region) → Prop) : Prop := (1 ≤ cs.length ∧ cs.length ≤ 1000 ∧ 0 ≤ m ∧ m ≤ 10) ∧ ∀ (a : List api_Line) (b : List Int) (c : List api_Region), (linesOK a ∧ (a.length : Int) ≤ m) → post a b c
def klines_sp : Spec := ⟨37, true, true, [.sl (.st .api_Crop), .int .i64], .tup [.dat (.sl (.st .api_Line)), .dat (.sl (.int .i64)), .dat (.sl (.st .api_Region))], fun x post => klines_P (x.1 : List (api_Crop)) (x.2.1 : Int) (fun y0 y1 y2 => post (y0, y1, y2, ()))⟩
def klines_C : CtxR := ⟨tau, [rule1 knext_sp, rule1 krange_sp, rule1 klandO_sp, rule1 rcomb_sp], lookJ [(0, 21, ⟨[(14, .dat (.int .i64)), (11, .own 43 (.st .api_Line))], [], [53, 54, 135, 134, 133, 132, 131, 130, 129, 128, 127, 126, 125, 124, 123, 122, 121, 120, 119, 118, 109, 108, 18, 110, 111, 20, 112, 113, 114, 115, 116, 117, 107, 106, 105, 104, 103, 102, 101, 100, 99, 98, 67, 66, 68, 17, 69, 70, 71, 72, 73, 74, 75, 76, 77, 78, 79, 80, 81, 82, 83, 84, 85, 86, 87, 88, 89, 90, 91, 92, 93, 94, 95, 96, 97, 65, 64, 63, 16, 62, 61, 15, 60, 59, 58, 57, 55, 56], [], []⟩), (0, 22, ⟨[(11, .own 43 (.st .api_Line))], [], [57, 58, 59, 60, 15, 61, 62, 16, 63, 64, 65, 97, 96, 95, 94, 93, 92, 91, 90, 89, 88, 87, 86, 85, 84, 83, 82, 81, 80, 79, 78, 77, 76, 75, 74, 73, 72, 71, 70, 69, 17, 68, 66, 67, 98, 99, 100, 101, 102, 103, 104, 105, 106, 107, 117, 116, 115, 114, 113, 112, 20, 111, 110, 18, 108, 109, 118, 119, 120, 121, 122, 123, 124, 125, 126, 127, 128, 129, 130, 131, 132, 133, 134, 135], [2], []⟩), (0, 43, ⟨[(108, .dat (.int .i64)), (18, .dat (.sl (.st .api_Rect)))], [], [109, 110, 111, 20, 112, 113, 114, 115, 116, 117], [], []⟩), (0, 31, ⟨[(66, .dat (.int .i64))], [], [67, 68, 17, 69, 70, 71, 72, 73, 74, 75, 76, 77, 78, 79, 80, 81, 82, 83, 84, 85, 86, 87, 88, 89, 90, 91, 92, 93, 94, 95, 96, 97], [], [(3, 89, (.st .api_Rect))]⟩), (0, 11, ⟨[(12, .dat (.int .i64)), (10, .own 41 (.st .api_Region)), (9, .own 3 (.int .i64))], [], [23, 24, 27, 28, 13, 29, 30, 31, 32, 33, 34, 35, 36, 37, 38, 39, 40, 41, 42, 43, 44, 45, 46, 47, 48, 25, 26], [], []⟩)]⟩
def klines_W (cs : List (api_Crop)) (m : Int) (post : List (api_Line) → List (Int) → List (api_Region) → Prop) : Prop := (Int.NonNeg (1099511627777 : Int) ∧ Int.NonNeg (1099511627775 : Int) ∧ Int.NonNeg (1099511627779 : Int) ∧ (3 : Int) ≤ (1099511627776 : Int)) ∧ ∀ (v1 : Int), (1 : Int) ≤ v1 → v1 ≤ (3 : Int) ∨ v1 = (1 : Int) → LOOP [Ty.int IntKind.i64, (Ty.st Sn.api_Region).sl, (Ty.int IntKind.i64).sl] (fun (rec2 : Int → List api_Region → List Int → Prop) (z3 : Int) (z4 : List api_Region) (z5 : List Int) ↦ IFB (decide ((0 : Int) < z3)) ((↑z5.length : Int) ≤ (9223372036854775807 : Int) → (z5.length + [IntKind.i64.wrap ((↑z5.length : Int) + (1 : Int))].length) * (8 : Nat) ≤ (140737488355328 : Nat) ∧ (Int.NonNeg (1099511627778 : Int) ∧ Int.NonNeg (1099511627774 : Int) ∧ Int.NonNeg (1099511627785 : Int) ∧ (9 : Int) ≤ (1099511627776 : Int)) ∧ ∀ (v6 : Int), (2 : Int) ≤ v6 → v6 ≤ (9 : Int) ∨ v6 = (2 : Int) → (Int.NonNeg (1099511627778 : Int) ∧ Int.NonNeg (1099511627774 : Int) ∧ Int.NonNeg (1099511627785 : Int) ∧ (9 : Int) ≤ (1099511627776 : Int)) ∧ ∀ (v7 : Int), (2 : Int) ≤ v7 → v7 ≤ (9 : Int) ∨ v7 = (2 : Int) → (z4.length + [{ Rects := [{ Left := IntKind.i64.wrap ((10 : Int) * (↑z5.length : Int)), Low := (0 : Int), Right := IntKind.i64.wrap (IntKind.i64.wrap ((10 : Int) * (↑z5.length : Int)) + v6), High := v7 : api_Rect }] : api_Region }].length) * (24 : Nat) ≤ (140737488355328 : Nat) ∧ rec2 (IntKind.i64.wrap (z3 - (1 : Int))) (z4 ++ [{ Rects := [{ Left := IntKind.i64.wrap ((10 : Int) * (↑z5.length : Int)), Low := (0 : Int), Right := IntKind.i64.wrap (IntKind.i64.wrap ((10 : Int) * (↑z5.length : Int)) + v6), High := v7 : api_Rect }] : api_Region }]) (z5 ++ [IntKind.i64.wrap ((↑z5.length : Int) + (1 : Int))])) (IntKind.i64.wrap (m + (1 : Int)) ≤ (9223372036854775807 : Int) ∧ ∀ (v8 : Int), (0 : Int) ≤ v8 → v8 < IntKind.i64.wrap (m + (1 : Int)) ∨ v8 = (0 : Int) → LOOP [Ty.int IntKind.i64, (Ty.st Sn.api_Line).sl] (fun (rec9 : Int → List api_Line → Prop) (z10 : Int) (z11 : List api_Line) ↦ IFB (decide ((0 : Int) < z10)) (JOIN [(Ty.st Sn.api_Line).sl] (fun (y12 : List api_Line) ↦ rec9 (IntKind.i64.wrap (z10 - (1 : Int))) y12) fun (J13 : List api_Line → Prop) ↦ (↑z5.length : Int) ≤ (9223372036854775807 : Int) → (↑z5.length : Int) ≤ (9223372036854775807 : Int) ∧ ∀ (v14 : Int), (0 : Int) ≤ v14 → v14 < (↑z5.length : Int) ∨ v14 = (0 : Int) → (Int.NonNeg (8 : Int) ∧ Int.NonNeg (16375 : Int) ∧ Int.NonNeg (2 : Int) ∧ (2 : Int) ≤ (100 : Int)) ∧ ∀ (v15 : List api_Rect), (validP v15 ∧ (v15 = [] → False) ∧ ∀ (x y : Int), cov v15 x y = true → x < (9 : Int) ∧ y < (9 : Int)) → (↑v15.length : Int) ≤ (9223372036854775807 : Int) → LOOP [Ty.int IntKind.i64, (Ty.st Sn.api_Rect).sl] (fun (rec16 : Int → List api_Rect → Prop) (z17 : Int) (z18 : List api_Rect) ↦ IFB (decide (z17 < (↑v15.length : Int))) (((0 : Int) ≤ z17 ∧ z17 < (↑z18.length : Int)) ∧ ((0 : Int) ≤ z17 ∧ z17 < (↑z18.length : Int)) ∧ ((0 : Int) ≤ z17 ∧ z17 < (↑z18.length : Int)) ∧ ((0 : Int) ≤ z17 ∧ z17 < (↑(z18.set z17.toNat { Left := IntKind.i64.wrap ((ix z18 z17).1 + IntKind.i64.wrap ((10 : Int) * v14)), Low := (ix z18 z17).2, Right := (ix z18 z17).3, High := (ix z18 z17).4 : api_Rect }).length : Int)) ∧ rec16 (IntKind.i64.wrap (z17 + (1 : Int))) ((z18.set z17.toNat { Left := IntKind.i64.wrap ((ix z18 z17).1 + IntKind.i64.wrap ((10 : Int) * v14)), Low := (ix z18 z17).2, Right := (ix z18 z17).3, High := (ix z18 z17).4 : api_Rect }).set z17.toNat { Left := (ix (z18.set z17.toNat { Left := IntKind.i64.wrap ((ix z18 z17).1 + IntKind.i64.wrap ((10 : Int) * v14)), Low := (ix z18 z17).2, Right := (ix z18 z17).3, High := (ix z18 z17).4 : api_Rect }) z17).1, Low := (ix (z18.set z17.toNat { Left := IntKind.i64.wrap ((ix z18 z17).1 + IntKind.i64.wrap ((10 : Int) * v14)), Low := (ix z18 z17).2, Right := (ix z18 z17).3, High := (ix z18 z17).4 : api_Rect }) z17).2, Right := IntKind.i64.wrap ((ix z18 z17).3 + IntKind.i64.wrap ((10 : Int) * v14)), High := (ix (z18.set z17.toNat { Left := IntKind.i64.wrap ((ix z18 z17).1 + IntKind.i64.wrap ((10 : Int) * v14)), Low := (ix z18 z17).2, Right := (ix z18 z17).3, High := (ix z18 z17).4 : api_Rect }) z17).4 : api_Rect })) (((0 : Int) ≤ v14 ∧ v14 < (↑z4.length : Int)) ∧ (z18.length ≤ (1000 : Nat) ∧ (ix z4 v14).1.length ≤ (1000 : Nat)) ∧ ((↑z11.length : Int) ≤ (9223372036854775807 : Int) → LOOP [Ty.int IntKind.i64, (Ty.st Sn.api_Rect).sl] (fun (rec19 : Int → List api_Rect → Prop) (z20 : Int) (z21 : List api_Rect) ↦ IFB (decide (z20 < (↑z11.length : Int))) (((0 : Int) ≤ z20 ∧ z20 < (↑z11.length : Int)) ∧ (z21.length ≤ (1000 : Nat) ∧ (ix z11 z20).2.1.length ≤ (1000 : Nat)) ∧ rec19 (IntKind.i64.wrap (z20 + (1 : Int))) (canonF fun (x y : Int) ↦ howS (3 : Int) (cov z21 x y) (cov (ix z11 z20).2.1 x y))) ((↑z21.length : Int) ≤ (9223372036854775807 : Int) → IFB (decide ((0 : Int) < (↑z21.length : Int))) ((↑cs.length : Int) ≤ (9223372036854775807 : Int) → (↑cs.length : Int) ≤ (9223372036854775807 : Int) ∧ ∀ (v22 : Int), (0 : Int) ≤ v22 → v22 < (↑cs.length : Int) ∨ v22 = (0 : Int) → Int.NonNeg (9223372036854775792 : Int) ∧ ∀ (v23 : Int), (0 : Int) ≤ v23 → v23 < (15 : Int) ∨ v23 = (0 : Int) → (z11.length + [{ Parcel := IntKind.i64.wrap (v14 + (1 : Int)), Region := { Rects := z21 : api_Region }, Crop := v22, Schemes := IntKind.i64.wrap ((1 : Int) + v23) : api_Line }].length) * (48 : Nat) ≤ (140737488355328 : Nat) ∧ J13 (z11 ++ [{ Parcel := IntKind.i64.wrap (v14 + (1 : Int)), Region := { Rects := z21 : api_Region }, Crop := v22, Schemes := IntKind.i64.wrap ((1 : Int) + v23) : api_Line }])) (J13 z11))) ((0 : Int), canonF fun (x y : Int) ↦ howS (2 : Int) (cov z18 x y) (cov (ix z4 v14).1 x y), PUnit.unit)))) ((0 : Int), v15, PUnit.unit)) (post z11 z5 z4)) (v8, [], PUnit.unit))) (v1, [], [], PUnit.unit)
theorem klines_w (cs : List (api_Crop)) (m : Int) (post : dens (shT klines_sp.rs []) → Prop) : klines_W cs m (fun y0 y1 y2 => post (y0, y1, y2, ())) = walkG (callR Tryz.prog klines_C (drawR Tryz.prog tau) 8 0) 37 true [tv (.sl (.st .api_Crop)) cs, tv (.int .i64) m] klines_sp.rs post := by kernel_rfl
theorem klines_of (h : ∀ (cs : List (api_Crop)) (m : Int) (post : List (api_Line) → List (Int) → List (api_Region) → Prop), klines_P cs m post → klines_W cs m post) : SpecOK Tryz.prog klines_sp := SpecOK.of_rules (C := klines_C) (dr := drawR Tryz.prog tau) (n := 8) (fk := 0) (.cons (rule1_ok knext_ok) (.cons (rule1_ok krange_ok) (.cons (rule1_ok klandO_ok) (.cons (rule1_ok rcomb_ok) .nil)))) (drawR_ok tau) fun x post hp => HoldW.of (klines_w x.1 x.2.1 post) (h x.1 x.2.1 (fun y0 y1 y2 => post (y0, y1, y2, ())) hp)
theorem boxed_len {p : Int} {l : List Rc} (h : boxed p l) : l.length ≤ 81 := by
  have := canon_len h.1 (x0 := 10 * p) (x1 := 10 * p + 9) (y0 := 0) (y1 := 9) (by omega) (by omega) h.2
  have e : (9 - 0 : Int) * (10 * p + 9 - 10 * p) = 81 := by
    rw [show 10 * p + 9 - 10 * p = (9 : Int) by omega]; rfl
  rw [e] at this
  omega
theorem boxed_valid {p : Int} {l : List Rc} (h0 : 0 ≤ p) (h1 : p ≤ 2) (h : boxed p l) : validP l := by
  have hl := boxed_len h
  exact ⟨by omega, canon_proper h.1 (n := 29) (m := 9) (by omega) (by omega) (fun x y hxy => by have := h.2 x y hxy; omega), h.1⟩
theorem boxed_and {p : Int} {l : List Rc} {r : Rc} (h1 : r.Left = 10 * p) (h2 : r.Right ≤ 10 * p + 9) (h3 : 0 ≤ r.Low) (h4 : r.High ≤ 9) : boxed p (canonF (comb (howS 2) l [r])) := by
  obtain ⟨c1, c2⟩ := comb_ok (howS_0 2) l [r]
  refine ⟨c1, fun x y hxy => ?_⟩
  rw [c2] at hxy
  have : cov [r] x y = true := by
    unfold comb howS at hxy
    revert hxy
    cases cov l x y <;> cases cov [r] x y <;> simp
  obtain ⟨q, hq, q1, q2, q3, q4⟩ := cov_iff.1 this
  rw [List.mem_singleton] at hq
  subst hq
  omega
theorem boxed_not {p : Int} {l m : List Rc} (h : boxed p l) : boxed p (canonF (comb (howS 3) l m)) := by
  obtain ⟨c1, c2⟩ := comb_ok (howS_0 3) l m
  refine ⟨c1, fun x y hxy => h.2 x y ?_⟩
  rw [c2] at hxy
  unfold comb howS at hxy
  revert hxy
  cases cov l x y <;> simp
def regsOK (z4 : List api_Region) : Prop := ∀ j : Nat, j < z4.length → ∃ r : Rc, (ix z4 (j : Int)).1 = [r] ∧ r.Left = 10 * (j : Int) ∧ r.Right ≤ 10 * (j : Int) + 9 ∧ 0 ≤ r.Low ∧ r.High ≤ 9
def parI (v z3 : Int) (z4 : List api_Region) (z5 : List Int) : Prop := 0 ≤ z3 ∧ z3 + (z5.length : Int) = v ∧ z4.length = z5.length ∧ regsOK z4
def linI (m z : Int) (l : List api_Line) : Prop := 0 ≤ z ∧ z + (l.length : Int) ≤ m ∧ linesOK l
def shI (n : Nat) (z : Int) (l : List Rc) : Prop := ∃ k : Nat, z = (k : Int) ∧ k ≤ n ∧ l.length = n
def cutI (n : Nat) (p z : Int) (l : List Rc) : Prop := ∃ k : Nat, z = (k : Int) ∧ k ≤ n ∧ boxed p l
theorem regs_snoc {z4 : List api_Region} {r : Rc} (h : regsOK z4) (h1 : r.Left = 10 * (z4.length : Int)) (h2 : r.Right ≤ 10 * (z4.length : Int) + 9) (h3 : 0 ≤ r.Low) (h4 : r.High ≤ 9) : regsOK (z4 ++ [⟨[r]⟩]) := by
  intro j hj
  by_cases e : j < z4.length
  · obtain ⟨q, g⟩ := h j e
    refine ⟨q, ?_⟩
    have : ix (z4 ++ [⟨[r]⟩]) (j : Int) = ix z4 (j : Int) := by
      rw [ix_lt hj, ix_lt e]
      exact List.getElem_append_left e
    rw [this]; exact g
  · have hj' : j = z4.length := by simp at hj; omega
    subst hj'
    exact ⟨r, by rw [ix_app rfl], h1, h2, h3, h4⟩
theorem klines_ok : SpecOK Tryz.prog klines_sp := klines_of fun cs m post hp => by
  obtain ⟨⟨h1, h2, h3, h4⟩, hp⟩ := hp
  unfold klines_W
  refine ⟨⟨Int.NonNeg.mk _, Int.NonNeg.mk _, Int.NonNeg.mk _, by omega⟩, fun v1 a1 b1 => ?_⟩
  refine LOOP.fuel (fun u => parI v1 u.1 u.2.1 u.2.2.1) (fun u => Int.toNat u.1) ⟨by show 0 ≤ v1; omega, by show v1 + (([] : List Int).length : Int) = v1; simp only [List.length_nil]; omega, rfl, fun j hj => absurd hj (Nat.not_lt_zero j)⟩ ?_
  rintro rec ⟨(z3 : Int), (z4 : List api_Region), (z5 : List Int), ⟨⟩⟩ ⟨i1, i2, i3, i4⟩ hrec
  have i1 : 0 ≤ z3 := i1
  have i2 : z3 + (z5.length : Int) = v1 := i2
  have i3 : z4.length = z5.length := i3
  have i4 : regsOK z4 := i4
  refine IFB.mk (fun hb _ => ?_) (fun hb => ?_)
  · have hb : 0 < z3 := of_decide_eq_true hb
    refine ⟨by simp only [List.length_cons, List.length_nil]; omega, ⟨Int.NonNeg.mk _, Int.NonNeg.mk _, Int.NonNeg.mk _, by omega⟩, fun v6 a6 b6 => ⟨⟨Int.NonNeg.mk _, Int.NonNeg.mk _, Int.NonNeg.mk _, by omega⟩, fun v7 a7 b7 => ⟨by simp only [List.length_cons, List.length_nil]; omega, ?_⟩⟩⟩
    rw [wrap_in (z := z3 - 1) (by omega) (by omega), wrap_in (z := 10 * (z5.length : Int)) (by omega) (by omega), wrap_in (z := 10 * (z5.length : Int) + v6) (by omega) (by omega)]
    refine hrec (z3 - 1, _, _, ()) ⟨?_, ?_, ?_, ?_⟩ (by show (z3 - 1).toNat < z3.toNat; omega)
    · show 0 ≤ z3 - 1; omega
    · show z3 - 1 + (List.length (z5 ++ [_]) : Int) = v1
      simp only [List.length_append, List.length_cons, List.length_nil]; omega
    · show List.length (z4 ++ [_]) = List.length (z5 ++ [_])
      simp only [List.length_append, List.length_cons, List.length_nil]; omega
    · refine regs_snoc i4 ?_ ?_ ?_ ?_ <;> dsimp only <;> omega
  have hb : ¬ 0 < z3 := of_decide_eq_false hb
  have hz5 : (z5.length : Int) = v1 := by omega
  have w1 : IntKind.i64.wrap (m + 1) = m + 1 := wrap_in (by omega) (by omega)
  rw [w1]
  refine ⟨by omega, fun v8 a8 b8 => ?_⟩
  clear hrec
  refine LOOP.fuel (fun u => linI m u.1 u.2.1) (fun u => Int.toNat u.1) ⟨a8, by show v8 + (([] : List api_Line).length : Int) ≤ m; simp only [List.length_nil]; omega, fun x hx => (by cases hx)⟩ ?_
  rintro rec9 ⟨(z10 : Int), (z11 : List api_Line), ⟨⟩⟩ ⟨j1, j2, j3⟩ hrec9
  have j1 : 0 ≤ z10 := j1
  have j2 : z10 + (z11.length : Int) ≤ m := j2
  have j3 : linesOK z11 := j3
  refine IFB.mk (fun hb2 => ?_) (fun hb2 => hp _ _ _ ⟨j3, by omega⟩)
  have hb2 : 0 < z10 := of_decide_eq_true hb2
  refine JOIN.opq fun (J : List api_Line → Prop) hJ => ?_
  have hJ : ∀ l, linI m (z10 - 1) l → J l := fun l hl => by
    rw [hJ]
    show rec9 (IntKind.i64.wrap (z10 - 1)) l
    rw [wrap_in (by omega) (by omega)]
    exact hrec9 (z10 - 1, l, ()) hl (by show (z10 - 1).toNat < z10.toNat; omega)
  clear hrec9
  refine fun _ => ⟨by omega, fun v14 a14 b14 => ⟨⟨Int.NonNeg.mk _, Int.NonNeg.mk _, Int.NonNeg.mk _, by omega⟩, fun v15 h15 _ => ?_⟩⟩
  obtain ⟨p, rfl⟩ : ∃ p : Nat, v14 = (p : Int) := ⟨v14.toNat, by omega⟩
  have hp4 : p < z4.length := by omega
  have h15l := h15.1.1
  refine LOOP.fuel (fun u => shI v15.length u.1 u.2.1) (fun u => v15.length - Int.toNat u.1) ⟨0, rfl, Nat.zero_le _, rfl⟩ ?_
  rintro rec16 ⟨(z17 : Int), (z18 : List Rc), ⟨⟩⟩ ⟨k, s1, s2, s3⟩ hrec16
  have s1 : z17 = (k : Int) := s1
  subst s1
  have s3 : z18.length = v15.length := s3
  refine IFB.mk (fun hb3 => ?_) (fun hb3 => ?_)
  · have hb3 : (k : Int) < v15.length := of_decide_eq_true hb3
    refine ⟨by omega, by omega, by omega, by rw [List.length_set]; omega, ?_⟩
    rw [wrapS (by omega)]
    refine hrec16 (((k + 1 : Nat) : Int), _, ()) ⟨k + 1, rfl, by omega, ?_⟩ (by show v15.length - ((k + 1 : Nat) : Int).toNat < v15.length - (k : Int).toNat; omega)
    exact (List.length_set ..).trans ((List.length_set ..).trans s3)
  clear hrec16
  obtain ⟨r, e1, e2, e3, e4, e5⟩ := i4 p hp4
  rw [e1]
  have hbx := boxed_and (p := p) (l := z18) e2 e3 e4 e5
  refine ⟨by omega, ⟨by omega, by simp⟩, fun _ => ?_⟩
  refine LOOP.fuel (fun u => cutI z11.length p u.1 u.2.1) (fun u => z11.length - Int.toNat u.1) ⟨0, rfl, Nat.zero_le _, hbx⟩ ?_
  rintro rec19 ⟨(z20 : Int), (z21 : List Rc), ⟨⟩⟩ ⟨q, t1, t2, t3⟩ hrec19
  have t1 : z20 = (q : Int) := t1
  subst t1
  have t3 : boxed p z21 := t3
  have hl21 := boxed_len t3
  refine IFB.mk (fun hb4 => ?_) (fun hb4 => ?_)
  · have hb4 : (q : Int) < z11.length := of_decide_eq_true hb4
    obtain ⟨p', _, _, hbp⟩ := j3 _ (ix_mem (l := z11) (i := (q : Int)) (by omega) hb4)
    have hl2 := boxed_len hbp
    refine ⟨by show 0 ≤ (q : Int) ∧ (q : Int) < z11.length; omega, ⟨by show z21.length ≤ 1000; omega, Nat.le_trans hl2 (by omega)⟩, ?_⟩
    rw [wrapS (by omega)]
    exact hrec19 (((q + 1 : Nat) : Int), _, ()) ⟨q + 1, rfl, by omega, boxed_not t3⟩ (by show z11.length - ((q + 1 : Nat) : Int).toNat < z11.length - (q : Int).toNat; omega)
  · refine fun _ => IFB.mk (fun hb5 _ => ?_) (fun hb5 => hJ _ ⟨by omega, by omega, j3⟩)
    refine ⟨by omega, fun v22 a22 b22 => ⟨Int.NonNeg.mk _, fun v23 a23 b23 => ⟨by simp only [List.length_cons, List.length_nil]; omega, hJ _ ⟨by omega, by simp only [List.length_append, List.length_cons, List.length_nil]; omega, fun x hx => ?_⟩⟩⟩⟩
    rcases List.mem_append.1 hx with hx | hx
    · exact j3 x hx
    · rw [List.mem_singleton] at hx
      subst hx
      exact ⟨p, by omega, by omega, t3⟩

end RE
end Go.Proofs.YtblcakaohlgagaaGreat
set_option maxRecDepth 100000
set_option linter.unusedVariables false
namespace Go.Proofs.YtblcakaohlgagaaGreat
open Go.RowKit
namespace RE
open PL
def kcrops_P  (post : List (api_Crop) → Prop) : Prop := ∀ l : List api_Crop, (3 ≤ l.length ∧ l.length ≤ 8) → post l
def kcrops_sp : Spec := ⟨12, true, true, [], .dat (.sl (.st .api_Crop)), fun x post => kcrops_P  (fun y0 => post (y0, ()))⟩
def kcrops_C : CtxR := ⟨tau, [rule1 knext_sp, rule1 krange_sp], lookJ [(0, 9, ⟨[(13, .dat (.int .i64)), (4, .own 81 (.st .api_Crop))], [], [14, 15, 16, 6, 17, 18, 19, 20, 21, 22, 23, 24, 25, 26, 27, 28, 29], [], []⟩)]⟩
def kcrops_W  (post : List (api_Crop) → Prop) : Prop := (Int.NonNeg (1099511627779 : Int) ∧ Int.NonNeg (1099511627773 : Int) ∧ Int.NonNeg (1099511627784 : Int) ∧ (8 : Int) ≤ (1099511627776 : Int)) ∧ ∀ (v1 : Int), (3 : Int) ≤ v1 → v1 ≤ (8 : Int) ∨ v1 = (3 : Int) → (Int.NonNeg (0 : Int) ∧ (0 : Int) ≤ v1 ∧ v1 ≤ (8 : Int)) ∧ ((0 : Int) ≤ (0 : Int) ∧ (0 : Int) ≤ v1 → LOOP [Ty.int IntKind.i64, (Ty.st Sn.api_Crop).sl] (fun (rec2 : Int → List api_Crop → Prop) (z3 : Int) (z4 : List api_Crop) ↦ IFB (decide (z3 < v1 - (0 : Int))) ((((0 : Int) ≤ z3 ∧ z3 < v1 - (0 : Int)) ∧ (0 : Int) ≤ (0 : Int) + z3 ∧ (0 : Int) + z3 < (8 : Int)) ∧ Int.NonNeg (9223372036854775804 : Int) ∧ ∀ (v5 : Int), (0 : Int) ≤ v5 → v5 < (3 : Int) ∨ v5 = (0 : Int) → Int.NonNeg (9223372036854775799 : Int) ∧ ∀ (v6 : Int), (0 : Int) ≤ v6 → v6 < (8 : Int) ∨ v6 = (0 : Int) → ((0 : Int) ≤ v6 ∧ v6 < (8 : Int)) ∧ (z4.length + [{ Name := ix [{ data := { toList := [(98 : UInt8), (97 : UInt8), (114 : UInt8), (108 : UInt8), (101 : UInt8), (121 : UInt8)] : Array UInt8 } : ByteArray }, { data := { toList := [(99 : UInt8), (108 : UInt8), (111 : UInt8), (118 : UInt8), (101 : UInt8), (114 : UInt8)] : Array UInt8 } : ByteArray }, { data := { toList := [(103 : UInt8), (114 : UInt8), (97 : UInt8), (115 : UInt8), (115 : UInt8)] : Array UInt8 } : ByteArray }, { data := { toList := [(109 : UInt8), (97 : UInt8), (105 : UInt8), (122 : UInt8), (101 : UInt8)] : Array UInt8 } : ByteArray }, { data := { toList := [(111 : UInt8), (97 : UInt8), (116 : UInt8), (115 : UInt8)] : Array UInt8 } : ByteArray }, { data := { toList := [(114 : UInt8), (121 : UInt8), (101 : UInt8)] : Array UInt8 } : ByteArray }, { data := { toList := [(118 : UInt8), (101 : UInt8), (116 : UInt8), (99 : UInt8), (104 : UInt8)] : Array UInt8 } : ByteArray }, { data := { toList := [(119 : UInt8), (104 : UInt8), (101 : UInt8), (97 : UInt8), (116 : UInt8)] : Array UInt8 } : ByteArray }] ((0 : Int) + z3), Family := v5, Marks := ix [(0 : Int), (0 : Int), (0 : Int), (2 : Int), (20 : Int), (8 : Int), (1 : Int), (31 : Int)] v6 : api_Crop }].length) * (32 : Nat) ≤ (140737488355328 : Nat) ∧ rec2 (IntKind.i64.wrap (z3 + (1 : Int))) (z4 ++ [{ Name := ix [{ data := { toList := [(98 : UInt8), (97 : UInt8), (114 : UInt8), (108 : UInt8), (101 : UInt8), (121 : UInt8)] : Array UInt8 } : ByteArray }, { data := { toList := [(99 : UInt8), (108 : UInt8), (111 : UInt8), (118 : UInt8), (101 : UInt8), (114 : UInt8)] : Array UInt8 } : ByteArray }, { data := { toList := [(103 : UInt8), (114 : UInt8), (97 : UInt8), (115 : UInt8), (115 : UInt8)] : Array UInt8 } : ByteArray }, { data := { toList := [(109 : UInt8), (97 : UInt8), (105 : UInt8), (122 : UInt8), (101 : UInt8)] : Array UInt8 } : ByteArray }, { data := { toList := [(111 : UInt8), (97 : UInt8), (116 : UInt8), (115 : UInt8)] : Array UInt8 } : ByteArray }, { data := { toList := [(114 : UInt8), (121 : UInt8), (101 : UInt8)] : Array UInt8 } : ByteArray }, { data := { toList := [(118 : UInt8), (101 : UInt8), (116 : UInt8), (99 : UInt8), (104 : UInt8)] : Array UInt8 } : ByteArray }, { data := { toList := [(119 : UInt8), (104 : UInt8), (101 : UInt8), (97 : UInt8), (116 : UInt8)] : Array UInt8 } : ByteArray }] ((0 : Int) + z3), Family := v5, Marks := ix [(0 : Int), (0 : Int), (0 : Int), (2 : Int), (20 : Int), (8 : Int), (1 : Int), (31 : Int)] v6 : api_Crop }])) (post z4)) ((0 : Int), [], PUnit.unit))
theorem kcrops_w  (post : dens (shT kcrops_sp.rs []) → Prop) : kcrops_W  (fun y0 => post (y0, ())) = walkG (callR Tryz.prog kcrops_C (drawR Tryz.prog tau) 8 0) 12 true [] kcrops_sp.rs post := by kernel_rfl
theorem kcrops_of (h : ∀  (post : List (api_Crop) → Prop), kcrops_P  post → kcrops_W  post) : SpecOK Tryz.prog kcrops_sp := SpecOK.of_rules (C := kcrops_C) (dr := drawR Tryz.prog tau) (n := 8) (fk := 0) (.cons (rule1_ok knext_ok) (.cons (rule1_ok krange_ok) .nil)) (drawR_ok tau) fun x post hp => HoldW.of (kcrops_w  post) (h  (fun y0 => post (y0, ())) hp)
def crI (v z : Int) (l : List api_Crop) : Prop := ∃ k : Nat, z = (k : Int) ∧ (k : Int) ≤ v ∧ l.length = k
theorem kcrops_ok : SpecOK Tryz.prog kcrops_sp := kcrops_of fun post hp => by
  unfold kcrops_P at hp
  unfold kcrops_W
  refine ⟨⟨Int.NonNeg.mk _, Int.NonNeg.mk _, Int.NonNeg.mk _, by omega⟩, fun v1 a1 b1 => ⟨⟨Int.NonNeg.mk _, by omega, by omega⟩, fun _ => ?_⟩⟩
  refine LOOP.fuel (fun u => crI v1 u.1 u.2.1) (fun u => v1.toNat - Int.toNat u.1) ⟨0, rfl, by omega, rfl⟩ ?_
  rintro rec ⟨(z : Int), (l : List api_Crop), ⟨⟩⟩ ⟨k, i1, i2, i3⟩ hrec
  have i1 : z = (k : Int) := i1
  subst i1
  have i3 : l.length = k := i3
  refine IFB.mk (fun hb => ?_) (fun hb => ?_)
  · have hb : (k : Int) < v1 - 0 := of_decide_eq_true hb
    refine ⟨⟨⟨by omega, hb⟩, by omega, by omega⟩, Int.NonNeg.mk _, fun v5 a5 b5 => ⟨Int.NonNeg.mk _, fun v6 a6 b6 => ⟨by omega, by simp only [List.length_cons, List.length_nil]; omega, ?_⟩⟩⟩
    rw [wrapS (by omega)]
    refine hrec (((k + 1 : Nat) : Int), _, ()) ⟨k + 1, rfl, by omega, ?_⟩ (by show v1.toNat - ((k + 1 : Nat) : Int).toNat < v1.toNat - (k : Int).toNat; omega)
    show List.length (l ++ [_]) = k + 1
    rw [List.length_append]
    simp only [List.length_cons, List.length_nil]
    omega
  · have hb : ¬ (k : Int) < v1 - 0 := of_decide_eq_false hb
    refine hp l ⟨by omega, by omega⟩

end RE
end Go.Proofs.YtblcakaohlgagaaGreat
