/-
  Chapter 41: the walk of clearance.concerning.
-/
import Derived.Test.YtmmekdkllccmdaaClrB
import Derived.Test.YtmmekdkllccmdaaCalLawsE
import Derived.Lib.SmallJoins
namespace Go.Proofs.Ytmmekdkllccmdaa
open Go.RowKit Go.Sort
set_option linter.unusedVariables false
namespace Clr
open Cal (ret_bool ret_int int_eq)
theorem infoF : (Try.prog.info? 32).map (fun i => (i.zero, i.size, i.bytes)) = some (some (.agg #[.int .i64 0, .int .i64 0, .int .i64 0, .int .i64 0, .int .i64 0]), 5, 40) := by kernel_rfl
theorem five_new (w : World) (x : Fd) (t : TypeId) : ∀ j u, x.vs[j]? = some u → (w.alloc (.cells #[.int .i64 x.n, .int .i64 x.s, .int .i64 x.f, .int .i64 x.u, .int .i64 x.m] t)).cell? ((⟨w.heap.size, 0, none⟩ : Addr).add j) = some u := by
  intro j u hj
  have h := box5 (w := w) (x := x) (t := t)
  match j, hj with
  | 0, hj => simp [Fd.vs] at hj; subst hj; exact h.1
  | 1, hj => simp [Fd.vs] at hj; subst hj; exact h.2.1
  | 2, hj => simp [Fd.vs] at hj; subst hj; exact h.2.2.1
  | 3, hj => simp [Fd.vs] at hj; subst hj; exact h.2.2.2.1
  | 4, hj => simp [Fd.vs] at hj; subst hj; exact h.2.2.2.2
  | j + 5, hj => simp [Fd.vs] at hj
def con (s : Sp) (x : Fd) : Bool := decide (x.f ≤ s.y) && decide (s.y ≤ x.u) && (bits BinOp.and IntKind.i64 (x.s / 2 ^ s.s.toNat) 1 == 1)

set_option maxRecDepth 100000 in
set_option maxHeartbeats 8000000 in
theorem concerning_ok (fs : List Fd) (s : Sp) (ad : Option Addr) (cap : Nat) (w : World) (hs : s.ok) (hf : ∀ x ∈ fs, x.ok) (lf : fs.length ≤ 20) (rf : FRow w ad fs) :
    Calls Try.prog 69 #[.slice ad fs.length cap, .agg #[.int .i64 s.y, .int .i64 s.s, .int .i64 s.a]] w fun e w' => ∃ v, e = .returned v ∧ w'.ownsRow w.heap.size 32 5 v (fs.filter (con s)).length ((fs.filter (con s)).flatMap Fd.vs) ∧ Below w.heap.size w w' := by
  obtain ⟨i0, hi, hz0, hz1, hz2⟩ := info_parts infoF
  have hf' := Lib.hid hf
  have hs' := Lib.hid hs
  obtain ⟨q1, q2, q3, q4, q5, q6⟩ := hs
  have rf' := Lib.hid rf
  obtain ⟨n, hn⟩ : ∃ n, fs.length = n := ⟨_, rfl⟩
  have hn' := Lib.hid hn
  rw [hn] at lf ⊢
  obtain ⟨r, hr⟩ : ∃ r, fs.filter (con s) = r := ⟨_, rfl⟩
  rw [hr]
  have hr' := Lib.hid hr
  obtain ⟨sy, ss, sa⟩ := s
  simp only at q1 q2 q3 q4 q5 q6
  have hbox := Lib.hid (box3 (w := w) (x := ⟨sy, ss, sa⟩) (t := 36))
  have hb0 := Lib.hid ((Below.refl w.heap.size w).alloc (Nat.le_refl _) (.cells #[.int .i64 sy, .int .i64 ss, .int .i64 sa] 36))
  clear hf hn hr rf
  go_enter Try.func69, Try.ntmps69
  go_wp2_with fail
  obtain ⟨W0, hW0⟩ : ∃ W, W = w.alloc (.cells #[.int .i64 sy, .int .i64 ss, .int .i64 sa] 36) := ⟨_, rfl⟩
  have hbox2 := hbox.out
  have hb2 := hb0.out
  have hsz : w.heap.size < W0.heap.size := by rw [hW0]; simp
  rw [← hW0] at hbox2 hb2 ⊢
  have hbox' := Lib.hid hbox2
  have hb0' := Lib.hid hb2
  clear hW0 hbox hb0 hbox2 hb2
  go_loopw [5, 10] (fun v x wr => ∃ k : Nat, k ≤ n ∧ x = .int .i64 k ∧ wr.ownsRow W0.heap.size 32 5 v ((fs.take k).filter (con ⟨sy, ss, sa⟩)).length (((fs.take k).filter (con ⟨sy, ss, sa⟩)).flatMap Fd.vs) ∧ Below W0.heap.size W0 wr) (fun _ x _ => n - (intOf x).toNat)
  case atStart => exact ⟨0, by omega, rfl, World.ownsRow_nil _ _ _ _, Below.refl _ _⟩
  case round =>
    obtain ⟨k, hk, rfl, hown, hB⟩ := hrel
    by_cases hlt : k < n
    · have hkl : k < fs.length := by have := hn'.out; omega
      obtain ⟨x, hx⟩ : ∃ x, fs[k]? = some x := ⟨_, List.getElem?_eq_getElem hkl⟩
      have hxo := hf'.out x (List.mem_of_getElem? hx)
      obtain ⟨b, off, rfl, hbl, hcells⟩ : ∃ b off, ad = some ⟨b, off, none⟩ ∧ b < w.heap.size ∧ ∀ j x, fs[j]? = some x → FAt w b (off + j * 5) x := by
        rcases rf'.out with h | h
        · rw [h] at hx; simp at hx
        · exact h
      have hat := ((hcells k x hx).later hb0'.out).later hB
      have hsat := SAt.later hbox'.out hB
      have htk : (fs.take (k + 1)).filter (con ⟨sy, ss, sa⟩) = (fs.take k).filter (con ⟨sy, ss, sa⟩) ++ (if con ⟨sy, ss, sa⟩ x then [x] else []) := by
        rw [List.take_succ_eq_append_getElem hkl, List.filter_append]
        rw [List.getElem?_eq_getElem hkl] at hx
        injection hx with hx
        rw [hx]
        cases hc : con ⟨sy, ss, sa⟩ x <;> simp [hc]
      obtain ⟨xn, xs, xf, xu, xm⟩ := x
      obtain ⟨a0, a1, a2, a3, a4⟩ := hat
      obtain ⟨s0, s1, s2⟩ := hsat
      obtain ⟨x1, x2, x3, x4, x5, x6, x7, x8, x9⟩ := hxo
      simp only at a0 a1 a2 a3 a4 s0 s1 s2 x1 x2 x3 x4 x5 x6 x7 x8 x9
      have htk' := Lib.hid htk
      have hB' := Lib.hid hB
      have hc := Lib.hid (show con ⟨sy, ss, sa⟩ ⟨xn, xs, xf, xu, xm⟩ = (decide (xf ≤ sy) && decide (sy ≤ xu) && (bits BinOp.and IntKind.i64 (xs / 2 ^ ss.toNat) 1 == 1)) from rfl)
      clear hcells hx hB hkl htk
      go_upto_region 5 with fail
      obtain ⟨W1, hW1⟩ : ∃ W1, W1 = wr.alloc (.cells #[.int .i64 xn, .int .i64 xs, .int .i64 xf, .int .i64 xu, .int .i64 xm] 32) := ⟨_, rfl⟩
      have hb1 : Below wr.heap.size wr W1 := by rw [hW1]; exact (Below.refl _ _).alloc (Nat.le_refl _) _
      have hown1 := World.ownsRow.alloc hown (.cells #[.int .i64 xn, .int .i64 xs, .int .i64 xf, .int .i64 xu, .int .i64 xm] 32)
      rw [← hW1] at hown1
      obtain ⟨c0, c1, c2, c3, c4⟩ := box5 (w := wr) (x := ⟨xn, xs, xf, xu, xm⟩) (t := 32)
      simp only at c0 c1 c2 c3 c4
      rw [← hW1] at c0 c1 c2 c3 c4 ⊢
      replace s0 := Cal.cell_later s0 hb1
      replace s1 := Cal.cell_later s1 hb1
      replace s2 := Cal.cell_later s2 hb1
      obtain ⟨bx, hbx⟩ : ∃ b, wr.heap.size = b := ⟨_, rfl⟩
      rw [hbx] at c0 c1 c2 c3 c4 ⊢
      have hB2 := Lib.hid (hB'.out.trans (hb1.mono hB'.out.size))
      have hpos := hB2.out.size
      have hlen : ((fs.take k).filter (con ⟨sy, ss, sa⟩)).length ≤ 20 := by
        have h1 := List.length_filter_le (con ⟨sy, ss, sa⟩) (fs.take k)
        rw [List.length_take] at h1
        omega
      clear hW1 hbx a0 a1 a2 a3 a4 hb1 hown hB'
      go_wp2_with (first | (at_builtin; refine wpList_append_own _ rfl _ _ 23 rfl W0.heap.size 32 i0 (.agg #[.int .i64 0, .int .i64 0, .int .i64 0, .int .i64 0, .int .i64 0]) 5 40 Try.underlying23 hi hz0 hz1 hz2 rfl (by decide) _ _ _ rfl (hown1.alloc _) ⟨W1.heap.size, 0, none⟩ 1 1 (Fd.vs ⟨xn, xs, xf, xu, xm⟩) rfl rfl (five_new _ ⟨xn, xs, xf, xu, xm⟩ _) (by simp [Fd.vs, Value.oneCell']) (by unfold maxLen; omega) (by omega) (by simp; omega) ?_; intro v' w1 hown' hgrow _) | go_in)
      · have h1 : xf ≤ sy := by assumption
        have h2 : sy ≤ xu := by assumption
        have h3 : (bits BinOp.and IntKind.i64 (xs / 2 ^ ss.toNat) 1 == 1) = true := by assumption
        have hcon : con ⟨sy, ss, sa⟩ ⟨xn, xs, xf, xu, xm⟩ = true := by rw [hc.out, decide_eq_true h1, decide_eq_true h2, h3]; rfl
        have hown2 : w1.ownsRow W0.heap.size 32 5 v' ((fs.take (k + 1)).filter (con ⟨sy, ss, sa⟩)).length (((fs.take (k + 1)).filter (con ⟨sy, ss, sa⟩)).flatMap Fd.vs) := by
          rw [htk'.out, hcon, if_pos rfl, List.length_append, List.flatMap_append]
          simpa using hown'
        have hB3 := (hB2.out.alloc hB2.out.size _).grown hgrow (by simp; omega) (fun q hq => (World.ownsRow.lt hown1 q hq).1)
        clear hown' hgrow hown1 h1 h2 h3 hcon
        exact ⟨⟨k + 1, by omega, by go_num, hown2, hB3⟩, by simp [intOf]; omega⟩
      · have h3 : (bits BinOp.and IntKind.i64 (xs / 2 ^ ss.toNat) 1 == 1) = false := by assumption
        have hcon : con ⟨sy, ss, sa⟩ ⟨xn, xs, xf, xu, xm⟩ = false := by rw [hc.out, h3, Bool.and_false]
        refine ⟨⟨k + 1, by omega, by go_num, ?_, hB2.out⟩, by simp [intOf]; omega⟩
        rw [htk'.out, hcon, if_neg (by decide), List.append_nil]
        exact hown1
      · have h3 : ¬ sy ≤ xu := by assumption
        have hcon : con ⟨sy, ss, sa⟩ ⟨xn, xs, xf, xu, xm⟩ = false := by rw [hc.out, decide_eq_false h3, Bool.and_false, Bool.false_and]
        refine ⟨⟨k + 1, by omega, by go_num, ?_, hB2.out⟩, by simp [intOf]; omega⟩
        rw [htk'.out, hcon, if_neg (by decide), List.append_nil]
        exact hown1
      · have h3 : ¬ xf ≤ sy := by assumption
        have hcon : con ⟨sy, ss, sa⟩ ⟨xn, xs, xf, xu, xm⟩ = false := by rw [hc.out, decide_eq_false h3, Bool.false_and, Bool.false_and]
        refine ⟨⟨k + 1, by omega, by go_num, ?_, hB2.out⟩, by simp [intOf]; omega⟩
        rw [htk'.out, hcon, if_neg (by decide), List.append_nil]
        exact hown1
    · have hkn : k = fs.length := by have := hn'.out; omega
      have hfin : (fs.take k).filter (con ⟨sy, ss, sa⟩) = r := by rw [hkn, List.take_length]; exact hr'.out
      rw [hfin] at hown
      have hown2 := Lib.hid (Go.Joins.ownsRow_le hown hb0'.out.size)
      have hB2 := Lib.hid (hb0'.out.trans (hB.mono hb0'.out.size))
      clear hfin hown hB hkn
      go_wp2
      go_ret
      exact ⟨_, rfl, hown2.out, hB2.out⟩
end Clr
end Go.Proofs.Ytmmekdkllccmdaa
