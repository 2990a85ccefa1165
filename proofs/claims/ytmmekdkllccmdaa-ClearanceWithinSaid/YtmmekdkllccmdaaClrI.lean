/-
  Chapter 41: the walks of Tape.One, landaidsecond.Findings, landaidsecond.Spent.
-/
import Derived.Test.YtmmekdkllccmdaaClrH
namespace Go.Proofs.Ytmmekdkllccmdaa
open Go.RowKit Go.Sort
set_option linter.unusedVariables false
namespace Clr
open Cal (ret_bool ret_int int_eq infoI)
theorem tape_base {w w' : World} {bt base : Nat} (h : Keep.TapeAt w bt) (hbt : bt < base) (hb : ∀ k, k < base → w'.heap[k]? = w.heap[k]?) : Keep.TapeAt w' bt := by
  obtain ⟨a, len, cap, at_, hx, h1, h2, h3⟩ := h
  refine ⟨a, len, cap, at_, by rw [hb bt hbt]; exact hx, h1, h2, fun hl => ?_⟩
  obtain ⟨bl, off, ha, hne, hc⟩ := h3 hl
  exact ⟨bl, off, ha, hne, fun i hi => by
    obtain ⟨z, hz⟩ := hc i hi
    exact ⟨z, (World.cell?_of_block (hb bl (by omega))).trans hz⟩⟩
/-- The tape behind an append to a slice of the law's own. -/
theorem tp_append {B bt base : Nat} {w0 w w' : World} {o : Obj} {row : Option Nat} (h : Keep.Tp B bt w0 w) (hbt : bt < base) (hsz : base ≤ w.heap.size) (hg : (w.alloc o).grownBy w' row) (hr : ∀ k, row = some k → base ≤ k) : Keep.Tp B bt w0 w' := by
  have hB : B ≤ bt := h.2.2
  refine ⟨tape_base h.1 hbt fun k hk => ?_, (h.2.1.alloc (by have := h.1.lt; omega) o).grown hg (by simp; omega) (fun k hk => by have := hr k hk; omega), hB⟩
  rw [hg.block k (by simp; omega) (fun e => by have := hr k e.symm; omega)]
  exact Below.heap_alloc w o k (by omega)
theorem grown_append {w w1 w2 : World} {r row : Option Nat} {o : Obj} (h : w.grownBy w1 r) (hg : (w1.alloc o).grownBy w2 row) (hr : ∀ k, row = some k → w.heap.size ≤ k) : w.grownBy w2 r := by
  have hs := h.size
  refine ⟨hg.os.trans h.os, hg.tape.trans h.tape, hg.output.trans h.output, Nat.le_trans hs (Nat.le_trans (by simp) hg.size), fun k hk hne => ?_⟩
  rw [hg.block k (by simp; omega) (fun e => by have := hr k e.symm; omega)]
  exact (Below.heap_alloc w1 o k (by omega)).trans (h.block k hk hne)
theorem own_tape {w w' : World} {base bt : Nat} {e : TypeId} {size n : Nat} {v : Value} {xs : List Value} (h : w.ownsRow base e size v n xs) (hbt : bt < base) (hg : w.grownBy w' (some bt)) : w'.ownsRow base e size v n xs :=
  h.kept hg (.inr fun hk => by have := (World.ownsRow.lt h bt hk).1; omega)

set_option maxHeartbeats 400000 in
theorem one_tp {B bt : Nat} {w0 : World} (n : Int) (h1 : 1 ≤ n) (h3 : n ≤ 1000000) (w : World) (h : Keep.Tp B bt w0 w) :
    Calls Try.prog 68 #[.pointer (some ⟨bt, 0, none⟩), .int .i64 n] w fun e w' => ∃ r : Bool, e = .returned (.bool r) ∧ Keep.Tp B bt w0 w' ∧ w.grownBy w' (some bt) := by
  have hn := Lib.hid (Keep.next_tp n (by omega) w h)
  clear h
  go_enter Try.func68, Try.ntmps68
  go_wp2_with fail
  refine hn.out.mono ?_
  rintro e w1 ⟨r, rfl, r0, r1, hT, hG⟩
  have hT' := Lib.hid hT
  have hG' := Lib.hid hG
  clear hT hG hn
  go_wp2
  all_goals
    go_ret
    exact ⟨_, rfl, hT'.out, hG'.out⟩
/-- What the tape gives for findings: right ones, their numbers rising, at most 3 a piece. -/
def FGood (k : Nat) (num : Int) (fs : List Fd) : Prop := fs.length = k ∧ FOk fs ∧ (∀ x ∈ fs, x.n ≤ num) ∧ num ≤ 3 * k ∧ 0 ≤ num
theorem fgood_next {k : Nat} {num d : Int} {fs : List Fd} {x : Fd} (h : FGood k num fs) (hk : k ≤ 5) (hd : 1 ≤ d ∧ d ≤ 3) (hn : x.n = num + d) (hs : 1 ≤ x.s ∧ x.s ≤ 15) (hf : 0 ≤ x.f ∧ x.f ≤ x.u ∧ x.u ≤ 100) (hm : 1 ≤ x.m ∧ x.m ≤ 1000) : FGood (k + 1) (num + d) (fs ++ [x]) := by
  obtain ⟨h1, ⟨h2, h3⟩, h4, h5, h6⟩ := h
  refine ⟨by simp [h1], ⟨fun y hy => ?_, fun j a b ha hb => ?_⟩, fun y hy => ?_, by omega, by omega⟩
  · rcases List.mem_append.1 hy with hy | hy
    · exact h2 y hy
    · simp at hy; subst hy; unfold Fd.ok; omega
  · by_cases hj : j + 1 < fs.length
    · rw [List.getElem?_append_left (by omega)] at ha hb
      exact h3 j a b ha hb
    · by_cases hj2 : j + 1 = fs.length
      · rw [List.getElem?_append_left (by omega)] at ha
        rw [List.getElem?_append_right (by omega), hj2, Nat.sub_self] at hb
        simp at hb; subst hb
        have := h4 a (List.mem_of_getElem? ha)
        omega
      · rw [List.getElem?_append_right (by omega)] at hb
        have : j + 1 - fs.length = (j - fs.length) + 1 := by omega
        rw [this] at hb; simp at hb
  · rcases List.mem_append.1 hy with hy | hy
    · have := h4 y hy; omega
    · simp at hy; subst hy; omega

set_option maxRecDepth 100000 in
set_option maxHeartbeats 4000000 in
theorem findings_ok {B bt : Nat} {w0 : World} (w : World) (hT : Keep.Tp B bt w0 w) :
    Calls Try.prog 17 #[.pointer (some ⟨bt, 0, none⟩)] w fun e w' => ∃ v num k fs, e = .returned v ∧ FGood k num fs ∧ k ≤ 4 ∧ w'.ownsRow w.heap.size 32 5 v fs.length (fs.flatMap Fd.vs) ∧ Keep.Tp B bt w0 w' ∧ w.grownBy w' (some bt) := by
  obtain ⟨i0, hi, hz0, hz1, hz2⟩ := info_parts infoF
  have hT0 := Lib.hid hT
  have hbt := hT.1.lt
  clear hT
  go_enter Try.func17, Try.ntmps17
  go_wp2_with fail
  refine (Keep.next_tp 5 (by omega) _ hT0.out).mono ?_
  rintro e w1 ⟨r, rfl, r0, r1, hT, hG⟩
  obtain ⟨c, rfl⟩ := Int.eq_ofNat_of_zero_le r0
  have hT1 := Lib.hid hT
  have hG1 := Lib.hid hG
  clear hT hG hT0 r0
  go_wp2_with fail
  go_loopw [3, 4, 5] (fun v num n wr => ∃ (k : Nat) (nm : Int) (fs : List Fd), k ≤ c ∧ n = .int .i64 ((c : Int) - k) ∧ num = .int .i64 nm ∧ FGood k nm fs ∧ wr.ownsRow w.heap.size 32 5 v fs.length (fs.flatMap Fd.vs) ∧ Keep.Tp B bt w0 wr ∧ w.grownBy wr (some bt)) (fun _ _ n _ => (intOf n).toNat)
  case atStart => exact ⟨0, 0, [], by omega, int_eq (by omega), rfl, ⟨rfl, ⟨by simp, by simp⟩, by simp, by omega, by omega⟩, World.ownsRow_nil _ _ _ _, hT1.out, hG1.out⟩
  case round =>
    obtain ⟨k, nm, fs, hk, rfl, rfl, hF, hown, hT, hG⟩ := hrel
    have hF' := Lib.hid hF
    obtain ⟨hl, _, _, hnm1, hnm0⟩ := hF
    have hown' := Lib.hid hown
    have hT' := Lib.hid hT
    have hG' := Lib.hid hG
    clear hT hG hown
    by_cases hlt : k < c
    · go_wp2_with fail
      refine (Keep.range_tp 1 3 (by omega) (by omega) (by omega) (by omega) _ hT'.out).mono ?_
      rintro e w2 ⟨d, rfl, d0, d1, hT, hg⟩
      have hown2 := Lib.hid (own_tape hown'.out hbt hg)
      have hG2 := Lib.hid (Keep.grownBy_trans hG'.out hg)
      have hT2 := Lib.hid hT
      clear hT hg
      go_wp2_with fail
      refine (Keep.next_tp 6 (by omega) _ hT2.out).mono ?_
      rintro e w3 ⟨fr, rfl, fr0, fr1, hT, hg⟩
      have hown3 := Lib.hid (own_tape hown2.out hbt hg)
      have hG3 := Lib.hid (Keep.grownBy_trans hG2.out hg)
      have hT3 := Lib.hid hT
      clear hT hg
      go_wp2_with fail
      refine (Keep.range_tp 1 15 (by omega) (by omega) (by omega) (by omega) _ hT3.out).mono ?_
      rintro e w4 ⟨sc, rfl, sc0, sc1, hT, hg⟩
      have hown4 := Lib.hid (own_tape hown3.out hbt hg)
      have hG4 := Lib.hid (Keep.grownBy_trans hG3.out hg)
      have hT4 := Lib.hid hT
      clear hT hg
      go_wp2_with fail
      refine (Keep.next_tp 4 (by omega) _ hT4.out).mono ?_
      rintro e w5 ⟨un, rfl, un0, un1, hT, hg⟩
      have hown5 := Lib.hid (own_tape hown4.out hbt hg)
      have hG5 := Lib.hid (Keep.grownBy_trans hG4.out hg)
      have hT5 := Lib.hid hT
      clear hT hg
      go_wp2_with fail
      refine (Keep.range_tp 1 1000 (by omega) (by omega) (by omega) (by omega) _ hT5.out).mono ?_
      rintro e w6 ⟨mi, rfl, mi0, mi1, hT, hg⟩
      have hown6 := own_tape hown5.out hbt hg
      have hG6 := Lib.hid (Keep.grownBy_trans hG5.out hg)
      have hT6 := Lib.hid hT
      have hnx := Lib.hid (fgood_next (d := d) (x := ⟨nm + d, sc, fr, fr + un, mi⟩) hF'.out (by omega) (by omega) rfl (by simp only; omega) (by simp only; omega) (by simp only; omega))
      have hsz := hG6.out.size
      clear hT hg hown' hown2 hown3 hown4 hown5 hG' hG2 hG3 hG4 hG5 hT2 hT3 hT4 hT5 hT'
      go_wp2_with (first | (at_builtin; refine wpList_append_own _ rfl _ _ 23 rfl w.heap.size 32 i0 (.agg #[.int .i64 0, .int .i64 0, .int .i64 0, .int .i64 0, .int .i64 0]) 5 40 Try.underlying23 hi hz0 hz1 hz2 rfl (by decide) _ _ _ rfl (hown6.alloc _) ⟨w6.heap.size, 0, none⟩ 1 1 (Fd.vs ⟨nm + d, sc, fr, fr + un, mi⟩) rfl rfl (five_new _ ⟨nm + d, sc, fr, fr + un, mi⟩ _) (by simp [Fd.vs, Value.oneCell']) (by unfold maxLen; omega) (by omega) (by simp; omega) ?_; intro v' w7 hown7 hgrow _) | go_in)
      have hr6 : ∀ q, _ = some q → w.heap.size ≤ q := fun q hq => (World.ownsRow.lt hown6 q hq).1
      have hown8 : w7.ownsRow w.heap.size 32 5 v' (fs ++ [(⟨nm + d, sc, fr, fr + un, mi⟩ : Fd)]).length ((fs ++ [(⟨nm + d, sc, fr, fr + un, mi⟩ : Fd)]).flatMap Fd.vs) := by
        rw [List.length_append, List.flatMap_append]; simpa using hown7
      exact ⟨⟨k + 1, nm + d, _, by omega, int_eq (by omega), rfl, hnx.out, hown8, tp_append hT6.out hbt hG6.out.size hgrow hr6, grown_append hG6.out hgrow hr6⟩, by simp [intOf]; omega⟩
    · have hkc : k = c := by omega
      have hkk := Lib.hid hkc
      clear hkc
      go_wp2_with fail
      go_ret
      exact ⟨_, nm, k, fs, rfl, hF'.out, by omega, hown'.out, hT'.out, hG'.out⟩
end Clr
end Go.Proofs.Ytmmekdkllccmdaa
