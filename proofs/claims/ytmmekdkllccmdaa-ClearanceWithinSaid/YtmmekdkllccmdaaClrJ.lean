/-
  Chapter 41: the walk of landaidsecond.Spent.
-/
import Derived.Test.YtmmekdkllccmdaaClrI
namespace Go.Proofs.Ytmmekdkllccmdaa
open Go.RowKit Go.Sort
set_option linter.unusedVariables false
namespace Clr
open Cal (ret_bool ret_int int_eq infoI)
theorem infoS : (Try.prog.info? 36).map (fun i => (i.zero, i.size, i.bytes)) = some (some (.agg #[.int .i64 0, .int .i64 0, .int .i64 0]), 3, 24) := by kernel_rfl
theorem three_new (w : World) (x : Sp) (t : TypeId) : ∀ j u, x.vs[j]? = some u → (w.alloc (.cells #[.int .i64 x.y, .int .i64 x.s, .int .i64 x.a] t)).cell? ((⟨w.heap.size, 0, none⟩ : Addr).add j) = some u := by
  intro j u hj
  have h := box3 (w := w) (x := x) (t := t)
  match j, hj with
  | 0, hj => simp [Sp.vs] at hj; subst hj; exact h.1
  | 1, hj => simp [Sp.vs] at hj; subst hj; exact h.2.1
  | 2, hj => simp [Sp.vs] at hj; subst hj; exact h.2.2
  | j + 3, hj => simp [Sp.vs] at hj
/-- What the tape gives for amounts: right ones, in their order, each with a key below this one. -/
def SGood (key : Nat) (ss : List Sp) : Prop := ss.length ≤ key ∧ SOk ss ∧ ∀ x ∈ ss, x.y * 4 + x.s < key ∧ 0 ≤ x.y ∧ 0 ≤ x.s ∧ x.s < 4 ∧ x.a ≤ 100000
theorem sgood_skip {key : Nat} {ss : List Sp} (h : SGood key ss) : SGood (key + 1) ss :=
  ⟨by have := h.1; omega, h.2.1, fun x hx => by have := h.2.2 x hx; omega⟩
theorem sgood_next {y s : Nat} {ss : List Sp} {a : Int} (h : SGood (y * 4 + s) ss) (hy : y < 6) (hs : s < 4) (ha : 0 ≤ a ∧ a ≤ 100000) : SGood (y * 4 + s + 1) (ss ++ [(⟨y, s, a⟩ : Sp)]) := by
  obtain ⟨h1, ⟨h2, h3⟩, h4⟩ := h
  refine ⟨by simp; omega, ⟨fun x hx => ?_, fun j p q hp hq => ?_⟩, fun x hx => ?_⟩
  · rcases List.mem_append.1 hx with hx | hx
    · exact h2 x hx
    · simp at hx; subst hx; unfold Sp.ok; simp only; omega
  · by_cases hj : j + 1 < ss.length
    · rw [List.getElem?_append_left (by omega)] at hp hq
      exact h3 j p q hp hq
    · by_cases hj2 : j + 1 = ss.length
      · rw [List.getElem?_append_left (by omega)] at hp
        rw [List.getElem?_append_right (by omega), hj2, Nat.sub_self] at hq
        simp at hq; subst hq
        have := h4 p (List.mem_of_getElem? hp)
        simp only; omega
      · rw [List.getElem?_append_right (by omega)] at hq
        have : j + 1 - ss.length = (j - ss.length) + 1 := by omega
        rw [this] at hq; simp at hq
  · rcases List.mem_append.1 hx with hx | hx
    · have := h4 x hx; omega
    · simp at hx; subst hx; simp only; omega

set_option maxRecDepth 100000 in
set_option maxHeartbeats 4000000 in
theorem spent_ok {B bt : Nat} {w0 : World} (w : World) (hT : Keep.Tp B bt w0 w) :
    Calls Try.prog 18 #[.pointer (some ⟨bt, 0, none⟩)] w fun e w' => ∃ v ss, e = .returned v ∧ SGood 24 ss ∧ w'.ownsRow w.heap.size 36 3 v ss.length (ss.flatMap Sp.vs) ∧ Keep.Tp B bt w0 w' ∧ w.grownBy w' (some bt) := by
  obtain ⟨i0, hi, hz0, hz1, hz2⟩ := info_parts infoS
  have hT0 := Lib.hid hT
  have hbt := hT.1.lt
  clear hT
  go_enter Try.func18, Try.ntmps18
  go_wp2_with fail
  go_loopw [3, 4] (fun v y wr => ∃ (k : Nat) (ss : List Sp), k ≤ 6 ∧ y = .int .i64 k ∧ SGood (k * 4) ss ∧ wr.ownsRow w.heap.size 36 3 v ss.length (ss.flatMap Sp.vs) ∧ Keep.Tp B bt w0 wr ∧ w.grownBy wr (some bt)) (fun _ y _ => 6 - (intOf y).toNat)
  case atStart => exact ⟨0, [], by omega, rfl, ⟨by simp, ⟨by simp, by simp⟩, by simp⟩, World.ownsRow_nil _ _ _ _, hT0.out, Keep.grownBy_refl _ _⟩
  case round =>
    obtain ⟨k, ss, hk, rfl, hS, hown, hT, hG⟩ := hrel
    have hS' := Lib.hid hS
    have hown' := Lib.hid hown
    have hT' := Lib.hid hT
    have hG' := Lib.hid hG
    clear hT hG hown hS
    by_cases hlt : k < 6
    · go_wp2_with fail
      rw [show decide ((k : Int) < 6) = true from decide_eq_true (by omega)]
      go_loopw [3, 5] (fun v s wr => ∃ (j : Nat) (ss : List Sp), j ≤ 4 ∧ s = .int .i64 j ∧ SGood (k * 4 + j) ss ∧ wr.ownsRow w.heap.size 36 3 v ss.length (ss.flatMap Sp.vs) ∧ Keep.Tp B bt w0 wr ∧ w.grownBy wr (some bt)) (fun _ s _ => 4 - (intOf s).toNat)
      case atStart => exact ⟨0, ss, by omega, rfl, hS'.out, hown'.out, hT'.out, hG'.out⟩
      case round =>
        obtain ⟨j, ss, hj, rfl, hS, hown, hT, hG⟩ := hrel
        have hS' := Lib.hid hS
        have hlen := hS.1
        have hown' := Lib.hid hown
        have hT' := Lib.hid hT
        have hG' := Lib.hid hG
        clear hT hG hown hS
        by_cases hjl : j < 4
        · go_wp2_with fail
          refine (one_tp 3 (by omega) (by omega) _ hT'.out).mono ?_
          rintro e w2 ⟨r, rfl, hT, hg⟩
          have hown2 := Lib.hid (own_tape hown'.out hbt hg)
          have hG2 := Lib.hid (Keep.grownBy_trans hG'.out hg)
          have hT2 := Lib.hid hT
          clear hT hg
          cases r
          · go_wp2
            go_roundw
            case rel => exact ⟨j + 1, ss, by omega, by go_num, sgood_skip hS'.out, hown2.out, hT2.out, hG2.out⟩
            case measure => simp [intOf]; omega
          · go_wp2_with fail
            refine (Keep.next_tp 2000 (by omega) _ hT2.out).mono ?_
            rintro e w3 ⟨p, rfl, p0, p1, hT, hg⟩
            have hown3 := Lib.hid (own_tape hown2.out hbt hg)
            have hG3 := Lib.hid (Keep.grownBy_trans hG2.out hg)
            have hT3 := Lib.hid hT
            clear hT hg
            go_wp2_with fail
            refine (Keep.next_tp 50 (by omega) _ hT3.out).mono ?_
            rintro e w4 ⟨q, rfl, q0, q1, hT, hg⟩
            have hown4 := own_tape hown3.out hbt hg
            have hG4 := Lib.hid (Keep.grownBy_trans hG3.out hg)
            have hT4 := Lib.hid hT
            have hP : 0 ≤ p * q ∧ p * q ≤ 100000 := by
              have h1 := Int.mul_nonneg p0 q0
              have h2 : p * q ≤ p * 50 := Int.mul_le_mul_of_nonneg_left (by omega) p0
              omega
            obtain ⟨P, hPe⟩ : ∃ P, p * q = P := ⟨_, rfl⟩
            rw [hPe] at hP
            have hnx := Lib.hid (sgood_next hS'.out hlt hjl hP)
            have hsz := hG4.out.size
            clear hT hg hown' hown2 hown3 hG' hG2 hG3 hT2 hT3 hT'
            go_wp2_with (first | (at_builtin; refine wpList_append_own _ rfl _ _ 24 rfl w.heap.size 36 i0 (.agg #[.int .i64 0, .int .i64 0, .int .i64 0]) 3 24 Try.underlying24 hi hz0 hz1 hz2 rfl (by decide) _ _ _ rfl (hown4.alloc _) ⟨w4.heap.size, 0, none⟩ 1 1 (Sp.vs ⟨k, j, P⟩) rfl rfl (three_new _ ⟨k, j, P⟩ _) (by simp [Sp.vs, Value.oneCell']) (by unfold maxLen; omega) (by omega) (by simp; omega) ?_; intro v' w7 hown7 hgrow _) | go_in)
            have hr6 : ∀ q, _ = some q → w.heap.size ≤ q := fun q hq => (World.ownsRow.lt hown4 q hq).1
            have hown8 : w7.ownsRow w.heap.size 36 3 v' (ss ++ [(⟨k, j, P⟩ : Sp)]).length ((ss ++ [(⟨k, j, P⟩ : Sp)]).flatMap Sp.vs) := by
              rw [List.length_append, List.flatMap_append]; simpa using hown7
            exact ⟨⟨j + 1, _, by omega, by go_num, hnx.out, hown8, tp_append hT4.out hbt hG4.out.size hgrow hr6, grown_append hG4.out hgrow hr6⟩, by simp [intOf]; omega⟩
        · have hj4 : j = 4 := by omega
          subst hj4
          go_wp2
          go_roundw
          case rel => exact ⟨k + 1, ss, by omega, by go_num, (show k * 4 + 4 = (k + 1) * 4 by omega) ▸ hS'.out, hown'.out, hT'.out, hG'.out⟩
          case measure => simp [intOf]; omega
    · have hk6 : k = 6 := by omega
      subst hk6
      go_wp2
      go_ret
      exact ⟨_, ss, rfl, hS'.out, hown'.out, hT'.out, hG'.out⟩
end Clr
end Go.Proofs.Ytmmekdkllccmdaa
