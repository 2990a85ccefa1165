/-
  Chapter 41: rows of findings and of amounts; the walk of clearance.Check at valid ones.
-/
import Derived.Test.YtmmekdkllccmdaaClrA
namespace Go.Proofs.Ytmmekdkllccmdaa
open Go.RowKit Go.Sort
set_option linter.unusedVariables false
namespace Clr
open Cal (ret_bool ret_int int_eq)
def FAt (w : World) (b o : Nat) (x : Fd) : Prop :=
  w.cell? ⟨b, o, none⟩ = some (.int .i64 x.n) ∧ w.cell? ⟨b, o + 1, none⟩ = some (.int .i64 x.s) ∧ w.cell? ⟨b, o + 2, none⟩ = some (.int .i64 x.f) ∧ w.cell? ⟨b, o + 3, none⟩ = some (.int .i64 x.u) ∧ w.cell? ⟨b, o + 4, none⟩ = some (.int .i64 x.m)
def SAt (w : World) (b o : Nat) (x : Sp) : Prop :=
  w.cell? ⟨b, o, none⟩ = some (.int .i64 x.y) ∧ w.cell? ⟨b, o + 1, none⟩ = some (.int .i64 x.s) ∧ w.cell? ⟨b, o + 2, none⟩ = some (.int .i64 x.a)
def FRow (w : World) (ad : Option Addr) (fs : List Fd) : Prop := fs = [] ∨ ∃ b off, ad = some ⟨b, off, none⟩ ∧ b < w.heap.size ∧ ∀ j x, fs[j]? = some x → FAt w b (off + j * 5) x
def SRow (w : World) (ad : Option Addr) (ss : List Sp) : Prop := ss = [] ∨ ∃ b off, ad = some ⟨b, off, none⟩ ∧ b < w.heap.size ∧ ∀ j x, ss[j]? = some x → SAt w b (off + j * 3) x
theorem FAt.later {w w' : World} {b o : Nat} {x : Fd} (h : FAt w b o x) (hb : Below w.heap.size w w') : FAt w' b o x :=
  ⟨Cal.cell_later h.1 hb, Cal.cell_later h.2.1 hb, Cal.cell_later h.2.2.1 hb, Cal.cell_later h.2.2.2.1 hb, Cal.cell_later h.2.2.2.2 hb⟩
theorem SAt.later {w w' : World} {b o : Nat} {x : Sp} (h : SAt w b o x) (hb : Below w.heap.size w w') : SAt w' b o x :=
  ⟨Cal.cell_later h.1 hb, Cal.cell_later h.2.1 hb, Cal.cell_later h.2.2 hb⟩
theorem FRow.later {w w' : World} {ad : Option Addr} {fs : List Fd} (h : FRow w ad fs) (hb : Below w.heap.size w w') : FRow w' ad fs := by
  rcases h with h | ⟨b, off, e, hl, hc⟩
  · exact .inl h
  · exact .inr ⟨b, off, e, Nat.lt_of_lt_of_le hl hb.size, fun j x hx => (hc j x hx).later hb⟩
theorem SRow.later {w w' : World} {ad : Option Addr} {ss : List Sp} (h : SRow w ad ss) (hb : Below w.heap.size w w') : SRow w' ad ss := by
  rcases h with h | ⟨b, off, e, hl, hc⟩
  · exact .inl h
  · exact .inr ⟨b, off, e, Nat.lt_of_lt_of_le hl hb.size, fun j x hx => (hc j x hx).later hb⟩
def FOk (fs : List Fd) : Prop := (∀ x ∈ fs, x.ok) ∧ ∀ j x y, fs[j]? = some x → fs[j + 1]? = some y → x.n < y.n
def SOk (ss : List Sp) : Prop := (∀ x ∈ ss, x.ok) ∧ ∀ j x y, ss[j]? = some x → ss[j + 1]? = some y → x.y < y.y ∨ (x.y = y.y ∧ x.s < y.s)
theorem box5 {w : World} {x : Fd} {t : TypeId} : FAt (w.alloc (.cells #[.int .i64 x.n, .int .i64 x.s, .int .i64 x.f, .int .i64 x.u, .int .i64 x.m] t)) w.heap.size 0 x := by
  have h := heap_alloc_new w (.cells #[.int .i64 x.n, .int .i64 x.s, .int .i64 x.f, .int .i64 x.u, .int .i64 x.m] t)
  refine ⟨?_, ?_, ?_, ?_, ?_⟩ <;> (rw [cell_of_row _ _ _ _ _ _ h]; rfl)
theorem box3 {w : World} {x : Sp} {t : TypeId} : SAt (w.alloc (.cells #[.int .i64 x.y, .int .i64 x.s, .int .i64 x.a] t)) w.heap.size 0 x := by
  have h := heap_alloc_new w (.cells #[.int .i64 x.y, .int .i64 x.s, .int .i64 x.a] t)
  refine ⟨?_, ?_, ?_⟩ <;> (rw [cell_of_row _ _ _ _ _ _ h]; rfl)

theorem aft_pos {x p : Sp} (h : p.y < x.y ∨ (p.y = x.y ∧ p.s < x.s)) : aft x p = 1 := by
  unfold aft cmpI
  rcases h with h | ⟨h, h2⟩
  · rw [if_neg (show ¬ x.y < p.y by omega), if_pos h, if_neg (by decide)]
  · rw [if_neg (show ¬ x.y < p.y by omega), if_neg (show ¬ p.y < x.y by omega), if_pos rfl, if_neg (by omega), if_pos h2]
theorem after_at {x p : Sp} {A : Int} (h : aft x p = A) (w : World) :
    Calls Try.prog 78 #[.agg #[.int .i64 x.y, .int .i64 x.s, .int .i64 x.a], .agg #[.int .i64 p.y, .int .i64 p.s, .int .i64 p.a]] w fun e w' => e = .returned (.int .i64 A) ∧ Below w.heap.size w w' := by
  subst h; exact after_any x p w

set_option maxRecDepth 100000 in
set_option maxHeartbeats 8000000 in
theorem check_ok (fs : List Fd) (ss : List Sp) (ad ad2 : Option Addr) (cap cap2 : Nat) (w : World) (hf : FOk fs) (hs : SOk ss) (lf : fs.length ≤ 20) (ls : ss.length ≤ 64) (rf : FRow w ad fs) (rs : SRow w ad2 ss) :
    Calls Try.prog 22 #[.slice ad fs.length cap, .slice ad2 ss.length cap2] w fun e w' => e = .returned (.int .i64 0) ∧ Below w.heap.size w w' := by
  have hf' := Lib.hid hf
  have hs' := Lib.hid hs
  have rf' := Lib.hid rf
  have rs' := Lib.hid rs
  obtain ⟨n, hn⟩ : ∃ n, fs.length = n := ⟨_, rfl⟩
  obtain ⟨n2, hn2⟩ : ∃ n, ss.length = n := ⟨_, rfl⟩
  rw [hn] at lf ⊢
  rw [hn2] at ls ⊢
  have hn' := Lib.hid hn
  have hn2' := Lib.hid hn2
  clear hf hs rf rs hn hn2
  go_enter Try.func22, Try.ntmps22
  go_wp2_with fail
  go_loopw [14] (fun x wr => ∃ k : Nat, k ≤ n ∧ x = .int .i64 k ∧ Below w.heap.size w wr) (fun x _ => n - (intOf x).toNat)
  case atStart => exact ⟨0, by omega, rfl, Below.refl _ _⟩
  case round =>
    obtain ⟨k, hk, rfl, hB⟩ := hrel
    by_cases hlt : k < n
    · have hkl : k < fs.length := by have := hn'.out; omega
      obtain ⟨x, hx⟩ : ∃ x, fs[k]? = some x := ⟨_, List.getElem?_eq_getElem hkl⟩
      have hxo := Lib.hid (hf'.out.1 x (List.mem_of_getElem? hx))
      obtain ⟨b, off, rfl, hbl, hcells⟩ : ∃ b off, ad = some ⟨b, off, none⟩ ∧ b < w.heap.size ∧ ∀ j x, fs[j]? = some x → FAt w b (off + j * 5) x := by
        rcases rf'.out with h | h
        · rw [h] at hx; simp at hx
        · exact h
      have hcells' := Lib.hid hcells
      have hx' := Lib.hid hx
      have hat := (hcells k x hx).later hB
      have hprev : k = 0 ∨ ∃ m p, k = m + 1 ∧ FAt wr b (off + m * 5) p ∧ p.n < x.n := by
        cases k with
        | zero => exact .inl rfl
        | succ m =>
          obtain ⟨p, hp⟩ : ∃ p, fs[m]? = some p := ⟨_, List.getElem?_eq_getElem (by omega)⟩
          exact .inr ⟨m, p, rfl, (hcells m p hp).later hB, hf'.out.2 m p x hp hx⟩
      obtain ⟨xn, xs, xf, xu, xm⟩ := x
      obtain ⟨a0, a1, a2, a3, a4⟩ := hat
      simp only at a0 a1 a2 a3 a4
      have hB' := Lib.hid hB
      have hprev' := Lib.hid hprev
      clear hcells hx hB hprev hkl
      go_upto_region 6 with fail
      obtain ⟨W1, hW1⟩ : ∃ W1, W1 = wr.alloc (.cells #[.int .i64 xn, .int .i64 xs, .int .i64 xf, .int .i64 xu, .int .i64 xm] 32) := ⟨_, rfl⟩
      have hb1 := Lib.hid (show Below wr.heap.size wr W1 by rw [hW1]; exact (Below.refl _ _).alloc (Nat.le_refl _) _)
      obtain ⟨c0, c1, c2, c3, c4⟩ := box5 (w := wr) (x := ⟨xn, xs, xf, xu, xm⟩) (t := 32)
      simp only at c0 c1 c2 c3 c4
      rw [← hW1] at c0 c1 c2 c3 c4 ⊢
      obtain ⟨bx, hbx⟩ : ∃ b, wr.heap.size = b := ⟨_, rfl⟩
      rw [hbx] at c0 c1 c2 c3 c4 ⊢
      clear hW1 hbx a0 a1 a2 a3 a4
      have k0 := cell_regrown c0
      have k1 := cell_regrown c1
      have k2 := cell_regrown c2
      have k3 := cell_regrown c3
      have k4 := cell_regrown c4
      have cR : ∀ dr os, Calls Try.prog 76 #[.agg #[.int .i64 xn, .int .i64 xs, .int .i64 xf, .int .i64 xu, .int .i64 xm]] (grow (redrawn W1 dr) os) fun e w'' => e = .returned (.bool true) ∧ ∃ p : Regrown, w'' = grow (redrawn W1 p.d) p.os := fun _ os => Calls.regrown_of (right_ok ⟨xn, xs, xf, xu, xm⟩ hxo.out _)
      clear c0 c1 c2 c3 c4
      rcases hprev'.out with rfl | ⟨m, ⟨pn, ps, pf, pu, pm⟩, rfl, ⟨p0, _, _, _, _⟩, hlt2⟩
      · refine wp_region_quiet_below (by kernel_rfl) (by kernel_rfl) ?_
        repeat ((with_reducible refine wpQuiet_step ?_); (with_reducible intro K hK); go_simp; first | (refine hK _ ?_; clear hK K) | (apply Exists.intro; refine ⟨fun _ => ?_, hK _ ?_⟩; (first | with_reducible exact cR _ _); clear hK K))
        refine wpQuiet_nil ?_
        intro W2 hw'
        obtain ⟨⟨dq, osq⟩, hw''⟩ := hw'
        have hb2 := Lib.hid (show Below w.heap.size w W2 from hB'.out.trans ((hb1.out.trans ((show Below W1.heap.size W1 W2 by rw [hw'']; exact below_regrown W1 dq osq).mono hb1.out.size)).mono hB'.out.size))
        clear hw'' k0 k1 k2 k3 k4 cR
        go_wp2
        go_roundw
        case rel => exact ⟨0 + 1, by omega, by go_num, hb2.out⟩
        case measure => simp [intOf]; omega
      · have k5 := cell_regrown (Cal.cell_later p0 hb1.out)
        simp only at k5 hlt2
        have hwm : IntKind.i64.wrap (m : Int) = (m : Int) := IntWalk.i64_in _ (by omega)
        have hm1 : m < n := by omega
        have hm2 : (m : Int) < (n : Nat) := by omega
        have hm3 : ¬ (m : Int) < 0 := by omega
        refine wp_region_quiet_below (by kernel_rfl) (by kernel_rfl) ?_
        repeat ((with_reducible refine wpQuiet_step ?_); (with_reducible intro K hK); go_simp; first | (refine hK _ ?_; clear hK K) | (apply Exists.intro; refine ⟨fun _ => ?_, hK _ ?_⟩; (first | with_reducible exact cR _ _); clear hK K))
        refine wpQuiet_nil ?_
        intro W2 hw'
        obtain ⟨⟨dq, osq⟩, hw''⟩ := hw'
        have hb2 := Lib.hid (show Below w.heap.size w W2 from hB'.out.trans ((hb1.out.trans ((show Below W1.heap.size W1 W2 by rw [hw'']; exact below_regrown W1 dq osq).mono hb1.out.size)).mono hB'.out.size))
        clear hw'' k0 k1 k2 k3 k4 cR k5 hwm
        go_wp2
        go_roundw
        case rel => exact ⟨m + 1 + 1, by omega, by go_num, hb2.out⟩
        case measure => simp [intOf]; omega
    · have hkn : k = n := by omega
      subst hkn
      have hB' := Lib.hid hB
      clear hB
      go_wp2_with fail
      go_loopw [43] (fun x wr => ∃ k : Nat, k ≤ n2 ∧ x = .int .i64 k ∧ Below w.heap.size w wr) (fun x _ => n2 - (intOf x).toNat)
      case atStart => exact ⟨0, by omega, rfl, hB'.out⟩
      case round =>
        obtain ⟨k, hk2, rfl, hB⟩ := hrel
        by_cases hlt : k < n2
        · have hkl : k < ss.length := by have := hn2'.out; omega
          obtain ⟨x, hx⟩ : ∃ x, ss[k]? = some x := ⟨_, List.getElem?_eq_getElem hkl⟩
          have hxo := Lib.hid (hs'.out.1 x (List.mem_of_getElem? hx))
          obtain ⟨b, off, rfl, hbl, hcells⟩ : ∃ b off, ad2 = some ⟨b, off, none⟩ ∧ b < w.heap.size ∧ ∀ j x, ss[j]? = some x → SAt w b (off + j * 3) x := by
            rcases rs'.out with h | h
            · rw [h] at hx; simp at hx
            · exact h
          have hat := (hcells k x hx).later hB
          have hprev : k = 0 ∨ ∃ m p, k = m + 1 ∧ SAt wr b (off + m * 3) p ∧ aft x p = 1 := by
            cases k with
            | zero => exact .inl rfl
            | succ m =>
              obtain ⟨p, hp⟩ : ∃ p, ss[m]? = some p := ⟨_, List.getElem?_eq_getElem (by omega)⟩
              exact .inr ⟨m, p, rfl, (hcells m p hp).later hB, aft_pos (hs'.out.2 m p x hp hx)⟩
          obtain ⟨xy, xs, xa⟩ := x
          obtain ⟨a0, a1, a2⟩ := hat
          simp only at a0 a1 a2
          have hB' := Lib.hid hB
          have hprev' := Lib.hid hprev
          clear hcells hx hB hprev hkl
          go_upto_region 14 with fail
          obtain ⟨W1, hW1⟩ : ∃ W1, W1 = wr.alloc (.cells #[.int .i64 xy, .int .i64 xs, .int .i64 xa] 36) := ⟨_, rfl⟩
          have hb1 := Lib.hid (show Below wr.heap.size wr W1 by rw [hW1]; exact (Below.refl _ _).alloc (Nat.le_refl _) _)
          obtain ⟨c0, c1, c2⟩ := box3 (w := wr) (x := ⟨xy, xs, xa⟩) (t := 36)
          simp only at c0 c1 c2
          rw [← hW1] at c0 c1 c2 ⊢
          obtain ⟨bx, hbx⟩ : ∃ b, wr.heap.size = b := ⟨_, rfl⟩
          rw [hbx] at c0 c1 c2 ⊢
          clear hW1 hbx a0 a1 a2
          have k0 := cell_regrown c0
          have k1 := cell_regrown c1
          have k2 := cell_regrown c2
          have cR : ∀ dr os, Calls Try.prog 77 #[.agg #[.int .i64 xy, .int .i64 xs, .int .i64 xa]] (grow (redrawn W1 dr) os) fun e w'' => e = .returned (.bool true) ∧ ∃ p : Regrown, w'' = grow (redrawn W1 p.d) p.os := fun _ os => Calls.regrown_of (fact_ok ⟨xy, xs, xa⟩ hxo.out _)
          clear c0 c1 c2
          rcases hprev'.out with rfl | ⟨m, ⟨py, ps, pa⟩, rfl, ⟨p0, p1, p2⟩, hA⟩
          · refine wp_region_quiet_below (by kernel_rfl) (by kernel_rfl) ?_
            repeat ((with_reducible refine wpQuiet_step ?_); (with_reducible intro K hK); go_simp; first | (refine hK _ ?_; clear hK K) | (apply Exists.intro; refine ⟨fun _ => ?_, hK _ ?_⟩; (first | with_reducible exact cR _ _); clear hK K))
            refine wpQuiet_nil ?_
            intro W2 hw'
            obtain ⟨⟨dq, osq⟩, hw''⟩ := hw'
            have hb2 := Lib.hid (show Below w.heap.size w W2 from hB'.out.trans ((hb1.out.trans ((show Below W1.heap.size W1 W2 by rw [hw'']; exact below_regrown W1 dq osq).mono hb1.out.size)).mono hB'.out.size))
            clear hw'' k0 k1 k2 cR
            go_wp2
            go_roundw
            case rel => exact ⟨0 + 1, by omega, by go_num, hb2.out⟩
            case measure => simp [intOf]; omega
          · have k5 := cell_regrown (Cal.cell_later p0 hb1.out)
            have k6 := cell_regrown (Cal.cell_later p1 hb1.out)
            have k7 := cell_regrown (Cal.cell_later p2 hb1.out)
            simp only at k5 k6 k7
            have hwm : IntKind.i64.wrap (m : Int) = (m : Int) := IntWalk.i64_in _ (by omega)
            have hm1 : m < n2 := by omega
            have hm2 : (m : Int) < (n2 : Nat) := by omega
            have hm3 : ¬ (m : Int) < 0 := by omega
            have cF : ∀ dr os, Calls Try.prog 78 #[.agg #[.int .i64 xy, .int .i64 xs, .int .i64 xa], .agg #[.int .i64 py, .int .i64 ps, .int .i64 pa]] (grow (redrawn W1 dr) os) fun e w'' => e = .returned (.int .i64 1) ∧ ∃ p : Regrown, w'' = grow (redrawn W1 p.d) p.os := fun _ os => Calls.regrown_of (after_at (x := ⟨xy, xs, xa⟩) (p := ⟨py, ps, pa⟩) hA _)
            clear hA p0 p1 p2
            refine wp_region_quiet_below (by kernel_rfl) (by kernel_rfl) ?_
            repeat ((with_reducible refine wpQuiet_step ?_); (with_reducible intro K hK); go_simp; first | (refine hK _ ?_; clear hK K) | (apply Exists.intro; refine ⟨fun _ => ?_, hK _ ?_⟩; (first | with_reducible exact cR _ _ | with_reducible exact cF _ _); clear hK K))
            refine wpQuiet_nil ?_
            intro W2 hw'
            obtain ⟨⟨dq, osq⟩, hw''⟩ := hw'
            have hb2 := Lib.hid (show Below w.heap.size w W2 from hB'.out.trans ((hb1.out.trans ((show Below W1.heap.size W1 W2 by rw [hw'']; exact below_regrown W1 dq osq).mono hb1.out.size)).mono hB'.out.size))
            clear hw'' k0 k1 k2 cR k5 k6 k7 cF hwm
            go_wp2
            go_roundw
            case rel => exact ⟨m + 1 + 1, by omega, by go_num, hb2.out⟩
            case measure => simp [intOf]; omega
        · have hB9 := Lib.hid hB
          clear hB
          go_wp2
          go_ret
          exact ⟨rfl, hB9.out⟩
end Clr
end Go.Proofs.Ytmmekdkllccmdaa
