/-
  ClearanceWithin: the walk.
-/
import Derived.Test.YtmmekdkllccmdaaClrK
namespace Go.Proofs.Ytmmekdkllccmdaa
open Go.RowKit Go.Sort
set_option linter.unusedVariables false
namespace Clr
open Cal (ret_bool ret_int int_eq infoI)
theorem frow_own {W : World} {base : Nat} {t : TypeId} {v : Value} {fs : List Fd} (h : W.ownsRow base t 5 v fs.length (fs.flatMap Fd.vs)) : ∃ ad cap, v = .slice ad fs.length cap ∧ FRow W ad fs := by
  rcases Go.Joins.ownsRow_forms h with ⟨rfl, h0⟩ | ⟨g, cap, rfl⟩
  · exact ⟨none, 0, by rw [h0], .inl (List.eq_nil_of_length_eq_zero h0)⟩
  · obtain ⟨hH, hg, _⟩ := holds_own rfl h
    exact ⟨_, cap, rfl, frow_holds hH hg⟩
theorem flat3 : ∀ (ss : List Sp) (j i : Nat) (x : Sp), ss[j]? = some x → i < 3 → (ss.flatMap Sp.vs)[j * 3 + i]? = some (x.vs[i]!)
  | [], j, i, x, h, _ => by simp at h
  | y :: ss, 0, i, x, h, hi => by
    simp at h; subst h
    rw [List.flatMap_cons, List.getElem?_append_left (by simp [Sp.vs]; omega)]
    have : i = 0 ∨ i = 1 ∨ i = 2 := by omega
    rcases this with rfl | rfl | rfl <;> rfl
  | y :: ss, j + 1, i, x, h, hi => by
    rw [List.flatMap_cons, List.getElem?_append_right (by simp [Sp.vs]; omega)]
    have hl : y.vs.length = 3 := rfl
    rw [hl, show (j + 1) * 3 + i - 3 = j * 3 + i by omega]
    exact flat3 ss j i x (by simpa using h) hi
theorem srow_own {W : World} {base : Nat} {t : TypeId} {v : Value} {ss : List Sp} (h : W.ownsRow base t 3 v ss.length (ss.flatMap Sp.vs)) : ∃ ad cap, v = .slice ad ss.length cap ∧ SRow W ad ss := by
  rcases h.2 with ⟨rfl, h0⟩ | ⟨g, cap, cur, rfl, hb, hg, hle, _, hs, htake⟩
  · exact ⟨none, 0, by rw [h0], .inl (List.eq_nil_of_length_eq_zero h0)⟩
  · refine ⟨_, cap, rfl, .inr ⟨g, 0, rfl, (Array.getElem?_eq_some_iff.1 hg).1, fun j x hx => ?_⟩⟩
    have hj := (List.getElem?_eq_some_iff.1 hx).1
    have key : ∀ i, i < 3 → W.cell? ⟨g, 0 + j * 3 + i, none⟩ = some (x.vs[i]!) := by
      intro i hi
      rw [cell_of_row _ _ _ _ _ _ hg, Nat.zero_add]
      have := flat3 ss j i x hx hi
      rw [← htake, List.getElem?_take, if_pos (by omega)] at this
      simpa using this
    exact ⟨key 0 (by omega), key 1 (by omega), key 2 (by omega)⟩

set_option maxRecDepth 100000 in
set_option maxHeartbeats 8000000 in
theorem walk_within (ad : Option Addr) (len cap : Nat) (w : World) (ht : Keep.IntsAt w ad len cap) :
    Calls Try.prog 4 #[.slice ad len cap] w fun e w' => e = .returned (.bool true) ∧ Below w.heap.size w w' := by
  go_enter Try.func4, Try.ntmps4
  go_wp2_with fail
  refine (Keep.new_tp _ _ _ w w (Below.refl _ _) ht).mono ?_
  rintro e w1 ⟨bt, rfl, hT, hsz1, _⟩
  have hT1 := Lib.hid hT
  have hbt : bt < w1.heap.size := by omega
  clear ht hT
  go_wp2_with fail
  refine (findings_ok w1 hT1.out).mono ?_
  rintro e w2 ⟨v, num, kf, fs, rfl, hF, hk4, hown, hT, hg⟩
  have hbt2 : bt < w2.heap.size := by have := hg.size; omega
  have hT2 := Lib.hid hT
  have hown1 := Lib.hid hown
  have hF' := Lib.hid hF
  clear hT hown hg hF
  go_wp2_with fail
  refine (spent_ok w2 hT2.out).mono ?_
  rintro e w3 ⟨v2, ss, rfl, hS, hown, hT, hg⟩
  obtain ⟨adf, capf, rfl, hfr⟩ := frow_own (own_tape hown1.out hbt hg)
  obtain ⟨ads, caps, rfl, hsr⟩ := srow_own hown
  have hB3 := Lib.hid hT.2.1
  have hfr' := Lib.hid hfr
  have hsr' := Lib.hid hsr
  have hS' := Lib.hid hS
  have lf : fs.length < 20 := by have := hF'.out.1; omega
  have ls : ss.length ≤ 64 := by have := hS.1; omega
  have hcor := Lib.hid (corrections_ok fs ss adf ads capf caps w3 hF'.out.2.1 hS.2.1 lf ls hfr hsr)
  have hnam := Lib.hid (fun k s (hk : ss[k]? = some s) W (h1 : FRow W adf fs) (h2 : SRow W ads ss) => named_ok fs ss k s hk adf ads capf caps W hF'.out.2.1 hS.2.1 lf ls h1 h2)
  obtain ⟨n, hn⟩ : ∃ n, fs.length = n := ⟨_, rfl⟩
  obtain ⟨n2, hn2⟩ : ∃ n, ss.length = n := ⟨_, rfl⟩
  rw [hn] at lf hcor hnam ⊢
  rw [hn2] at ls hcor hnam ⊢
  have hn' := Lib.hid hn
  have hn2' := Lib.hid hn2
  clear hT hg hown hown1 hT1 hT2 hS hfr hsr hn hn2
  go_wp2_with fail
  refine hcor.out.mono ?_
  rintro e w4 ⟨vC, rfl, hownC, hb4⟩
  obtain ⟨adc, capc, rfl, hIC⟩ := Cal.ints_of_row (zs := ss.map (corr fs)) (by rw [List.length_map]; exact hn2'.out) hownC
  have hI4 := Lib.hid hIC
  have hfr4 := Lib.hid (hfr'.out.later hb4)
  have hsr4 := Lib.hid (hsr'.out.later hb4)
  have hB4 := Lib.hid (hB3.out.trans (hb4.mono hB3.out.size))
  clear hcor hownC hIC hb4 hB3 hfr' hsr'
  go_wp2_with fail
  go_loopw [36] (fun x wr => ∃ k : Nat, k ≤ n2 ∧ x = .int .i64 k ∧ Below w4.heap.size w4 wr) (fun x _ => n2 - (intOf x).toNat)
  case atStart => exact ⟨0, by omega, rfl, Below.refl _ _⟩
  case round =>
    obtain ⟨k, hk, rfl, hB⟩ := hrel
    by_cases hlt : k < n2
    · have hkl : k < ss.length := by have := hn2'.out; omega
      obtain ⟨s, hs⟩ : ∃ s, ss[k]? = some s := ⟨_, List.getElem?_eq_getElem hkl⟩
      have hfrk := Lib.hid (hfr4.out.later hB)
      have hsrk := Lib.hid (hsr4.out.later hB)
      have hIk := Lib.hid (Cal.ints_later hI4.out hB)
      have hBk := Lib.hid hB
      have hs' := Lib.hid hs
      have hso := hS'.out.2.1.1 s (List.mem_of_getElem? hs)
      clear hB hs
      go_wp2_with fail
      refine (hnam.out k s hs'.out _ hfrk.out hsrk.out).mono ?_
      rintro e w5 ⟨v3, rfl, hown3, hb5⟩
      obtain ⟨n4, hn4⟩ : ∃ m, (fs.filter (con s)).length = m := ⟨_, rfl⟩
      rw [hn4] at hown3
      obtain ⟨ad3, cap3, rfl, hI3⟩ := Cal.ints_of_row (zs := (fs.filter (con s)).map (·.n)) (by rw [List.length_map]; exact hn4) hown3
      have hI3' := Lib.hid hI3
      obtain ⟨bc, offc, rfl, cC⟩ : ∃ b off, adc = some ⟨b, off, none⟩ ∧ w5.cell? ⟨b, off + k, none⟩ = some (.int .i64 (corr fs s)) := by
        rcases Cal.ints_later hIk.out hb5 with h | ⟨b, off, e, _, hc⟩
        · have : ss = [] := by simpa using h
          rw [this] at hkl; simp at hkl
        · refine ⟨b, off, e, ?_⟩
          rw [hc k (by simpa using hkl), List.getElem?_map, hs'.out]; rfl
      obtain ⟨bs, offs, rfl, cA⟩ : ∃ b off, ads = some ⟨b, off, none⟩ ∧ w5.cell? ⟨b, off + k * 3 + 2, none⟩ = some (.int .i64 s.a) := by
        rcases hsrk.out.later hb5 with h | ⟨b, off, e, _, hc⟩
        · rw [h] at hkl; simp at hkl
        · exact ⟨b, off, e, (hc k s hs'.out).2.2⟩
      have hw1 := within_bd (fs := fs) (s := s) hF'.out.2.1.1 hso.2.2.2.2.1
      have hw2 : 0 < corr fs s → 0 < n4 := by
        intro h
        by_cases h0 : n4 = 0
        · rw [h0] at hn4
          rw [within_none (List.eq_nil_of_length_eq_zero hn4)] at h
          omega
        · omega
      obtain ⟨C, hC⟩ : ∃ C, corr fs s = C := ⟨_, rfl⟩
      rw [hC] at cC hw1 hw2
      obtain ⟨A, hA⟩ : ∃ A, s.a = A := ⟨_, rfl⟩
      rw [hA] at cA hw1
      have hCA := Lib.hid (And.intro hC hA)
      have hB5 := Lib.hid (hBk.out.trans (hb5.mono hBk.out.size))
      have hn4' := Lib.hid hn4
      clear hown3 hI3 hb5 hn4 hC hA hkl
      have hm2 : (k : Int) < (n2 : Nat) := by omega
      have hm3 : ¬ (k : Int) < 0 := by omega
      have hc1 : ¬ C < 0 := by omega
      have hc2 : ¬ A < C := by omega
      go_upto_region 10 with fail
      have kC := cell_regrown cC
      have kA := cell_regrown cA
      have hcase : ¬ 0 < C ∨ (0 < C ∧ 0 < n4) := by
        by_cases h : 0 < C
        · exact .inr ⟨h, hw2 h⟩
        · exact .inl h
      clear hw2
      rcases hcase with hc3 | ⟨hc3, hc4⟩
      · refine wp_region_quiet_below (by kernel_rfl) (by kernel_rfl) ?_
        repeat ((with_reducible refine wpQuiet_step ?_); (with_reducible intro K hK); go_simp; first | (refine hK _ ?_; clear hK K) | (apply Exists.intro; refine ⟨fun _ => ?_, hK _ ?_⟩; (fail); clear hK K))
        refine wpQuiet_nil ?_
        intro W6 hw'
        obtain ⟨⟨dq, osq⟩, hw''⟩ := hw'
        have hb6 : Below w5.heap.size w5 W6 := by rw [hw'']; exact below_regrown w5 dq osq
        have hB6 := Lib.hid (hB5.out.trans (hb6.mono hB5.out.size))
        have hfr6 := Lib.hid (hfr4.out.later hB6.out)
        have hI6 := Lib.hid (Cal.ints_later hI3'.out hb6)
        have cC6 := Lib.hid (Cal.cell_later cC hb6)
        have cA6 := Lib.hid (Cal.cell_later cA hb6)
        clear hw'' hb6 kC kA
        go_wp2_with fail
        go_loopw [81] (fun x wr => ∃ j : Nat, j ≤ n ∧ x = .int .i64 j ∧ Below W6.heap.size W6 wr) (fun x _ => n - (intOf x).toNat)
        case atStart => exact ⟨0, by omega, rfl, Below.refl _ _⟩
        case round =>
          obtain ⟨j, hj, rfl, hBj⟩ := hrel
          by_cases hjl : j < n
          · have hjl2 : j < fs.length := by have := hn'.out; omega
            obtain ⟨x, hx⟩ : ∃ x, fs[j]? = some x := ⟨_, List.getElem?_eq_getElem hjl2⟩
            have hxm := List.mem_of_getElem? hx
            obtain ⟨bf, offf, rfl, hcf⟩ : ∃ b off, adf = some ⟨b, off, none⟩ ∧ ∀ j x, fs[j]? = some x → FAt W6 b (off + j * 5) x := by
              rcases hfr6.out with h | ⟨b, off, e, _, hc⟩
              · rw [h] at hx; simp at hx
              · exact ⟨b, off, e, hc⟩
            have hat := (hcf j x hx).later hBj
            have hone := fun hc => within_one (s := s) hF'.out.2.1 hso.2.2.2.2.1 hxm hc
            rw [hCA.out.1, hCA.out.2] at hone
            obtain ⟨_, _, _, _, _, _, _, x8, x9⟩ := hF'.out.2.1.1 x hxm
            obtain ⟨xn, xs, xf, xu, xm⟩ := x
            obtain ⟨a0, a1, a2, a3, a4⟩ := hat
            simp only at a0 a1 a2 a3 a4 x8 x9 hone
            have hBj' := Lib.hid hBj
            have hA2 : A ≤ 68719476736 := hCA.out.2 ▸ hso.2.2.2.2.2
            have hP : 0 ≤ xm * A ∧ xm * A ≤ 68719476736000 := by
              have h1 := Int.mul_nonneg (show 0 ≤ xm by omega) (show 0 ≤ A by omega)
              have h2 : xm * A ≤ 1000 * A := Int.mul_le_mul_of_nonneg_right (by omega) (by omega)
              omega
            obtain ⟨Pr, hPr⟩ : ∃ P, xm * A = P := ⟨_, rfl⟩
            rw [hPr] at hP hone
            obtain ⟨Q, hQ⟩ : ∃ Q, Pr.tdiv 1000 = Q := ⟨_, rfl⟩
            have hQ2 : Pr / 1000 = Q := by rw [← hQ, Int.tdiv_eq_ediv_of_nonneg hP.1]
            rw [hQ2] at hone
            have hwp : IntKind.i64.wrap Pr = Pr := IntWalk.i64_in _ (by omega)
            have hwq : IntKind.i64.wrap Q = Q := IntWalk.i64_in _ (by omega)
            obtain ⟨W7, hW7⟩ : ∃ W, W = wr.alloc (.cells #[.int .i64 xn, .int .i64 xs, .int .i64 xf, .int .i64 xu, .int .i64 xm] 32) := ⟨_, rfl⟩
            have hb7 : Below wr.heap.size wr W7 := by rw [hW7]; exact (Below.refl _ _).alloc (Nat.le_refl _) _
            obtain ⟨d0, d1, d2, d3, d4⟩ := box5 (w := wr) (x := ⟨xn, xs, xf, xu, xm⟩) (t := 32)
            simp only at d0 d4
            have hW7' := Lib.hid hW7
            rw [← hW7] at d0 d4
            obtain ⟨bx, hbx⟩ : ∃ b, wr.heap.size = b := ⟨_, rfl⟩
            rw [hbx] at d0 d4
            have hbx' := Lib.hid hbx
            have cC7 := Lib.hid (Cal.cell_later (Cal.cell_later cC6.out hBj) hb7)
            have cA7 := Lib.hid (Cal.cell_later (Cal.cell_later cA6.out hBj) hb7)
            have hI7 := Lib.hid (Cal.ints_later (Cal.ints_later hI6.out hBj) hb7)
            have hB7 := Lib.hid (hBj.trans (hb7.mono hBj.size))
            have e0 := Lib.hid d0
            have e4 := Lib.hid d4
            obtain ⟨c, hc⟩ : ∃ c, ((fs.filter (con s)).map (·.n)).contains xn = c := ⟨_, rfl⟩
            rw [hc] at hone
            have hHas := Lib.hid (show ∀ dr os, Calls Try.prog 32 #[.slice ad3 n4 cap3, .int .i64 xn] (grow (redrawn W7 dr) os) fun e w'' => e = .returned (.bool c) ∧ ∃ p : Regrown, w'' = grow (redrawn W7 p.d) p.os from fun dr os => Calls.regrown_of (by
              have hl : ((fs.filter (con s)).map (·.n)).length = n4 := by rw [List.length_map]; exact hn4'.out
              have h := has24_any ((fs.filter (con s)).map (·.n)) ad3 cap3 xn (grow (redrawn W7 dr) os) (by have h1 := List.length_filter_le (con s) fs; have := hn'.out; rw [List.length_map]; omega) (Cal.ints_later hI7.out (below_regrown W7 dr os))
              rw [hl, hc] at h
              exact h.mono fun _ _ ⟨h1, h2⟩ => ⟨h1, h2 ▸ Below.refl _ _⟩))
            clear hx hBj hW7 hbx hQ2 hxm hjl2 hc hcf d0 d1 d2 d3 d4
            go_upto_region 15 with fail
            rw [← hW7'.out, hbx'.out]
            clear a0 a1 a2 a3 a4 hb7
            have k0 := cell_regrown e0.out
            have k4 := cell_regrown e4.out
            have kC := cell_regrown cC7.out
            have kA := cell_regrown cA7.out
            have cH := hHas.out
            have hcs : c = false ∨ (c = true ∧ xm = 1000) ∨ (c = true ∧ xm ≠ 1000) := by cases c <;> simp <;> omega
            have hend := Lib.hid (fun W8 (h : ∃ p : Regrown, W8 = grow (redrawn W7 p.d) p.os) => show Below W6.heap.size W6 W8 by
              obtain ⟨p, rfl⟩ := h
              exact hB7.out.trans ((below_regrown W7 p.d p.os).mono hB7.out.size))
            rcases hcs with rfl | ⟨rfl, hxm⟩ | ⟨rfl, hxm⟩
            · clear hone
              refine wp_region_quiet_below (by kernel_rfl) (by kernel_rfl) ?_
              repeat ((with_reducible refine wpQuiet_step ?_); (with_reducible intro K hK); go_simp; first | (refine hK _ ?_; clear hK K) | (apply Exists.intro; refine ⟨fun _ => ?_, hK _ ?_⟩; (first | with_reducible exact cH _ _); clear hK K))
              refine wpQuiet_nil ?_
              intro W8 hw'
              have hbe := Lib.hid (hend.out W8 hw')
              clear hw' k0 k4 kC kA cH
              go_wp2
              go_roundw
              case rel => exact ⟨j + 1, by omega, by go_num, hbe.out⟩
              case measure => simp [intOf]; omega
            · obtain ⟨o1, o2⟩ := hone rfl
              have o3 := o2 hxm
              have hq1 : (xm == 1000) = true := beq_iff_eq.2 hxm
              have hq2 : (C != A) = false := by simp [o3]
              have hq3 : ¬ C < Q := by omega
              clear hone o1 o2 o3 hxm
              refine wp_region_quiet_below (by kernel_rfl) (by kernel_rfl) ?_
              repeat ((with_reducible refine wpQuiet_step ?_); (with_reducible intro K hK); go_simp; first | (refine hK _ ?_; clear hK K) | (apply Exists.intro; refine ⟨fun _ => ?_, hK _ ?_⟩; (first | with_reducible exact cH _ _); clear hK K))
              refine wpQuiet_nil ?_
              intro W8 hw'
              have hbe := Lib.hid (hend.out W8 hw')
              clear hw' k0 k4 kC kA cH
              go_wp2
              go_roundw
              case rel => exact ⟨j + 1, by omega, by go_num, hbe.out⟩
              case measure => simp [intOf]; omega
            · obtain ⟨o1, o2⟩ := hone rfl
              have hq1 : (xm == 1000) = false := beq_eq_false_iff_ne.2 hxm
              have hq3 : ¬ C < Q := by omega
              clear hone o1 o2 hxm
              refine wp_region_quiet_below (by kernel_rfl) (by kernel_rfl) ?_
              repeat ((with_reducible refine wpQuiet_step ?_); (with_reducible intro K hK); go_simp; first | (refine hK _ ?_; clear hK K) | (apply Exists.intro; refine ⟨fun _ => ?_, hK _ ?_⟩; (first | with_reducible exact cH _ _); clear hK K))
              refine wpQuiet_nil ?_
              intro W8 hw'
              have hbe := Lib.hid (hend.out W8 hw')
              clear hw' k0 k4 kC kA cH
              go_wp2
              go_roundw
              case rel => exact ⟨j + 1, by omega, by go_num, hbe.out⟩
              case measure => simp [intOf]; omega
          · have hbe := Lib.hid (hB6.out.trans (hBj.mono hB6.out.size))
            clear hBj
            go_wp2
            go_roundw
            case rel => exact ⟨k + 1, by omega, by go_num, hbe.out⟩
            case measure => simp [intOf]; omega
      · have hc5 : ((n4 : Int) == 0) = false := beq_eq_false_iff_ne.2 (by omega)
        have hc6 : (n4 == 0) = false := beq_eq_false_iff_ne.2 (by omega)
        refine wp_region_quiet_below (by kernel_rfl) (by kernel_rfl) ?_
        repeat ((with_reducible refine wpQuiet_step ?_); (with_reducible intro K hK); go_simp; first | (refine hK _ ?_; clear hK K) | (apply Exists.intro; refine ⟨fun _ => ?_, hK _ ?_⟩; (fail); clear hK K))
        refine wpQuiet_nil ?_
        intro W6 hw'
        obtain ⟨⟨dq, osq⟩, hw''⟩ := hw'
        have hb6 : Below w5.heap.size w5 W6 := by rw [hw'']; exact below_regrown w5 dq osq
        have hB6 := Lib.hid (hB5.out.trans (hb6.mono hB5.out.size))
        have hfr6 := Lib.hid (hfr4.out.later hB6.out)
        have hI6 := Lib.hid (Cal.ints_later hI3'.out hb6)
        have cC6 := Lib.hid (Cal.cell_later cC hb6)
        have cA6 := Lib.hid (Cal.cell_later cA hb6)
        clear hw'' hb6 kC kA
        go_wp2_with fail
        go_loopw [81] (fun x wr => ∃ j : Nat, j ≤ n ∧ x = .int .i64 j ∧ Below W6.heap.size W6 wr) (fun x _ => n - (intOf x).toNat)
        case atStart => exact ⟨0, by omega, rfl, Below.refl _ _⟩
        case round =>
          obtain ⟨j, hj, rfl, hBj⟩ := hrel
          by_cases hjl : j < n
          · have hjl2 : j < fs.length := by have := hn'.out; omega
            obtain ⟨x, hx⟩ : ∃ x, fs[j]? = some x := ⟨_, List.getElem?_eq_getElem hjl2⟩
            have hxm := List.mem_of_getElem? hx
            obtain ⟨bf, offf, rfl, hcf⟩ : ∃ b off, adf = some ⟨b, off, none⟩ ∧ ∀ j x, fs[j]? = some x → FAt W6 b (off + j * 5) x := by
              rcases hfr6.out with h | ⟨b, off, e, _, hc⟩
              · rw [h] at hx; simp at hx
              · exact ⟨b, off, e, hc⟩
            have hat := (hcf j x hx).later hBj
            have hone := fun hc => within_one (s := s) hF'.out.2.1 hso.2.2.2.2.1 hxm hc
            rw [hCA.out.1, hCA.out.2] at hone
            obtain ⟨_, _, _, _, _, _, _, x8, x9⟩ := hF'.out.2.1.1 x hxm
            obtain ⟨xn, xs, xf, xu, xm⟩ := x
            obtain ⟨a0, a1, a2, a3, a4⟩ := hat
            simp only at a0 a1 a2 a3 a4 x8 x9 hone
            have hBj' := Lib.hid hBj
            have hA2 : A ≤ 68719476736 := hCA.out.2 ▸ hso.2.2.2.2.2
            have hP : 0 ≤ xm * A ∧ xm * A ≤ 68719476736000 := by
              have h1 := Int.mul_nonneg (show 0 ≤ xm by omega) (show 0 ≤ A by omega)
              have h2 : xm * A ≤ 1000 * A := Int.mul_le_mul_of_nonneg_right (by omega) (by omega)
              omega
            obtain ⟨Pr, hPr⟩ : ∃ P, xm * A = P := ⟨_, rfl⟩
            rw [hPr] at hP hone
            obtain ⟨Q, hQ⟩ : ∃ Q, Pr.tdiv 1000 = Q := ⟨_, rfl⟩
            have hQ2 : Pr / 1000 = Q := by rw [← hQ, Int.tdiv_eq_ediv_of_nonneg hP.1]
            rw [hQ2] at hone
            have hwp : IntKind.i64.wrap Pr = Pr := IntWalk.i64_in _ (by omega)
            have hwq : IntKind.i64.wrap Q = Q := IntWalk.i64_in _ (by omega)
            obtain ⟨W7, hW7⟩ : ∃ W, W = wr.alloc (.cells #[.int .i64 xn, .int .i64 xs, .int .i64 xf, .int .i64 xu, .int .i64 xm] 32) := ⟨_, rfl⟩
            have hb7 : Below wr.heap.size wr W7 := by rw [hW7]; exact (Below.refl _ _).alloc (Nat.le_refl _) _
            obtain ⟨d0, d1, d2, d3, d4⟩ := box5 (w := wr) (x := ⟨xn, xs, xf, xu, xm⟩) (t := 32)
            simp only at d0 d4
            have hW7' := Lib.hid hW7
            rw [← hW7] at d0 d4
            obtain ⟨bx, hbx⟩ : ∃ b, wr.heap.size = b := ⟨_, rfl⟩
            rw [hbx] at d0 d4
            have hbx' := Lib.hid hbx
            have cC7 := Lib.hid (Cal.cell_later (Cal.cell_later cC6.out hBj) hb7)
            have cA7 := Lib.hid (Cal.cell_later (Cal.cell_later cA6.out hBj) hb7)
            have hI7 := Lib.hid (Cal.ints_later (Cal.ints_later hI6.out hBj) hb7)
            have hB7 := Lib.hid (hBj.trans (hb7.mono hBj.size))
            have e0 := Lib.hid d0
            have e4 := Lib.hid d4
            obtain ⟨c, hc⟩ : ∃ c, ((fs.filter (con s)).map (·.n)).contains xn = c := ⟨_, rfl⟩
            rw [hc] at hone
            have hHas := Lib.hid (show ∀ dr os, Calls Try.prog 32 #[.slice ad3 n4 cap3, .int .i64 xn] (grow (redrawn W7 dr) os) fun e w'' => e = .returned (.bool c) ∧ ∃ p : Regrown, w'' = grow (redrawn W7 p.d) p.os from fun dr os => Calls.regrown_of (by
              have hl : ((fs.filter (con s)).map (·.n)).length = n4 := by rw [List.length_map]; exact hn4'.out
              have h := has24_any ((fs.filter (con s)).map (·.n)) ad3 cap3 xn (grow (redrawn W7 dr) os) (by have h1 := List.length_filter_le (con s) fs; have := hn'.out; rw [List.length_map]; omega) (Cal.ints_later hI7.out (below_regrown W7 dr os))
              rw [hl, hc] at h
              exact h.mono fun _ _ ⟨h1, h2⟩ => ⟨h1, h2 ▸ Below.refl _ _⟩))
            clear hx hBj hW7 hbx hQ2 hxm hjl2 hc hcf d0 d1 d2 d3 d4
            go_upto_region 15 with fail
            rw [← hW7'.out, hbx'.out]
            clear a0 a1 a2 a3 a4 hb7
            have k0 := cell_regrown e0.out
            have k4 := cell_regrown e4.out
            have kC := cell_regrown cC7.out
            have kA := cell_regrown cA7.out
            have cH := hHas.out
            have hcs : c = false ∨ (c = true ∧ xm = 1000) ∨ (c = true ∧ xm ≠ 1000) := by cases c <;> simp <;> omega
            have hend := Lib.hid (fun W8 (h : ∃ p : Regrown, W8 = grow (redrawn W7 p.d) p.os) => show Below W6.heap.size W6 W8 by
              obtain ⟨p, rfl⟩ := h
              exact hB7.out.trans ((below_regrown W7 p.d p.os).mono hB7.out.size))
            rcases hcs with rfl | ⟨rfl, hxm⟩ | ⟨rfl, hxm⟩
            · clear hone
              refine wp_region_quiet_below (by kernel_rfl) (by kernel_rfl) ?_
              repeat ((with_reducible refine wpQuiet_step ?_); (with_reducible intro K hK); go_simp; first | (refine hK _ ?_; clear hK K) | (apply Exists.intro; refine ⟨fun _ => ?_, hK _ ?_⟩; (first | with_reducible exact cH _ _); clear hK K))
              refine wpQuiet_nil ?_
              intro W8 hw'
              have hbe := Lib.hid (hend.out W8 hw')
              clear hw' k0 k4 kC kA cH
              go_wp2
              go_roundw
              case rel => exact ⟨j + 1, by omega, by go_num, hbe.out⟩
              case measure => simp [intOf]; omega
            · obtain ⟨o1, o2⟩ := hone rfl
              have o3 := o2 hxm
              have hq1 : (xm == 1000) = true := beq_iff_eq.2 hxm
              have hq2 : (C != A) = false := by simp [o3]
              have hq3 : ¬ C < Q := by omega
              clear hone o1 o2 o3 hxm
              refine wp_region_quiet_below (by kernel_rfl) (by kernel_rfl) ?_
              repeat ((with_reducible refine wpQuiet_step ?_); (with_reducible intro K hK); go_simp; first | (refine hK _ ?_; clear hK K) | (apply Exists.intro; refine ⟨fun _ => ?_, hK _ ?_⟩; (first | with_reducible exact cH _ _); clear hK K))
              refine wpQuiet_nil ?_
              intro W8 hw'
              have hbe := Lib.hid (hend.out W8 hw')
              clear hw' k0 k4 kC kA cH
              go_wp2
              go_roundw
              case rel => exact ⟨j + 1, by omega, by go_num, hbe.out⟩
              case measure => simp [intOf]; omega
            · obtain ⟨o1, o2⟩ := hone rfl
              have hq1 : (xm == 1000) = false := beq_eq_false_iff_ne.2 hxm
              have hq3 : ¬ C < Q := by omega
              clear hone o1 o2 hxm
              refine wp_region_quiet_below (by kernel_rfl) (by kernel_rfl) ?_
              repeat ((with_reducible refine wpQuiet_step ?_); (with_reducible intro K hK); go_simp; first | (refine hK _ ?_; clear hK K) | (apply Exists.intro; refine ⟨fun _ => ?_, hK _ ?_⟩; (first | with_reducible exact cH _ _); clear hK K))
              refine wpQuiet_nil ?_
              intro W8 hw'
              have hbe := Lib.hid (hend.out W8 hw')
              clear hw' k0 k4 kC kA cH
              go_wp2
              go_roundw
              case rel => exact ⟨j + 1, by omega, by go_num, hbe.out⟩
              case measure => simp [intOf]; omega
          · have hbe := Lib.hid (hB6.out.trans (hBj.mono hB6.out.size))
            clear hBj
            go_wp2
            go_roundw
            case rel => exact ⟨k + 1, by omega, by go_num, hbe.out⟩
            case measure => simp [intOf]; omega
    · have hB9 := Lib.hid (hB4.out.trans (hB.mono hB4.out.size))
      clear hB
      go_wp2_with fail
      refine (awake_any _).mono ?_
      rintro e w9 ⟨rfl, hb9⟩
      have hB10 := Lib.hid (hB9.out.trans (hb9.mono hB9.out.size))
      clear hb9
      go_wp2
      go_ret
      exact ⟨rfl, hB10.out⟩
end Clr
end Go.Proofs.Ytmmekdkllccmdaa
