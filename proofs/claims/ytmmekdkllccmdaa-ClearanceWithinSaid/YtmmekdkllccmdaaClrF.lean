/-
  Chapter 41: the walk of clearance.Corrections at valid findings and amounts.
-/
import Derived.Test.YtmmekdkllccmdaaClrE
import Derived.Test.YtmmekdkllccmdaaClrMath
import Derived.Test.YtmmekdkllccmdaaExact
namespace Go.Proofs.Ytmmekdkllccmdaa
open Go.RowKit Go.Sort
set_option linter.unusedVariables false
namespace Clr
open Cal (ret_bool ret_int int_eq infoI)
def corr (fs : List Fd) (s : Sp) : Int := s.a - lefts s.a (dsc ((fs.filter (con s)).map (·.m)))
theorem part_at (a m : Int) (ha : 0 ≤ a) (ha2 : a ≤ 68719476736) (h0 : 1 ≤ m) (h1 : m ≤ 1000) (w : World) :
    Calls Try.prog 73 #[.int .i64 a, .int .i64 m, .int .i64 1000] w fun e w' => e = .returned (.tuple #[.int .i64 (pt a m), .int .i64 0]) ∧ Below w.heap.size w w' := by
  obtain ⟨x, rfl⟩ := Int.eq_ofNat_of_zero_le ha
  obtain ⟨y, rfl⟩ := Int.eq_ofNat_of_zero_le (show 0 ≤ m by omega)
  have hx : x ≤ 68719476736 := by omega
  have hy : y ≤ 1000 := by omega
  have hm : x * y ≤ 68719476736 * 1000 := Nat.mul_le_mul hx hy
  have := Ex.part_any x y 1000 (by omega) (by omega) (by omega) (by omega) (by omega) w
  have e : pt (x : Int) (y : Int) = ((x * y / 1000 : Nat) : Int) := by unfold pt; simp
  rw [e]
  exact this

theorem own_below {w w' : World} {base : Nat} {e : TypeId} {size n : Nat} {v : Value} {xs : List Value} (h : w.ownsRow base e size v n xs) (hb : Below w.heap.size w w') : w'.ownsRow base e size v n xs :=
  h.kept (row := none) ⟨hb.os, hb.tape, hb.output, hb.size, fun i hi _ => hb.block i hi⟩ (by cases hv : v.ownBlock <;> simp)
theorem lefts_next (a : Int) (ms : List Int) (j : Nat) (m : Int) (h : ms[j]? = some m) : lefts a (ms.take (j + 1)) = lefts a (ms.take j) - pt (lefts a (ms.take j)) m := by
  obtain ⟨hj, hm⟩ := List.getElem?_eq_some_iff.1 h
  rw [List.take_succ_eq_append_getElem hj, hm, lefts_append]; rfl

set_option maxRecDepth 100000 in
set_option maxHeartbeats 8000000 in
theorem corrections_ok (fs : List Fd) (ss : List Sp) (ad ad2 : Option Addr) (cap cap2 : Nat) (w : World) (hf : FOk fs) (hs : SOk ss) (lf : fs.length < 20) (ls : ss.length ≤ 64) (rf : FRow w ad fs) (rs : SRow w ad2 ss) :
    Calls Try.prog 20 #[.slice ad fs.length cap, .slice ad2 ss.length cap2] w fun e w' => ∃ v, e = .returned (.tuple #[v, .int .i64 0]) ∧ w'.ownsRow w.heap.size 3 1 v ss.length ((ss.map (corr fs)).map (Value.int .i64)) ∧ Below w.heap.size w w' := by
  obtain ⟨i0, hi, hz0, hz1, hz2⟩ := info_parts infoI
  have hck := Lib.hid (check_ok fs ss ad ad2 cap cap2 w hf hs (by omega) ls rf rs)
  have hf' := Lib.hid hf
  have hs' := Lib.hid hs
  have rf' := Lib.hid rf
  have rs' := Lib.hid rs
  have lf' := Lib.hid lf
  obtain ⟨n2, hn2⟩ : ∃ n, ss.length = n := ⟨_, rfl⟩
  obtain ⟨n, hn⟩ : ∃ n, fs.length = n := ⟨_, rfl⟩
  rw [hn2] at ls hck ⊢
  rw [hn] at hck ⊢
  have hn' := Lib.hid hn
  have hn2' := Lib.hid hn2
  clear hf hs rf rs hn2 hn lf
  go_enter Try.func20, Try.ntmps20
  go_wp2_with fail
  refine hck.out.mono ?_
  rintro e w1 ⟨rfl, hb⟩
  have hb1 := Lib.hid hb
  clear hb hck
  go_wp2_with fail
  go_loopw [7, 24] (fun v x wr => ∃ k : Nat, k ≤ n2 ∧ x = .int .i64 k ∧ wr.ownsRow w.heap.size 3 1 v k (((ss.take k).map (corr fs)).map (Value.int .i64)) ∧ Below w.heap.size w wr) (fun _ x _ => n2 - (intOf x).toNat)
  case atStart => exact ⟨0, by omega, rfl, World.ownsRow_nil _ _ _ _, hb1.out⟩
  case round =>
    obtain ⟨k, hk, rfl, hown, hB⟩ := hrel
    by_cases hlt : k < n2
    · have hkl : k < ss.length := by have := hn2'.out; omega
      obtain ⟨x, hx⟩ : ∃ x, ss[k]? = some x := ⟨_, List.getElem?_eq_getElem hkl⟩
      have hxo := Lib.hid (hs'.out.1 x (List.mem_of_getElem? hx))
      obtain ⟨b, off, rfl, hbl, hcells⟩ : ∃ b off, ad2 = some ⟨b, off, none⟩ ∧ b < w.heap.size ∧ ∀ j x, ss[j]? = some x → SAt w b (off + j * 3) x := by
        rcases rs'.out with h | h
        · rw [h] at hx; simp at hx
        · exact h
      have hat := (hcells k x hx).later hB
      have htk := Lib.hid (show ((ss.take (k + 1)).map (corr fs)).map (Value.int .i64) = ((ss.take k).map (corr fs)).map (Value.int .i64) ++ [.int .i64 (corr fs x)] by
        rw [List.take_succ_eq_append_getElem hkl]
        rw [List.getElem?_eq_getElem hkl] at hx
        injection hx with hx
        rw [hx]; simp)
      obtain ⟨xy, xs, xa⟩ := x
      obtain ⟨a0, a1, a2⟩ := hat
      simp only at a0 a1 a2
      have hB' := Lib.hid hB
      have hown' := Lib.hid hown
      have hfr := Lib.hid (rf'.out.later hB)
      clear hcells hx hB hkl hown
      obtain ⟨W1, hW1⟩ : ∃ W1, W1 = wr.alloc (.cells #[.int .i64 xy, .int .i64 xs, .int .i64 xa] 36) := ⟨_, rfl⟩
      have hb2 := Lib.hid (show Below wr.heap.size wr W1 by rw [hW1]; exact (Below.refl _ _).alloc (Nat.le_refl _) _)
      obtain ⟨c0, c1, c2⟩ := box3 (w := wr) (x := ⟨xy, xs, xa⟩) (t := 36)
      simp only at c0 c1 c2
      have hW1' := Lib.hid hW1
      rw [← hW1] at c0 c1 c2
      clear hW1
      have hcon := Lib.hid (concerning_ok fs ⟨xy, xs, xa⟩ ad cap W1 hxo.out hf'.out.1 (by have := lf'.out; omega) (hfr.out.later hb2.out))
      rw [hn'.out] at hcon
      go_upto_region 8 with fail
      rw [← hW1'.out]
      clear a0 a1 a2
      obtain ⟨bx, hbx⟩ : ∃ b, wr.heap.size = b := ⟨_, rfl⟩
      rw [hbx] at c0 c1 c2 ⊢
      go_wp2_with fail
      refine hcon.out.mono ?_
      rintro e W2 ⟨v2, rfl, hown2, hb3⟩
      replace c0 := Cal.cell_later c0 hb3
      replace c1 := Cal.cell_later c1 hb3
      replace c2 := Cal.cell_later c2 hb3
      have hlen : ((fs.filter (con ⟨xy, xs, xa⟩))).length < 20 := by
        have h1 := List.length_filter_le (con ⟨xy, xs, xa⟩) fs
        have := lf'.out; omega
      obtain ⟨adr, capr, rfl, hsort⟩ := sort_ok (fs.filter (con ⟨xy, xs, xa⟩)) v2 W1.heap.size W2 hlen hown2 hb3.size
      have hsort' := Lib.hid hsort
      have hb3' := Lib.hid hb3
      clear hsort hown2 hb3 hcon hlen
      go_wp2_with fail
      refine hsort'.out.mono ?_
      rintro e W3 ⟨rfl, rs2, hperm, hpw, hfr2, hb4⟩
      have hbxl : bx < W1.heap.size := by
        rw [hW1'.out, ← hbx]; simp
      replace c0 := (hb4.cell (p := ⟨bx, 0, none⟩) hbxl).trans c0
      replace c1 := (hb4.cell (p := ⟨bx, 1, none⟩) hbxl).trans c1
      replace c2 := (hb4.cell (p := ⟨bx, 2, none⟩) hbxl).trans c2
      have hms : rs2.map (·.m) = dsc ((fs.filter (con ⟨xy, xs, xa⟩)).map (·.m)) := dsc_unique (hperm.map _) (by rw [List.pairwise_map]; exact hpw)
      have hcorr := Lib.hid (show corr fs ⟨xy, xs, xa⟩ = xa - lefts xa (rs2.map (·.m)) by rw [hms]; rfl)
      have hok2 : ∀ y ∈ rs2, y.ok := fun y hy => hf'.out.1 y (List.mem_filter.1 (hperm.mem_iff.1 hy)).1
      have hsh : Sh (rs2.map (·.m)) := by
        intro m hm
        obtain ⟨y, hy, rfl⟩ := List.mem_map.1 hm
        have := hok2 y hy
        obtain ⟨_, _, _, _, _, _, _, h8, h9⟩ := this
        omega
      obtain ⟨n3, hn3⟩ : ∃ n3, rs2.length = n3 := ⟨_, rfl⟩
      rw [← hperm.length_eq, hn3]
      have hn3b : n3 < 20 := by
        rw [← hn3, hperm.length_eq]
        have h1 := List.length_filter_le (con ⟨xy, xs, xa⟩) fs
        have := lf'.out; omega
      have hbq := Lib.hid (show Below wr.heap.size wr W3 from (hb2.out.trans (hb3'.out.mono hb2.out.size)).trans (hb4.mono hb2.out.size))
      have hxb : 0 ≤ xa ∧ xa ≤ 68719476736 := by
        have := hxo.out
        obtain ⟨_, _, _, _, h5, h6⟩ := this
        exact ⟨h5, h6⟩
      have hn3' := Lib.hid hn3
      have hok2' := Lib.hid hok2
      have hsh' := Lib.hid hsh
      have hfr2' := Lib.hid hfr2
      clear hms hpw hperm hb4 hbxl hn3 hok2 hsh hfr2 hsort' hb3' hbx hxo
      have hlf : lefts xa ((rs2.map (·.m)).take 0) = xa := rfl
      have hlf' := Lib.hid hlf
      clear hlf
      go_wp2_with fail
      go_loopw [11, 37] (fun l i wi => ∃ j : Nat, j ≤ n3 ∧ i = .int .i64 j ∧ l = .int .i64 (lefts xa ((rs2.map (·.m)).take j)) ∧ Below W3.heap.size W3 wi) (fun _ i _ => n3 - (intOf i).toNat)
      case atStart => exact ⟨0, by omega, rfl, by rw [hlf'.out], Below.refl _ _⟩
      case round =>
        obtain ⟨j, hj, rfl, rfl, hbi⟩ := hrel
        have hL := lefts_bd ((rs2.map (·.m)).take j) xa hxb.1 (fun m hm => hsh'.out m (List.mem_of_mem_take hm))
        obtain ⟨L, hLe⟩ : ∃ L, lefts xa ((rs2.map (·.m)).take j) = L := ⟨_, rfl⟩
        rw [hLe] at hL ⊢
        have hLe' := Lib.hid hLe
        clear hLe
        by_cases hjl : j < n3
        · have hjl2 : j < rs2.length := by have := hn3'.out; omega
          obtain ⟨y, hy⟩ : ∃ y, rs2[j]? = some y := ⟨_, List.getElem?_eq_getElem hjl2⟩
          obtain ⟨b2, off2, rfl, hbl2, hcells2⟩ : ∃ b off, adr = some ⟨b, off, none⟩ ∧ b < W3.heap.size ∧ ∀ j x, rs2[j]? = some x → FAt W3 b (off + j * 5) x := by
            rcases hfr2'.out with h | h
            · rw [h] at hy; simp at hy
            · exact h
          have hat := (hcells2 j y hy).later hbi
          have hyo := hok2'.out y (List.mem_of_getElem? hy)
          obtain ⟨_, _, _, _, _, _, _, hm8, hm9⟩ := hyo
          have hnx := Lib.hid (lefts_next xa (rs2.map (·.m)) j y.m (by rw [List.getElem?_map, hy]; rfl))
          rw [hLe'.out] at hnx
          obtain ⟨yn, ys, yf, yu, ym⟩ := y
          obtain ⟨a0, a1, a2, a3, a4⟩ := hat
          simp only at a0 a1 a2 a3 a4 hm8 hm9
          have hbi' := Lib.hid hbi
          have hpp := pt_bd L ym hL.1 (by omega) (by omega)
          have hpa := Lib.hid (part_at L ym hL.1 (by omega) (by omega) (by omega))
          clear hcells2 hy hbi hjl2
          obtain ⟨p, hp⟩ : ∃ p, pt L ym = p := ⟨_, rfl⟩
          rw [hp] at hpp hpa
          have hnx' := Lib.hid (show lefts xa ((rs2.map (·.m)).take (j + 1)) = L - p by rw [hnx.out]; simp only; rw [hp])
          clear hp hnx
          have hb9 := Lib.hid ((Below.refl wr.heap.size wr).alloc (Nat.le_refl _) (.cells #[.int .i64 yn, .int .i64 ys, .int .i64 yf, .int .i64 yu, .int .i64 ym] 32))
          go_wp2_with fail
          refine (hpa.out _).mono ?_
          rintro e W5 ⟨rfl, hb5⟩
          have hbe := Lib.hid (hbi'.out.trans ((hb9.out.trans (hb5.mono hb9.out.size)).mono hbi'.out.size))
          clear hb5
          go_wp2
          go_roundw
          case rel => exact ⟨j + 1, by omega, by go_num, int_eq hnx'.out.symm, hbe.out⟩
          case measure => simp [intOf]; omega
        · have hjn : j = n3 := by omega
          have hfin : (rs2.map (·.m)).take j = rs2.map (·.m) := List.take_of_length_le (by have := hn3'.out; simp; omega)
          have hcv := Lib.hid (show corr fs ⟨xy, xs, xa⟩ = xa - L by rw [hcorr.out, ← hLe'.out, hfin])
          have hbw := Lib.hid (hbq.out.trans (hbi.mono hbq.out.size))
          have hown3 := own_below hown'.out hbw.out
          replace c2 := Cal.cell_later c2 hbi
          have hB3 := Lib.hid (hB'.out.trans (hbw.out.mono hB'.out.size))
          have hsz := hB3.out.size
          clear hfin hbi hjn
          go_wp2_with (first | (at_builtin; refine wpList_append_own _ rfl _ _ 22 rfl w.heap.size 3 i0 (.int .i64 0) 1 8 Try.underlying22 hi hz0 hz1 hz2 rfl (by decide) _ _ _ rfl (hown3.alloc _) ⟨wr.heap.size, 0, none⟩ 1 1 [.int .i64 (xa - L)] rfl rfl (cell_one_new _ _ _) (by simp [Value.oneCell']) (by unfold maxLen; omega) (by omega) (by simp; omega) ?_; intro v' w9 hown9 hgrow _) | go_in)
          have hown10 : w9.ownsRow w.heap.size 3 1 v' (k + 1) (((ss.take (k + 1)).map (corr fs)).map (Value.int .i64)) := by rw [htk.out, hcv.out]; exact hown9
          have hB4 := Lib.hid ((hB3.out.alloc hB3.out.size _).grown hgrow (by simp; omega) (fun q hq => (World.ownsRow.lt hown3 q hq).1))
          have hown11 := Lib.hid hown10
          clear hown9 hgrow hown3 hown10
          go_wp2
          go_roundw
          case rel => exact ⟨k + 1, by omega, by go_num, hown11.out, hB4.out⟩
          case measure => simp [intOf]; omega
    · have hkn : k = n2 := by omega
      have hfin : ((ss.take k).map (corr fs)).map (Value.int .i64) = (ss.map (corr fs)).map (Value.int .i64) := by rw [hkn, ← hn2'.out, List.take_length]
      rw [hfin, hkn] at hown
      have hown2 := Lib.hid hown
      have hB2 := Lib.hid hB
      clear hfin hown hB hkn
      go_wp2
      go_ret2
      exact ⟨_, rfl, hown2.out, hB2.out⟩
end Clr
end Go.Proofs.Ytmmekdkllccmdaa
