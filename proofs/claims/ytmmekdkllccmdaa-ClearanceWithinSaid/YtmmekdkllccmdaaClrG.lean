/-
  Chapter 41: Flat, Extrapolated, Ints, Named.
-/
import Derived.Test.YtmmekdkllccmdaaClrF
import Derived.Test.YtmmekdkllccmdaaEstProgB
namespace Go.Proofs.Ytmmekdkllccmdaa
open Go.RowKit Go.Sort
set_option linter.unusedVariables false
namespace Clr
open Cal (ret_bool ret_int int_eq infoI)
def flatV (k : Nat) : Int := [0, 20, 50, 100, 250, 1000].getD k 0
set_option maxHeartbeats 1600000 in
theorem flat_ok (k : Nat) (hk : k < 6) (w : World) : Calls Try.prog 30 #[.int .i64 k] w fun e w' => e = .returned (.int .i64 (flatV k)) ∧ Below w.heap.size w w' := by
  have : k = 0 ∨ k = 1 ∨ k = 2 ∨ k = 3 ∨ k = 4 ∨ k = 5 := by omega
  rcases this with rfl | rfl | rfl | rfl | rfl | rfl
  all_goals
    go_enter Try.func30, Try.ntmps30
    go_wp2
    go_ret
    exact ⟨rfl, (Below.refl _ _).alloc (Nat.le_refl _) _⟩

set_option maxHeartbeats 400000 in
theorem extra_ok (N n x a : Int) (he : Est.err N n x a = 0) (w : World) : Calls Try.prog 28 #[.int .i64 N, .int .i64 n, .int .i64 x, .int .i64 a] w fun e w' => e = .returned (.tuple #[.int .i64 (Est.rat N (Est.upV N n x a)), .int .i64 0]) ∧ w = w' := by
  obtain ⟨U, hU⟩ : ∃ U, Est.upV N n x a = U := ⟨_, rfl⟩
  have hu := Est.upper_any N n x a
  rw [he, hU] at hu
  have hu' := Lib.hid hu
  rw [hU]
  clear hu hU he
  go_enter Try.func28, Try.ntmps28
  go_wp2_with (first | (go_at_call 34; refine (hu'.out _).mono ?_; rintro e w' ⟨rfl, rfl⟩) | (go_at_call 35; refine (Est.rate_any _ _ _).mono ?_; rintro e w' ⟨rfl, rfl⟩))
  go_ret2
  exact ⟨rfl, rfl⟩

def IRow (w : World) (ad : Option Addr) (zs : List Int) : Prop := Seq.Ints w.heap.size w ad zs
set_option maxHeartbeats 1600000 in
theorem ints_same (zs : List Int) (ad ad2 : Option Addr) (cap cap2 : Nat) (hl : zs.length ≤ 1000) (w : World) (h1 : IRow w ad zs) (h2 : IRow w ad2 zs) :
    Calls Try.prog 24 #[.slice ad zs.length cap, .slice ad2 zs.length cap2] w fun e w' => e = .returned (.bool true) ∧ Below w.heap.size w w' := by
  obtain ⟨n, hn⟩ : ∃ n, zs.length = n := ⟨_, rfl⟩
  have h1' := Lib.hid h1
  have h2' := Lib.hid h2
  rw [hn] at hl ⊢
  have hn' := Lib.hid hn
  clear h1 h2 hn
  go_enter Try.func24, Try.ntmps24
  go_wp2_with fail
  go_loopw [5] (fun x wr => ∃ k : Nat, k ≤ n ∧ x = .int .i64 k ∧ Below w.heap.size w wr) (fun x _ => n - (intOf x).toNat)
  case atStart => exact ⟨0, by omega, rfl, Below.refl _ _⟩
  case round =>
    obtain ⟨k, hk, rfl, hB⟩ := hrel
    by_cases hlt : k < n
    · have hkl : k < zs.length := by have := hn'.out; omega
      obtain ⟨z, hz⟩ : ∃ z, zs[k]? = some z := ⟨_, List.getElem?_eq_getElem hkl⟩
      obtain ⟨b, off, rfl, c1⟩ : ∃ b off, ad = some ⟨b, off, none⟩ ∧ w.cell? ⟨b, off + k, none⟩ = some (.int .i64 z) := by
        rcases h1'.out with h | ⟨b, off, e, _, hc⟩
        · rw [h] at hkl; simp at hkl
        · exact ⟨b, off, e, by rw [hc k hkl, hz]; rfl⟩
      obtain ⟨b2, off2, rfl, c2⟩ : ∃ b off, ad2 = some ⟨b, off, none⟩ ∧ w.cell? ⟨b, off + k, none⟩ = some (.int .i64 z) := by
        rcases h2'.out with h | ⟨b, off, e, _, hc⟩
        · rw [h] at hkl; simp at hkl
        · exact ⟨b, off, e, by rw [hc k hkl, hz]; rfl⟩
      replace c1 := Cal.cell_later c1 hB
      replace c2 := Cal.cell_later c2 hB
      have hB' := Lib.hid hB
      have hm2 : (k : Int) < (n : Nat) := by omega
      have hm3 : ¬ (k : Int) < 0 := by omega
      clear hz hkl hB
      go_upto_region 6 with fail
      go_quiet (fail)
      rename_i nq
      go_wp2
      go_roundw
      case rel => exact ⟨k + 1, by omega, by go_num, Cal.below_drewN hB'.out _⟩
      case measure => simp [intOf]; omega
    · have hB' := Lib.hid hB
      clear hB
      go_wp2
      go_ret
      exact ⟨rfl, hB'.out⟩

set_option maxRecDepth 100000 in
set_option maxHeartbeats 8000000 in
theorem named_ok (fs : List Fd) (ss : List Sp) (k : Nat) (s : Sp) (hk : ss[k]? = some s) (ad ad2 : Option Addr) (cap cap2 : Nat) (w : World) (hf : FOk fs) (hs : SOk ss) (lf : fs.length < 20) (ls : ss.length ≤ 64) (rf : FRow w ad fs) (rs : SRow w ad2 ss) :
    Calls Try.prog 26 #[.slice ad fs.length cap, .slice ad2 ss.length cap2, .int .i64 k] w fun e w' => ∃ v, e = .returned (.tuple #[v, .int .i64 0]) ∧ w'.ownsRow w.heap.size 3 1 v (fs.filter (con s)).length (((fs.filter (con s)).map (·.n)).map (Value.int .i64)) ∧ Below w.heap.size w w' := by
  obtain ⟨i0, hi, hz0, hz1, hz2⟩ := info_parts infoI
  have hck := Lib.hid (check_ok fs ss ad ad2 cap cap2 w hf hs (by omega) ls rf rs)
  have hf' := Lib.hid hf
  have hso := hs.1 s (List.mem_of_getElem? hk)
  have rf' := Lib.hid rf
  have hkl : k < ss.length := (List.getElem?_eq_some_iff.1 hk).1
  obtain ⟨b, off, rfl, hbl, hcells⟩ : ∃ b off, ad2 = some ⟨b, off, none⟩ ∧ b < w.heap.size ∧ ∀ j x, ss[j]? = some x → SAt w b (off + j * 3) x := by
    rcases rs with h | h
    · rw [h] at hk; simp at hk
    · exact h
  have hat := Lib.hid (hcells k s hk)
  have hlen : (fs.filter (con s)).length < 20 := by
    have h1 := List.length_filter_le (con s) fs
    omega
  obtain ⟨r, hr⟩ : ∃ r, fs.filter (con s) = r := ⟨_, rfl⟩
  have hr' := Lib.hid hr
  rw [hr] at hlen ⊢
  have hcn := Lib.hid (fun W (h : FRow W ad fs) => concerning_ok fs s ad cap W hso hf.1 (by omega) h)
  obtain ⟨n2, hn2⟩ : ∃ n, ss.length = n := ⟨_, rfl⟩
  obtain ⟨n, hn⟩ : ∃ n, fs.length = n := ⟨_, rfl⟩
  rw [hn2] at ls hck hkl ⊢
  rw [hn] at hck hcn ⊢
  rw [hr] at hcn
  obtain ⟨sy, s1, sa⟩ := s
  clear hf hs rf hn2 hn hr hso hcells hk lf
  go_enter Try.func26, Try.ntmps26
  go_wp2_with fail
  refine hck.out.mono ?_
  rintro e w1 ⟨rfl, hb⟩
  have hb1 := Lib.hid hb
  obtain ⟨a0, a1, a2⟩ := hat.out.later hb
  simp only at a0 a1 a2
  clear hb hck
  go_wp2_with fail
  refine (hcn.out _ (rf'.out.later hb1.out)).mono ?_
  rintro e W2 ⟨v2, rfl, hown2, hb3⟩
  obtain ⟨n3, hn3⟩ : ∃ n, r.length = n := ⟨_, rfl⟩
  obtain ⟨adr, capr, rfl, hfr⟩ : ∃ ad cap, v2 = .slice ad n3 cap ∧ FRow W2 ad r := by
    rw [hn3] at hown2
    rcases Go.Joins.ownsRow_forms hown2 with ⟨rfl, h0⟩ | ⟨g, cap, rfl⟩
    · exact ⟨none, 0, by rw [h0], .inl (List.eq_nil_of_length_eq_zero (by omega))⟩
    · obtain ⟨hH, hg, _⟩ := holds_own hn3 hown2
      exact ⟨_, cap, rfl, frow_holds hH hg⟩
  have hfr' := Lib.hid hfr
  have hB2 := Lib.hid (hb1.out.trans (hb3.mono hb1.out.size))
  rw [hn3] at hlen
  have hn3' := Lib.hid hn3
  clear hfr hown2 hb3 hn3 hcn a0 a1 a2 hat
  go_wp2_with fail
  go_loopw [9, 33] (fun v x wr => ∃ j : Nat, j ≤ n3 ∧ x = .int .i64 j ∧ wr.ownsRow W2.heap.size 3 1 v j (((r.take j).map (·.n)).map (Value.int .i64)) ∧ Below W2.heap.size W2 wr) (fun _ x _ => n3 - (intOf x).toNat)
  case atStart => exact ⟨0, by omega, rfl, World.ownsRow_nil _ _ _ _, Below.refl _ _⟩
  case round =>
    obtain ⟨j, hj, rfl, hown, hB⟩ := hrel
    by_cases hjl : j < n3
    · have hjl2 : j < r.length := by have := hn3'.out; omega
      obtain ⟨y, hy⟩ : ∃ y, r[j]? = some y := ⟨_, List.getElem?_eq_getElem hjl2⟩
      obtain ⟨b2, off2, rfl, hbl2, hcells2⟩ : ∃ b off, adr = some ⟨b, off, none⟩ ∧ b < W2.heap.size ∧ ∀ j x, r[j]? = some x → FAt W2 b (off + j * 5) x := by
        rcases hfr'.out with h | h
        · rw [h] at hy; simp at hy
        · exact h
      have hat2 := (hcells2 j y hy).later hB
      have htk := Lib.hid (show ((r.take (j + 1)).map (·.n)).map (Value.int .i64) = ((r.take j).map (·.n)).map (Value.int .i64) ++ [.int .i64 y.n] by
        rw [List.take_succ_eq_append_getElem hjl2]
        rw [List.getElem?_eq_getElem hjl2] at hy
        injection hy with hy
        rw [hy]; simp)
      obtain ⟨yn, ys, yf, yu, ym⟩ := y
      obtain ⟨a0, a1, a2, a3, a4⟩ := hat2
      simp only at a0 a1 a2 a3 a4
      have hB' := Lib.hid hB
      obtain ⟨W5, hW5⟩ : ∃ W, W = wr.alloc (.cells #[.int .i64 yn, .int .i64 ys, .int .i64 yf, .int .i64 yu, .int .i64 ym] 32) := ⟨_, rfl⟩
      have hb5 := (Below.refl wr.heap.size wr).alloc (Nat.le_refl _) (.cells #[.int .i64 yn, .int .i64 ys, .int .i64 yf, .int .i64 yu, .int .i64 ym] 32)
      rw [← hW5] at hb5
      have hown5 := own_below hown hb5
      have hbe := Lib.hid (hB.trans (hb5.mono hB.size))
      have hsz : W2.heap.size ≤ W5.heap.size := hbe.out.size
      have hown5' := hown5
      clear hcells2 hy hB hjl2 hown hb5
      go_upto_region 10 with fail
      rw [← hW5]
      obtain ⟨c0, c1, c2, c3, c4⟩ := box5 (w := wr) (x := ⟨yn, ys, yf, yu, ym⟩) (t := 32)
      simp only at c0
      rw [← hW5] at c0
      obtain ⟨bx, hbx⟩ : ∃ b, wr.heap.size = b := ⟨_, rfl⟩
      rw [hbx] at c0 ⊢
      clear hW5 hbx a0 a1 a2 a3 a4 c1 c2 c3 c4 hown5'
      go_wp2_with (first | (at_builtin; refine wpList_append_own _ rfl _ _ 22 rfl W2.heap.size 3 i0 (.int .i64 0) 1 8 Try.underlying22 hi hz0 hz1 hz2 rfl (by decide) _ _ _ rfl (hown5.alloc _) ⟨W5.heap.size, 0, none⟩ 1 1 [.int .i64 yn] rfl rfl (cell_one_new _ _ _) (by simp [Value.oneCell']) (by unfold maxLen; omega) (by omega) (by simp; omega) ?_; intro v' w9 hown9 hgrow _) | go_in)
      have hown10 : w9.ownsRow W2.heap.size 3 1 v' (j + 1) (((r.take (j + 1)).map (·.n)).map (Value.int .i64)) := by rw [htk.out]; exact hown9
      have hB4 := Lib.hid (((hbe.out.alloc hbe.out.size _).grown hgrow (by have := hbe.out.size; simp; omega) (fun q hq => (World.ownsRow.lt hown5 q hq).1)))
      have hown11 := Lib.hid hown10
      clear hown9 hgrow hown5 hown10
      go_wp2
      go_roundw
      case rel => exact ⟨j + 1, by omega, by go_num, hown11.out, hB4.out⟩
      case measure => simp [intOf]; omega
    · have hkn : j = n3 := by omega
      have hfin : ((r.take j).map (·.n)).map (Value.int .i64) = (r.map (·.n)).map (Value.int .i64) := by rw [hkn, ← hn3'.out, List.take_length]
      rw [hfin, hkn] at hown
      have hown2 := Lib.hid (Go.Joins.ownsRow_le hown hB2.out.size)
      have hB3 := Lib.hid (hB2.out.trans (hB.mono hB2.out.size))
      clear hfin hown hB hkn
      go_wp2
      go_ret2
      exact ⟨_, rfl, by rw [hn3'.out]; exact hown2.out, hB3.out⟩
end Clr
end Go.Proofs.Ytmmekdkllccmdaa
