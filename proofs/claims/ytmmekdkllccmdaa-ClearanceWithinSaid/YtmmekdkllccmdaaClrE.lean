/-
  Chapter 41: slices.SortStableFunc at findings: what the row holds behind it.
-/
import Derived.Test.YtmmekdkllccmdaaClrD
namespace Go.Proofs.Ytmmekdkllccmdaa
open Go.RowKit Go.Sort Go.Shelf Go.Lib
set_option linter.unusedVariables false
namespace Clr
theorem flat_get : ∀ (rs : List Fd) (t : Nat), t < rs.length * 5 → (rs.flatMap Fd.vs)[t]? = some ((rs.toArray[t / 5]!).vs[t % 5]!)
  | [], t, h => by simp at h
  | x :: rs, t, h => by
    rw [List.flatMap_cons]
    by_cases ht : t < 5
    · rw [List.getElem?_append_left (by simpa [Fd.vs] using ht)]
      have h0 : t / 5 = 0 := by omega
      have h1 : t % 5 = t := by omega
      rw [h0, h1]
      have : t = 0 ∨ t = 1 ∨ t = 2 ∨ t = 3 ∨ t = 4 := by omega
      rcases this with rfl | rfl | rfl | rfl | rfl <;> rfl
    · rw [List.getElem?_append_right (by simp [Fd.vs]; omega)]
      have hl : x.vs.length = 5 := rfl
      rw [hl, flat_get rs (t - 5) (by simp at h; omega)]
      have h1 : (t - 5) % 5 = t % 5 := by omega
      have h2 : t / 5 = (t - 5) / 5 + 1 := by omega
      rw [h1, h2]
      have hb : (t - 5) / 5 < rs.length := by simp at h; omega
      congr 2
      simp [getElem!_def, Array.getElem?_eq_getElem, List.getElem?_eq_getElem, hb]
theorem holds_own {W : World} {base g n cap : Nat} {t : TypeId} {rs : List Fd} (hn : rs.length = n) (h : W.ownsRow base t 5 (.slice (some ⟨g, 0, none⟩) n cap) n (rs.flatMap Fd.vs)) : HoldsK Fd.vs 5 W g 0 rs.toArray ∧ g < W.heap.size ∧ base ≤ g := by
  subst hn
  rcases h.2 with ⟨h', _⟩ | ⟨g', cap', cur, h', hb, hg, hle, _, hs, htake⟩
  · simp at h'
  · simp only [Value.slice.injEq, Option.some.injEq, Addr.mk.injEq, and_true, true_and] at h'
    obtain ⟨rfl, rfl⟩ := h'
    refine ⟨fun t ht => ?_, (Array.getElem?_eq_some_iff.1 hg).1, hb⟩
    simp only [size_flatK, List.size_toArray] at ht
    refine ⟨?_, by simp [World.frozen?, hg]⟩
    rw [get_flatK _ _ _ _ (by simpa using ht), cell_of_row _ _ _ _ _ _ hg, Nat.zero_add]
    have := flat_get rs t ht
    rw [← htake, List.getElem?_take, if_pos ht] at this
    simpa using this
theorem frow_holds {W : World} {g : Nat} {D : Array Fd} (h : HoldsK Fd.vs 5 W g 0 D) (hg : g < W.heap.size) : FRow W (some ⟨g, 0, none⟩) D.toList := by
  refine .inr ⟨g, 0, rfl, hg, fun j x hx => ?_⟩
  have hj : j < D.size := by
    have := (List.getElem?_eq_some_iff.1 hx).1; simpa using this
  have hxe : D[j]! = x := by
    rw [Array.getElem?_toList] at hx
    simp [getElem!_def, hx]
  have key : ∀ i, i < 5 → W.cell? ⟨g, 0 + j * 5 + i, none⟩ = some (x.vs[i]!) := by
    intro i hi
    have := (h (j * 5 + i) (by simp; omega)).1
    rw [get_flatK _ _ _ _ (by omega), show (j * 5 + i) / 5 = j by omega, show (j * 5 + i) % 5 = i by omega, hxe] at this
    rw [show 0 + j * 5 + i = 0 + (j * 5 + i) by omega]
    exact this
  exact ⟨key 0 (by omega), key 1 (by omega), key 2 (by omega), key 3 (by omega), key 4 (by omega)⟩
theorem grownBy_sortedF {w : World} {g n : Nat} {os : Array Obj} (F : Array Value) : w.grownBy (grow (putRow id (Sort.ahead w n) g 0 F) os) (some g) := by
  refine ⟨rfl, rfl, rfl, by simp, fun k hk hne => ?_⟩
  rw [heap_grow_old _ _ (by simpa using hk)]
  have : g ≠ k := fun e => hne (by rw [e])
  simp [putRow, mapBlock, Sort.ahead, Array.getElem?_modify, this]

set_option maxHeartbeats 800000 in
theorem sort_ok (rs : List Fd) (v : Value) (base : Nat) (W : World) (hlen : rs.length < 20) (hown : W.ownsRow base 32 5 v rs.length (rs.flatMap Fd.vs)) (hbs : base ≤ W.heap.size) :
    ∃ ad cap, v = .slice ad rs.length cap ∧ Calls Try.prog 70 #[v, .func (.func 71) #[] #[]] W fun e w' =>
      e = .returned (.tuple #[]) ∧ ∃ rs' : List Fd, rs'.Perm rs ∧ rs'.Pairwise (fun x y => y.m ≤ x.m) ∧ FRow w' ad rs' ∧ Below base W w' := by
  obtain ⟨n, hn⟩ : ∃ n, rs.length = n := ⟨_, rfl⟩
  rw [hn] at hlen hown ⊢
  rcases Go.Joins.ownsRow_forms hown with ⟨rfl, h0⟩ | ⟨g, cap, rfl⟩
  · subst h0
    refine ⟨none, 0, rfl, ?_⟩
    have hr : rs = [] := List.eq_nil_of_length_eq_zero hn
    have hs := stable_any none 0 0 (by omega) W (fun w' => W = w') (insert_none none 0 W)
    have hs' := Lib.hid hs
    have hr' := Lib.hid hr
    clear hs hr hn hown
    go_enter Try.func70, Try.ntmps70
    go_wp2_with (go_at_call 110; refine hs'.out.mono ?_; rintro e w' ⟨rfl, rfl⟩)
    go_end0
    exact ⟨rfl, rs, List.Perm.refl _, by rw [hr'.out]; exact List.Pairwise.nil, .inl hr'.out, Below.refl _ _⟩
  · refine ⟨_, _, rfl, ?_⟩
    obtain ⟨hH, hg, hbg⟩ := holds_own hn hown
    have hd : rs.toArray.size = n := by simpa using hn
    have hi := insert_any g 0 cap 0 n rs.toArray W hH hg (by omega) (by omega) (by omega)
    rw [hd] at hi
    have hs := Lib.hid (stable_any (some ⟨g, 0, none⟩) n cap hlen W _ hi)
    have hP := insertionSort_holds (lt := ltOf cfm) swo rs.toArray 0 n (by omega) (by omega)
    obtain ⟨D, hD⟩ : ∃ D, Sort.insertionSort (ltOf cfm) rs.toArray 0 n = D := ⟨_, rfl⟩
    rw [hD] at hs hP
    obtain ⟨⟨hsz, _, hperm⟩, hsorted⟩ := hP
    have hsz2 : D.size = n := by omega
    have hp2 : D.toList.Perm rs := by
      rw [← hsz2] at hperm
      have h2 : rs.toArray.extract 0 D.size = rs.toArray := by rw [hsz]; simp
      rw [h2] at hperm
      simpa using hperm
    have hpw : D.toList.Pairwise (fun x y => y.m ≤ x.m) := by
      rw [List.pairwise_iff_getElem]
      intro i j hi hj hij
      have := hsorted i j (by omega) hij (by simpa [hsz2] using hj)
      have hi2 : i < D.size := by simpa using hi
      have hj2 : j < D.size := by simpa using hj
      rw [getElem!_pos D i hi2, getElem!_pos D j hj2] at this
      unfold ltOf cfm cmpI at this
      simp only [Array.getElem_toList]
      split at this
      · simp at this
      · omega
    have hfin : ∀ m os, (∃ rs' : List Fd, rs'.Perm rs ∧ rs'.Pairwise (fun x y => y.m ≤ x.m) ∧ FRow (sortWorldK Fd.vs 5 W g 0 m D os) (some ⟨g, 0, none⟩) rs' ∧ Below base W (sortWorldK Fd.vs 5 W g 0 m D os)) := fun m os =>
      ⟨D.toList, hp2, hpw, frow_holds (holdsK_sortWorldK_c Fd.vs 5 W g 0 rs.toArray D m os hH hg hsz) (Nat.lt_of_lt_of_le hg (size_sortWorldK_c Fd.vs 5 W g 0 m D os)),
        (Below.refl base W).grown (grownBy_sortedF _) hbs (fun k hk => by injection hk with hk; omega)⟩
    have hfin' := Lib.hid hfin
    clear hfin hp2 hpw hperm hsorted hi hH hown hD hsz hsz2 hd hn
    go_enter Try.func70, Try.ntmps70
    go_wp2_with (go_at_call 110; refine hs.out.mono ?_; rintro e w' ⟨rfl, m, os, rfl⟩)
    go_end0
    exact ⟨rfl, hfin'.out m os⟩
end Clr
end Go.Proofs.Ytmmekdkllccmdaa
