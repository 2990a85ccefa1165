/-
  Chapter 41: plain mathematics of corrections: what is left of an amount behind shares that fall.
-/
namespace Go.Proofs.Ytmmekdkllccmdaa
namespace Clr
def dsc (l : List Int) : List Int := l.mergeSort fun a b => decide (b ≤ a)
theorem dsc_perm (l : List Int) : (dsc l).Perm l := List.mergeSort_perm _ _
theorem dsc_sorted (l : List Int) : (dsc l).Pairwise fun a b => b ≤ a := by
  have := List.pairwise_mergeSort (le := fun a b : Int => decide (b ≤ a)) (fun a b c h1 h2 => by simp at *; omega) (fun a b => by simp; omega) l
  exact this.imp (by simp)
theorem dsc_unique {l l' : List Int} (hp : l'.Perm l) (hs : l'.Pairwise fun a b => b ≤ a) : l' = dsc l :=
  List.Perm.eq_of_pairwise (le := fun a b : Int => b ≤ a) (fun a b _ _ h1 h2 => by omega) hs (dsc_sorted l) (hp.trans (dsc_perm l).symm)
/-- One number more: it stands somewhere among the others. -/
theorem dsc_more (l : List Int) (m : Int) : ∃ xs ys, dsc l = xs ++ ys ∧ dsc (l ++ [m]) = xs ++ m :: ys := by
  have hm : m ∈ dsc (l ++ [m]) := (dsc_perm _).mem_iff.2 (by simp)
  obtain ⟨xs, ys, h⟩ := List.append_of_mem hm
  refine ⟨xs, ys, ?_, h⟩
  have hp : (xs ++ m :: ys).Perm (l ++ [m]) := h ▸ dsc_perm (l ++ [m])
  have hs : (xs ++ m :: ys).Pairwise fun a b => b ≤ a := h ▸ dsc_sorted (l ++ [m])
  have h1 : (m :: (xs ++ ys)).Perm (m :: l) := (List.perm_middle.symm.trans hp).trans (List.perm_append_singleton m l)
  exact (dsc_unique (List.perm_cons m |>.1 h1) (hs.sublist (List.Sublist.append (List.Sublist.refl _) (List.sublist_cons_self _ _)))).symm
def pt (a m : Int) : Int := a * m / 1000
def lefts : Int → List Int → Int
  | a, [] => a
  | a, m :: ms => lefts (a - pt a m) ms
def Sh (ms : List Int) : Prop := ∀ m ∈ ms, 0 ≤ m ∧ m ≤ 1000
theorem pt_bd (a m : Int) (ha : 0 ≤ a) (h0 : 0 ≤ m) (h1 : m ≤ 1000) : 0 ≤ pt a m ∧ pt a m ≤ a := by
  have h2 := Int.mul_nonneg ha h0
  have h3 := Int.mul_le_mul_of_nonneg_left h1 ha
  unfold pt; omega
theorem pt_mono (a b m : Int) (h : a ≤ b) (h0 : 0 ≤ m) (h1 : m ≤ 1000) : a - pt a m ≤ b - pt b m := by
  have h3 := Int.mul_le_mul_of_nonneg_left h1 (show 0 ≤ b - a by omega)
  have h4 : (b - a) * m = b * m - a * m := Int.sub_mul b a m
  unfold pt; omega
theorem lefts_bd : ∀ (ms : List Int) (a : Int), 0 ≤ a → Sh ms → 0 ≤ lefts a ms ∧ lefts a ms ≤ a
  | [], a, ha, _ => ⟨ha, Int.le_refl _⟩
  | m :: ms, a, ha, h => by
    have hm := h m (by simp)
    have hp := pt_bd a m ha hm.1 hm.2
    have := lefts_bd ms (a - pt a m) (by omega) (fun x hx => h x (by simp [hx]))
    rw [lefts]; omega
theorem lefts_append : ∀ (xs ys : List Int) (a : Int), lefts a (xs ++ ys) = lefts (lefts a xs) ys
  | [], _, _ => rfl
  | x :: xs, ys, a => by rw [List.cons_append, lefts, lefts, lefts_append xs ys]
theorem lefts_mono : ∀ (ms : List Int) (a b : Int), a ≤ b → Sh ms → lefts a ms ≤ lefts b ms
  | [], _, _, h, _ => h
  | m :: ms, a, b, h, hs => by
    have hm := hs m (by simp)
    rw [lefts, lefts]
    exact lefts_mono ms _ _ (pt_mono a b m h hm.1 hm.2) (fun x hx => hs x (by simp [hx]))
theorem lefts_more (xs ys : List Int) (m a : Int) (ha : 0 ≤ a) (h : Sh (xs ++ m :: ys)) : lefts a (xs ++ m :: ys) ≤ lefts a (xs ++ ys) := by
  rw [lefts_append, lefts_append, lefts]
  have hm := h m (by simp)
  have hb := lefts_bd xs a ha (fun x hx => h x (by simp [hx]))
  have hp := pt_bd (lefts a xs) m hb.1 hm.1 hm.2
  exact lefts_mono ys _ _ (by omega) (fun x hx => h x (by simp [hx]))
theorem lefts_one (ms : List Int) (m a : Int) (ha : 0 ≤ a) (h : Sh ms) (hm : m ∈ ms) : lefts a ms ≤ a - pt a m := by
  obtain ⟨xs, ys, rfl⟩ := List.append_of_mem hm
  have h1 := h m (by simp)
  have hb := lefts_bd xs a ha (fun x hx => h x (by simp [hx]))
  rw [lefts_append, lefts]
  have hp := pt_bd (lefts a xs) m hb.1 h1.1 h1.2
  have h2 := (lefts_bd ys (lefts a xs - pt (lefts a xs) m) (by omega) (fun x hx => h x (by simp [hx]))).2
  have h3 := pt_mono (lefts a xs) a m hb.2 h1.1 h1.2
  omega
end Clr
end Go.Proofs.Ytmmekdkllccmdaa
