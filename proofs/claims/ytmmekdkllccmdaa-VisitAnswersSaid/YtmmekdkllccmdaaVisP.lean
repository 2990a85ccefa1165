/-
  Plain laws of chapter 27: the order of reports does not matter.
-/
import Derived.Test.YtmmekdkllccmdaaVisF
namespace Go.Proofs.Ytmmekdkllccmdaa
open Go.RowKit
set_option linter.unusedVariables false
namespace Eng
namespace Vis
theorem chk_ok : ∀ (l : List Rep) (seen : List Int), (∀ x ∈ l, rightB x = true) → (l.map (·.n)).Nodup → (∀ x ∈ l, ¬ x.n ∈ seen) → chk seen l = 0
  | [], _, _, _, _ => rfl
  | x :: r, seen, h1, h2, h3 => by
    rw [List.map_cons, List.nodup_cons] at h2
    have e : seen.contains x.n = false := by simpa using h3 x (by simp)
    simp only [chk]
    rw [if_pos (h1 x (by simp)), if_neg (by rw [e]; decide)]
    refine chk_ok r _ (fun y hy => h1 y (by simp [hy])) h2.2 (fun y hy hm => ?_)
    rcases List.mem_append.1 hm with h | h
    · exact h3 y (by simp [hy]) h
    · rw [List.mem_singleton] at h
      exact h2.1 (List.mem_map.2 ⟨y, hy, h⟩)
theorem RepOK.right {most : Nat} {l : List Rep} (h : RepOK most l) (hm : most ≤ 100) {x : Rep} (hx : x ∈ l) : rightB x = true := by
  have := h.all x hx
  unfold rightB
  simp only [decide_eq_true_eq]
  omega
theorem RepOK.chk {most : Nat} {l : List Rep} (h : RepOK most l) (hm : most ≤ 100) : chkE l = 0 := by
  unfold chkE
  rw [if_neg (by have := h.len; omega)]
  exact chk_ok l [] (fun x hx => h.right hm hx) h.nod (fun x _ h => by simp at h)
theorem cmpR_pos (x y : Rep) : cmpR x y > 0 ↔ y.d < x.d ∨ (x.d = y.d ∧ y.n < x.n) := by
  unfold cmpR orZ cmpZ
  by_cases h1 : x.d < y.d <;> by_cases h2 : x.d > y.d <;> by_cases h3 : x.n < y.n <;> by_cases h4 : x.n > y.n <;> simp [h1, h2, h3, h4] <;> omega
theorem maxF_spec : ∀ (r : List Rep) (x : Rep), maxF cmpR x r ∈ x :: r ∧ ∀ y ∈ x :: r, ¬ cmpR y (maxF cmpR x r) > 0
  | [], x => ⟨by simp [maxF], fun y hy => by simp at hy; subst hy; rw [cmpR_pos]; show ¬ (y.d < y.d ∨ (y.d = y.d ∧ y.n < y.n)); omega⟩
  | z :: r, x => by
    have e : maxF cmpR x (z :: r) = maxF cmpR (if decide (cmpR z x > 0) then z else x) r := rfl
    rw [e]
    obtain ⟨h1, h2⟩ := maxF_spec r (if decide (cmpR z x > 0) then z else x)
    generalize maxF cmpR (if decide (cmpR z x > 0) then z else x) r = m at h1 h2 ⊢
    by_cases hc : cmpR z x > 0
    · rw [if_pos (by simpa using hc)] at h1 h2
      refine ⟨by rcases List.mem_cons.1 h1 with h | h <;> simp [h], fun y hy => ?_⟩
      rcases List.mem_cons.1 hy with rfl | hy
      · have := h2 z (by simp)
        rw [cmpR_pos] at this hc ⊢
        omega
      · exact h2 y hy
    · rw [if_neg (by simpa using hc)] at h1 h2
      refine ⟨by rcases List.mem_cons.1 h1 with h | h <;> simp [h], fun y hy => ?_⟩
      rcases List.mem_cons.1 hy with rfl | hy
      · exact h2 y (by simp)
      · rcases List.mem_cons.1 hy with rfl | hy
        · have := h2 x (by simp)
          rw [cmpR_pos] at this hc ⊢
          omega
        · exact h2 y (by simp [hy])
theorem inj_n : ∀ {l : List Rep}, (l.map (·.n)).Nodup → ∀ {x y : Rep}, x ∈ l → y ∈ l → x.n = y.n → x = y
  | [], _, x, y, h, _, _ => by cases h
  | z :: r, hn, x, y, hx, hy, e => by
    rw [List.map_cons, List.nodup_cons] at hn
    rcases List.mem_cons.1 hx with rfl | hx
    · rcases List.mem_cons.1 hy with rfl | hy
      · rfl
      · exact absurd (List.mem_map.2 ⟨y, hy, e.symm⟩) hn.1
    · rcases List.mem_cons.1 hy with h | hy
      · exact absurd (List.mem_map.2 ⟨x, hx, e.trans (congrArg Rep.n h)⟩) hn.1
      · exact inj_n hn.2 hx hy e
theorem seenOf_perm {l l' : List Rep} (hp : l.Perm l') (hn : (l.map (·.n)).Nodup) : seenOf l = seenOf l' := by
  cases l with
  | nil => rw [List.Perm.nil_eq hp]
  | cons x r =>
    cases l' with
    | nil => exact absurd hp.symm.nil_eq (by simp)
    | cons y s =>
      obtain ⟨h1, h2⟩ := maxF_spec r x
      obtain ⟨h3, h4⟩ := maxF_spec s y
      have e : maxF cmpR x r = maxF cmpR y s := by
        refine inj_n hn h1 (hp.mem_iff.2 h3) ?_
        have k1 := h2 _ (hp.mem_iff.2 h3)
        have k2 := h4 _ (hp.mem_iff.1 h1)
        rw [cmpR_pos] at k1 k2
        omega
      simp only [seenOf, e]
theorem any_perm {l l' : List Rep} (hp : l.Perm l') (p : Rep → Bool) : l.any p = l'.any p := by
  rw [Bool.eq_iff_iff, List.any_eq_true, List.any_eq_true]
  constructor
  · rintro ⟨x, h, q⟩; exact ⟨x, hp.mem_iff.1 h, q⟩
  · rintro ⟨x, h, q⟩; exact ⟨x, hp.mem_iff.2 h, q⟩
theorem nodup_filter {l : List Rep} (p : Rep → Bool) (hn : (l.map (·.n)).Nodup) : ((l.filter p).map (·.n)).Nodup := hn.sublist ((List.filter_sublist).map _)
theorem lineS_perm {l l' : List Rep} (hp : l.Perm l') (hn : (l.map (·.n)).Nodup) (h1 : chkE l = 0) (h2 : chkE l' = 0) (farm line : Int) : lineS l farm line = lineS l' farm line := by
  unfold lineS
  rw [h1, h2, any_perm hp, seenOf_perm (hp.filter _) (nodup_filter _ hn)]
theorem last_step (farm : Int) (m : Int) (x y : Rep) : (fun m x => if decide ((x : Rep).f = farm) then (if m < x.d then x.d else m) else m) ((fun m x => if decide ((x : Rep).f = farm) then (if m < x.d then x.d else m) else m) m x) y = (fun m x => if decide ((x : Rep).f = farm) then (if m < x.d then x.d else m) else m) ((fun m x => if decide ((x : Rep).f = farm) then (if m < x.d then x.d else m) else m) m y) x := by
  simp only [decide_eq_true_eq]
  repeat' split
  all_goals omega
theorem lastS_perm {l l' : List Rep} (hp : l.Perm l') (h1 : chkE l = 0) (h2 : chkE l' = 0) (farm : Int) : lastS l farm = lastS l' farm := by
  unfold lastS
  rw [h1, h2]
  simp only [decide_true, if_true]
  clear h1 h2
  generalize (-1 : Int) = m
  induction hp generalizing m with
  | nil => rfl
  | cons x _ ih => exact ih _
  | swap x y l =>
    have e := last_step farm m y x
    simp only at e
    simp only [List.foldl_cons]
    rw [e]
  | trans _ _ ih1 ih2 => exact (ih1 m).trans (ih2 m)
/-! ### into a law -/
def srcCells (a : Option Addr) (len : Nat) : Cells := fun b o => ∃ off, a = some ⟨b, off, none⟩ ∧ off ≤ o ∧ o < off + len
theorem src_of {w : World} {a : Option Addr} {len cap : Nat} (h : Keep.IntsAt w a len cap) : (∀ b o, srcCells a len b o → b < w.heap.size) ∧ SrcAt w (srcCells a len) a len cap := by
  obtain ⟨h1, h2, h3, h4⟩ := h
  refine ⟨fun b o ⟨off, ha, k1, k2⟩ => ?_, h1, h2, h3, fun hl => ?_⟩
  · obtain ⟨bl, off', ha', hc⟩ := h4 (by omega)
    rw [ha] at ha'
    injection ha' with ha'
    injection ha' with e1 e2
    obtain ⟨z, hz⟩ := hc 0 (by omega)
    have := World.block_lt_of_cell? w _ hz
    simp only at this
    omega
  · obtain ⟨bl, off, ha, hc⟩ := h4 hl
    exact ⟨bl, off, ha, fun i hi => ⟨⟨off, ha, by omega, by omega⟩, hc i hi⟩⟩
end Vis
end Eng
end Go.Proofs.Ytmmekdkllccmdaa
