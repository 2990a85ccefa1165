/-
  Chapter 41: Corrections, Named, Extrapolated, Flat of both sides: what the walks' predicates say.
-/
import Derived.Test.YtmmekdkllccmdaaClD
namespace Go.Proofs.Ytmmekdkllccmdaa
open Go.RowKit
set_option linter.unusedVariables false
namespace Eng
namespace Clr
open Est (upV err rat)
/-! ### what is left of an amount behind findings -/
def stepL (a m : Int) : Int := a - partI a m
def leftS (ms : List Int) (a : Int) : Int := ms.foldl stepL a
theorem part_bd {a m : Int} (ha : 0 ≤ a) (hm : 0 ≤ m) (hm2 : m ≤ 1000) : 0 ≤ partI a m ∧ partI a m ≤ a := by
  obtain ⟨n, rfl⟩ := Int.eq_ofNat_of_zero_le ha
  obtain ⟨k, rfl⟩ := Int.eq_ofNat_of_zero_le hm
  unfold partI
  refine ⟨by omega, ?_⟩
  have : n * k / 1000 ≤ n := by
    have h1 : n * k ≤ n * 1000 := Nat.mul_le_mul_left _ (by omega)
    omega
  simp only [Int.toNat_natCast]
  omega
theorem step_bd {a m : Int} (ha : 0 ≤ a) (ha2 : a ≤ 68719476736) (hm : 0 ≤ m) (hm2 : m ≤ 1000) : w64 (a - partI a m) = stepL a m ∧ 0 ≤ stepL a m ∧ stepL a m ≤ a := by
  have := part_bd ha hm hm2
  unfold stepL
  refine ⟨w64_eq (by omega) (by omega), by omega, by omega⟩
theorem left_bd : ∀ (ms : List Int) {a : Int}, 0 ≤ a → a ≤ 68719476736 → (∀ m ∈ ms, 0 ≤ m ∧ m ≤ 1000) → 0 ≤ leftS ms a ∧ leftS ms a ≤ a
  | [], a, h1, h2, _ => ⟨h1, Int.le_refl _⟩
  | m :: r, a, h1, h2, h => by
    obtain ⟨_, q2, q3⟩ := step_bd h1 h2 (h m (by simp)).1 (h m (by simp)).2
    obtain ⟨p1, p2⟩ := left_bd r q2 (by omega) (fun x hx => h x (by simp [hx]))
    exact ⟨p1, by show leftS r (stepL a m) ≤ a; omega⟩
/-! ### descending -/
theorem ge_perm_eq : ∀ {l m : List Int}, l.Pairwise (fun x y => y ≤ x) → m.Pairwise (fun x y => y ≤ x) → l.Perm m → l = m
  | [], m, _, _, h => h.nil_eq
  | x :: l, [], _, _, h => absurd h.length_eq (by simp)
  | x :: l, y :: m, hl, hm, h => by
    rw [List.pairwise_cons] at hl hm
    have e : x = y := by
      have h1 : x ∈ y :: m := h.mem_iff.1 (by simp)
      have h2 : y ∈ x :: l := h.mem_iff.2 (by simp)
      rcases List.mem_cons.1 h1 with h1 | h1
      · exact h1
      · rcases List.mem_cons.1 h2 with h2 | h2
        · exact h2.symm
        · have := hl.1 y h2; have := hm.1 x h1; omega
    subst e
    rw [ge_perm_eq hl.2 hm.2 h.cons_inv]
def sd (ms : List Int) : List Int := ms.mergeSort fun a b => decide (b ≤ a)
theorem sd_perm (ms : List Int) : (sd ms).Perm ms := List.mergeSort_perm _ _
theorem sd_ge (ms : List Int) : (sd ms).Pairwise (fun x y => y ≤ x) := by
  have := List.pairwise_mergeSort (le := fun a b : Int => decide (b ≤ a)) (fun a b c h1 h2 => by simp at *; omega) (fun a b => by simp; omega) ms
  exact this.imp fun h => by simpa using h
theorem sd_eq {ms l : List Int} (h : l.Perm ms) (hl : l.Pairwise (fun x y => y ≤ x)) : l = sd ms := ge_perm_eq hl (sd_ge ms) (h.trans (sd_perm ms).symm)
theorem sd_cons {ms r : List Int} {m : Int} (h : ms.Perm (m :: r)) (hm : ∀ x ∈ r, x ≤ m) : sd ms = m :: sd r := by
  refine (sd_eq (((sd_perm r).cons m).trans h.symm) ?_).symm
  rw [List.pairwise_cons]
  exact ⟨fun x hx => hm x ((sd_perm r).mem_iff.1 hx), sd_ge r⟩
/-! ### Corrections -/
def corOf (l : List api_Finding) (s : api_Spent) : Int := s.Amount - leftS (sd ((l.filter (fun f => conB f s)).map (·.Mille))) s.Amount
def corS (l : List api_Finding) (s : List api_Spent) : List Int := if chkC l s = 0 then s.map (corOf l) else []
theorem c_l2cor (Post : List Int → Int → Prop) (e : Int → Prop) : ∀ (q : List api_Finding) (v : Int), (∀ x ∈ q, FdOK x) → 0 ≤ v → v ≤ 68719476736 → e (leftS (q.map (·.Mille)) v) → forL (c_cor_l2b Post) e q v
  | [], v, _, _, _, h => h
  | x :: q, v, hq, h1, h2, h => by
    show c_cor_l2b Post (forL (c_cor_l2b Post) e q) x v
    unfold c_cor_l2b
    have hx := hq x (by simp)
    unfold FdOK at hx
    obtain ⟨q1, q2, q3⟩ := step_bd (a := v) (m := x.Mille) h1 h2 (by omega) (by omega)
    refine ⟨⟨h1, h2, by omega, by omega⟩, ?_⟩
    rw [if_neg (by simp), q1]
    exact c_l2cor Post e q _ (fun y hy => hq y (by simp [hy])) q2 (by omega) h
theorem mil_bd {q : List api_Finding} (hq : ∀ x ∈ q, FdOK x) : ∀ m ∈ q.map (·.Mille), 0 ≤ m ∧ m ≤ 1000 := by
  intro m hm
  obtain ⟨x, hx, rfl⟩ := List.mem_map.1 hm
  have := hq x hx
  unfold FdOK at this
  omega
theorem left_sd_bd {l : List api_Finding} {s : api_Spent} (hl : ∀ x ∈ l, FdOK x) (hs : SpOK s) : 0 ≤ leftS (sd ((l.filter (fun f => conB f s)).map (·.Mille))) s.Amount ∧ leftS (sd ((l.filter (fun f => conB f s)).map (·.Mille))) s.Amount ≤ s.Amount := by
  unfold SpOK at hs
  refine left_bd _ (by omega) (by omega) fun m hm => ?_
  exact mil_bd (q := l.filter (fun f => conB f s)) (fun x hx => hl x (List.mem_filter.1 hx).1) m ((sd_perm _).mem_iff.1 hm)
theorem c_l1cor (l : List api_Finding) (hl : ∀ x ∈ l, FdOK x) (hl2 : l.length ≤ 20) (Post : List Int → Int → Prop) : ∀ (q : List api_Spent) (v : List Int), (∀ x ∈ q, SpOK x) → v.length + q.length ≤ 64 → Post (v ++ q.map (corOf l)) 0 → forL (c_cor_l1b l Post) (c_cor_l1e Post) q v
  | [], v, _, _, h => by
    have h : Post (v ++ []) 0 := h
    rw [List.append_nil] at h
    exact h
  | x :: q, v, hq, hv, h => by
    show c_cor_l1b l Post (forL (c_cor_l1b l Post) (c_cor_l1e Post) q) x v
    unfold c_cor_l1b
    simp only [List.length_cons] at hv
    have hx := hq x (by simp)
    have hx' := hx
    unfold SpOK at hx
    refine ⟨⟨by omega, by omega, hl2⟩, Nat.le_trans (List.length_filter_le _ _) hl2, fun z hz => ?_⟩
    have hzl : ∀ y ∈ z, FdOK y := fun y hy => hl y (List.mem_filter.1 (hz.1.mem_iff.1 hy)).1
    refine c_l2cor Post _ z x.Amount hzl (by omega) (by omega) ?_
    have e : z.map (·.Mille) = sd ((l.filter (fun f => conB f x)).map (·.Mille)) := sd_eq (hz.1.map _) (by rw [List.pairwise_map]; exact hz.2)
    rw [e]
    unfold c_cor_l2e
    have hb := left_sd_bd hl hx'
    rw [w64_eq (by omega) (by omega)]
    refine ⟨by unfold apOK; omega, c_l1cor l hl hl2 Post q _ (fun y hy => hq y (by simp [hy])) (by simp; omega) ?_⟩
    rw [List.append_assoc]
    exact h
theorem bc_cor (l : List api_Finding) (s : List api_Spent) : FC Try.prog 20 [.sl 5 (l.map api_Finding.av), .sl 3 (s.map api_Spent.av)] (.tup [.sl 1 ((corS l s).map avI), iD (chkC l s)]) := by
  refine FC.of2 (e1 := fun y : List Int => .sl 1 (y.map avI)) (e2 := fun y : Int => iD y) (c_cor_w l s _ ?_)
  unfold c_cor_W corS
  by_cases hc : chkC l s = 0
  · rw [if_neg (by simp [hc]), if_pos hc]
    obtain ⟨h1, h2, h3, h4⟩ := chkC_ok hc
    exact c_l1cor l (badF_ok l none h3) h1 _ s [] (badS_ok s none h4) (by simp; exact h2) ⟨rfl, hc.symm⟩
  · rw [if_pos (by simp [hc]), if_neg hc]
    exact ⟨rfl, rfl⟩
/-! ### of the reference: the greatest of those that are left -/
def cands (l : List api_Finding) (s : api_Spent) (done : List Int) : List (api_Finding × Nat) := l.zipIdx.filter fun p => conB p.1 s && !decide ((p.2 : Int) ∈ done)
theorem next_fold (l : List api_Finding) (s : api_Spent) (done : List Int) : ∀ (q : List (api_Finding × Nat)) (o : Int), (∀ p ∈ q, l[p.2]? = some p.1) →
    (q.foldl (nextS l s done) o = o ∧ (o < 0 → ∀ p ∈ q, (conB p.1 s && !decide ((p.2 : Int) ∈ done)) = false) ∧ (0 ≤ o → ∀ p ∈ q, (conB p.1 s && !decide ((p.2 : Int) ∈ done)) = true → p.1.Mille ≤ (ix l o).Mille)) ∨
    ∃ p ∈ q, q.foldl (nextS l s done) o = (p.2 : Int) ∧ (conB p.1 s && !decide ((p.2 : Int) ∈ done)) = true ∧ (∀ z ∈ q, (conB z.1 s && !decide ((z.2 : Int) ∈ done)) = true → z.1.Mille ≤ p.1.Mille) ∧ (0 ≤ o → (ix l o).Mille ≤ p.1.Mille)
  | [], o, _ => .inl ⟨rfl, fun _ p hp => (by cases hp), fun _ p hp => (by cases hp)⟩
  | p :: q, o, hq => by
    simp only [List.foldl_cons]
    have hp := hq p (by simp)
    have hix : ix l (p.2 : Int) = p.1 := ix_nat hp
    have ih := fun o => next_fold l s done q o fun z hz => hq z (by simp [hz])
    by_cases hc : ((conB p.1 s && (!decide ((p.2 : Int) ∈ done))) && (decide (o < 0) || decide ((ix l o).Mille < p.1.Mille))) = true
    · have e : nextS l s done o p = (p.2 : Int) := if_pos hc
      rw [e]
      obtain ⟨hc1, hc2⟩ := (Bool.and_eq_true _ _).mp hc
      have hoo : 0 ≤ o → (ix l o).Mille ≤ p.1.Mille := fun h => by
        simp at hc2
        omega
      right
      rcases ih (p.2 : Int) with ⟨k1, k2, k3⟩ | ⟨z, hz, k1, k2, k3, k4⟩
      · refine ⟨p, by simp, k1, hc1, fun z hz hzc => ?_, hoo⟩
        rcases List.mem_cons.1 hz with rfl | hz
        · exact Int.le_refl _
        · have := k3 (by omega) z hz hzc
          rw [hix] at this; exact this
      · have k4 := k4 (by omega)
        rw [hix] at k4
        refine ⟨z, by simp [hz], k1, k2, fun y hy hyc => ?_, fun h => by have := hoo h; omega⟩
        rcases List.mem_cons.1 hy with rfl | hy
        · exact k4
        · exact k3 y hy hyc
    · have e : nextS l s done o p = o := if_neg hc
      rw [e]
      have hno : (conB p.1 s && !decide ((p.2 : Int) ∈ done)) = true → 0 ≤ o ∧ p.1.Mille ≤ (ix l o).Mille := fun h => by
        rw [h] at hc
        simp at hc
        omega
      rcases ih o with ⟨k1, k2, k3⟩ | ⟨z, hz, k1, k2, k3, k4⟩
      · left
        refine ⟨k1, fun h y hy => ?_, fun h y hy hyc => ?_⟩
        · rcases List.mem_cons.1 hy with rfl | hy
          · rw [Bool.eq_false_iff]; intro hh; have := (hno hh).1; omega
          · exact k2 h y hy
        · rcases List.mem_cons.1 hy with rfl | hy
          · exact (hno hyc).2
          · exact k3 h y hy hyc
      · right
        refine ⟨z, by simp [hz], k1, k2, fun y hy hyc => ?_, k4⟩
        rcases List.mem_cons.1 hy with rfl | hy
        · obtain ⟨h1, h2⟩ := hno hyc
          have := k4 h1
          omega
        · exact k3 y hy hyc
theorem zip_get {l : List api_Finding} {p : api_Finding × Nat} (h : p ∈ l.zipIdx) : l[p.2]? = some p.1 := by
  obtain ⟨x, i⟩ := p
  rw [List.mem_zipIdx_iff_getElem?] at h
  exact h
theorem next_spec (l : List api_Finding) (s : api_Spent) (done : List Int) : (nextI l s done = -1 ∧ cands l s done = []) ∨ ∃ p ∈ cands l s done, nextI l s done = (p.2 : Int) ∧ ∀ z ∈ cands l s done, z.1.Mille ≤ p.1.Mille := by
  unfold nextI cands
  rcases next_fold l s done l.zipIdx (-1) (fun p hp => zip_get hp) with ⟨k1, k2, _⟩ | ⟨p, hp, k1, k2, k3, _⟩
  · left
    refine ⟨k1, ?_⟩
    rw [List.filter_eq_nil_iff]
    intro p hp h
    rw [k2 (by omega) p hp] at h
    cases h
  · right
    exact ⟨p, List.mem_filter.2 ⟨hp, k2⟩, k1, fun z hz => k3 z (List.mem_filter.1 hz).1 (List.mem_filter.1 hz).2⟩
theorem zip_nodup (l : List api_Finding) : l.zipIdx.Nodup := by
  rw [List.nodup_iff_pairwise_ne, List.pairwise_iff_getElem]
  intro i j hi hj hij e
  simp only [List.getElem_zipIdx] at e
  injection e with _ e
  omega
theorem cands_next {l : List api_Finding} {s : api_Spent} {done : List Int} {p : api_Finding × Nat} (hp : p ∈ cands l s done) : (cands l s done).Perm (p :: cands l s (done ++ [(p.2 : Int)])) := by
  have hn : (cands l s done).Nodup := (zip_nodup l).filter _
  refine (List.perm_cons_erase hp).trans (List.Perm.of_eq ?_)
  congr 1
  rw [hn.erase_eq_filter]
  unfold cands
  rw [List.filter_filter]
  refine List.filter_congr fun z hz => ?_
  have hpz : p ∈ l.zipIdx := (List.mem_filter.1 hp).1
  have hiff : z = p ↔ z.2 = p.2 := ⟨fun h => by rw [h], fun h => by
    have h1 := zip_get hz
    have h2 := zip_get hpz
    rw [h, h2] at h1
    injection h1 with h1
    exact Prod.ext h1.symm h⟩
  rw [Bool.eq_iff_iff]
  simp [hiff]
  constructor
  · rintro ⟨h1, h2, h3⟩
    exact ⟨h2, h3, fun h => h1 (by omega)⟩
  · rintro ⟨h1, h2, h3⟩
    exact ⟨fun h => h3 (by omega), h1, h2⟩
theorem r_l2cor (l : List api_Finding) (hl : ∀ x ∈ l, FdOK x) (hl2 : l.length ≤ 20) (s : api_Spent) (hs : SpOK s) (Post : List Int → Int → Prop) (v : List Int) (hv : v.length < 64) (rec1 : List Int → Prop) : ∀ (n : Nat) (left : Int) (done : List Int), (cands l s done).length = n → done.length + n ≤ 20 → 0 ≤ left → left ≤ s.Amount →
    rec1 (v ++ [s.Amount - leftS (sd ((cands l s done).map (·.1.Mille))) left]) → forF (r_cor_l2b l Post v rec1 s) (n + 1) (left, nextI l s done, done)
  | n, left, done, hn, hd, h1, h2, h => by
    show r_cor_l2b l Post v rec1 s (forF (r_cor_l2b l Post v rec1 s) n) (left, nextI l s done, done)
    unfold r_cor_l2b
    have hs' := hs
    unfold SpOK at hs
    rcases next_spec l s done with ⟨e, hc⟩ | ⟨p, hp, e, hmax⟩
    · simp only [e]
      rw [hc] at h
      rw [if_neg (by decide)]
      refine ⟨by unfold apOK; omega, ?_⟩
      rw [show sd (List.map (fun x : api_Finding × Nat => x.1.Mille) []) = [] by simp [sd]] at h
      have h : rec1 (v ++ [s.Amount - left]) := h
      rw [w64_eq (by omega) (by omega)]
      exact h
    · simp only [e]
      rw [if_pos (by simp)]
      have hpm := List.mem_filter.1 hp
      have hg := zip_get hpm.1
      have hix : ix l (p.2 : Int) = p.1 := ix_nat hg
      have hfd := hl p.1 (List.mem_of_getElem? hg)
      unfold FdOK at hfd
      have hperm := cands_next hp
      have hlen := hperm.length_eq
      rw [hn, List.length_cons] at hlen
      rw [hix]
      obtain ⟨q1, q2, q3⟩ := step_bd (a := left) (m := p.1.Mille) h1 (by omega) (by omega) (by omega)
      refine ⟨inb_nat (List.getElem?_eq_some_iff.1 hg).1, ⟨h1, by omega, by omega, by omega⟩, ?_⟩
      rw [if_neg (by simp)]
      refine ⟨by unfold apOK; omega, ⟨by omega, by omega, hl2, by simp; omega⟩, ?_⟩
      rw [q1]
      obtain ⟨k, rfl⟩ : ∃ k, n = k + 1 := ⟨n - 1, by omega⟩
      refine r_l2cor l hl hl2 s hs' Post v hv rec1 k _ _ (by omega) (by simp; omega) q2 (by omega) ?_
      rw [sd_cons (hperm.map (·.1.Mille)) (fun x hx => by
        obtain ⟨z, hz, rfl⟩ := List.mem_map.1 hx
        exact hmax z (hperm.mem_iff.2 (by simp [hz])))] at h
      exact h
  termination_by n => n
theorem cands_nil (l : List api_Finding) (s : api_Spent) : (cands l s []).map (·.1.Mille) = (l.filter (fun f => conB f s)).map (·.Mille) := by
  unfold cands
  have : ∀ (l : List api_Finding) (k : Nat), ((l.zipIdx k).filter fun p => conB p.1 s && !decide ((p.2 : Int) ∈ ([] : List Int))).map (·.1.Mille) = (l.filter (fun f => conB f s)).map (·.Mille) := by
    intro l
    induction l with
    | nil => intro k; rfl
    | cons x r ih =>
      intro k
      rw [List.zipIdx_cons, List.filter_cons, List.filter_cons]
      by_cases hc : conB x s = true
      · rw [if_pos (by simp [hc]), if_pos hc, List.map_cons, List.map_cons, ih]
      · rw [if_neg (by simp [hc]), if_neg hc, ih]
  exact this l 0
theorem cands_len (l : List api_Finding) (s : api_Spent) (d : List Int) : (cands l s d).length ≤ l.length := by
  unfold cands
  exact Nat.le_trans (List.length_filter_le _ _) (by simp)
theorem r_l1cor (l : List api_Finding) (hl : ∀ x ∈ l, FdOK x) (hl2 : l.length ≤ 20) (Post : List Int → Int → Prop) : ∀ (q : List api_Spent) (v : List Int), (∀ x ∈ q, SpOK x) → v.length + q.length ≤ 64 → Post (v ++ q.map (corOf l)) 0 → forL (r_cor_l1b l Post) (r_cor_l1e Post) q v
  | [], v, _, _, h => by
    have h : Post (v ++ []) 0 := h
    rw [List.append_nil] at h
    exact h
  | x :: q, v, hq, hv, h => by
    show r_cor_l1b l Post (forL (r_cor_l1b l Post) (r_cor_l1e Post) q) x v
    unfold r_cor_l1b
    simp only [List.length_cons] at hv
    have hx := hq x (by simp)
    have hx' := hx
    unfold SpOK at hx
    have hcl := cands_len l x []
    refine ⟨⟨by omega, by omega, hl2, by simp⟩, (cands l x []).length + 1, r_l2cor l hl hl2 x hx' Post v (by omega) _ _ x.Amount [] rfl (by simp; omega) (by omega) (Int.le_refl _) ?_⟩
    rw [cands_nil]
    refine r_l1cor l hl hl2 Post q _ (fun y hy => hq y (by simp [hy])) (by simp; omega) ?_
    rw [List.append_assoc]
    exact h
theorem br_cor (l : List api_Finding) (s : List api_Spent) : FC Try.prog 21 [.sl 5 (l.map api_Finding.av), .sl 3 (s.map api_Spent.av)] (.tup [.sl 1 ((corS l s).map avI), iD (chkC l s)]) := by
  refine FC.of2 (e1 := fun y : List Int => .sl 1 (y.map avI)) (e2 := fun y : Int => iD y) (r_cor_w l s _ ?_)
  unfold r_cor_W corS
  by_cases hc : chkC l s = 0
  · rw [if_neg (by simp [hc]), if_pos hc]
    obtain ⟨h1, h2, h3, h4⟩ := chkC_ok hc
    exact r_l1cor l (badF_ok l none h3) h1 _ s [] (badS_ok s none h4) (by simp; exact h2) ⟨rfl, hc.symm⟩
  · rw [if_pos (by simp [hc]), if_neg hc]
    exact ⟨rfl, rfl⟩
end Clr
end Eng
end Go.Proofs.Ytmmekdkllccmdaa
