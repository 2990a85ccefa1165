/-
  Chapter 22, in plain words: the faces of lines, and what is claimed twice.
-/
import Derived.Test.YtblcakaohlgagaaGreatUPlain
import Derived.Test.YtblcakaohlgagaaGreatUCopA
import Derived.Test.YtblcakaohlgagaaGreatUReg
import Derived.Test.YtblcakaohlgagaaGreatUEngC
set_option linter.unusedVariables false
set_option maxRecDepth 100000
namespace Go.Proofs.YtblcakaohlgagaaGreat
open Go.RowKit
namespace RE
open PL
namespace PL
abbrev Ln := crosscheck_line
abbrev Fc := crosscheck_face
noncomputable def andC (a b : List Rc) : List Rc := canonF (comb (howS 2) a b)
noncomputable def notC (a b : List Rc) : List Rc := canonF (comb (howS 3) a b)
/-- Who claims a square, in the order of the lines. -/
def who (L : List Ln) (x y : Int) : List api_Place := (L.filter fun l => cov l.rects x y).map (·.place)
def optF (r : List Rc) (c : List api_Place) : List Fc := if r = [] then [] else [⟨r, c⟩]
noncomputable def face1 (x : Ln) (f : Fc) : List Fc := optF (andC f.rects x.rects) (f.claims ++ [x.place]) ++ optF (notC f.rects x.rects) f.claims
noncomputable def faceStep (F : List Fc) (seen : List Rc) (x : Ln) : List Fc := F.flatMap (face1 x) ++ optF (notC x.rects seen) [x.place]
noncomputable def facesG : List Fc → List Rc → List Ln → List Fc
  | F, _, [] => F
  | F, seen, x :: L => facesG (faceStep F seen x) (seen ++ x.rects) L
noncomputable def facesS (L : List Ln) : List Fc := facesG [] [] L
structure FacesOK (L : List Ln) (F : List Fc) : Prop where
  each : ∀ f ∈ F, Canon f.rects ∧ f.rects ≠ [] ∧ f.claims ≠ [] ∧ ∀ x y, cov f.rects x y = true → who L x y = f.claims
  all : ∀ x y, who L x y ≠ [] → ∃ f ∈ F, cov f.rects x y = true
  ne : F.Pairwise fun f g => f.claims ≠ g.claims
end PL
theorem cov_and {a b : List Rc} {x y : Int} : cov (andC a b) x y = true ↔ cov a x y = true ∧ cov b x y = true := by
  unfold andC
  rw [(comb_ok (howS_0 2) a b).2]
  unfold comb howS
  simp
theorem cov_not {a b : List Rc} {x y : Int} : cov (notC a b) x y = true ↔ cov a x y = true ∧ cov b x y = false := by
  unfold notC
  rw [(comb_ok (howS_0 3) a b).2]
  unfold comb howS
  simp
theorem can_and (a b : List Rc) : Canon (andC a b) := (comb_ok (howS_0 2) a b).1
theorem can_not (a b : List Rc) : Canon (notC a b) := (comb_ok (howS_0 3) a b).1
theorem canon_some {l : List Rc} (h : Canon l) (hn : l ≠ []) : ∃ x y, cov l x y = true := by
  apply Classical.byContradiction
  intro hc
  refine hn ((canon_none h).2 fun x y => ?_)
  cases e : cov l x y
  · rfl
  · exact absurd ⟨x, y, e⟩ hc
theorem mem_opt {r : List Rc} {c : List api_Place} {g : Fc} : g ∈ optF r c ↔ r ≠ [] ∧ g = ⟨r, c⟩ := by
  unfold optF
  split <;> simp_all
theorem who_snoc {L : List Ln} {l : Ln} {x y : Int} : who (L ++ [l]) x y = who L x y ++ (if cov l.rects x y = true then [l.place] else []) := by
  unfold who
  rw [List.filter_append, List.map_append]
  congr 1
  by_cases h : cov l.rects x y = true
  · simp [h]
  · simp [h]
theorem who_mem {L : List Ln} {x y : Int} {p : api_Place} : p ∈ who L x y ↔ ∃ l ∈ L, cov l.rects x y = true ∧ l.place = p := by
  unfold who
  simp only [List.mem_map, List.mem_filter]
  constructor
  · rintro ⟨l, ⟨h1, h2⟩, h3⟩; exact ⟨l, h1, h2, h3⟩
  · rintro ⟨l, h1, h2, h3⟩; exact ⟨l, ⟨h1, h2⟩, h3⟩
theorem who_nil {L : List Ln} {x y : Int} : who L x y = [] ↔ cov (L.flatMap (·.rects)) x y = false := by
  constructor
  · intro h
    cases e : cov (L.flatMap (·.rects)) x y
    · rfl
    · unfold cov at e
      rw [List.any_eq_true] at e
      obtain ⟨r, hr, h2⟩ := e
      obtain ⟨l, hl, hr⟩ := List.mem_flatMap.1 hr
      have : l.place ∈ who L x y := who_mem.2 ⟨l, hl, by unfold cov; exact List.any_eq_true.2 ⟨r, hr, h2⟩, rfl⟩
      rw [h] at this; cases this
  · intro h
    apply Classical.byContradiction
    intro hn
    obtain ⟨p, hp⟩ := List.exists_mem_of_ne_nil _ hn
    obtain ⟨l, hl, hc, _⟩ := who_mem.1 hp
    unfold cov at hc h
    rw [List.any_eq_true] at hc
    obtain ⟨r, hr, h2⟩ := hc
    have : (L.flatMap (·.rects)).any (fun r => hit r x y) = true := List.any_eq_true.2 ⟨r, List.mem_flatMap.2 ⟨l, hl, hr⟩, h2⟩
    rw [h] at this; cases this
theorem faces_nil : FacesOK [] [] := ⟨fun f hf => (by cases hf), fun x y h => absurd rfl h, List.Pairwise.nil⟩
theorem mem_face1 {x : Ln} {f g : Fc} : g ∈ face1 x f ↔ (andC f.rects x.rects ≠ [] ∧ g = ⟨andC f.rects x.rects, f.claims ++ [x.place]⟩) ∨ (notC f.rects x.rects ≠ [] ∧ g = ⟨notC f.rects x.rects, f.claims⟩) := by
  unfold face1
  rw [List.mem_append, mem_opt, mem_opt]
theorem claims_sub {L : List Ln} {F : List Fc} (h : FacesOK L F) {f : Fc} (hf : f ∈ F) {p : api_Place} (hp : p ∈ f.claims) : ∃ l ∈ L, l.place = p := by
  obtain ⟨h1, h2, _, h3⟩ := h.each f hf
  obtain ⟨x, y, hc⟩ := canon_some h1 h2
  rw [← h3 x y hc] at hp
  obtain ⟨l, hl, _, e⟩ := who_mem.1 hp
  exact ⟨l, hl, e⟩
theorem snoc_ne {α : Type} {l : List α} {a : α} : l ++ [a] ≠ [] := by simp
theorem faces_step {L : List Ln} {F : List Fc} {l : Ln} (h : FacesOK L F) (hl : ∀ m ∈ L, m.place ≠ l.place) : FacesOK (L ++ [l]) (faceStep F (L.flatMap (·.rects)) l) := by
  have hfresh : ∀ f ∈ F, l.place ∉ f.claims := fun f hf hp => by
    obtain ⟨m, hm, e⟩ := claims_sub h hf hp
    exact hl m hm e
  refine ⟨fun g hg => ?_, fun x y hw => ?_, ?_⟩
  · unfold faceStep at hg
    rcases List.mem_append.1 hg with hg | hg
    · obtain ⟨f, hf, hg⟩ := List.mem_flatMap.1 hg
      obtain ⟨f1, f2, f3, f4⟩ := h.each f hf
      rcases mem_face1.1 hg with ⟨hn, rfl⟩ | ⟨hn, rfl⟩
      · refine ⟨can_and _ _, hn, snoc_ne, fun x y hc => ?_⟩
        obtain ⟨c1, c2⟩ := cov_and.1 hc
        rw [who_snoc, if_pos c2, f4 x y c1]
      · refine ⟨can_not _ _, hn, f3, fun x y hc => ?_⟩
        obtain ⟨c1, c2⟩ := cov_not.1 hc
        rw [who_snoc, if_neg (by simp [c2]), f4 x y c1, List.append_nil]
    · obtain ⟨hn, rfl⟩ := mem_opt.1 hg
      refine ⟨can_not _ _, hn, by simp, fun x y hc => ?_⟩
      obtain ⟨c1, c2⟩ := cov_not.1 hc
      rw [who_snoc, if_pos c1, who_nil.2 c2, List.nil_append]
  · unfold faceStep
    rw [who_snoc] at hw
    by_cases h0 : who L x y = []
    · have c2 := who_nil.1 h0
      rw [h0, List.nil_append] at hw
      have c1 : cov l.rects x y = true := by
        apply Classical.byContradiction
        intro hn; rw [if_neg hn] at hw; exact hw rfl
      have hc : cov (notC l.rects (L.flatMap (·.rects))) x y = true := cov_not.2 ⟨c1, c2⟩
      refine ⟨⟨notC l.rects (L.flatMap (·.rects)), [l.place]⟩, List.mem_append.2 (.inr (mem_opt.2 ⟨fun e => ?_, rfl⟩)), hc⟩
      rw [e] at hc; cases hc
    · obtain ⟨f, hf, c1⟩ := h.all x y h0
      by_cases c2 : cov l.rects x y = true
      · have hc : cov (andC f.rects l.rects) x y = true := cov_and.2 ⟨c1, c2⟩
        refine ⟨⟨andC f.rects l.rects, f.claims ++ [l.place]⟩, List.mem_append.2 (.inl (List.mem_flatMap.2 ⟨f, hf, mem_face1.2 (.inl ⟨fun e => ?_, rfl⟩)⟩)), hc⟩
        rw [e] at hc; cases hc
      · have hc : cov (notC f.rects l.rects) x y = true := cov_not.2 ⟨c1, by simpa using c2⟩
        refine ⟨⟨notC f.rects l.rects, f.claims⟩, List.mem_append.2 (.inl (List.mem_flatMap.2 ⟨f, hf, mem_face1.2 (.inr ⟨fun e => ?_, rfl⟩)⟩)), hc⟩
        rw [e] at hc; cases hc
  · unfold faceStep
    rw [List.pairwise_append]
    refine ⟨?_, ?_, ?_⟩
    · rw [List.pairwise_flatMap]
      refine ⟨fun f hf => ?_, h.ne.imp_of_mem fun {f g} hf hg hne a ha b hb => ?_⟩
      · unfold face1
        rw [List.pairwise_append]
        refine ⟨by unfold optF; split <;> simp, by unfold optF; split <;> simp, fun a ha b hb => ?_⟩
        obtain ⟨_, rfl⟩ := mem_opt.1 ha
        obtain ⟨_, rfl⟩ := mem_opt.1 hb
        simp
      · rcases mem_face1.1 ha with ⟨_, rfl⟩ | ⟨_, rfl⟩ <;> rcases mem_face1.1 hb with ⟨_, rfl⟩ | ⟨_, rfl⟩
        · intro e; exact hne (List.append_inj_left' e rfl)
        · intro e
          exact hfresh g hg (by rw [← e]; simp)
        · intro e
          exact hfresh f hf (by rw [e]; simp)
        · exact hne
    · unfold optF; split <;> simp
    · intro a ha b hb
      obtain ⟨f, hf, ha⟩ := List.mem_flatMap.1 ha
      obtain ⟨_, rfl⟩ := mem_opt.1 hb
      obtain ⟨_, _, f3, _⟩ := h.each f hf
      rcases mem_face1.1 ha with ⟨_, rfl⟩ | ⟨_, rfl⟩
      · intro e
        have e : f.claims ++ [l.place] = [] ++ [l.place] := e
        exact f3 (List.append_inj_left' e rfl)
      · intro e
        exact hfresh f hf (by rw [e]; simp)
theorem facesG_ok : ∀ {M L : List Ln} {F : List Fc}, FacesOK L F → ((L ++ M).map (·.place)).Nodup → FacesOK (L ++ M) (facesG F (L.flatMap (·.rects)) M)
  | [], L, F, h, _ => by rw [List.append_nil]; exact h
  | x :: M, L, F, h, hn => by
    have e : L ++ x :: M = (L ++ [x]) ++ M := by simp
    rw [e] at hn ⊢
    have hx : ∀ m ∈ L, m.place ≠ x.place := fun m hm he => by
      rw [List.map_append, List.map_append, List.nodup_append, List.nodup_append] at hn
      exact hn.1.2.2 m.place (List.mem_map.2 ⟨m, hm, rfl⟩) x.place (by simp) he
    have := facesG_ok (M := M) (faces_step h hx) hn
    rw [List.flatMap_append] at this
    simpa [facesG] using this
theorem faces_ok {L : List Ln} (h : (L.map (·.place)).Nodup) : FacesOK L (facesS L) := facesG_ok (M := L) faces_nil h
theorem optF_len {r : List Rc} {c : List api_Place} : (optF r c).length ≤ 1 := by unfold optF; split <;> simp
theorem step_len {F : List Fc} {seen : List Rc} {x : Ln} : (faceStep F seen x).length ≤ 2 * F.length + 1 := by
  unfold faceStep
  rw [List.length_append]
  have h : ∀ F : List Fc, (F.flatMap (face1 x)).length ≤ 2 * F.length := fun F => by
    induction F with
    | nil => simp
    | cons f F ih =>
      rw [List.flatMap_cons, List.length_append, List.length_cons]
      have : (face1 x f).length ≤ 2 := by
        unfold face1
        rw [List.length_append]
        have := optF_len (r := andC f.rects x.rects) (c := f.claims ++ [x.place])
        have := optF_len (r := notC f.rects x.rects) (c := f.claims)
        omega
      omega
  have := h F
  have := optF_len (r := notC x.rects seen) (c := [x.place])
  omega
theorem facesG_app : ∀ {M : List Ln} {F : List Fc} {seen : List Rc} {x : Ln}, facesG F seen (M ++ [x]) = faceStep (facesG F seen M) (seen ++ M.flatMap (·.rects)) x
  | [], F, seen, x => by simp [facesG]
  | m :: M, F, seen, x => by
    show facesG _ _ (M ++ [x]) = _
    rw [facesG_app]
    simp [facesG]
end RE
end Go.Proofs.YtblcakaohlgagaaGreat
set_option linter.unusedVariables false
set_option maxRecDepth 100000
namespace Go.Proofs.YtblcakaohlgagaaGreat
open Go.RowKit
namespace RE
open PL
namespace PL
abbrev Dbl := api_Double
/-- Does a list of places come before another one? -/
def befP : List api_Place → List api_Place → Bool
  | [], [] => false
  | [], _ :: _ => true
  | _ :: _, [] => false
  | a :: s, b :: t => if a.1 < b.1 then true else if b.1 < a.1 then false else if a.2 < b.2 then true else if b.2 < a.2 then false else befP s t
def toD (f : Fc) : Dbl := ⟨⟨f.rects⟩, f.claims⟩
def two (F : List Fc) : List Fc := F.filter fun f => decide (2 ≤ f.claims.length)
/-- What is claimed twice, in order. -/
def dblsP (L : List Ln) (ds : List Dbl) : Prop := ds.Perm ((two (facesS L)).map toD) ∧ ds.Pairwise (fun a b => befP a.Claims b.Claims = true)
def insD (d : Dbl) (l : List Dbl) : List Dbl := l.takeWhile (fun a => befP a.Claims d.Claims) ++ d :: l.dropWhile (fun a => befP a.Claims d.Claims)
def sortD (l : List Dbl) : List Dbl := l.foldl (fun o d => insD d o) []
end PL
theorem place_ext {a b : api_Place} (h1 : a.1 = b.1) (h2 : a.2 = b.2) : a = b := by
  cases a; cases b; cases h1; cases h2; rfl
theorem bef_irr : ∀ a : List api_Place, befP a a = false
  | [] => rfl
  | a :: s => by
    unfold befP
    rw [if_neg (Int.lt_irrefl _), if_neg (Int.lt_irrefl _), if_neg (Int.lt_irrefl _), if_neg (Int.lt_irrefl _)]
    exact bef_irr s
theorem bef_trans : ∀ {a b c : List api_Place}, befP a b = true → befP b c = true → befP a c = true
  | [], [], c, h, _ => by cases h
  | [], _ :: _, [], _, k => by cases k
  | [], _ :: _, _ :: _, _, _ => rfl
  | _ :: _, [], c, h, _ => by cases h
  | _ :: _, _ :: _, [], _, k => by cases k
  | a :: s, b :: t, c :: u, h, k => by
    have ih := bef_trans (a := s) (b := t) (c := u)
    unfold befP at h k ⊢
    repeat' split at h
    all_goals first
      | (cases h; done)
      | (repeat' split at k
         all_goals first
          | (cases k; done)
          | (repeat' split
             all_goals first | rfl | (exfalso; omega) | exact ih h k))
theorem bef_tri : ∀ {a b : List api_Place}, a ≠ b → befP a b = true ∨ befP b a = true
  | [], [], h => absurd rfl h
  | [], _ :: _, _ => .inl rfl
  | _ :: _, [], _ => .inr rfl
  | a :: s, b :: t, h => by
    have ih := bef_tri (a := s) (b := t)
    unfold befP
    by_cases h1 : a.1 < b.1
    · rw [if_pos h1]; exact .inl rfl
    by_cases h2 : b.1 < a.1
    · refine .inr ?_; rw [if_pos h2]
    by_cases h3 : a.2 < b.2
    · rw [if_neg h1, if_neg h2, if_pos h3]; exact .inl rfl
    by_cases h4 : b.2 < a.2
    · refine .inr ?_; rw [if_neg h2, if_neg h1, if_pos h4]
    rw [if_neg h1, if_neg h2, if_neg h3, if_neg h4, if_neg h2, if_neg h1, if_neg h4, if_neg h3]
    refine ih fun e => h ?_
    rw [e, place_ext (a := a) (b := b) (by omega) (by omega)]
theorem bef_ne {a b : List api_Place} (h : befP a b = true) : a ≠ b := fun e => by
  rw [e, bef_irr] at h; cases h
theorem insD_perm {d : Dbl} {l : List Dbl} : (insD d l).Perm (d :: l) := by
  unfold insD
  have := List.perm_middle (a := d) (l₁ := l.takeWhile (fun a => befP a.Claims d.Claims)) (l₂ := l.dropWhile (fun a => befP a.Claims d.Claims))
  rwa [List.takeWhile_append_dropWhile] at this
theorem insD_sorted {d : Dbl} : ∀ {l : List Dbl}, l.Pairwise (fun a b => befP a.Claims b.Claims = true) → (∀ a ∈ l, a.Claims ≠ d.Claims) → (insD d l).Pairwise (fun a b => befP a.Claims b.Claims = true)
  | [], _, _ => by unfold insD; simp
  | a :: l, h, hn => by
    obtain ⟨h1, h2⟩ := List.pairwise_cons.1 h
    have ih := insD_sorted (d := d) h2 fun b hb => hn b (List.mem_cons_of_mem _ hb)
    unfold insD at ih ⊢
    rw [List.takeWhile_cons, List.dropWhile_cons]
    by_cases hb : befP a.Claims d.Claims = true
    · rw [if_pos hb, if_pos hb, List.cons_append]
      refine List.pairwise_cons.2 ⟨fun b hb2 => ?_, ih⟩
      have := (insD_perm (d := d) (l := l)).mem_iff.1 hb2
      rcases List.mem_cons.1 this with rfl | hm
      · exact hb
      · exact h1 b hm
    · rw [if_neg hb, if_neg hb, List.nil_append]
      refine List.pairwise_cons.2 ⟨fun b hb2 => ?_, h⟩
      have hda : befP d.Claims a.Claims = true := by
        rcases bef_tri (hn a (List.mem_cons_self ..)) with h | h
        · exact absurd h hb
        · exact h
      rcases List.mem_cons.1 hb2 with rfl | hm
      · exact hda
      · exact bef_trans hda (h1 b hm)
theorem sortG_ok : ∀ {l o : List Dbl}, o.Pairwise (fun a b => befP a.Claims b.Claims = true) → (o ++ l).Pairwise (fun a b => a.Claims ≠ b.Claims) → (l.foldl (fun o d => insD d o) o).Perm (o ++ l) ∧ (l.foldl (fun o d => insD d o) o).Pairwise (fun a b => befP a.Claims b.Claims = true)
  | [], o, h, _ => by rw [List.append_nil]; exact ⟨List.Perm.refl _, h⟩
  | d :: l, o, h, hn => by
    have hd : ∀ a ∈ o, a.Claims ≠ d.Claims := fun a ha => (List.pairwise_append.1 hn).2.2 a ha d (List.mem_cons_self ..)
    have p1 : (insD d o).Perm (o ++ [d]) := insD_perm.trans (List.perm_append_singleton d o).symm
    have p2 : (insD d o ++ l).Perm (o ++ d :: l) := by
      have := p1.append_right l
      simpa using this
    obtain ⟨q1, q2⟩ := sortG_ok (l := l) (insD_sorted h hd) (p2.symm.pairwise hn fun {a b} h e => h e.symm)
    exact ⟨q1.trans p2, q2⟩
theorem sortD_ok {l : List Dbl} (h : l.Pairwise (fun a b => a.Claims ≠ b.Claims)) : (sortD l).Perm l ∧ (sortD l).Pairwise (fun a b => befP a.Claims b.Claims = true) := sortG_ok (o := []) List.Pairwise.nil h
theorem two_ne {L : List Ln} {F : List Fc} (h : FacesOK L F) : ((two F).map toD).Pairwise (fun a b => a.Claims ≠ b.Claims) := by
  rw [List.pairwise_map]
  exact (h.ne.sublist List.filter_sublist).imp fun h => h
/-- The program's: put in order by a sort. -/
theorem dbls_prog {L : List Ln} (h : (L.map (·.place)).Nodup) {ds : List Dbl} (hp : ds.Perm ((two (facesS L)).map toD)) (hs : ds.Pairwise fun a b => befP b.Claims a.Claims = false) : dblsP L ds := by
  have n := hp.symm.pairwise (two_ne (faces_ok h)) fun {a b} h e => h e.symm
  refine ⟨hp, (List.Pairwise.and hs n).imp fun {a b} ⟨h1, h2⟩ => ?_⟩
  rcases bef_tri h2 with h | h
  · exact h
  · rw [h1] at h; cases h
end RE
end Go.Proofs.YtblcakaohlgagaaGreat
set_option maxRecDepth 100000
set_option linter.unusedVariables false
namespace Go.Proofs.YtblcakaohlgagaaGreat
open Go.RowKit
namespace RE
open PL

namespace PL
/-- All lines as places; their regions. -/
def plcN (l : List api_Version) (k : Nat) : List api_Place := (List.range k).flatMap fun (i : Nat) => (List.range (ix l (i : Int)).Lines.length).map fun (j : Nat) => (⟨(i : Int), (j : Int)⟩ : api_Place)
def regN (l : List api_Version) (k : Nat) : List api_Region := (List.range k).flatMap fun (i : Nat) => (ix l (i : Int)).Lines.map (·.Region)
theorem plcN_succ (l : List api_Version) (k : Nat) : plcN l (k + 1) = plcN l k ++ (List.range (ix l (k : Int)).Lines.length).map fun (j : Nat) => (⟨(k : Int), (j : Int)⟩ : api_Place) := by
  unfold plcN; rw [List.range_succ, List.flatMap_append]; simp
def manyV (l : List api_Version) : Prop := l.length ≤ 1000 ∧ ∀ v ∈ l, v.Lines.length ≤ 1000
end PL

end RE
end Go.Proofs.YtblcakaohlgagaaGreat
set_option maxRecDepth 100000
set_option linter.unusedVariables false
namespace Go.Proofs.YtblcakaohlgagaaGreat
open Go.RowKit
namespace RE
open PL

namespace PL
end PL

end RE
end Go.Proofs.YtblcakaohlgagaaGreat
set_option maxRecDepth 100000
set_option linter.unusedVariables false
namespace Go.Proofs.YtblcakaohlgagaaGreat
open Go.RowKit
namespace RE
open PL

namespace PL
/-- Has a line too many rectangles? -/
def limitF (l : List api_Version) : Int := if ∀ a ∈ regN l l.length, a.1.length ≤ 120 then 0 else 1
theorem limitF_0 {l : List api_Version} (h : ∀ a ∈ regN l l.length, a.1.length ≤ 120) : limitF l = 0 := if_pos h
theorem limitF_1 {l : List api_Version} (h : ¬ ∀ a ∈ regN l l.length, a.1.length ≤ 120) : limitF l = 1 := if_neg h
end PL

end RE
end Go.Proofs.YtblcakaohlgagaaGreat
set_option maxRecDepth 100000
set_option linter.unusedVariables false
namespace Go.Proofs.YtblcakaohlgagaaGreat
open Go.RowKit
namespace RE
open PL

namespace PL
/-- Is there a place? -/
def thereP (l : List api_Version) (p : api_Place) : Prop := 0 ≤ p.1 ∧ p.1 < (l.length : Int) ∧ 0 ≤ p.2 ∧ p.2 < ((ix l p.1).Lines.length : Int)
instance (l : List api_Version) (p : api_Place) : Decidable (thereP l p) := by unfold thereP; infer_instance
/-- A line with other rectangles. -/
def withR (x : api_Line) (r : List api_Rect) : api_Line := ⟨x.1, ⟨r⟩, x.3, x.4⟩
def setAt (l : List api_Version) (p : api_Place) (r : List api_Rect) : List api_Version := l.set p.1.toNat ⟨(ix l p.1).1, (ix l p.1).2.set p.2.toNat (withR (ix (ix l p.1).2 p.2) r)⟩
/-- One yield. -/
noncomputable def give1 (l : List api_Version) (z : api_Yield) : List api_Version := setAt l z.1 (canonF (comb (howS 3) (ix (ix l z.1.1).2 z.1.2).2.1 z.2.1))
open Classical in
/-- The first error of yields. -/
noncomputable def errY (l : List api_Version) : List api_Yield → Int
  | [] => 0
  | z :: r => if ¬ thereP l z.1 then 15 else if ¬ validP z.2.1 then 7 else errY l r
open Classical in
noncomputable def beginF (l : List api_Version) : Int := if 60 < (regN l l.length).length then 1 else if ∀ a ∈ regN l l.length, validP a.1 then 0 else 7
noncomputable def givS (l : List api_Version) (y : List api_Yield) : List api_Version × Int :=
  if beginF l ≠ 0 then ([], beginF l) else if 200 < y.length then ([], 1) else if errY l y ≠ 0 then ([], errY l y) else if limitF (y.foldl give1 l) ≠ 0 then ([], 1) else (y.foldl give1 l, 0)
def shapeV (l m : List api_Version) : Prop := m.length = l.length ∧ ∀ i : Nat, (ix m (i : Int)).Lines.length = (ix l (i : Int)).Lines.length
theorem shapeV.refl (l : List api_Version) : shapeV l l := ⟨rfl, fun _ => rfl⟩
theorem ix_set {α : Type} [Inhabited α] {l : List α} {i j : Nat} {x : α} : ix (l.set i x) (j : Int) = if i = j ∧ i < l.length then x else ix l (j : Int) := by
  unfold ix
  simp only [Int.toNat_natCast, List.getD_eq_getElem?_getD, List.getElem?_set]
  by_cases h : i = j
  · subst h
    by_cases h2 : i < l.length
    · simp [h2]
    · simp [h2]
  · simp [h]
theorem shapeV.set {l m : List api_Version} (h : shapeV l m) (p : api_Place) (r : List api_Rect) (h0 : 0 ≤ p.1) : shapeV l (setAt m p r) := by
  refine ⟨by unfold setAt; rw [List.length_set]; exact h.1, fun i => ?_⟩
  unfold setAt
  rw [ix_set]
  split
  · rename_i hc
    have e : (p.1 : Int) = (i : Int) := by omega
    show (List.set _ _ _).length = _
    rw [List.length_set, e]; exact h.2 i
  · exact h.2 i
theorem thereP_shape {l m : List api_Version} (h : shapeV l m) {p : api_Place} (hp : thereP l p) : thereP m p := by
  obtain ⟨a, b, c, d⟩ := hp
  obtain ⟨n, hn⟩ : ∃ n : Nat, p.1 = (n : Int) := ⟨p.1.toNat, by omega⟩
  refine ⟨a, by rw [h.1]; exact b, c, ?_⟩
  rw [hn, h.2 n, ← hn]; exact d
theorem errY_snoc {l : List api_Version} {y : List api_Yield} {z : api_Yield} (h : errY l y = 0) : errY l (y ++ [z]) = errY l [z] := by
  induction y with
  | nil => rfl
  | cons a r ih =>
    unfold errY at h
    show errY l (a :: (r ++ [z])) = _
    rw [errY]
    split at h
    · cases h
    · rename_i h1
      split at h
      · cases h
      · rename_i h2
        rw [if_neg h1, if_neg h2]; exact ih h
theorem errY_app {l : List api_Version} {y r : List api_Yield} (h : errY l y ≠ 0) : errY l (y ++ r) = errY l y := by
  induction y with
  | nil => exact absurd rfl h
  | cons a t ih =>
    show errY l (a :: (t ++ r)) = _
    rw [errY, errY] at *
    split
    · rfl
    · rename_i h1
      split
      · rfl
      · rename_i h2
        rw [if_neg h1, if_neg h2] at h
        exact ih h
theorem regN_mem {l : List api_Version} {v : api_Version} (hv : v ∈ l) {x : api_Line} (hx : x ∈ v.Lines) : x.Region ∈ regN l l.length := by
  obtain ⟨i, hi, rfl⟩ := List.getElem_of_mem hv
  unfold regN
  refine List.mem_flatMap.2 ⟨i, List.mem_range.2 hi, ?_⟩
  rw [ix_lt hi]
  exact List.mem_map.2 ⟨x, hx, rfl⟩
end PL

theorem givS_err {l : List api_Version} {ys : List api_Yield} {e : Int} {k : Nat} (hb : beginF l = 0) (hc : ¬ 200 < ys.length) (he : errY l (ys.take (k + 1)) = e) (hne : e ≠ 0) : givS l ys = ([], e) := by
  have h : errY l ys = e := by
    rw [← List.take_append_drop (k + 1) ys, errY_app (by rw [he]; exact hne), he]
  unfold givS
  rw [if_neg (by simp [hb]), if_neg hc, if_pos (by rw [h]; exact hne), h]
theorem foldl_snoc {l : List api_Version} {y : List api_Yield} {z : api_Yield} : (y ++ [z]).foldl give1 l = give1 (y.foldl give1 l) z := by rw [List.foldl_append]; rfl
end RE
end Go.Proofs.YtblcakaohlgagaaGreat
set_option maxRecDepth 100000
set_option linter.unusedVariables false
namespace Go.Proofs.YtblcakaohlgagaaGreat
open Go.RowKit
namespace RE
open PL

def pmergeN_P (A : List (region_Span)) (B : List (region_Span)) (post : List (region_Span) → Prop) : Prop := (A.length ≤ 20000 ∧ B.length ≤ 20000) ∧ post (mergeS 3 A B)
def pmergeN_sp : Spec := ⟨76, false, true, [.sl (.st .region_Span), .sl (.st .region_Span)], .dat (.sl (.st .region_Span)), fun x post => pmergeN_P (x.1 : List (region_Span)) (x.2.1 : List (region_Span)) (fun y0 => post (y0, ()))⟩
def pmergeN_C : CtxR := ⟨tau, [rule1 pconc_sp, rule3 ssort_sp, rule2 scompact_sp, rule1 pins_sp], lookJ [(0, 23, ⟨[(11, .dat (.int .i64)), (10, .own 155 (.st .region_Span))], [], [35, 36, 37, 38, 54, 53, 52, 51, 50, 49, 48, 47, 46, 12, 45, 44, 43, 42, 41, 77, 76, 75, 74, 73, 72, 71, 70, 69, 67, 66, 65, 64, 63, 62, 61, 60, 68, 59, 58, 57, 13, 56, 55, 86, 85, 84, 83, 82, 81, 80, 79, 78, 39, 40], [], []⟩), (0, 24, ⟨[(10, .own 155 (.st .region_Span))], [], [78, 79, 80, 81, 82, 83, 84, 85, 86, 55, 56, 13, 57, 58, 59, 68, 60, 61, 62, 63, 64, 65, 66, 67, 69, 70, 71, 72, 73, 74, 75, 76, 77, 41, 42, 43, 44, 45, 12, 46, 47, 48, 49, 50, 51, 52, 53, 54], [3], []⟩), (0, 7, ⟨[(19, .dat (.int .i64)), (7, .own 3 (.int .i64))], [], [20, 21, 22, 9, 23, 24, 25, 26, 27, 28, 29, 30], [], []⟩)]⟩
def pmergeN_W (A : List (region_Span)) (B : List (region_Span)) (post : List (region_Span) → Prop) : Prop := ((A.append (B.append [])).length ≤ (100000 : Nat) ∧ [A, B].length ≤ (10 : Nat)) ∧ ((↑(A.append (B.append [])).length : Int) ≤ (9223372036854775807 : Int) → LOOP [Ty.int IntKind.i64, (Ty.int IntKind.i64).sl] (fun (rec1 : Int → List Int → Prop) (z2 : Int) (z3 : List Int) ↦ IFB (decide (z2 < (↑(A.append (B.append [])).length : Int))) (((0 : Int) ≤ z2 ∧ z2 < (↑(A.append (B.append [])).length : Int)) ∧ (z3.length + [(ix (A.append (B.append [])) z2).1, (ix (A.append (B.append [])) z2).2].length) * (8 : Nat) ≤ (140737488355328 : Nat) ∧ rec1 (IntKind.i64.wrap (z2 + (1 : Int))) (z3 ++ [(ix (A.append (B.append [])) z2).1, (ix (A.append (B.append [])) z2).2])) (z3.length ≤ (1000000 : Nat) ∧ (sortI z3).length ≤ (1000000 : Nat) ∧ LOOP [Ty.int IntKind.i64, (Ty.st Sn.region_Span).sl] (fun (rec4 : Int → List region_Span → Prop) (z5 : Int) (z6 : List region_Span) ↦ (↑(compI (sortI z3)).length : Int) ≤ (9223372036854775807 : Int) → IFB (decide (z5 < (↑(compI (sortI z3)).length : Int))) (JOIN [(Ty.st Sn.region_Span).sl] (fun (y7 : List region_Span) ↦ rec4 (IntKind.i64.wrap (z5 + (1 : Int))) y7) fun (J8 : List region_Span → Prop) ↦ ((0 : Int) ≤ IntKind.i64.wrap (z5 - (1 : Int)) ∧ IntKind.i64.wrap (z5 - (1 : Int)) < (↑(compI (sortI z3)).length : Int)) ∧ A.length ≤ (1000000 : Nat) ∧ B.length ≤ (1000000 : Nat) ∧ IFB (!(insS A (ix (compI (sortI z3)) (IntKind.i64.wrap (z5 - (1 : Int)))) && !insS B (ix (compI (sortI z3)) (IntKind.i64.wrap (z5 - (1 : Int)))))) (J8 z6) ((↑z6.length : Int) ≤ (9223372036854775807 : Int) → (gx true (decide ((0 : Int) < (↑z6.length : Int))) = true → (0 : Int) ≤ IntKind.i64.wrap ((↑z6.length : Int) - (1 : Int)) ∧ IntKind.i64.wrap ((↑z6.length : Int) - (1 : Int)) < (↑z6.length : Int)) ∧ IFB (decide ((0 : Int) < (↑z6.length : Int)) && decide ((ix z6 (IntKind.i64.wrap ((↑z6.length : Int) - (1 : Int)))).2 = ix (compI (sortI z3)) (IntKind.i64.wrap (z5 - (1 : Int))))) (((0 : Int) ≤ z5 ∧ z5 < (↑(compI (sortI z3)).length : Int)) ∧ ((0 : Int) ≤ IntKind.i64.wrap ((↑z6.length : Int) - (1 : Int)) ∧ IntKind.i64.wrap ((↑z6.length : Int) - (1 : Int)) < (↑z6.length : Int)) ∧ J8 (z6.set (IntKind.i64.wrap ((↑z6.length : Int) - (1 : Int))).toNat { Left := (ix z6 (IntKind.i64.wrap ((↑z6.length : Int) - (1 : Int)))).1, Right := ix (compI (sortI z3)) z5 : region_Span })) (((0 : Int) ≤ z5 ∧ z5 < (↑(compI (sortI z3)).length : Int)) ∧ (z6.length + [{ Left := ix (compI (sortI z3)) (IntKind.i64.wrap (z5 - (1 : Int))), Right := ix (compI (sortI z3)) z5 : region_Span }].length) * (16 : Nat) ≤ (140737488355328 : Nat) ∧ J8 (z6 ++ [{ Left := ix (compI (sortI z3)) (IntKind.i64.wrap (z5 - (1 : Int))), Right := ix (compI (sortI z3)) z5 : region_Span }])))) (post z6)) ((1 : Int), [], PUnit.unit))) ((0 : Int), [], PUnit.unit))
theorem pmergeN_w (A : List (region_Span)) (B : List (region_Span)) (post : dens (shT pmergeN_sp.rs []) → Prop) : pmergeN_W A B (fun y0 => post (y0, ())) = walkG (callR Tryz.prog pmergeN_C (drawR Tryz.prog tau) 10 0) 76 false [tv (.sl (.st .region_Span)) A, tv (.sl (.st .region_Span)) B, .v (clo 39)] pmergeN_sp.rs post := by kernel_rfl
theorem pmergeN_of (h : ∀ (A : List (region_Span)) (B : List (region_Span)) (post : List (region_Span) → Prop), pmergeN_P A B post → pmergeN_W A B post) : SpecCOK Tryz.prog pmergeN_sp [clo 39] := SpecCOK.of_rules (C := pmergeN_C) (dr := drawR Tryz.prog tau) (n := 10) (fk := 0) (.cons (rule1_ok pconc_ok) (.cons (rule3_ok ssort_ok) (.cons (rule2_ok scompact_ok) (.cons (rule1_ok pins_ok) .nil)))) (drawR_ok tau) fun x post hp => HoldW.of (pmergeN_w x.1 x.2.1 post) (h x.1 x.2.1 (fun y0 => post (y0, ())) hp)
theorem pmergeN_ok : SpecCOK Tryz.prog pmergeN_sp [clo 39] := pmergeN_of fun A B post hp => by
  obtain ⟨⟨h1, h2⟩, hp⟩ := hp
  unfold pmergeN_W
  have e : A.append (B.append []) = A ++ B := by show A ++ (B ++ []) = A ++ B; rw [List.append_nil]
  rw [e]
  refine ⟨⟨by rw [List.length_append]; omega, by simp⟩, fun _ => ?_⟩
  refine edg_in (l := A ++ B) (A := []) (K := fun z3 => z3.length ≤ (1000000 : Nat) ∧ (sortI z3).length ≤ (1000000 : Nat) ∧ _) (by simp only [List.length_nil, List.length_append]; omega) ?_
  rw [List.nil_append]
  have hel : (edgL (A ++ B)).length ≤ 80000 := by rw [edgL_len, List.length_append]; omega
  have hsl : (sortI (edgL (A ++ B))).length = (edgL (A ++ B)).length := by unfold sortI; simp
  refine ⟨by omega, by omega, ?_⟩
  have hxl : (uniqI (edgL (A ++ B))).length ≤ 80000 := Nat.le_trans (uniqI_len _) hel
  have hxe : compI (sortI (edgL (A ++ B))) = uniqI (edgL (A ++ B)) := rfl
  rw [hxe]
  have hp : post (spansG (fun x => howS 3 (insS A x) (insS B x)) [] (uniqI (edgL (A ++ B)))) := hp
  generalize uniqI (edgL (A ++ B)) = xs at hxl hp ⊢
  refine LOOP.fuel (fun u => ∃ (k : Nat) (acc : List Sp), u.1 = ((k + 1 : Nat) : Int) ∧ u.2.1 = acc ∧ k ≤ xs.length ∧ spansG (fun x => howS 3 (insS A x) (insS B x)) acc (xs.drop k) = spansG (fun x => howS 3 (insS A x) (insS B x)) [] xs ∧ acc.length ≤ k) (fun u => xs.length + 1 - Int.toNat u.1) ⟨0, [], rfl, rfl, Nat.zero_le _, rfl, Nat.le_refl _⟩ ?_
  rintro rec ⟨(z2 : Int), (z3 : List region_Span), ⟨⟩⟩ ⟨k, acc, i1, i2, i3, i4, i5⟩ hrec
  have i1 : z2 = ((k + 1 : Nat) : Int) := i1
  have i2 : z3 = acc := i2
  subst i1 i2
  have i5 : z3.length ≤ k := i5
  intro _
  refine IFB.mk (fun hb => ?_) (fun hb => ?_)
  · have hb : ((k + 1 : Nat) : Int) < xs.length := of_decide_eq_true hb
    have hb : k + 1 < xs.length := by omega
    obtain ⟨d1, d2⟩ := drop_two hb
    have w1 : IntKind.i64.wrap (((k + 1 : Nat) : Int) - 1) = k := by rw [wrap_in (by omega) (by omega)]; omega
    refine JOIN.opq fun (J : List Sp → Prop) hJ => ?_
    rw [w1]
    have hgo : ∀ acc', acc'.length ≤ k + 1 → spansG (fun x => howS 3 (insS A x) (insS B x)) acc' (xs.drop (k + 1)) = spansG (fun x => howS 3 (insS A x) (insS B x)) [] xs → J acc' := fun acc' hle hG => by
      rw [hJ]
      show rec (IntKind.i64.wrap (((k + 1 : Nat) : Int) + 1)) _
      rw [wrapS (by omega)]
      exact hrec (((k + 2 : Nat) : Int), acc', ()) ⟨k + 1, acc', rfl, rfl, by omega, hG, hle⟩ (by show xs.length + 1 - ((k + 2 : Nat) : Int).toNat < xs.length + 1 - ((k + 1 : Nat) : Int).toNat; omega)
    have hstep : spansG (fun x => howS 3 (insS A x) (insS B x)) (if howS 3 (insS A (ix xs (k : Int))) (insS B (ix xs (k : Int))) = true then addSp z3 (ix xs (k : Int)) (ix xs ((k + 1 : Nat) : Int)) else z3) (xs.drop (k + 1)) = spansG (fun x => howS 3 (insS A x) (insS B x)) [] xs := by
      rw [← i4, d1, d2]
      rfl
    rw [howS_3] at hstep
    generalize ix xs (k : Int) = u at hstep ⊢
    generalize ix xs ((k + 1 : Nat) : Int) = v at hstep ⊢
    refine ⟨by omega, by omega, by omega, IFB.mk (fun hn => ?_) (fun hn => ?_)⟩
    · have hn : (insS A u && !insS B u) = false := by rw [Bool.not_eq_true'] at hn; exact hn
      rw [hn] at hstep
      exact hgo z3 (by omega) hstep
    · have hn : (insS A u && !insS B u) = true := by
        rw [Bool.not_eq_false'] at hn; exact hn
      rw [hn, if_pos rfl] at hstep
      intro _
      rcases List.eq_nil_or_concat z3 with rfl | ⟨Z, q, rfl⟩
      · have hj : addSp [] u v = [⟨u, v⟩] := rfl
        rw [hj] at hstep
        refine ⟨fun h => (by cases h), IFB.mk (fun hb => (by cases hb)) (fun _ => ⟨by omega, by simp, hgo _ (by simp) hstep⟩)⟩
      · rw [List.concat_eq_append] at *
        have hAl : (Z ++ [q]).length = Z.length + 1 := by simp
        have w2 : IntKind.i64.wrap (((Z ++ [q]).length : Int) - 1) = Z.length := by
          rw [hAl, wrap_in (by omega) (by omega)]
          omega
        have hq : ix (Z ++ [q]) (Z.length : Int) = q := ix_app rfl
        have hset : ∀ z, (Z ++ [q]).set (Z.length : Int).toNat z = Z ++ [z] := fun z => set_app (by simp)
        rw [w2, hq, hset]
        have hj : addSp (Z ++ [q]) u v = if q.2 = u then Z ++ [⟨q.1, v⟩] else Z ++ [q] ++ [⟨u, v⟩] := by
          unfold addSp
          simp
        rw [hj] at hstep
        have hd : decide ((0 : Int) < ((Z ++ [q]).length : Int)) = true := decide_eq_true (by omega)
        rw [hd, Bool.true_and]
        refine ⟨fun _ => by rw [hAl]; omega, IFB.mk (fun hc => ⟨by omega, by rw [hAl]; omega, ?_⟩) (fun hc => ⟨by omega, by rw [hAl]; simp only [List.length_cons, List.length_nil]; omega, ?_⟩)⟩
        · have hc : q.2 = u := of_decide_eq_true hc
          rw [if_pos hc] at hstep
          exact hgo _ (by simp only [List.length_append, List.length_cons, List.length_nil] at *; omega) hstep
        · have hc : ¬ q.2 = u := of_decide_eq_false hc
          rw [if_neg hc] at hstep
          exact hgo _ (by simp only [List.length_append, List.length_cons, List.length_nil] at *; omega) hstep
  · have hb : ¬ ((k + 1 : Nat) : Int) < xs.length := of_decide_eq_false hb
    rw [short_drop2 (by omega)] at i4
    rw [← i4] at hp
    exact hp

def pmergeB_P (A : List (region_Span)) (B : List (region_Span)) (post : List (region_Span) → Prop) : Prop := (A.length ≤ 20000 ∧ B.length ≤ 20000) ∧ post (mergeS 2 A B)
def pmergeB_sp : Spec := ⟨76, false, true, [.sl (.st .region_Span), .sl (.st .region_Span)], .dat (.sl (.st .region_Span)), fun x post => pmergeB_P (x.1 : List (region_Span)) (x.2.1 : List (region_Span)) (fun y0 => post (y0, ()))⟩
def pmergeB_C : CtxR := ⟨tau, [rule1 pconc_sp, rule3 ssort_sp, rule2 scompact_sp, rule1 pins_sp], lookJ [(0, 23, ⟨[(11, .dat (.int .i64)), (10, .own 155 (.st .region_Span))], [], [35, 36, 37, 38, 54, 53, 52, 51, 50, 49, 48, 47, 46, 12, 45, 44, 43, 42, 41, 77, 76, 75, 74, 73, 72, 71, 70, 69, 67, 66, 65, 64, 63, 62, 61, 60, 68, 59, 58, 57, 13, 56, 55, 86, 85, 84, 83, 82, 81, 80, 79, 78, 39, 40], [], []⟩), (0, 24, ⟨[(10, .own 155 (.st .region_Span))], [], [78, 79, 80, 81, 82, 83, 84, 85, 86, 55, 56, 13, 57, 58, 59, 68, 60, 61, 62, 63, 64, 65, 66, 67, 69, 70, 71, 72, 73, 74, 75, 76, 77, 41, 42, 43, 44, 45, 12, 46, 47, 48, 49, 50, 51, 52, 53, 54], [3], []⟩), (0, 7, ⟨[(19, .dat (.int .i64)), (7, .own 3 (.int .i64))], [], [20, 21, 22, 9, 23, 24, 25, 26, 27, 28, 29, 30], [], []⟩)]⟩
def pmergeB_W (A : List (region_Span)) (B : List (region_Span)) (post : List (region_Span) → Prop) : Prop := ((A.append (B.append [])).length ≤ (100000 : Nat) ∧ [A, B].length ≤ (10 : Nat)) ∧ ((↑(A.append (B.append [])).length : Int) ≤ (9223372036854775807 : Int) → LOOP [Ty.int IntKind.i64, (Ty.int IntKind.i64).sl] (fun (rec1 : Int → List Int → Prop) (z2 : Int) (z3 : List Int) ↦ IFB (decide (z2 < (↑(A.append (B.append [])).length : Int))) (((0 : Int) ≤ z2 ∧ z2 < (↑(A.append (B.append [])).length : Int)) ∧ (z3.length + [(ix (A.append (B.append [])) z2).1, (ix (A.append (B.append [])) z2).2].length) * (8 : Nat) ≤ (140737488355328 : Nat) ∧ rec1 (IntKind.i64.wrap (z2 + (1 : Int))) (z3 ++ [(ix (A.append (B.append [])) z2).1, (ix (A.append (B.append [])) z2).2])) (z3.length ≤ (1000000 : Nat) ∧ (sortI z3).length ≤ (1000000 : Nat) ∧ LOOP [Ty.int IntKind.i64, (Ty.st Sn.region_Span).sl] (fun (rec4 : Int → List region_Span → Prop) (z5 : Int) (z6 : List region_Span) ↦ (↑(compI (sortI z3)).length : Int) ≤ (9223372036854775807 : Int) → IFB (decide (z5 < (↑(compI (sortI z3)).length : Int))) (JOIN [(Ty.st Sn.region_Span).sl] (fun (y7 : List region_Span) ↦ rec4 (IntKind.i64.wrap (z5 + (1 : Int))) y7) fun (J8 : List region_Span → Prop) ↦ ((0 : Int) ≤ IntKind.i64.wrap (z5 - (1 : Int)) ∧ IntKind.i64.wrap (z5 - (1 : Int)) < (↑(compI (sortI z3)).length : Int)) ∧ A.length ≤ (1000000 : Nat) ∧ B.length ≤ (1000000 : Nat) ∧ IFB (!(insS A (ix (compI (sortI z3)) (IntKind.i64.wrap (z5 - (1 : Int)))) && insS B (ix (compI (sortI z3)) (IntKind.i64.wrap (z5 - (1 : Int)))))) (J8 z6) ((↑z6.length : Int) ≤ (9223372036854775807 : Int) → (gx true (decide ((0 : Int) < (↑z6.length : Int))) = true → (0 : Int) ≤ IntKind.i64.wrap ((↑z6.length : Int) - (1 : Int)) ∧ IntKind.i64.wrap ((↑z6.length : Int) - (1 : Int)) < (↑z6.length : Int)) ∧ IFB (decide ((0 : Int) < (↑z6.length : Int)) && decide ((ix z6 (IntKind.i64.wrap ((↑z6.length : Int) - (1 : Int)))).2 = ix (compI (sortI z3)) (IntKind.i64.wrap (z5 - (1 : Int))))) (((0 : Int) ≤ z5 ∧ z5 < (↑(compI (sortI z3)).length : Int)) ∧ ((0 : Int) ≤ IntKind.i64.wrap ((↑z6.length : Int) - (1 : Int)) ∧ IntKind.i64.wrap ((↑z6.length : Int) - (1 : Int)) < (↑z6.length : Int)) ∧ J8 (z6.set (IntKind.i64.wrap ((↑z6.length : Int) - (1 : Int))).toNat { Left := (ix z6 (IntKind.i64.wrap ((↑z6.length : Int) - (1 : Int)))).1, Right := ix (compI (sortI z3)) z5 : region_Span })) (((0 : Int) ≤ z5 ∧ z5 < (↑(compI (sortI z3)).length : Int)) ∧ (z6.length + [{ Left := ix (compI (sortI z3)) (IntKind.i64.wrap (z5 - (1 : Int))), Right := ix (compI (sortI z3)) z5 : region_Span }].length) * (16 : Nat) ≤ (140737488355328 : Nat) ∧ J8 (z6 ++ [{ Left := ix (compI (sortI z3)) (IntKind.i64.wrap (z5 - (1 : Int))), Right := ix (compI (sortI z3)) z5 : region_Span }])))) (post z6)) ((1 : Int), [], PUnit.unit))) ((0 : Int), [], PUnit.unit))
theorem pmergeB_w (A : List (region_Span)) (B : List (region_Span)) (post : dens (shT pmergeB_sp.rs []) → Prop) : pmergeB_W A B (fun y0 => post (y0, ())) = walkG (callR Tryz.prog pmergeB_C (drawR Tryz.prog tau) 10 0) 76 false [tv (.sl (.st .region_Span)) A, tv (.sl (.st .region_Span)) B, .v (clo 95)] pmergeB_sp.rs post := by kernel_rfl
theorem pmergeB_of (h : ∀ (A : List (region_Span)) (B : List (region_Span)) (post : List (region_Span) → Prop), pmergeB_P A B post → pmergeB_W A B post) : SpecCOK Tryz.prog pmergeB_sp [clo 95] := SpecCOK.of_rules (C := pmergeB_C) (dr := drawR Tryz.prog tau) (n := 10) (fk := 0) (.cons (rule1_ok pconc_ok) (.cons (rule3_ok ssort_ok) (.cons (rule2_ok scompact_ok) (.cons (rule1_ok pins_ok) .nil)))) (drawR_ok tau) fun x post hp => HoldW.of (pmergeB_w x.1 x.2.1 post) (h x.1 x.2.1 (fun y0 => post (y0, ())) hp)
theorem howS_2' (a b : Bool) : howS 2 a b = (a && b) := by unfold howS; simp
theorem pmergeB_ok : SpecCOK Tryz.prog pmergeB_sp [clo 95] := pmergeB_of fun A B post hp => by
  obtain ⟨⟨h1, h2⟩, hp⟩ := hp
  unfold pmergeB_W
  have e : A.append (B.append []) = A ++ B := by show A ++ (B ++ []) = A ++ B; rw [List.append_nil]
  rw [e]
  refine ⟨⟨by rw [List.length_append]; omega, by simp⟩, fun _ => ?_⟩
  refine edg_in (l := A ++ B) (A := []) (K := fun z3 => z3.length ≤ (1000000 : Nat) ∧ (sortI z3).length ≤ (1000000 : Nat) ∧ _) (by simp only [List.length_nil, List.length_append]; omega) ?_
  rw [List.nil_append]
  have hel : (edgL (A ++ B)).length ≤ 80000 := by rw [edgL_len, List.length_append]; omega
  have hsl : (sortI (edgL (A ++ B))).length = (edgL (A ++ B)).length := by unfold sortI; simp
  refine ⟨by omega, by omega, ?_⟩
  have hxl : (uniqI (edgL (A ++ B))).length ≤ 80000 := Nat.le_trans (uniqI_len _) hel
  have hxe : compI (sortI (edgL (A ++ B))) = uniqI (edgL (A ++ B)) := rfl
  rw [hxe]
  have hp : post (spansG (fun x => howS 2 (insS A x) (insS B x)) [] (uniqI (edgL (A ++ B)))) := hp
  generalize uniqI (edgL (A ++ B)) = xs at hxl hp ⊢
  refine LOOP.fuel (fun u => ∃ (k : Nat) (acc : List Sp), u.1 = ((k + 1 : Nat) : Int) ∧ u.2.1 = acc ∧ k ≤ xs.length ∧ spansG (fun x => howS 2 (insS A x) (insS B x)) acc (xs.drop k) = spansG (fun x => howS 2 (insS A x) (insS B x)) [] xs ∧ acc.length ≤ k) (fun u => xs.length + 1 - Int.toNat u.1) ⟨0, [], rfl, rfl, Nat.zero_le _, rfl, Nat.le_refl _⟩ ?_
  rintro rec ⟨(z2 : Int), (z3 : List region_Span), ⟨⟩⟩ ⟨k, acc, i1, i2, i3, i4, i5⟩ hrec
  have i1 : z2 = ((k + 1 : Nat) : Int) := i1
  have i2 : z3 = acc := i2
  subst i1 i2
  have i5 : z3.length ≤ k := i5
  intro _
  refine IFB.mk (fun hb => ?_) (fun hb => ?_)
  · have hb : ((k + 1 : Nat) : Int) < xs.length := of_decide_eq_true hb
    have hb : k + 1 < xs.length := by omega
    obtain ⟨d1, d2⟩ := drop_two hb
    have w1 : IntKind.i64.wrap (((k + 1 : Nat) : Int) - 1) = k := by rw [wrap_in (by omega) (by omega)]; omega
    refine JOIN.opq fun (J : List Sp → Prop) hJ => ?_
    rw [w1]
    have hgo : ∀ acc', acc'.length ≤ k + 1 → spansG (fun x => howS 2 (insS A x) (insS B x)) acc' (xs.drop (k + 1)) = spansG (fun x => howS 2 (insS A x) (insS B x)) [] xs → J acc' := fun acc' hle hG => by
      rw [hJ]
      show rec (IntKind.i64.wrap (((k + 1 : Nat) : Int) + 1)) _
      rw [wrapS (by omega)]
      exact hrec (((k + 2 : Nat) : Int), acc', ()) ⟨k + 1, acc', rfl, rfl, by omega, hG, hle⟩ (by show xs.length + 1 - ((k + 2 : Nat) : Int).toNat < xs.length + 1 - ((k + 1 : Nat) : Int).toNat; omega)
    have hstep : spansG (fun x => howS 2 (insS A x) (insS B x)) (if howS 2 (insS A (ix xs (k : Int))) (insS B (ix xs (k : Int))) = true then addSp z3 (ix xs (k : Int)) (ix xs ((k + 1 : Nat) : Int)) else z3) (xs.drop (k + 1)) = spansG (fun x => howS 2 (insS A x) (insS B x)) [] xs := by
      rw [← i4, d1, d2]
      rfl
    rw [howS_2'] at hstep
    generalize ix xs (k : Int) = u at hstep ⊢
    generalize ix xs ((k + 1 : Nat) : Int) = v at hstep ⊢
    refine ⟨by omega, by omega, by omega, IFB.mk (fun hn => ?_) (fun hn => ?_)⟩
    · have hn : (insS A u && insS B u) = false := by rw [Bool.not_eq_true'] at hn; exact hn
      rw [hn] at hstep
      exact hgo z3 (by omega) hstep
    · have hn : (insS A u && insS B u) = true := by
        rw [Bool.not_eq_false'] at hn; exact hn
      rw [hn, if_pos rfl] at hstep
      intro _
      rcases List.eq_nil_or_concat z3 with rfl | ⟨Z, q, rfl⟩
      · have hj : addSp [] u v = [⟨u, v⟩] := rfl
        rw [hj] at hstep
        refine ⟨fun h => (by cases h), IFB.mk (fun hb => (by cases hb)) (fun _ => ⟨by omega, by simp, hgo _ (by simp) hstep⟩)⟩
      · rw [List.concat_eq_append] at *
        have hAl : (Z ++ [q]).length = Z.length + 1 := by simp
        have w2 : IntKind.i64.wrap (((Z ++ [q]).length : Int) - 1) = Z.length := by
          rw [hAl, wrap_in (by omega) (by omega)]
          omega
        have hq : ix (Z ++ [q]) (Z.length : Int) = q := ix_app rfl
        have hset : ∀ z, (Z ++ [q]).set (Z.length : Int).toNat z = Z ++ [z] := fun z => set_app (by simp)
        rw [w2, hq, hset]
        have hj : addSp (Z ++ [q]) u v = if q.2 = u then Z ++ [⟨q.1, v⟩] else Z ++ [q] ++ [⟨u, v⟩] := by
          unfold addSp
          simp
        rw [hj] at hstep
        have hd : decide ((0 : Int) < ((Z ++ [q]).length : Int)) = true := decide_eq_true (by omega)
        rw [hd, Bool.true_and]
        refine ⟨fun _ => by rw [hAl]; omega, IFB.mk (fun hc => ⟨by omega, by rw [hAl]; omega, ?_⟩) (fun hc => ⟨by omega, by rw [hAl]; simp only [List.length_cons, List.length_nil]; omega, ?_⟩)⟩
        · have hc : q.2 = u := of_decide_eq_true hc
          rw [if_pos hc] at hstep
          exact hgo _ (by simp only [List.length_append, List.length_cons, List.length_nil] at *; omega) hstep
        · have hc : ¬ q.2 = u := of_decide_eq_false hc
          rw [if_neg hc] at hstep
          exact hgo _ (by simp only [List.length_append, List.length_cons, List.length_nil] at *; omega) hstep
  · have hb : ¬ ((k + 1 : Nat) : Int) < xs.length := of_decide_eq_false hb
    rw [short_drop2 (by omega)] at i4
    rw [← i4] at hp
    exact hp

def pcutsL_P (ls : List (List (api_Rect))) (post : List (Int) → Prop) : Prop := (ls.flatten.length ≤ 20000 ∧ ls.length ≤ 10) ∧ post (cutsS ls.flatten)
def pcutsL_sp : Spec := ⟨74, false, true, [.sl (.sl (.st .api_Rect))], .dat (.sl (.int .i64)), fun x post => pcutsL_P (x.1 : List (List (api_Rect))) (fun y0 => post (y0, ()))⟩
def pcutsL_C : CtxR := ⟨tau, [rule3 ssort_sp, rule2 scompact_sp], lookJ [(0, 7, ⟨[(10, .dat (.int .i64)), (3, .own 3 (.int .i64))], [], [11, 12, 13, 5, 14, 15, 27, 26, 25, 24, 23, 22, 21, 20, 7, 19, 18, 16, 17, 28], [], []⟩), (0, 13, ⟨[(16, .dat (.int .i64)), (3, .own 3 (.int .i64))], [], [17, 18, 19, 7, 20, 21, 22, 23, 24, 25, 26, 27], [0], []⟩)]⟩
def pcutsL_W (ls : List (List (api_Rect))) (post : List (Int) → Prop) : Prop := (↑ls.length : Int) ≤ (9223372036854775807 : Int) → LOOP [Ty.int IntKind.i64, (Ty.int IntKind.i64).sl] (fun (rec1 : Int → List Int → Prop) (z2 : Int) (z3 : List Int) ↦ IFB (decide (z2 < (↑ls.length : Int))) (((0 : Int) ≤ z2 ∧ z2 < (↑ls.length : Int)) ∧ ((↑(ix ls z2).length : Int) ≤ (9223372036854775807 : Int) → LOOP [Ty.int IntKind.i64, (Ty.int IntKind.i64).sl] (fun (rec4 : Int → List Int → Prop) (z5 : Int) (z6 : List Int) ↦ IFB (decide (z5 < (↑(ix ls z2).length : Int))) (((0 : Int) ≤ z5 ∧ z5 < (↑(ix ls z2).length : Int)) ∧ (z6.length + [(ix (ix ls z2) z5).2, (ix (ix ls z2) z5).4].length) * (8 : Nat) ≤ (140737488355328 : Nat) ∧ rec4 (IntKind.i64.wrap (z5 + (1 : Int))) (z6 ++ [(ix (ix ls z2) z5).2, (ix (ix ls z2) z5).4])) (rec1 (IntKind.i64.wrap (z2 + (1 : Int))) z6)) ((0 : Int), z3, PUnit.unit))) (z3.length ≤ (1000000 : Nat) ∧ (sortI z3).length ≤ (1000000 : Nat) ∧ post (compI (sortI z3)))) ((0 : Int), [], PUnit.unit)
theorem pcutsL_w (ls : List (List (api_Rect))) (post : dens (shT pcutsL_sp.rs []) → Prop) : pcutsL_W ls (fun y0 => post (y0, ())) = walkG (callR Tryz.prog pcutsL_C (drawR Tryz.prog tau) 8 0) 74 false [tv (.sl (.sl (.st .api_Rect))) ls] pcutsL_sp.rs post := by kernel_rfl
theorem pcutsL_of (h : ∀ (ls : List (List (api_Rect))) (post : List (Int) → Prop), pcutsL_P ls post → pcutsL_W ls post) : SpecOK Tryz.prog pcutsL_sp := SpecOK.of_rules (C := pcutsL_C) (dr := drawR Tryz.prog tau) (n := 8) (fk := 0) (.cons (rule3_ok ssort_ok) (.cons (rule2_ok scompact_ok) .nil)) (drawR_ok tau) fun x post hp => HoldW.of (pcutsL_w x.1 post) (h x.1 (fun y0 => post (y0, ())) hp)
theorem pcutsL_ok : SpecOK Tryz.prog pcutsL_sp := pcutsL_of fun ls post hp => by
  obtain ⟨⟨h1, h2⟩, hp⟩ := hp
  unfold pcutsL_W
  intro _
  refine LOOP.list ls (fun k (s : List Int) => ((k : Int), s, ())) (fun u => Int.toNat u.1) (fun k r (s : List Int) => s ++ cutL r.flatten = cutL ls.flatten) [] rfl rfl (fun k s h => by simp) ?_ ?_
  · intro rec k x r s hd hk hkl g1 hrec
    have hx := ix_of hk
    have hlen : s.length + (2 * x.length + 2 * r.flatten.length) ≤ 40000 := by
      have := congrArg List.length g1
      rw [List.length_append, cutL_len, cutL_len, List.flatten_cons, List.length_append] at this
      omega
    show IFB _ _ _
    refine IFB.mk (fun _ => ⟨by show 0 ≤ (k : Int) ∧ (k : Int) < ls.length; omega, ?_⟩) (fun h => absurd (of_decide_eq_false h) (by show ¬ ¬ ((k : Int) < ls.length); omega))
    dsimp only
    rw [hx]
    intro _
    refine cuts_in (l := x) (A := s) (K := fun z6 => rec (IntKind.i64.wrap ((k : Int) + 1)) z6) (by omega) ?_
    rw [wrapS (by omega)]
    refine hrec _ ?_
    rw [← g1, List.flatten_cons, cutL_app, List.append_assoc]
  · intro rec s g1
    show IFB _ _ _
    refine IFB.mk (fun h => absurd (of_decide_eq_true h) (by show ¬ ((ls.length : Int) < ls.length); omega)) (fun _ => ?_)
    have g1 : s = cutL ls.flatten := by simpa [cutL] using g1
    have hlen : s.length ≤ 40000 := by rw [g1, cutL_len]; omega
    have hsl : (sortI s).length = s.length := by unfold sortI; simp
    dsimp only
    refine ⟨by omega, by omega, ?_⟩
    rw [← cuts_uniq, ← g1] at hp
    exact hp

def prowL_P (l : List (api_Rect)) (y : Int) (post : List (region_Span) → Prop) : Prop := ((∀ r ∈ l, r.Left < r.Right) ∧ l.length ≤ 20000) ∧ post (rowS l y)
def prowL_sp : Spec := ⟨77, false, true, [.sl (.st .api_Rect), .int .i64], .dat (.sl (.st .region_Span)), fun x post => prowL_P (x.1 : List (api_Rect)) (x.2.1 : Int) (fun y0 => post (y0, ()))⟩
def prowL_C : CtxR := ⟨tau, [rule3 psort_sp], lookJ [(0, 23, ⟨[(41, .dat (.int .i64)), (8, .own 155 (.st .region_Span))], [], [42, 73, 72, 71, 70, 69, 68, 67, 66, 65, 64, 63, 62, 61, 60, 58, 57, 56, 55, 54, 53, 52, 51, 50, 59, 49, 48, 47, 11, 46, 45, 10, 44, 43, 77, 76, 75, 74, 78], [], []⟩), (0, 34, ⟨[(8, .own 155 (.st .region_Span))], [], [74, 75, 76, 77, 43, 44, 10, 45, 46, 11, 47, 48, 49, 59, 50, 51, 52, 53, 54, 55, 56, 57, 58, 60, 61, 62, 63, 64, 65, 66, 67, 68, 69, 70, 71, 72, 73], [1], []⟩), (0, 7, ⟨[(14, .dat (.int .i64)), (5, .own 155 (.st .region_Span))], [], [15, 35, 34, 33, 32, 31, 30, 29, 28, 26, 25, 24, 23, 27, 22, 21, 20, 19, 18, 7, 17, 16, 36], [], []⟩), (0, 14, ⟨[(5, .own 155 (.st .region_Span))], [], [16, 17, 7, 18, 19, 20, 21, 22, 27, 23, 24, 25, 26, 28, 29, 30, 31, 32, 33, 34, 35], [0], []⟩)]⟩
def prowL_W (l : List (api_Rect)) (y : Int) (post : List (region_Span) → Prop) : Prop := (↑l.length : Int) ≤ (9223372036854775807 : Int) → LOOP [Ty.int IntKind.i64, (Ty.st Sn.region_Span).sl] (fun (rec1 : Int → List region_Span → Prop) (z2 : Int) (z3 : List region_Span) ↦ IFB (decide (z2 < (↑l.length : Int))) (JOIN [(Ty.st Sn.region_Span).sl] (fun (y4 : List region_Span) ↦ rec1 (IntKind.i64.wrap (z2 + (1 : Int))) y4) fun (J5 : List region_Span → Prop) ↦ ((0 : Int) ≤ z2 ∧ z2 < (↑l.length : Int)) ∧ IFB (decide ((ix l z2).2 ≤ y) && decide (y < (ix l z2).4)) ((z3.length + [{ Left := (ix l z2).1, Right := (ix l z2).3 : region_Span }].length) * (16 : Nat) ≤ (140737488355328 : Nat) ∧ J5 (z3 ++ [{ Left := (ix l z2).1, Right := (ix l z2).3 : region_Span }])) (J5 z3)) (z3.length ≤ (1000000 : Nat) ∧ ∀ (v6 : List region_Span), v6.Perm z3 → List.Pairwise (fun (s t : region_Span) ↦ s.1 ≤ t.1) v6 → (↑v6.length : Int) ≤ (9223372036854775807 : Int) → LOOP [Ty.int IntKind.i64, (Ty.st Sn.region_Span).sl] (fun (rec7 : Int → List region_Span → Prop) (z8 : Int) (z9 : List region_Span) ↦ IFB (decide (z8 < (↑v6.length : Int))) (JOIN [(Ty.st Sn.region_Span).sl] (fun (y10 : List region_Span) ↦ rec7 (IntKind.i64.wrap (z8 + (1 : Int))) y10) fun (J11 : List region_Span → Prop) ↦ ((0 : Int) ≤ z8 ∧ z8 < (↑v6.length : Int)) ∧ ((↑z9.length : Int) ≤ (9223372036854775807 : Int) → (gx true (decide ((0 : Int) < (↑z9.length : Int))) = true → (0 : Int) ≤ IntKind.i64.wrap ((↑z9.length : Int) - (1 : Int)) ∧ IntKind.i64.wrap ((↑z9.length : Int) - (1 : Int)) < (↑z9.length : Int)) ∧ IFB (decide ((0 : Int) < (↑z9.length : Int)) && decide ((ix v6 z8).1 ≤ (ix z9 (IntKind.i64.wrap ((↑z9.length : Int) - (1 : Int)))).2)) (((0 : Int) ≤ IntKind.i64.wrap ((↑z9.length : Int) - (1 : Int)) ∧ IntKind.i64.wrap ((↑z9.length : Int) - (1 : Int)) < (↑z9.length : Int)) ∧ ((0 : Int) ≤ IntKind.i64.wrap ((↑z9.length : Int) - (1 : Int)) ∧ IntKind.i64.wrap ((↑z9.length : Int) - (1 : Int)) < (↑z9.length : Int)) ∧ J11 (z9.set (IntKind.i64.wrap ((↑z9.length : Int) - (1 : Int))).toNat { Left := (ix z9 (IntKind.i64.wrap ((↑z9.length : Int) - (1 : Int)))).1, Right := Max.max (ix z9 (IntKind.i64.wrap ((↑z9.length : Int) - (1 : Int)))).2 (ix v6 z8).2 : region_Span })) ((z9.length + [{ Left := (ix v6 z8).1, Right := (ix v6 z8).2 : region_Span }].length) * (16 : Nat) ≤ (140737488355328 : Nat) ∧ J11 (z9 ++ [{ Left := (ix v6 z8).1, Right := (ix v6 z8).2 : region_Span }])))) (post z9)) ((0 : Int), [], PUnit.unit))) ((0 : Int), [], PUnit.unit)
theorem prowL_w (l : List (api_Rect)) (y : Int) (post : dens (shT prowL_sp.rs []) → Prop) : prowL_W l y (fun y0 => post (y0, ())) = walkG (callR Tryz.prog prowL_C (drawR Tryz.prog tau) 10 0) 77 false [tv (.sl (.st .api_Rect)) l, tv (.int .i64) y] prowL_sp.rs post := by kernel_rfl
theorem prowL_of (h : ∀ (l : List (api_Rect)) (y : Int) (post : List (region_Span) → Prop), prowL_P l y post → prowL_W l y post) : SpecOK Tryz.prog prowL_sp := SpecOK.of_rules (C := prowL_C) (dr := drawR Tryz.prog tau) (n := 10) (fk := 0) (.cons (rule3_ok psort_ok) .nil) (drawR_ok tau) fun x post hp => HoldW.of (prowL_w x.1 x.2.1 post) (h x.1 x.2.1 (fun y0 => post (y0, ())) hp)
theorem prowL_ok : SpecOK Tryz.prog prowL_sp := prowL_of fun l y post hp => by
  obtain ⟨⟨h1, h2⟩, hp⟩ := hp
  unfold prowL_W
  intro _
  refine LOOP.list l (fun k (s : List Sp) => ((k : Int), s, ())) (fun u => Int.toNat u.1) (fun k r (s : List Sp) => s ++ (onRow y r).map spanOf = (onRow y l).map spanOf ∧ s.length ≤ k) [] rfl ⟨rfl, Nat.le_refl _⟩ (fun k s h => by simp) ?_ ?_
  · intro rec k x r s hd hk hkl ⟨g1, g2⟩ hrec
    have hx := ix_of hk
    show IFB _ _ _
    refine IFB.mk (fun _ => ?_) (fun h => absurd (of_decide_eq_false h) (by show ¬ ¬ ((k : Int) < l.length); omega))
    refine JOIN.opq fun (J : List Sp → Prop) hJ => ?_
    dsimp only
    rw [hx]
    refine ⟨by omega, IFB.mk (fun hb => ?_) (fun hb => ?_)⟩
    · refine ⟨by simp only [List.length_cons, List.length_nil]; omega, ?_⟩
      rw [hJ]
      show rec (IntKind.i64.wrap ((k : Int) + 1)) _
      rw [wrapS (by omega)]
      refine hrec _ ⟨?_, by simp only [List.length_append, List.length_cons, List.length_nil]; omega⟩
      rw [← g1, onRow_cons, if_pos hb]
      simp [spanOf]
    · rw [hJ]
      show rec (IntKind.i64.wrap ((k : Int) + 1)) _
      rw [wrapS (by omega)]
      refine hrec _ ⟨?_, by omega⟩
      rw [← g1, onRow_cons, if_neg (by rw [hb]; simp)]
  · intro rec s ⟨g1, g2⟩
    show IFB _ _ _
    refine IFB.mk (fun h => absurd (of_decide_eq_true h) (by show ¬ ((l.length : Int) < l.length); omega)) (fun _ => ?_)
    have g1 : s = (onRow y l).map spanOf := by simpa [onRow] using g1
    have hsl : s.length ≤ 20000 := by omega
    refine ⟨by show s.length ≤ 1000000; omega, fun v hperm hsort _ => ?_⟩
    have hvl : v.length = s.length := hperm.length_eq
    rw [← rowS_sorted h1 (g1 ▸ hperm) hsort] at hp
    refine LOOP.list v (fun k (s : List Sp) => ((k : Int), s, ())) (fun u => Int.toNat u.1) (fun k r (s : List Sp) => rowG s r = rowG [] v ∧ s.length ≤ k) [] rfl ⟨rfl, Nat.le_refl _⟩ (fun k s h => by simp) ?_ ?_
    · intro rec k x r out hd hk hkl ⟨q1, q2⟩ hrec
      have hx := ix_of hk
      show IFB _ _ _
      refine IFB.mk (fun _ => ?_) (fun h => absurd (of_decide_eq_false h) (by show ¬ ¬ ((k : Int) < v.length); omega))
      refine JOIN.opq fun (J : List Sp → Prop) hJ => ?_
      dsimp only
      rw [hx]
      have hgo : (joinSp out x).length ≤ k + 1 → J (joinSp out x) := fun hle => by
        rw [hJ]
        show rec (IntKind.i64.wrap ((k : Int) + 1)) _
        rw [wrapS (by omega)]
        exact hrec _ ⟨q1, hle⟩
      refine ⟨by omega, fun _ => ?_⟩
      rcases List.eq_nil_or_concat out with rfl | ⟨A, q, rfl⟩
      · have hj : joinSp [] x = [x] := rfl
        rw [hj] at hgo
        refine ⟨fun h => ?_, IFB.mk (fun hb => ?_) (fun hb => ⟨by simp, hgo (by simp)⟩)⟩
        · cases h
        · cases hb
      · rw [List.concat_eq_append] at *
        have w1 : IntKind.i64.wrap (((A ++ [q]).length : Int) - 1) = A.length := by
          simp only [List.length_append, List.length_cons, List.length_nil]
          rw [wrap_in (by omega) (by simp only [List.length_append, List.length_cons, List.length_nil] at q2; omega)]
          omega
        have hq : ix (A ++ [q]) (A.length : Int) = q := ix_app rfl
        have hset : ∀ z, (A ++ [q]).set (A.length : Int).toNat z = A ++ [z] := fun z => set_app (by simp)
        rw [w1, hq, hset]
        have hAl : (A ++ [q]).length = A.length + 1 := by simp
        have hj : joinSp (A ++ [q]) x = if x.Left ≤ q.Right then A ++ [⟨q.Left, max q.Right x.Right⟩] else A ++ [q] ++ [x] := by
          unfold joinSp
          simp
        rw [hj] at hgo
        refine ⟨fun _ => by omega, IFB.mk (fun hb => ⟨by omega, by omega, ?_⟩) (fun hb => ⟨by simp only [List.length_append, List.length_cons, List.length_nil] at *; omega, ?_⟩)⟩
        · rw [Bool.and_eq_true] at hb
          have hb2 : x.Left ≤ q.Right := of_decide_eq_true hb.2
          rw [if_pos hb2] at hgo
          exact hgo (by simp only [List.length_append, List.length_cons, List.length_nil] at *; omega)
        · have hb2 : ¬ x.Left ≤ q.Right := by
            intro h
            rw [Bool.and_eq_false_iff] at hb
            rcases hb with hb | hb
            · have := of_decide_eq_false hb; omega
            · exact of_decide_eq_false hb h
          rw [if_neg hb2] at hgo
          exact hgo (by simp only [List.length_append, List.length_cons, List.length_nil] at *; omega)
    · intro rec out ⟨q1, q2⟩
      show IFB _ _ _
      refine IFB.mk (fun h => absurd (of_decide_eq_true h) (by show ¬ ((v.length : Int) < v.length); omega)) (fun _ => ?_)
      have q1 : out = rowG [] v := q1
      show post out
      rw [q1]; exact hp

def pchoN_P (A : List (api_Rect)) (B : List (api_Rect)) (post : List (api_Rect) → Prop) : Prop := (((∀ r ∈ A, proper r) ∧ A.length ≤ 8000) ∧ (∀ r ∈ B, proper r) ∧ B.length ≤ 8000) ∧ post (canonF (comb (howS 3) A B))
def pchoN_sp : Spec := ⟨38, false, true, [.sl (.st .api_Rect), .sl (.st .api_Rect)], .dat (.sl (.st .api_Rect)), fun x post => pchoN_P (x.1 : List (api_Rect)) (x.2.1 : List (api_Rect)) (fun y0 => post (y0, ()))⟩
def pchoN_C : CtxR := ⟨tau, [rule1 pcutsL_sp, rule1 prowL_sp, rule1 peqs_sp, rule1 prects_sp, ruleC pmergeN_sp 39], lookJ [(1027, 7, ⟨[(6, .dat (.int .i64)), (5, .own 152 (.st .region_band))], [], [9, 10, 11, 12, 64, 63, 62, 61, 60, 59, 58, 56, 55, 54, 53, 52, 51, 50, 49, 48, 45, 44, 43, 42, 41, 40, 39, 38, 37, 57, 47, 46, 36, 35, 34, 8, 33, 32, 7, 31, 30, 29, 28, 27, 26, 25, 24, 23, 22, 21, 20, 19, 18, 17, 16, 15, 68, 67, 66, 65, 13, 14], [], []⟩), (1027, 8, ⟨[(5, .own 152 (.st .region_band))], [], [65, 66, 67, 68, 15, 16, 17, 18, 19, 20, 21, 22, 23, 24, 25, 26, 27, 28, 29, 30, 31, 7, 32, 33, 8, 34, 35, 36, 46, 47, 57, 37, 38, 39, 40, 41, 42, 43, 44, 45, 48, 49, 50, 51, 52, 53, 54, 55, 56, 58, 59, 60, 61, 62, 63, 64], [4], []⟩), (1070592028, 1000001, ⟨[(5, .dat (.sl (.st .region_Span)))], [], [6, 7, 8, 9, 10, 11, 12, 13], [], []⟩)]⟩
def pchoN_W (A : List (api_Rect)) (B : List (api_Rect)) (post : List (api_Rect) → Prop) : Prop := ((A.append (B.append [])).length ≤ (20000 : Nat) ∧ [A, B].length ≤ (10 : Nat)) ∧ LOOP [Ty.int IntKind.i64, (Ty.st Sn.region_band).sl] (fun (rec1 : Int → List region_band → Prop) (z2 : Int) (z3 : List region_band) ↦ (↑(cutsS (A.append (B.append []))).length : Int) ≤ (9223372036854775807 : Int) → IFB (decide (z2 < (↑(cutsS (A.append (B.append []))).length : Int))) (JOIN [(Ty.st Sn.region_band).sl] (fun (y4 : List region_band) ↦ rec1 (IntKind.i64.wrap (z2 + (1 : Int))) y4) fun (J5 : List region_band → Prop) ↦ ((0 : Int) ≤ IntKind.i64.wrap (z2 - (1 : Int)) ∧ IntKind.i64.wrap (z2 - (1 : Int)) < (↑(cutsS (A.append (B.append []))).length : Int)) ∧ ((0 : Int) ≤ z2 ∧ z2 < (↑(cutsS (A.append (B.append []))).length : Int)) ∧ ((0 : Int) ≤ IntKind.i64.wrap (z2 - (1 : Int)) ∧ IntKind.i64.wrap (z2 - (1 : Int)) < (↑(cutsS (A.append (B.append []))).length : Int)) ∧ (JOIN [(Ty.st Sn.region_Span).sl] (fun (y6 : List region_Span) ↦ ((↑z3.length : Int) ≤ (9223372036854775807 : Int) → (gx true (decide ((0 : Int) < (↑z3.length : Int))) = true → (0 : Int) ≤ IntKind.i64.wrap ((↑z3.length : Int) - (1 : Int)) ∧ IntKind.i64.wrap ((↑z3.length : Int) - (1 : Int)) < (↑z3.length : Int)) ∧ (gx true (decide ((0 : Int) < (↑z3.length : Int)) && decide ((ix z3 (IntKind.i64.wrap ((↑z3.length : Int) - (1 : Int)))).2 = ix (cutsS (A.append (B.append []))) (IntKind.i64.wrap (z2 - (1 : Int))))) = true → (0 : Int) ≤ IntKind.i64.wrap ((↑z3.length : Int) - (1 : Int)) ∧ IntKind.i64.wrap ((↑z3.length : Int) - (1 : Int)) < (↑z3.length : Int)) ∧ JOIN [Ty.bool] (fun (y7 : Bool) ↦ IFB (decide ((0 : Int) < (↑z3.length : Int)) && decide ((ix z3 (IntKind.i64.wrap ((↑z3.length : Int) - (1 : Int)))).2 = ix (cutsS (A.append (B.append []))) (IntKind.i64.wrap (z2 - (1 : Int)))) && y7) (((0 : Int) ≤ IntKind.i64.wrap ((↑z3.length : Int) - (1 : Int)) ∧ IntKind.i64.wrap ((↑z3.length : Int) - (1 : Int)) < (↑z3.length : Int)) ∧ J5 (z3.set (IntKind.i64.wrap ((↑z3.length : Int) - (1 : Int))).toNat { low := (ix z3 (IntKind.i64.wrap ((↑z3.length : Int) - (1 : Int)))).1, high := ix (cutsS (A.append (B.append []))) z2, spans := (ix z3 (IntKind.i64.wrap ((↑z3.length : Int) - (1 : Int)))).3 : region_band })) ((z3.length + [{ low := ix (cutsS (A.append (B.append []))) (IntKind.i64.wrap (z2 - (1 : Int))), high := ix (cutsS (A.append (B.append []))) z2, spans := y6 : region_band }].length) * (40 : Nat) ≤ (140737488355328 : Nat) ∧ J5 (z3 ++ [{ low := ix (cutsS (A.append (B.append []))) (IntKind.i64.wrap (z2 - (1 : Int))), high := ix (cutsS (A.append (B.append []))) z2, spans := y6 : region_band }]))) fun (J8 : Bool → Prop) ↦ IFB (gx true (decide ((0 : Int) < (↑z3.length : Int)) && decide ((ix z3 (IntKind.i64.wrap ((↑z3.length : Int) - (1 : Int)))).2 = ix (cutsS (A.append (B.append []))) (IntKind.i64.wrap (z2 - (1 : Int)))))) ((ix z3 (IntKind.i64.wrap ((↑z3.length : Int) - (1 : Int)))).3.length ≤ (1000000000 : Nat) ∧ ∀ (v9 : Bool), (v9 = true ↔ (ix z3 (IntKind.i64.wrap ((↑z3.length : Int) - (1 : Int)))).3 = y6) → J8 v9) (J8 false)) ∧ ((↑z3.length : Int) ≤ (9223372036854775807 : Int) → (gx true (decide ((0 : Int) < (↑z3.length : Int))) = true → (0 : Int) ≤ IntKind.i64.wrap ((↑z3.length : Int) - (1 : Int)) ∧ IntKind.i64.wrap ((↑z3.length : Int) - (1 : Int)) < (↑z3.length : Int)) ∧ (gx true (decide ((0 : Int) < (↑z3.length : Int)) && decide ((ix z3 (IntKind.i64.wrap ((↑z3.length : Int) - (1 : Int)))).2 = ix (cutsS (A.append (B.append []))) (IntKind.i64.wrap (z2 - (1 : Int))))) = true → (0 : Int) ≤ IntKind.i64.wrap ((↑z3.length : Int) - (1 : Int)) ∧ IntKind.i64.wrap ((↑z3.length : Int) - (1 : Int)) < (↑z3.length : Int)) ∧ JOIN [Ty.bool] (fun (y10 : Bool) ↦ IFB (decide ((0 : Int) < (↑z3.length : Int)) && decide ((ix z3 (IntKind.i64.wrap ((↑z3.length : Int) - (1 : Int)))).2 = ix (cutsS (A.append (B.append []))) (IntKind.i64.wrap (z2 - (1 : Int)))) && y10) (((0 : Int) ≤ IntKind.i64.wrap ((↑z3.length : Int) - (1 : Int)) ∧ IntKind.i64.wrap ((↑z3.length : Int) - (1 : Int)) < (↑z3.length : Int)) ∧ J5 (z3.set (IntKind.i64.wrap ((↑z3.length : Int) - (1 : Int))).toNat { low := (ix z3 (IntKind.i64.wrap ((↑z3.length : Int) - (1 : Int)))).1, high := ix (cutsS (A.append (B.append []))) z2, spans := (ix z3 (IntKind.i64.wrap ((↑z3.length : Int) - (1 : Int)))).3 : region_band })) ((z3.length + [{ low := ix (cutsS (A.append (B.append []))) (IntKind.i64.wrap (z2 - (1 : Int))), high := ix (cutsS (A.append (B.append []))) z2, spans := y6 : region_band }].length) * (40 : Nat) ≤ (140737488355328 : Nat) ∧ J5 (z3 ++ [{ low := ix (cutsS (A.append (B.append []))) (IntKind.i64.wrap (z2 - (1 : Int))), high := ix (cutsS (A.append (B.append []))) z2, spans := y6 : region_band }]))) fun (J11 : Bool → Prop) ↦ IFB (gx true (decide ((0 : Int) < (↑z3.length : Int)) && decide ((ix z3 (IntKind.i64.wrap ((↑z3.length : Int) - (1 : Int)))).2 = ix (cutsS (A.append (B.append []))) (IntKind.i64.wrap (z2 - (1 : Int)))))) ((ix z3 (IntKind.i64.wrap ((↑z3.length : Int) - (1 : Int)))).3.length ≤ (1000000000 : Nat) ∧ ∀ (v12 : Bool), (v12 = true ↔ (ix z3 (IntKind.i64.wrap ((↑z3.length : Int) - (1 : Int)))).3 = y6) → J11 v12) (J11 false))) fun (J13 : List region_Span → Prop) ↦ ((∀ (v14 : api_Rect), v14 ∈ A → v14.1 < v14.3) ∧ A.length ≤ (20000 : Nat)) ∧ ((∀ (v15 : api_Rect), v15 ∈ B → v15.1 < v15.3) ∧ B.length ≤ (20000 : Nat)) ∧ ((rowS A (ix (cutsS (A.append (B.append []))) (IntKind.i64.wrap (z2 - (1 : Int))))).length ≤ (20000 : Nat) ∧ (rowS B (ix (cutsS (A.append (B.append []))) (IntKind.i64.wrap (z2 - (1 : Int))))).length ≤ (20000 : Nat)) ∧ J13 (mergeS (3 : Int) (rowS A (ix (cutsS (A.append (B.append []))) (IntKind.i64.wrap (z2 - (1 : Int))))) (rowS B (ix (cutsS (A.append (B.append []))) (IntKind.i64.wrap (z2 - (1 : Int))))))) ∧ JOIN [(Ty.st Sn.region_Span).sl] (fun (y16 : List region_Span) ↦ (↑z3.length : Int) ≤ (9223372036854775807 : Int) → (gx true (decide ((0 : Int) < (↑z3.length : Int))) = true → (0 : Int) ≤ IntKind.i64.wrap ((↑z3.length : Int) - (1 : Int)) ∧ IntKind.i64.wrap ((↑z3.length : Int) - (1 : Int)) < (↑z3.length : Int)) ∧ (gx true (decide ((0 : Int) < (↑z3.length : Int)) && decide ((ix z3 (IntKind.i64.wrap ((↑z3.length : Int) - (1 : Int)))).2 = ix (cutsS (A.append (B.append []))) (IntKind.i64.wrap (z2 - (1 : Int))))) = true → (0 : Int) ≤ IntKind.i64.wrap ((↑z3.length : Int) - (1 : Int)) ∧ IntKind.i64.wrap ((↑z3.length : Int) - (1 : Int)) < (↑z3.length : Int)) ∧ JOIN [Ty.bool] (fun (y17 : Bool) ↦ IFB (decide ((0 : Int) < (↑z3.length : Int)) && decide ((ix z3 (IntKind.i64.wrap ((↑z3.length : Int) - (1 : Int)))).2 = ix (cutsS (A.append (B.append []))) (IntKind.i64.wrap (z2 - (1 : Int)))) && y17) (((0 : Int) ≤ IntKind.i64.wrap ((↑z3.length : Int) - (1 : Int)) ∧ IntKind.i64.wrap ((↑z3.length : Int) - (1 : Int)) < (↑z3.length : Int)) ∧ J5 (z3.set (IntKind.i64.wrap ((↑z3.length : Int) - (1 : Int))).toNat { low := (ix z3 (IntKind.i64.wrap ((↑z3.length : Int) - (1 : Int)))).1, high := ix (cutsS (A.append (B.append []))) z2, spans := (ix z3 (IntKind.i64.wrap ((↑z3.length : Int) - (1 : Int)))).3 : region_band })) ((z3.length + [{ low := ix (cutsS (A.append (B.append []))) (IntKind.i64.wrap (z2 - (1 : Int))), high := ix (cutsS (A.append (B.append []))) z2, spans := y16 : region_band }].length) * (40 : Nat) ≤ (140737488355328 : Nat) ∧ J5 (z3 ++ [{ low := ix (cutsS (A.append (B.append []))) (IntKind.i64.wrap (z2 - (1 : Int))), high := ix (cutsS (A.append (B.append []))) z2, spans := y16 : region_band }]))) fun (J18 : Bool → Prop) ↦ IFB (gx true (decide ((0 : Int) < (↑z3.length : Int)) && decide ((ix z3 (IntKind.i64.wrap ((↑z3.length : Int) - (1 : Int)))).2 = ix (cutsS (A.append (B.append []))) (IntKind.i64.wrap (z2 - (1 : Int)))))) ((ix z3 (IntKind.i64.wrap ((↑z3.length : Int) - (1 : Int)))).3.length ≤ (1000000000 : Nat) ∧ ∀ (v19 : Bool), (v19 = true ↔ (ix z3 (IntKind.i64.wrap ((↑z3.length : Int) - (1 : Int)))).3 = y16) → J18 v19) (J18 false)) fun (J20 : List region_Span → Prop) ↦ ((∀ (v21 : api_Rect), v21 ∈ A → v21.1 < v21.3) ∧ A.length ≤ (20000 : Nat)) ∧ ((∀ (v22 : api_Rect), v22 ∈ B → v22.1 < v22.3) ∧ B.length ≤ (20000 : Nat)) ∧ ((rowS A (ix (cutsS (A.append (B.append []))) (IntKind.i64.wrap (z2 - (1 : Int))))).length ≤ (20000 : Nat) ∧ (rowS B (ix (cutsS (A.append (B.append []))) (IntKind.i64.wrap (z2 - (1 : Int))))).length ≤ (20000 : Nat)) ∧ J20 (mergeS (3 : Int) (rowS A (ix (cutsS (A.append (B.append []))) (IntKind.i64.wrap (z2 - (1 : Int))))) (rowS B (ix (cutsS (A.append (B.append []))) (IntKind.i64.wrap (z2 - (1 : Int))))))) (((flat z3).length ≤ (1000000000 : Nat) ∧ z3.length ≤ (1000000000 : Nat)) ∧ post (flat z3))) ((1 : Int), [], PUnit.unit)
theorem pchoN_w (A : List (api_Rect)) (B : List (api_Rect)) (post : dens (shT pchoN_sp.rs []) → Prop) : pchoN_W A B (fun y0 => post (y0, ())) = walkG (callR Tryz.prog pchoN_C (drawR Tryz.prog tau) 12 0) 38 false [tv (.sl (.st .api_Rect)) A, tv (.sl (.st .api_Rect)) B, .v (clo 39)] pchoN_sp.rs post := by kernel_rfl
theorem pchoN_of (h : ∀ (A : List (api_Rect)) (B : List (api_Rect)) (post : List (api_Rect) → Prop), pchoN_P A B post → pchoN_W A B post) : SpecCOK Tryz.prog pchoN_sp [clo 39] := SpecCOK.of_rules (C := pchoN_C) (dr := drawR Tryz.prog tau) (n := 12) (fk := 0) (.cons (rule1_ok pcutsL_ok) (.cons (rule1_ok prowL_ok) (.cons (rule1_ok peqs_ok) (.cons (rule1_ok prects_ok) (.cons (ruleC_ok pmergeN_ok) .nil))))) (drawR_ok tau) fun x post hp => HoldW.of (pchoN_w x.1 x.2.1 post) (h x.1 x.2.1 (fun y0 => post (y0, ())) hp)
theorem pchoN_ok : SpecCOK Tryz.prog pchoN_sp [clo 39] := pchoN_of fun l m post hp => by
  obtain ⟨⟨⟨g1, hl1⟩, g2, hl2⟩, hp⟩ := hp
  unfold pchoN_W
  have e : l.append (m.append []) = l ++ m := by show l ++ (m ++ []) = l ++ m; rw [List.append_nil]
  rw [e]
  have hlm : (l ++ m).length ≤ 16000 := by rw [List.length_append]; omega
  have hcl := cutsS_len (l := l ++ m)
  have hJ4 : (flat (buildG (fun y => mergeS 3 (rowS l y) (rowS m y)) [] (cutsS (l ++ m)))).length ≤ 268435456 := by
    rw [← choose_build]
    exact box_len (comb_ok (howS_0 3) l m).1 fun x y hc => by
      rw [(comb_ok (howS_0 3) l m).2] at hc
      refine proper_box g1 ?_
      unfold comb howS at hc
      revert hc
      cases cov l x y <;> simp
  rw [choose_build] at hp
  refine ⟨⟨by omega, by simp⟩, ?_⟩
  have hmlen : ∀ y, (mergeS 3 (rowS l y) (rowS m y)).length ≤ 100000 := fun y => by
    unfold mergeS spansOf
    have q1 := spansG_len (p := fun x => howS 3 (insS (rowS l y) x) (insS (rowS m y) x)) (xs := uniqI (edgL (rowS l y ++ rowS m y))) (out := [])
    have q2 := uniqI_len (edgL (rowS l y ++ rowS m y))
    rw [edgL_len, List.length_append] at q2
    have q3 := rowS_len (l := l) (y := y)
    have q4 := rowS_len (l := m) (y := y)
    simp only [List.length_nil] at q1
    omega
  refine build_loop (xs := cutsS (l ++ m)) (R := fun y => mergeS 3 (rowS l y) (rowS m y)) hmlen (by omega) (fun rec k acc hk hal has hrec => ?_) (fun hlen => ⟨⟨by omega, by omega⟩, hp⟩)
  refine JOIN.opq fun (J9 : List Bd → Prop) hJ9 => ?_
  have w1 : IntKind.i64.wrap (((k + 1 : Nat) : Int) - 1) = k := by rw [wrap_in (by omega) (by omega)]; omega
  rw [w1]
  have hJ9 : J9 (addBd acc (ix (cutsS (l ++ m)) (k : Int)) (ix (cutsS (l ++ m)) ((k + 1 : Nat) : Int)) (mergeS 3 (rowS l (ix (cutsS (l ++ m)) (k : Int))) (rowS m (ix (cutsS (l ++ m)) (k : Int))))) := by
    rw [hJ9]
    show rec (IntKind.i64.wrap (((k + 1 : Nat) : Int) + 1)) _
    rw [wrapS (by omega)]
    exact hrec
  have main := bandM_ok (by omega) (fun b hb => Nat.le_trans (has b hb) (by omega)) hJ9
  have q3 := rowS_len (l := l) (y := ix (cutsS (l ++ m)) (k : Int))
  have q4 := rowS_len (l := m) (y := ix (cutsS (l ++ m)) (k : Int))
  have hD1 : (∀ v : api_Rect, v ∈ l → v.1 < v.3) ∧ l.length ≤ 20000 := ⟨fun r hr => (g1 r hr).2.1, by omega⟩
  have hD2 : (∀ v : api_Rect, v ∈ m → v.1 < v.3) ∧ m.length ≤ 20000 := ⟨fun r hr => (g2 r hr).2.1, by omega⟩
  refine ⟨by omega, by omega, by omega, ?_, ?_⟩
  · refine JOIN.opq fun (J17 : List Sp → Prop) hJ17 => ⟨hD1, hD2, ⟨by omega, by omega⟩, ?_⟩
    rw [hJ17]
    exact ⟨main, main⟩
  · refine JOIN.opq fun (J17 : List Sp → Prop) hJ17 => ⟨hD1, hD2, ⟨by omega, by omega⟩, ?_⟩
    rw [hJ17]
    exact main

def pchoB_P (A : List (api_Rect)) (B : List (api_Rect)) (post : List (api_Rect) → Prop) : Prop := (((∀ r ∈ A, proper r) ∧ A.length ≤ 8000) ∧ (∀ r ∈ B, proper r) ∧ B.length ≤ 8000) ∧ post (canonF (comb (howS 2) A B))
def pchoB_sp : Spec := ⟨38, false, true, [.sl (.st .api_Rect), .sl (.st .api_Rect)], .dat (.sl (.st .api_Rect)), fun x post => pchoB_P (x.1 : List (api_Rect)) (x.2.1 : List (api_Rect)) (fun y0 => post (y0, ()))⟩
def pchoB_C : CtxR := ⟨tau, [rule1 pcutsL_sp, rule1 prowL_sp, rule1 peqs_sp, rule1 prects_sp, ruleC pmergeB_sp 95], lookJ [(1027, 7, ⟨[(6, .dat (.int .i64)), (5, .own 152 (.st .region_band))], [], [9, 10, 11, 12, 64, 63, 62, 61, 60, 59, 58, 56, 55, 54, 53, 52, 51, 50, 49, 48, 45, 44, 43, 42, 41, 40, 39, 38, 37, 57, 47, 46, 36, 35, 34, 8, 33, 32, 7, 31, 30, 29, 28, 27, 26, 25, 24, 23, 22, 21, 20, 19, 18, 17, 16, 15, 68, 67, 66, 65, 13, 14], [], []⟩), (1027, 8, ⟨[(5, .own 152 (.st .region_band))], [], [65, 66, 67, 68, 15, 16, 17, 18, 19, 20, 21, 22, 23, 24, 25, 26, 27, 28, 29, 30, 31, 7, 32, 33, 8, 34, 35, 36, 46, 47, 57, 37, 38, 39, 40, 41, 42, 43, 44, 45, 48, 49, 50, 51, 52, 53, 54, 55, 56, 58, 59, 60, 61, 62, 63, 64], [4], []⟩), (1070592028, 1000001, ⟨[(5, .dat (.sl (.st .region_Span)))], [], [6, 7, 8, 9, 10, 11, 12, 13], [], []⟩)]⟩
def pchoB_W (A : List (api_Rect)) (B : List (api_Rect)) (post : List (api_Rect) → Prop) : Prop := ((A.append (B.append [])).length ≤ (20000 : Nat) ∧ [A, B].length ≤ (10 : Nat)) ∧ LOOP [Ty.int IntKind.i64, (Ty.st Sn.region_band).sl] (fun (rec1 : Int → List region_band → Prop) (z2 : Int) (z3 : List region_band) ↦ (↑(cutsS (A.append (B.append []))).length : Int) ≤ (9223372036854775807 : Int) → IFB (decide (z2 < (↑(cutsS (A.append (B.append []))).length : Int))) (JOIN [(Ty.st Sn.region_band).sl] (fun (y4 : List region_band) ↦ rec1 (IntKind.i64.wrap (z2 + (1 : Int))) y4) fun (J5 : List region_band → Prop) ↦ ((0 : Int) ≤ IntKind.i64.wrap (z2 - (1 : Int)) ∧ IntKind.i64.wrap (z2 - (1 : Int)) < (↑(cutsS (A.append (B.append []))).length : Int)) ∧ ((0 : Int) ≤ z2 ∧ z2 < (↑(cutsS (A.append (B.append []))).length : Int)) ∧ ((0 : Int) ≤ IntKind.i64.wrap (z2 - (1 : Int)) ∧ IntKind.i64.wrap (z2 - (1 : Int)) < (↑(cutsS (A.append (B.append []))).length : Int)) ∧ (JOIN [(Ty.st Sn.region_Span).sl] (fun (y6 : List region_Span) ↦ ((↑z3.length : Int) ≤ (9223372036854775807 : Int) → (gx true (decide ((0 : Int) < (↑z3.length : Int))) = true → (0 : Int) ≤ IntKind.i64.wrap ((↑z3.length : Int) - (1 : Int)) ∧ IntKind.i64.wrap ((↑z3.length : Int) - (1 : Int)) < (↑z3.length : Int)) ∧ (gx true (decide ((0 : Int) < (↑z3.length : Int)) && decide ((ix z3 (IntKind.i64.wrap ((↑z3.length : Int) - (1 : Int)))).2 = ix (cutsS (A.append (B.append []))) (IntKind.i64.wrap (z2 - (1 : Int))))) = true → (0 : Int) ≤ IntKind.i64.wrap ((↑z3.length : Int) - (1 : Int)) ∧ IntKind.i64.wrap ((↑z3.length : Int) - (1 : Int)) < (↑z3.length : Int)) ∧ JOIN [Ty.bool] (fun (y7 : Bool) ↦ IFB (decide ((0 : Int) < (↑z3.length : Int)) && decide ((ix z3 (IntKind.i64.wrap ((↑z3.length : Int) - (1 : Int)))).2 = ix (cutsS (A.append (B.append []))) (IntKind.i64.wrap (z2 - (1 : Int)))) && y7) (((0 : Int) ≤ IntKind.i64.wrap ((↑z3.length : Int) - (1 : Int)) ∧ IntKind.i64.wrap ((↑z3.length : Int) - (1 : Int)) < (↑z3.length : Int)) ∧ J5 (z3.set (IntKind.i64.wrap ((↑z3.length : Int) - (1 : Int))).toNat { low := (ix z3 (IntKind.i64.wrap ((↑z3.length : Int) - (1 : Int)))).1, high := ix (cutsS (A.append (B.append []))) z2, spans := (ix z3 (IntKind.i64.wrap ((↑z3.length : Int) - (1 : Int)))).3 : region_band })) ((z3.length + [{ low := ix (cutsS (A.append (B.append []))) (IntKind.i64.wrap (z2 - (1 : Int))), high := ix (cutsS (A.append (B.append []))) z2, spans := y6 : region_band }].length) * (40 : Nat) ≤ (140737488355328 : Nat) ∧ J5 (z3 ++ [{ low := ix (cutsS (A.append (B.append []))) (IntKind.i64.wrap (z2 - (1 : Int))), high := ix (cutsS (A.append (B.append []))) z2, spans := y6 : region_band }]))) fun (J8 : Bool → Prop) ↦ IFB (gx true (decide ((0 : Int) < (↑z3.length : Int)) && decide ((ix z3 (IntKind.i64.wrap ((↑z3.length : Int) - (1 : Int)))).2 = ix (cutsS (A.append (B.append []))) (IntKind.i64.wrap (z2 - (1 : Int)))))) ((ix z3 (IntKind.i64.wrap ((↑z3.length : Int) - (1 : Int)))).3.length ≤ (1000000000 : Nat) ∧ ∀ (v9 : Bool), (v9 = true ↔ (ix z3 (IntKind.i64.wrap ((↑z3.length : Int) - (1 : Int)))).3 = y6) → J8 v9) (J8 false)) ∧ ((↑z3.length : Int) ≤ (9223372036854775807 : Int) → (gx true (decide ((0 : Int) < (↑z3.length : Int))) = true → (0 : Int) ≤ IntKind.i64.wrap ((↑z3.length : Int) - (1 : Int)) ∧ IntKind.i64.wrap ((↑z3.length : Int) - (1 : Int)) < (↑z3.length : Int)) ∧ (gx true (decide ((0 : Int) < (↑z3.length : Int)) && decide ((ix z3 (IntKind.i64.wrap ((↑z3.length : Int) - (1 : Int)))).2 = ix (cutsS (A.append (B.append []))) (IntKind.i64.wrap (z2 - (1 : Int))))) = true → (0 : Int) ≤ IntKind.i64.wrap ((↑z3.length : Int) - (1 : Int)) ∧ IntKind.i64.wrap ((↑z3.length : Int) - (1 : Int)) < (↑z3.length : Int)) ∧ JOIN [Ty.bool] (fun (y10 : Bool) ↦ IFB (decide ((0 : Int) < (↑z3.length : Int)) && decide ((ix z3 (IntKind.i64.wrap ((↑z3.length : Int) - (1 : Int)))).2 = ix (cutsS (A.append (B.append []))) (IntKind.i64.wrap (z2 - (1 : Int)))) && y10) (((0 : Int) ≤ IntKind.i64.wrap ((↑z3.length : Int) - (1 : Int)) ∧ IntKind.i64.wrap ((↑z3.length : Int) - (1 : Int)) < (↑z3.length : Int)) ∧ J5 (z3.set (IntKind.i64.wrap ((↑z3.length : Int) - (1 : Int))).toNat { low := (ix z3 (IntKind.i64.wrap ((↑z3.length : Int) - (1 : Int)))).1, high := ix (cutsS (A.append (B.append []))) z2, spans := (ix z3 (IntKind.i64.wrap ((↑z3.length : Int) - (1 : Int)))).3 : region_band })) ((z3.length + [{ low := ix (cutsS (A.append (B.append []))) (IntKind.i64.wrap (z2 - (1 : Int))), high := ix (cutsS (A.append (B.append []))) z2, spans := y6 : region_band }].length) * (40 : Nat) ≤ (140737488355328 : Nat) ∧ J5 (z3 ++ [{ low := ix (cutsS (A.append (B.append []))) (IntKind.i64.wrap (z2 - (1 : Int))), high := ix (cutsS (A.append (B.append []))) z2, spans := y6 : region_band }]))) fun (J11 : Bool → Prop) ↦ IFB (gx true (decide ((0 : Int) < (↑z3.length : Int)) && decide ((ix z3 (IntKind.i64.wrap ((↑z3.length : Int) - (1 : Int)))).2 = ix (cutsS (A.append (B.append []))) (IntKind.i64.wrap (z2 - (1 : Int)))))) ((ix z3 (IntKind.i64.wrap ((↑z3.length : Int) - (1 : Int)))).3.length ≤ (1000000000 : Nat) ∧ ∀ (v12 : Bool), (v12 = true ↔ (ix z3 (IntKind.i64.wrap ((↑z3.length : Int) - (1 : Int)))).3 = y6) → J11 v12) (J11 false))) fun (J13 : List region_Span → Prop) ↦ ((∀ (v14 : api_Rect), v14 ∈ A → v14.1 < v14.3) ∧ A.length ≤ (20000 : Nat)) ∧ ((∀ (v15 : api_Rect), v15 ∈ B → v15.1 < v15.3) ∧ B.length ≤ (20000 : Nat)) ∧ ((rowS A (ix (cutsS (A.append (B.append []))) (IntKind.i64.wrap (z2 - (1 : Int))))).length ≤ (20000 : Nat) ∧ (rowS B (ix (cutsS (A.append (B.append []))) (IntKind.i64.wrap (z2 - (1 : Int))))).length ≤ (20000 : Nat)) ∧ J13 (mergeS (2 : Int) (rowS A (ix (cutsS (A.append (B.append []))) (IntKind.i64.wrap (z2 - (1 : Int))))) (rowS B (ix (cutsS (A.append (B.append []))) (IntKind.i64.wrap (z2 - (1 : Int))))))) ∧ JOIN [(Ty.st Sn.region_Span).sl] (fun (y16 : List region_Span) ↦ (↑z3.length : Int) ≤ (9223372036854775807 : Int) → (gx true (decide ((0 : Int) < (↑z3.length : Int))) = true → (0 : Int) ≤ IntKind.i64.wrap ((↑z3.length : Int) - (1 : Int)) ∧ IntKind.i64.wrap ((↑z3.length : Int) - (1 : Int)) < (↑z3.length : Int)) ∧ (gx true (decide ((0 : Int) < (↑z3.length : Int)) && decide ((ix z3 (IntKind.i64.wrap ((↑z3.length : Int) - (1 : Int)))).2 = ix (cutsS (A.append (B.append []))) (IntKind.i64.wrap (z2 - (1 : Int))))) = true → (0 : Int) ≤ IntKind.i64.wrap ((↑z3.length : Int) - (1 : Int)) ∧ IntKind.i64.wrap ((↑z3.length : Int) - (1 : Int)) < (↑z3.length : Int)) ∧ JOIN [Ty.bool] (fun (y17 : Bool) ↦ IFB (decide ((0 : Int) < (↑z3.length : Int)) && decide ((ix z3 (IntKind.i64.wrap ((↑z3.length : Int) - (1 : Int)))).2 = ix (cutsS (A.append (B.append []))) (IntKind.i64.wrap (z2 - (1 : Int)))) && y17) (((0 : Int) ≤ IntKind.i64.wrap ((↑z3.length : Int) - (1 : Int)) ∧ IntKind.i64.wrap ((↑z3.length : Int) - (1 : Int)) < (↑z3.length : Int)) ∧ J5 (z3.set (IntKind.i64.wrap ((↑z3.length : Int) - (1 : Int))).toNat { low := (ix z3 (IntKind.i64.wrap ((↑z3.length : Int) - (1 : Int)))).1, high := ix (cutsS (A.append (B.append []))) z2, spans := (ix z3 (IntKind.i64.wrap ((↑z3.length : Int) - (1 : Int)))).3 : region_band })) ((z3.length + [{ low := ix (cutsS (A.append (B.append []))) (IntKind.i64.wrap (z2 - (1 : Int))), high := ix (cutsS (A.append (B.append []))) z2, spans := y16 : region_band }].length) * (40 : Nat) ≤ (140737488355328 : Nat) ∧ J5 (z3 ++ [{ low := ix (cutsS (A.append (B.append []))) (IntKind.i64.wrap (z2 - (1 : Int))), high := ix (cutsS (A.append (B.append []))) z2, spans := y16 : region_band }]))) fun (J18 : Bool → Prop) ↦ IFB (gx true (decide ((0 : Int) < (↑z3.length : Int)) && decide ((ix z3 (IntKind.i64.wrap ((↑z3.length : Int) - (1 : Int)))).2 = ix (cutsS (A.append (B.append []))) (IntKind.i64.wrap (z2 - (1 : Int)))))) ((ix z3 (IntKind.i64.wrap ((↑z3.length : Int) - (1 : Int)))).3.length ≤ (1000000000 : Nat) ∧ ∀ (v19 : Bool), (v19 = true ↔ (ix z3 (IntKind.i64.wrap ((↑z3.length : Int) - (1 : Int)))).3 = y16) → J18 v19) (J18 false)) fun (J20 : List region_Span → Prop) ↦ ((∀ (v21 : api_Rect), v21 ∈ A → v21.1 < v21.3) ∧ A.length ≤ (20000 : Nat)) ∧ ((∀ (v22 : api_Rect), v22 ∈ B → v22.1 < v22.3) ∧ B.length ≤ (20000 : Nat)) ∧ ((rowS A (ix (cutsS (A.append (B.append []))) (IntKind.i64.wrap (z2 - (1 : Int))))).length ≤ (20000 : Nat) ∧ (rowS B (ix (cutsS (A.append (B.append []))) (IntKind.i64.wrap (z2 - (1 : Int))))).length ≤ (20000 : Nat)) ∧ J20 (mergeS (2 : Int) (rowS A (ix (cutsS (A.append (B.append []))) (IntKind.i64.wrap (z2 - (1 : Int))))) (rowS B (ix (cutsS (A.append (B.append []))) (IntKind.i64.wrap (z2 - (1 : Int))))))) (((flat z3).length ≤ (1000000000 : Nat) ∧ z3.length ≤ (1000000000 : Nat)) ∧ post (flat z3))) ((1 : Int), [], PUnit.unit)
theorem pchoB_w (A : List (api_Rect)) (B : List (api_Rect)) (post : dens (shT pchoB_sp.rs []) → Prop) : pchoB_W A B (fun y0 => post (y0, ())) = walkG (callR Tryz.prog pchoB_C (drawR Tryz.prog tau) 12 0) 38 false [tv (.sl (.st .api_Rect)) A, tv (.sl (.st .api_Rect)) B, .v (clo 95)] pchoB_sp.rs post := by kernel_rfl
theorem pchoB_of (h : ∀ (A : List (api_Rect)) (B : List (api_Rect)) (post : List (api_Rect) → Prop), pchoB_P A B post → pchoB_W A B post) : SpecCOK Tryz.prog pchoB_sp [clo 95] := SpecCOK.of_rules (C := pchoB_C) (dr := drawR Tryz.prog tau) (n := 12) (fk := 0) (.cons (rule1_ok pcutsL_ok) (.cons (rule1_ok prowL_ok) (.cons (rule1_ok peqs_ok) (.cons (rule1_ok prects_ok) (.cons (ruleC_ok pmergeB_ok) .nil))))) (drawR_ok tau) fun x post hp => HoldW.of (pchoB_w x.1 x.2.1 post) (h x.1 x.2.1 (fun y0 => post (y0, ())) hp)
theorem pchoB_ok : SpecCOK Tryz.prog pchoB_sp [clo 95] := pchoB_of fun l m post hp => by
  obtain ⟨⟨⟨g1, hl1⟩, g2, hl2⟩, hp⟩ := hp
  unfold pchoB_W
  have e : l.append (m.append []) = l ++ m := by show l ++ (m ++ []) = l ++ m; rw [List.append_nil]
  rw [e]
  have hlm : (l ++ m).length ≤ 16000 := by rw [List.length_append]; omega
  have hcl := cutsS_len (l := l ++ m)
  have hJ4 : (flat (buildG (fun y => mergeS 2 (rowS l y) (rowS m y)) [] (cutsS (l ++ m)))).length ≤ 268435456 := by
    rw [← choose_build]
    exact box_len (comb_ok (howS_0 2) l m).1 fun x y hc => by
      rw [(comb_ok (howS_0 2) l m).2] at hc
      refine proper_box g1 ?_
      unfold comb howS at hc
      revert hc
      cases cov l x y <;> simp
  rw [choose_build] at hp
  refine ⟨⟨by omega, by simp⟩, ?_⟩
  have hmlen : ∀ y, (mergeS 2 (rowS l y) (rowS m y)).length ≤ 100000 := fun y => by
    unfold mergeS spansOf
    have q1 := spansG_len (p := fun x => howS 2 (insS (rowS l y) x) (insS (rowS m y) x)) (xs := uniqI (edgL (rowS l y ++ rowS m y))) (out := [])
    have q2 := uniqI_len (edgL (rowS l y ++ rowS m y))
    rw [edgL_len, List.length_append] at q2
    have q3 := rowS_len (l := l) (y := y)
    have q4 := rowS_len (l := m) (y := y)
    simp only [List.length_nil] at q1
    omega
  refine build_loop (xs := cutsS (l ++ m)) (R := fun y => mergeS 2 (rowS l y) (rowS m y)) hmlen (by omega) (fun rec k acc hk hal has hrec => ?_) (fun hlen => ⟨⟨by omega, by omega⟩, hp⟩)
  refine JOIN.opq fun (J9 : List Bd → Prop) hJ9 => ?_
  have w1 : IntKind.i64.wrap (((k + 1 : Nat) : Int) - 1) = k := by rw [wrap_in (by omega) (by omega)]; omega
  rw [w1]
  have hJ9 : J9 (addBd acc (ix (cutsS (l ++ m)) (k : Int)) (ix (cutsS (l ++ m)) ((k + 1 : Nat) : Int)) (mergeS 2 (rowS l (ix (cutsS (l ++ m)) (k : Int))) (rowS m (ix (cutsS (l ++ m)) (k : Int))))) := by
    rw [hJ9]
    show rec (IntKind.i64.wrap (((k + 1 : Nat) : Int) + 1)) _
    rw [wrapS (by omega)]
    exact hrec
  have main := bandM_ok (by omega) (fun b hb => Nat.le_trans (has b hb) (by omega)) hJ9
  have q3 := rowS_len (l := l) (y := ix (cutsS (l ++ m)) (k : Int))
  have q4 := rowS_len (l := m) (y := ix (cutsS (l ++ m)) (k : Int))
  have hD1 : (∀ v : api_Rect, v ∈ l → v.1 < v.3) ∧ l.length ≤ 20000 := ⟨fun r hr => (g1 r hr).2.1, by omega⟩
  have hD2 : (∀ v : api_Rect, v ∈ m → v.1 < v.3) ∧ m.length ≤ 20000 := ⟨fun r hr => (g2 r hr).2.1, by omega⟩
  refine ⟨by omega, by omega, by omega, ?_, ?_⟩
  · refine JOIN.opq fun (J17 : List Sp → Prop) hJ17 => ⟨hD1, hD2, ⟨by omega, by omega⟩, ?_⟩
    rw [hJ17]
    exact ⟨main, main⟩
  · refine JOIN.opq fun (J17 : List Sp → Prop) hJ17 => ⟨hD1, hD2, ⟨by omega, by omega⟩, ?_⟩
    rw [hJ17]
    exact main

end RE
end Go.Proofs.YtblcakaohlgagaaGreat
set_option linter.unusedVariables false
set_option maxRecDepth 100000
namespace Go.Proofs.YtblcakaohlgagaaGreat
open Go.RowKit
namespace RE
open PL
namespace PL
/-- The rectangles of the line at a place. -/
def gat (l : List api_Version) (p : api_Place) : List Rc := (ix (ix l p.1).Lines p.2).Region.Rects
/-- All lines, with their places. -/
def linN (l : List api_Version) (k : Nat) : List Ln := (List.range k).flatMap fun (i : Nat) => (List.range (ix l (i : Int)).Lines.length).map fun (j : Nat) => (⟨⟨(i : Int), (j : Int)⟩, (ix (ix l (i : Int)).Lines (j : Int)).Region.Rects⟩ : Ln)
def linV (l : List api_Version) : List Ln := linN l l.length
/-- What claimants of doubles would give. -/
def claimsY (ds : List Dbl) : List api_Yield := ds.flatMap fun d => d.Claims.map fun p => (⟨p, d.Region⟩ : api_Yield)
noncomputable def setS (m : List api_Version) (ds : List Dbl) : List api_Version := (claimsY ds).foldl give1 m
/-- The lines are as they were, but for their rectangles. -/
def likeL (x y : api_Line) : Prop := x.1 = y.1 ∧ x.3 = y.3 ∧ x.4 = y.4
def likeV (l m : List api_Version) : Prop := m.length = l.length ∧ ∀ i : Nat, i < l.length → (ix m (i : Int)).Day = (ix l (i : Int)).Day ∧ (ix m (i : Int)).Lines.length = (ix l (i : Int)).Lines.length ∧ ∀ j : Nat, j < (ix l (i : Int)).Lines.length → likeL (ix (ix m (i : Int)).Lines (j : Int)) (ix (ix l (i : Int)).Lines (j : Int))
end PL
theorem place_nat {l : List api_Version} {p : api_Place} (h : thereP l p) : ∃ i j : Nat, p = ⟨(i : Int), (j : Int)⟩ ∧ i < l.length ∧ j < (ix l (i : Int)).Lines.length := by
  obtain ⟨h1, h2, h3, h4⟩ := h
  obtain ⟨i, hi⟩ : ∃ i : Nat, p.1 = (i : Int) := ⟨p.1.toNat, by omega⟩
  obtain ⟨j, hj⟩ : ∃ j : Nat, p.2 = (j : Int) := ⟨p.2.toNat, by omega⟩
  refine ⟨i, j, place_ext hi hj, by omega, ?_⟩
  rw [hi] at h4
  omega
theorem there_nat {l : List api_Version} {i j : Nat} : thereP l ⟨(i : Int), (j : Int)⟩ ↔ i < l.length ∧ j < (ix l (i : Int)).Lines.length := by
  unfold thereP
  constructor
  · rintro ⟨h1, h2, h3, h4⟩
    have h2 : (i : Int) < (l.length : Int) := h2
    have h4 : (j : Int) < ((ix l (i : Int)).Lines.length : Int) := h4
    exact ⟨by omega, by omega⟩
  · rintro ⟨h1, h2⟩
    refine ⟨?_, ?_, ?_, ?_⟩
    · show (0 : Int) ≤ (i : Int); omega
    · show (i : Int) < (l.length : Int); omega
    · show (0 : Int) ≤ (j : Int); omega
    · show (j : Int) < ((ix l (i : Int)).Lines.length : Int); omega
theorem mem_linV {l : List api_Version} {x : Ln} : x ∈ linV l ↔ thereP l x.place ∧ x.rects = gat l x.place := by
  unfold linV linN
  simp only [List.mem_flatMap, List.mem_map, List.mem_range]
  constructor
  · rintro ⟨i, hi, j, hj, rfl⟩
    exact ⟨there_nat.2 ⟨hi, hj⟩, rfl⟩
  · rintro ⟨h, e⟩
    obtain ⟨i, j, hp, hi, hj⟩ := place_nat h
    refine ⟨i, hi, j, hj, ?_⟩
    cases x with
    | mk p r =>
      have hp : p = ⟨(i : Int), (j : Int)⟩ := hp
      subst hp
      have e : r = gat l ⟨(i : Int), (j : Int)⟩ := e
      subst e
      rfl
theorem linN_places (l : List api_Version) (k : Nat) : (linN l k).map (·.place) = plcN l k := by
  unfold linN plcN
  rw [List.map_flatMap]
  congr 1
  funext i
  rw [List.map_map]
  rfl
theorem plcN_mem {l : List api_Version} {k : Nat} {p : api_Place} : p ∈ plcN l k ↔ ∃ i j : Nat, p = ⟨(i : Int), (j : Int)⟩ ∧ i < k ∧ j < (ix l (i : Int)).Lines.length := by
  unfold plcN
  simp only [List.mem_flatMap, List.mem_map, List.mem_range]
  constructor
  · rintro ⟨i, hi, j, hj, rfl⟩; exact ⟨i, j, rfl, hi, hj⟩
  · rintro ⟨i, j, rfl, hi, hj⟩; exact ⟨i, hi, j, hj, rfl⟩
theorem plcN_nodup (l : List api_Version) : ∀ k, (plcN l k).Nodup
  | 0 => by unfold plcN; simp
  | k + 1 => by
    rw [plcN_succ, List.nodup_append]
    refine ⟨plcN_nodup l k, ?_, ?_⟩
    · rw [List.nodup_iff_pairwise_ne, List.pairwise_map]
      refine (List.nodup_iff_pairwise_ne.1 List.nodup_range).imp fun {a b} h e => h ?_
      injection e with _ e
      omega
    · intro a ha b hb e
      subst e
      obtain ⟨i, j, rfl, hi, _⟩ := plcN_mem.1 ha
      obtain ⟨j2, _, e⟩ := List.mem_map.1 hb
      injection e with e _
      omega
theorem linV_nodup (l : List api_Version) : ((linV l).map (·.place)).Nodup := by
  unfold linV
  rw [linN_places]
  exact plcN_nodup l _
theorem mem_who {l : List api_Version} {x y : Int} {p : api_Place} : p ∈ who (linV l) x y ↔ thereP l p ∧ cov (gat l p) x y = true := by
  rw [who_mem]
  constructor
  · rintro ⟨m, hm, hc, rfl⟩
    obtain ⟨h1, h2⟩ := mem_linV.1 hm
    rw [h2] at hc
    exact ⟨h1, hc⟩
  · rintro ⟨h1, h2⟩
    exact ⟨⟨p, gat l p⟩, mem_linV.2 ⟨h1, rfl⟩, h2, rfl⟩
theorem dbls_each {L : List Ln} (h : (L.map (·.place)).Nodup) {ds : List Dbl} (hd : dblsP L ds) : ∀ d ∈ ds, Canon d.Region.Rects ∧ d.Region.Rects ≠ [] ∧ 2 ≤ d.Claims.length ∧ ∀ x y, cov d.Region.Rects x y = true → who L x y = d.Claims := fun d hm => by
  obtain ⟨f, hf, rfl⟩ := List.mem_map.1 (hd.1.mem_iff.1 hm)
  obtain ⟨hf, h2⟩ := List.mem_filter.1 hf
  obtain ⟨e1, e2, _, e4⟩ := (faces_ok h).each f hf
  exact ⟨e1, e2, of_decide_eq_true h2, e4⟩
theorem dbls_all {L : List Ln} (h : (L.map (·.place)).Nodup) {ds : List Dbl} (hd : dblsP L ds) {x y : Int} (hw : 2 ≤ (who L x y).length) : ∃ d ∈ ds, cov d.Region.Rects x y = true ∧ d.Claims = who L x y := by
  obtain ⟨f, hf, hc⟩ := (faces_ok h).all x y (fun e => by rw [e] at hw; simp at hw)
  obtain ⟨_, _, _, e4⟩ := (faces_ok h).each f hf
  have e := e4 x y hc
  refine ⟨toD f, hd.1.mem_iff.2 (List.mem_map.2 ⟨f, List.mem_filter.2 ⟨hf, decide_eq_true (by rw [← e]; exact hw)⟩, rfl⟩), hc, e.symm⟩
theorem get_give {m : List api_Version} {z : api_Yield} {p : api_Place} (hz : thereP m z.1) (hp : thereP m p) : gat (give1 m z) p = if z.1 = p then notC (gat m p) z.2.1 else gat m p := by
  obtain ⟨i, j, e1, hi, hj⟩ := place_nat hz
  obtain ⟨a, b, e2, ha, hb⟩ := place_nat hp
  obtain ⟨q, r⟩ := z
  have e1 : q = ⟨(i : Int), (j : Int)⟩ := e1
  subst e1 e2
  unfold gat give1 setAt
  dsimp only
  rw [Int.toNat_natCast, Int.toNat_natCast, ix_set]
  by_cases e : i = a
  · subst e
    rw [if_pos ⟨rfl, hi⟩]
    dsimp only
    rw [ix_set]
    by_cases e' : j = b
    · subst e'
      rw [if_pos ⟨rfl, hj⟩, if_pos rfl]
      rfl
    · rw [if_neg (fun h => e' h.1), if_neg (fun h => e' (by injection h with _ h; omega))]
  · rw [if_neg (fun h => e h.1), if_neg (fun h => e (by injection h with h _; omega))]
theorem PL.likeV.refl (l : List api_Version) : likeV l l := ⟨rfl, fun i _ => ⟨rfl, rfl, fun j _ => ⟨rfl, rfl, rfl⟩⟩⟩
theorem PL.likeV.shape {l m : List api_Version} (h : likeV l m) : shapeV l m := by
  refine ⟨h.1, fun i => ?_⟩
  by_cases hi : i < l.length
  · exact (h.2 i hi).2.1
  · have e : ∀ k : List api_Version, ¬ i < k.length → ix k (i : Int) = default := fun k hk => by
      unfold ix
      simp only [Int.toNat_natCast]
      rw [List.getD_eq_getElem?_getD, List.getElem?_eq_none (by omega)]; rfl
    rw [e l hi, e m (by rw [h.1]; exact hi)]
theorem PL.likeV.there {l m : List api_Version} (h : likeV l m) {p : api_Place} : thereP m p ↔ thereP l p := by
  refine ⟨fun hp => ?_, thereP_shape h.shape⟩
  obtain ⟨i, j, rfl, hi, hj⟩ := place_nat hp
  rw [h.1] at hi
  rw [h.shape.2 i] at hj
  exact there_nat.2 ⟨hi, hj⟩
theorem PL.likeV.trans {a b c : List api_Version} (h : likeV a b) (k : likeV b c) : likeV a c := by
  refine ⟨k.1.trans h.1, fun i hi => ?_⟩
  obtain ⟨h1, h2, h3⟩ := h.2 i hi
  obtain ⟨k1, k2, k3⟩ := k.2 i (by rw [h.1]; exact hi)
  refine ⟨k1.trans h1, k2.trans h2, fun j hj => ?_⟩
  obtain ⟨a1, a2, a3⟩ := h3 j hj
  obtain ⟨b1, b2, b3⟩ := k3 j (by rw [h2]; exact hj)
  exact ⟨b1.trans a1, b2.trans a2, b3.trans a3⟩
theorem like_give {m : List api_Version} {z : api_Yield} (hz : thereP m z.1) : likeV m (give1 m z) := by
  obtain ⟨i, j, e1, hi, hj⟩ := place_nat hz
  obtain ⟨q, r⟩ := z
  have e1 : q = ⟨(i : Int), (j : Int)⟩ := e1
  subst e1
  unfold give1 setAt
  dsimp only
  rw [Int.toNat_natCast, Int.toNat_natCast]
  refine ⟨by rw [List.length_set], fun a ha => ?_⟩
  rw [ix_set]
  by_cases e : i = a
  · subst e
    rw [if_pos ⟨rfl, hi⟩]
    refine ⟨rfl, by show (List.set _ _ _).length = _; rw [List.length_set], fun b hb => ?_⟩
    dsimp only
    rw [ix_set]
    by_cases e' : j = b
    · subst e'
      rw [if_pos ⟨rfl, hj⟩]
      exact ⟨rfl, rfl, rfl⟩
    · rw [if_neg (fun h => e' h.1)]
      exact ⟨rfl, rfl, rfl⟩
  · rw [if_neg (fun h => e h.1)]
    exact ⟨rfl, rfl, fun _ _ => ⟨rfl, rfl, rfl⟩⟩
theorem gives_ok : ∀ {zs : List api_Yield} {m : List api_Version}, (∀ z ∈ zs, thereP m z.1) → likeV m (zs.foldl give1 m) ∧ ∀ p, thereP m p → (Canon (gat m p) → Canon (gat (zs.foldl give1 m) p)) ∧ ∀ x y, cov (gat (zs.foldl give1 m) p) x y = true ↔ cov (gat m p) x y = true ∧ ∀ z ∈ zs, z.1 = p → cov z.2.1 x y = false
  | [], m, _ => ⟨likeV.refl m, fun p _ => ⟨id, fun x y => ⟨fun h => ⟨h, fun z hz => by cases hz⟩, fun h => h.1⟩⟩⟩
  | z :: zs, m, h => by
    have hz := h z (List.mem_cons_self ..)
    have hl := like_give hz
    obtain ⟨q1, q2⟩ := gives_ok (zs := zs) (m := give1 m z) fun y hy => hl.there.2 (h y (List.mem_cons_of_mem _ hy))
    refine ⟨hl.trans q1, fun p hp => ?_⟩
    obtain ⟨r1, r2⟩ := q2 p (hl.there.2 hp)
    rw [get_give hz hp] at r1 r2
    refine ⟨fun hc => r1 ?_, fun x y => ?_⟩
    · split
      · exact can_not _ _
      · exact hc
    · show cov (gat (zs.foldl give1 (give1 m z)) p) x y = true ↔ _
      rw [r2 x y]
      by_cases e : z.1 = p
      · rw [if_pos e, cov_not]
        constructor
        · rintro ⟨⟨a1, a2⟩, a3⟩
          exact ⟨a1, fun y hy he => by
            rcases List.mem_cons.1 hy with rfl | hy
            · exact a2
            · exact a3 y hy he⟩
        · rintro ⟨a1, a2⟩
          exact ⟨⟨a1, a2 z (List.mem_cons_self ..) e⟩, fun y hy => a2 y (List.mem_cons_of_mem _ hy)⟩
      · rw [if_neg e]
        constructor
        · rintro ⟨a1, a3⟩
          exact ⟨a1, fun y hy he => by
            rcases List.mem_cons.1 hy with rfl | hy
            · exact absurd he e
            · exact a3 y hy he⟩
        · rintro ⟨a1, a2⟩
          exact ⟨a1, fun y hy => a2 y (List.mem_cons_of_mem _ hy)⟩
theorem mem_claimsY {ds : List Dbl} {z : api_Yield} : z ∈ claimsY ds ↔ ∃ d ∈ ds, z.1 ∈ d.Claims ∧ z.2 = d.Region := by
  unfold claimsY
  simp only [List.mem_flatMap, List.mem_map]
  constructor
  · rintro ⟨d, hd, p, hp, rfl⟩; exact ⟨d, hd, hp, rfl⟩
  · rintro ⟨d, hd, hp, e⟩; exact ⟨d, hd, z.1, hp, by rw [← e]⟩
theorem claims_there {g : List api_Version} {ds : List Dbl} (hd : dblsP (linV g) ds) {d : Dbl} (hm : d ∈ ds) {p : api_Place} (hp : p ∈ d.Claims) : thereP g p := by
  obtain ⟨c1, c2, _, c4⟩ := dbls_each (linV_nodup g) hd d hm
  obtain ⟨x, y, hc⟩ := canon_some c1 c2
  rw [← c4 x y hc] at hp
  exact (mem_who.1 hp).1
theorem set_there {g : List api_Version} {ds : List Dbl} (hd : dblsP (linV g) ds) : ∀ z ∈ claimsY ds, thereP g z.1 := fun z hz => by
  obtain ⟨d, hm, hp, _⟩ := mem_claimsY.1 hz
  exact claims_there hd hm hp
theorem set_like {g : List api_Version} {ds : List Dbl} (hd : dblsP (linV g) ds) : likeV g (setS g ds) := (gives_ok (set_there hd)).1
end RE
end Go.Proofs.YtblcakaohlgagaaGreat
set_option linter.unusedVariables false
set_option maxRecDepth 100000
namespace Go.Proofs.YtblcakaohlgagaaGreat
open Go.RowKit
namespace RE
open PL
namespace PL
def rowL (l : List api_Version) (k j : Nat) : List Ln := (List.range j).map fun (j : Nat) => (⟨⟨(k : Int), (j : Int)⟩, (ix (ix l (k : Int)).Lines (j : Int)).Region.Rects⟩ : Ln)
end PL
theorem linN_succ (l : List api_Version) (k : Nat) : linN l (k + 1) = linN l k ++ rowL l k (ix l (k : Int)).Lines.length := by
  unfold linN rowL; rw [List.range_succ, List.flatMap_append]; simp
theorem rowL_succ (l : List api_Version) (k j : Nat) : rowL l k (j + 1) = rowL l k j ++ [⟨⟨(k : Int), (j : Int)⟩, (ix (ix l (k : Int)).Lines (j : Int)).Region.Rects⟩] := by
  unfold rowL; rw [List.range_succ, List.map_append]; rfl
theorem rowL_len (l : List api_Version) (k j : Nat) : (rowL l k j).length = j := by unfold rowL; simp
theorem range_ix {α : Type} [Inhabited α] (l : List α) : (List.range l.length).map (fun (j : Nat) => ix l (j : Int)) = l := by
  refine List.ext_getElem (by simp) fun i h1 h2 => ?_
  rw [List.getElem_map, List.getElem_range, ix_lt h2]
theorem lin_reg (l : List api_Version) (k : Nat) : (linN l k).map (fun x => (⟨x.rects⟩ : api_Region)) = regN l k := by
  unfold linN regN
  rw [List.map_flatMap]
  congr 1
  funext i
  rw [List.map_map]
  have h := congrArg (List.map fun x : api_Line => x.Region) (range_ix (ix l (i : Int)).Lines)
  rw [List.map_map] at h
  exact h
theorem lin_len (l : List api_Version) (k : Nat) : (linN l k).length = (regN l k).length := by rw [← lin_reg, List.length_map]
theorem linN_le {l : List api_Version} {k : Nat} : ∀ {n : Nat}, k ≤ n → (linN l k).length ≤ (linN l n).length
  | 0, h => by rw [Nat.le_zero.1 h]; exact Nat.le_refl _
  | n + 1, h => by
    by_cases e : k = n + 1
    · rw [e]; exact Nat.le_refl _
    · have := linN_le (l := l) (k := k) (n := n) (by omega)
      rw [linN_succ, List.length_append]
      omega
theorem lin_valid {l : List api_Version} : (∀ a ∈ regN l l.length, validP a.1) ↔ ∀ x ∈ linV l, validP x.rects := by
  rw [← lin_reg]
  unfold linV
  constructor
  · intro h x hx
    exact h ⟨x.rects⟩ (List.mem_map.2 ⟨x, hx, rfl⟩)
  · intro h a ha
    obtain ⟨x, hx, rfl⟩ := List.mem_map.1 ha
    exact h x hx
theorem begin_lim {l : List api_Version} {k : Nat} (hk : k ≤ l.length) (h : 60 < (linN l k).length) : beginF l = 1 := by
  unfold beginF
  have := linN_le (l := l) hk
  rw [if_pos (by rw [← lin_len]; omega)]
theorem begin_ok {l : List api_Version} (h1 : (linV l).length ≤ 60) (h2 : ∀ x ∈ linV l, validP x.rects) : beginF l = 0 := by
  unfold beginF
  rw [if_neg (by rw [← lin_len]; show ¬ 60 < (linV l).length; omega), if_pos (lin_valid.2 h2)]
theorem begin_bad {l : List api_Version} (h1 : (linV l).length ≤ 60) (h2 : ¬ ∀ x ∈ linV l, validP x.rects) : beginF l = 7 := by
  unfold beginF
  rw [if_neg (by rw [← lin_len]; show ¬ 60 < (linV l).length; omega), if_neg (fun h => h2 (lin_valid.1 h))]
theorem begin_zero {l : List api_Version} (h : beginF l = 0) : (linV l).length ≤ 60 ∧ ∀ x ∈ linV l, validP x.rects := by
  unfold beginF at h
  split at h
  · cases h
  · rename_i h1
    rw [← lin_len] at h1
    split at h
    · rename_i h2
      exact ⟨by show (linN l l.length).length ≤ 60; omega, lin_valid.1 h2⟩
    · cases h
theorem limit_row {l : List api_Version} : (∀ a ∈ regN l l.length, a.1.length ≤ 120) ↔ ∀ i : Nat, i < l.length → ∀ j : Nat, j < (ix l (i : Int)).Lines.length → (ix (ix l (i : Int)).Lines (j : Int)).Region.Rects.length ≤ 120 := by
  rw [← lin_reg]
  constructor
  · intro h i hi j hj
    refine h ⟨(ix (ix l (i : Int)).Lines (j : Int)).Region.Rects⟩ (List.mem_map.2 ⟨⟨⟨(i : Int), (j : Int)⟩, _⟩, ?_, rfl⟩)
    exact mem_linV.2 ⟨there_nat.2 ⟨hi, hj⟩, rfl⟩
  · intro h a ha
    obtain ⟨x, hx, rfl⟩ := List.mem_map.1 ha
    obtain ⟨h1, h2⟩ := mem_linV.1 hx
    obtain ⟨i, j, e, hi, hj⟩ := place_nat h1
    have := h i hi j hj
    rw [h2, e]
    exact this
end RE
end Go.Proofs.YtblcakaohlgagaaGreat
