/-
  Chapter 36: notices.
-/
import Derived.Test.YtfbfknmnkcddpaaGreatVApp
import Derived.Test.YtfbfknmnkcddpaaGreatVEngC
set_option maxRecDepth 100000
set_option linter.unusedVariables false
namespace Go.Proofs.YtfbfknmnkcddpaaGreat
open Go.RowKit
namespace RE
open PL

namespace PL
def noticeR (n : api_Notice) : Prop := (1 ≤ n.Farm ∧ n.Farm ≤ 60) ∧ (0 ≤ n.Parcel ∧ n.Parcel ≤ 1125899906842624) ∧ 0 ≤ n.Day ∧ n.Day ≤ 36864
open Classical in
noncomputable def nchkS (l : List api_Notice) : Int := if 100 < l.length then 1 else if ∃ n ∈ l, ¬ noticeR n then 69 else 0
def annF (farm day : Int) (n : api_Notice) : Bool := decide (n.Farm = farm) && decide (n.Day ≤ day)
open Classical in
noncomputable def annS (l : List api_Notice) (farm day : Int) : List Int := if nchkS l ≠ 0 then [] else uniqI ((l.filter (annF farm day)).map (·.Parcel))
def ofL (l : List api_Line) (p : Int) : List api_Line := l.filter fun x => decide (x.Parcel = p)
end PL

theorem loopF {t : Ty} {n : Nat} (hn : n ≤ 1000000000) {B : (Int → den t → Prop) → Int → den t → Prop} {K : den t → Prop} (F : Nat → den t) (hB : ∀ (rec : Int → den t → Prop) (k : Nat), k < n → rec (IntKind.i64.wrap ((k : Int) + 1)) (F (k + 1)) → B rec (k : Int) (F k)) (hK : K (F n)) :
    LOOP [Ty.int IntKind.i64, t] (fun (rec : Int → den t → Prop) (z : Int) (s : den t) => IFB (decide (z < (n : Int))) (B rec z s) (K s)) ((0 : Int), F 0, PUnit.unit) := by
  refine LOOP.fuel (fun u => ∃ k : Nat, u.1 = (k : Int) ∧ k ≤ n ∧ u.2.1 = F k) (fun u => n - Int.toNat u.1) ⟨0, rfl, Nat.zero_le _, rfl⟩ ?_
  rintro rec ⟨(z : Int), s, ⟨⟩⟩ ⟨k, hz, hk, hs⟩ hrec
  have hz : z = (k : Int) := hz
  have hs : s = F k := hs
  subst hz hs
  refine IFB.mk (fun hb => ?_) (fun hb => ?_)
  · have hb : (k : Int) < n := of_decide_eq_true hb
    refine hB _ k (by omega) ?_
    rw [wrapS (by omega)]
    exact hrec (((k + 1 : Nat) : Int), F (k + 1), ()) ⟨k + 1, rfl, by omega, rfl⟩ (by show n - ((k + 1 : Nat) : Int).toNat < n - (k : Int).toNat; omega)
  · have hb : ¬ (k : Int) < n := of_decide_eq_false hb
    have : k = n := by omega
    subst this
    exact hK
def filtK {α : Type} (p : α → Bool) (l : List α) (k : Nat) : List α := (l.take k).filter p
theorem filtK_succ {α : Type} [Inhabited α] {p : α → Bool} {l : List α} {k : Nat} (h : k < l.length) : filtK p l (k + 1) = if p (ix l (k : Int)) = true then filtK p l k ++ [ix l (k : Int)] else filtK p l k := by
  unfold filtK
  rw [List.take_succ_eq_append_getElem h, List.filter_append, ix_lt h]
  split
  · rename_i hp; simp [hp]
  · rename_i hp; simp [hp]
theorem filtK_len {α : Type} {p : α → Bool} {l : List α} {k : Nat} : (filtK p l k).length ≤ k := Nat.le_trans (List.length_filter_le _ _) (by simp; omega)
theorem filtK_all {α : Type} {p : α → Bool} {l : List α} : filtK p l l.length = l.filter p := by unfold filtK; rw [List.take_length]

def nchk_P (l : List (api_Notice)) (post : Int → Prop) : Prop := (True) ∧ post (nchkS l)
def nchk_sp : Spec := ⟨36, false, false, [.sl (.st .api_Notice)], .dat (.int .i64), fun x post => nchk_P (x.1 : List (api_Notice)) (fun y0 => post (y0, ()))⟩
def nchk_C : CtxR := ⟨tau, [], lookJ [(0, 9, ⟨[(10, .dat (.int .i64))], [], [11, 12, 13, 4, 14, 15, 16, 17], [], []⟩)]⟩
def nchk_W (l : List (api_Notice)) (post : Int → Prop) : Prop := (↑l.length : Int) ≤ (9223372036854775807 : Int) → IFB (decide ((100 : Int) < (↑l.length : Int))) (post (1 : Int)) ((↑l.length : Int) ≤ (9223372036854775807 : Int) → LOOP [Ty.int IntKind.i64] (fun (rec1 : Int → Prop) (z2 : Int) ↦ IFB (decide (z2 < (↑l.length : Int))) (((0 : Int) ≤ z2 ∧ z2 < (↑l.length : Int)) ∧ IFB (!(decide ((1 : Int) ≤ (ix l z2).1) && decide ((ix l z2).1 ≤ (60 : Int)) && decide ((0 : Int) ≤ (ix l z2).2) && decide ((ix l z2).2 ≤ (1125899906842624 : Int)) && decide ((0 : Int) ≤ (ix l z2).3) && decide ((ix l z2).3 ≤ (36864 : Int)))) (post (69 : Int)) (rec1 (IntKind.i64.wrap (z2 + (1 : Int))))) (post (0 : Int))) ((0 : Int), PUnit.unit))
theorem nchk_w (l : List (api_Notice)) (post : dens (shT nchk_sp.rs []) → Prop) : nchk_W l (fun y0 => post (y0, ())) = walkG (callR Tryz.prog nchk_C (drawR Tryz.prog tau) 8 0) 36 false [tv (.sl (.st .api_Notice)) l] nchk_sp.rs post := by kernel_rfl
theorem nchk_of (h : ∀ (l : List (api_Notice)) (post : Int → Prop), nchk_P l post → nchk_W l post) : SpecOK Tryz.prog nchk_sp := SpecOK.of_rules (C := nchk_C) (dr := drawR Tryz.prog tau) (n := 8) (fk := 0) .nil (drawR_ok tau) fun x post hp => HoldW.of (nchk_w x.1 post) (h x.1 (fun y0 => post (y0, ())) hp)
theorem nchk_ok : SpecOK Tryz.prog nchk_sp := nchk_of fun l post hp => by
  obtain ⟨_, hp⟩ := hp
  unfold nchkS at hp
  unfold nchk_W
  intro _
  refine IFB.mk (fun hb => ?_) (fun hb _ => ?_)
  · rw [if_pos (by have := of_decide_eq_true hb; omega)] at hp; exact hp
  · have hb := of_decide_eq_false hb
    rw [if_neg (by omega)] at hp
    refine loopCmp (n := l.length) (by omega) (p := fun j => noticeR (ix l (j : Int))) (fun rec k hk hpre hrec => ⟨by omega, IFB.mk (fun h => ?_) (fun h => hrec ?_)⟩) fun hall => ?_
    · rw [if_pos] at hp
      · exact hp
      · refine ⟨_, ix_mem (l := l) (i := (k : Int)) (by omega) (by omega), fun hr => ?_⟩
        obtain ⟨⟨h1, h2⟩, ⟨h3, h4⟩, h5, h6⟩ := hr
        simp [h1, h2, h3, h4, h5, h6] at h
    · simp only [Bool.not_eq_false', Bool.and_eq_true, decide_eq_true_eq] at h
      obtain ⟨⟨⟨⟨⟨h1, h2⟩, h3⟩, h4⟩, h5⟩, h6⟩ := h
      exact ⟨⟨h1, h2⟩, ⟨h3, h4⟩, h5, h6⟩
    · rw [if_neg] at hp
      · exact hp
      · rintro ⟨n, hn, hr⟩
        obtain ⟨j, hj, rfl⟩ := List.getElem_of_mem hn
        have := hall j hj
        rw [ix_lt hj] at this
        exact hr this
theorem nchk_len {l : List api_Notice} (h : nchkS l = 0) : l.length ≤ 100 := by
  unfold nchkS at h
  split at h
  · cases h
  · omega

def nann_P (l : List (api_Notice)) (f : Int) (d : Int) (post : List (Int) → Prop) : Prop := (True) ∧ post (annS l f d)
def nann_sp : Spec := ⟨39, false, true, [.sl (.st .api_Notice), .int .i64, .int .i64], .dat (.sl (.int .i64)), fun x post => nann_P (x.1 : List (api_Notice)) (x.2.1 : Int) (x.2.2.1 : Int) (fun y0 => post (y0, ()))⟩
def nann_C : CtxR := ⟨tau, [rule1 nchk_sp, rule3 ssort_sp, rule2 scompact_sp], lookJ [(0, 11, ⟨[(15, .dat (.int .i64)), (7, .own 3 (.int .i64))], [], [16, 33, 32, 31, 30, 29, 27, 26, 25, 24, 28, 23, 22, 21, 20, 19, 9, 18, 17, 34], [], []⟩), (0, 18, ⟨[(7, .own 3 (.int .i64))], [], [17, 18, 9, 19, 20, 21, 22, 23, 28, 24, 25, 26, 27, 29, 30, 31, 32, 33], [0], []⟩)]⟩
def nann_W (l : List (api_Notice)) (f : Int) (d : Int) (post : List (Int) → Prop) : Prop := True ∧ IFB (!decide (nchkS l = (0 : Int))) (post []) ((↑l.length : Int) ≤ (9223372036854775807 : Int) → LOOP [Ty.int IntKind.i64, (Ty.int IntKind.i64).sl] (fun (rec1 : Int → List Int → Prop) (z2 : Int) (z3 : List Int) ↦ IFB (decide (z2 < (↑l.length : Int))) (JOIN [(Ty.int IntKind.i64).sl] (fun (y4 : List Int) ↦ rec1 (IntKind.i64.wrap (z2 + (1 : Int))) y4) fun (J5 : List Int → Prop) ↦ ((0 : Int) ≤ z2 ∧ z2 < (↑l.length : Int)) ∧ IFB (decide ((ix l z2).1 = f) && decide ((ix l z2).3 ≤ d)) ((z3.length + [(ix l z2).2].length) * (8 : Nat) ≤ (140737488355328 : Nat) ∧ J5 (z3 ++ [(ix l z2).2])) (J5 z3)) (z3.length ≤ (1000000 : Nat) ∧ (sortI z3).length ≤ (1000000 : Nat) ∧ post (compI (sortI z3)))) ((0 : Int), [], PUnit.unit))
theorem nann_w (l : List (api_Notice)) (f : Int) (d : Int) (post : dens (shT nann_sp.rs []) → Prop) : nann_W l f d (fun y0 => post (y0, ())) = walkG (callR Tryz.prog nann_C (drawR Tryz.prog tau) 8 0) 39 false [tv (.sl (.st .api_Notice)) l, tv (.int .i64) f, tv (.int .i64) d] nann_sp.rs post := by kernel_rfl
theorem nann_of (h : ∀ (l : List (api_Notice)) (f : Int) (d : Int) (post : List (Int) → Prop), nann_P l f d post → nann_W l f d post) : SpecOK Tryz.prog nann_sp := SpecOK.of_rules (C := nann_C) (dr := drawR Tryz.prog tau) (n := 8) (fk := 0) (.cons (rule1_ok nchk_ok) (.cons (rule3_ok ssort_ok) (.cons (rule2_ok scompact_ok) .nil))) (drawR_ok tau) fun x post hp => HoldW.of (nann_w x.1 x.2.1 x.2.2.1 post) (h x.1 x.2.1 x.2.2.1 (fun y0 => post (y0, ())) hp)
theorem nann_ok : SpecOK Tryz.prog nann_sp := nann_of fun l f d post hp => by
  obtain ⟨_, hp⟩ := hp
  unfold annS at hp
  unfold nann_W
  refine ⟨trivial, IFB.mk (fun hb => ?_) (fun hb _ => ?_)⟩
  · rw [if_pos (by simpa using hb)] at hp; exact hp
  · have hb : nchkS l = 0 := by simpa using hb
    have hl := nchk_len hb
    rw [if_neg (fun h => h hb)] at hp
    refine loopF (t := .sl (.int .i64)) (n := l.length) (by omega) (fun k => List.map (α := api_Notice) (β := Int) (·.Parcel) (filtK (annF f d) l k)) (fun (rec : Int → List Int → Prop) k hk hrec => ?_) ?_
    · refine JOIN.opq fun (J5 : List Int → Prop) hJ5 => ⟨by omega, ?_⟩
      have hrec : rec (IntKind.i64.wrap ((k : Int) + 1)) ((filtK (annF f d) l (k + 1)).map (·.Parcel)) := hrec
      rw [filtK_succ hk] at hrec
      have hlen : ((filtK (annF f d) l k).map (·.Parcel)).length ≤ k := by rw [List.length_map]; exact filtK_len
      refine IFB.mk (fun h => ⟨by simp only [List.length_cons, List.length_nil]; omega, ?_⟩) (fun h => ?_)
      · rw [if_pos (show annF f d (ix l (k : Int)) = true from h), List.map_append] at hrec
        rw [hJ5]; exact hrec
      · rw [if_neg (by show ¬ annF f d _ = true; rw [show annF f d (ix l (k : Int)) = false from h]; simp)] at hrec
        rw [hJ5]; exact hrec
    · show ((filtK (annF f d) l l.length).map (·.Parcel)).length ≤ 1000000 ∧ (sortI ((filtK (annF f d) l l.length).map (·.Parcel))).length ≤ 1000000 ∧ post (compI (sortI ((filtK (annF f d) l l.length).map (·.Parcel))))
      rw [filtK_all]
      have h1 : ((l.filter (annF f d)).map (·.Parcel)).length ≤ 100 := by rw [List.length_map]; exact Nat.le_trans (List.length_filter_le _ _) hl
      have h2 : (sortI ((l.filter (annF f d)).map (·.Parcel))).length = ((l.filter (annF f d)).map (·.Parcel)).length := by unfold sortI; simp
      exact ⟨by omega, by omega, hp⟩

def nof_P (v : api_Version) (p : Int) (post : List (api_Line) → Prop) : Prop := (v.2.length ≤ 2000000) ∧ post (ofL v.2 p)
def nof_sp : Spec := ⟨97, false, true, [.st .api_Version, .int .i64], .dat (.sl (.st .api_Line)), fun x post => nof_P (x.1 : api_Version) (x.2.1 : Int) (fun y0 => post (y0, ()))⟩
def nof_C : CtxR := ⟨tau, [], lookJ [(0, 7, ⟨[(11, .dat (.int .i64)), (5, .own 46 (.st .api_Line))], [], [12, 22, 21, 20, 19, 18, 17, 16, 15, 7, 14, 13, 23], [], []⟩), (0, 14, ⟨[(5, .own 46 (.st .api_Line))], [], [13, 14, 7, 15, 16, 17, 18, 19, 20, 21, 22], [1], []⟩)]⟩
def nof_W (v : api_Version) (p : Int) (post : List (api_Line) → Prop) : Prop := (↑v.2.length : Int) ≤ (9223372036854775807 : Int) → LOOP [Ty.int IntKind.i64, (Ty.st Sn.api_Line).sl] (fun (rec1 : Int → List api_Line → Prop) (z2 : Int) (z3 : List api_Line) ↦ IFB (decide (z2 < (↑v.2.length : Int))) (JOIN [(Ty.st Sn.api_Line).sl] (fun (y4 : List api_Line) ↦ rec1 (IntKind.i64.wrap (z2 + (1 : Int))) y4) fun (J5 : List api_Line → Prop) ↦ ((0 : Int) ≤ z2 ∧ z2 < (↑v.2.length : Int)) ∧ IFB (decide ((ix v.2 z2).1 = p)) ((z3.length + [{ Parcel := (ix v.2 z2).1, Region := { Rects := (ix v.2 z2).2.1 : api_Region }, Crop := (ix v.2 z2).3, Schemes := (ix v.2 z2).4 : api_Line }].length) * (48 : Nat) ≤ (140737488355328 : Nat) ∧ J5 (z3 ++ [{ Parcel := (ix v.2 z2).1, Region := { Rects := (ix v.2 z2).2.1 : api_Region }, Crop := (ix v.2 z2).3, Schemes := (ix v.2 z2).4 : api_Line }])) (J5 z3)) (post z3)) ((0 : Int), [], PUnit.unit)
theorem nof_w (v : api_Version) (p : Int) (post : dens (shT nof_sp.rs []) → Prop) : nof_W v p (fun y0 => post (y0, ())) = walkG (callR Tryz.prog nof_C (drawR Tryz.prog tau) 8 0) 97 false [tv (.st .api_Version) v, tv (.int .i64) p] nof_sp.rs post := by kernel_rfl
theorem nof_of (h : ∀ (v : api_Version) (p : Int) (post : List (api_Line) → Prop), nof_P v p post → nof_W v p post) : SpecOK Tryz.prog nof_sp := SpecOK.of_rules (C := nof_C) (dr := drawR Tryz.prog tau) (n := 8) (fk := 0) .nil (drawR_ok tau) fun x post hp => HoldW.of (nof_w x.1 x.2.1 post) (h x.1 x.2.1 (fun y0 => post (y0, ())) hp)
theorem nof_ok : SpecOK Tryz.prog nof_sp := nof_of fun v p post hp => by
  obtain ⟨hl, hp⟩ := hp
  obtain ⟨d, l⟩ := v
  unfold ofL at hp
  unfold nof_W
  dsimp only at hl hp ⊢
  intro _
  refine loopF (t := .sl (.st .api_Line)) (n := l.length) (by omega) (fun k => filtK (α := api_Line) (fun x => decide (x.Parcel = p)) l k) (fun (rec : Int → List api_Line → Prop) k hk hrec => ?_) (by show post (filtK (α := api_Line) (fun x => decide (x.Parcel = p)) l l.length); rw [filtK_all]; exact hp)
  refine JOIN.opq fun (J5 : List api_Line → Prop) hJ5 => ⟨by omega, ?_⟩
  have hrec : rec (IntKind.i64.wrap ((k : Int) + 1)) (filtK (α := api_Line) (fun x => decide (x.Parcel = p)) l (k + 1)) := hrec
  rw [filtK_succ hk] at hrec
  have hlen : (filtK (fun x : api_Line => decide (x.Parcel = p)) l k).length ≤ k := filtK_len
  refine IFB.mk (fun h => ⟨by simp only [List.length_cons, List.length_nil]; omega, ?_⟩) (fun h => ?_)
  · rw [if_pos h] at hrec
    rw [hJ5]; exact hrec
  · rw [if_neg (by show ¬ decide ((ix l (k : Int)).1 = p) = true; rw [h]; simp)] at hrec
    rw [hJ5]; exact hrec

def nsame_P (a : api_Line) (b : api_Line) (post : Bool → Prop) : Prop := (a.2.1.length ≤ 1000000000) ∧ ∀ q : Bool, (q = true ↔ a.3 = b.3 ∧ a.4 = b.4 ∧ a.2 = b.2) → post q
def nsame_sp : Spec := ⟨98, false, false, [.st .api_Line, .st .api_Line], .dat (.bool), fun x post => nsame_P (x.1 : api_Line) (x.2.1 : api_Line) (fun y0 => post (y0, ()))⟩
def nsame_C : CtxR := ⟨tau, [rule1 peqr_sp], lookJ []⟩
def nsame_W (a : api_Line) (b : api_Line) (post : Bool → Prop) : Prop := JOIN [Ty.bool] (fun (y1 : Bool) ↦ post (decide (a.3 = b.3) && decide (a.4 = b.4) && y1)) fun (J2 : Bool → Prop) ↦ IFB (gx true (decide (a.3 = b.3) && decide (a.4 = b.4))) (a.2.1.length ≤ (1000000000 : Nat) ∧ ∀ (v3 : Bool), (v3 = true ↔ a.2.1 = b.2.1) → J2 v3) (J2 false)
theorem nsame_w (a : api_Line) (b : api_Line) (post : dens (shT nsame_sp.rs []) → Prop) : nsame_W a b (fun y0 => post (y0, ())) = walkG (callR Tryz.prog nsame_C (drawR Tryz.prog tau) 8 0) 98 false [tv (.st .api_Line) a, tv (.st .api_Line) b] nsame_sp.rs post := by kernel_rfl
theorem nsame_of (h : ∀ (a : api_Line) (b : api_Line) (post : Bool → Prop), nsame_P a b post → nsame_W a b post) : SpecOK Tryz.prog nsame_sp := SpecOK.of_rules (C := nsame_C) (dr := drawR Tryz.prog tau) (n := 8) (fk := 0) (.cons (rule1_ok peqr_ok) .nil) (drawR_ok tau) fun x post hp => HoldW.of (nsame_w x.1 x.2.1 post) (h x.1 x.2.1 (fun y0 => post (y0, ())) hp)
theorem nsame_ok : SpecOK Tryz.prog nsame_sp := nsame_of fun a b post hp => by
  obtain ⟨hl, hp⟩ := hp
  obtain ⟨p, ⟨r⟩, c, s⟩ := a
  obtain ⟨p', ⟨r'⟩, c', s'⟩ := b
  unfold nsame_W
  dsimp only at hl hp ⊢
  refine JOIN.opq fun (J2 : Bool → Prop) hJ2 => ?_
  have key : ∀ y : Bool, ((decide (c = c') && decide (s = s') && y) = true ↔ c = c' ∧ s = s' ∧ r = r') → J2 y := fun y hy => by
    rw [hJ2]
    refine hp _ (hy.trans ⟨fun h => ⟨h.1, h.2.1, by rw [h.2.2]⟩, fun h => ⟨h.1, h.2.1, by have := h.2.2; injection this⟩⟩)
  refine IFB.mk (fun h => ⟨hl, fun v hv => key v ?_⟩) (fun h => key false ?_)
  · simp only [Bool.and_eq_true, decide_eq_true_eq, hv, and_assoc]
  · have h : (decide (c = c') && decide (s = s')) = false := h
    rw [Bool.and_false]
    constructor
    · intro h; cases h
    · rintro ⟨h1, h2, _⟩
      rw [decide_eq_true h1, decide_eq_true h2] at h; cases h

end RE
end Go.Proofs.YtfbfknmnkcddpaaGreat
set_option maxRecDepth 100000
set_option linter.unusedVariables false
namespace Go.Proofs.YtfbfknmnkcddpaaGreat
open Go.RowKit
namespace RE
open PL

namespace PL
open Classical in
noncomputable def lockS (a : api_Application) (v : api_Version) (l : List api_Notice) : Int × Bool :=
  if a.Versions = [] then (0, false) else match (annS l a.Farm v.Day).find? (fun p => decide (ofL (ix a.Versions ((a.Versions.length - 1 : Nat) : Int)).Lines p ≠ ofL v.Lines p)) with
    | some p => (p, true)
    | none => (0, false)
open Classical in
noncomputable def namdS (a : api_Application) (v : api_Version) (o la e : Int) (l : List api_Notice) : api_Application × Int :=
  if nchkS l ≠ 0 then (a, nchkS l) else if (lockS a v l).2 = true then (a, 70) else amendS a v o la e
open Classical in
noncomputable def nwdS (a : api_Application) (p d o la e : Int) (l : List api_Notice) : api_Application × Int :=
  if nchkS l ≠ 0 then (a, nchkS l) else if a.Versions = [] ∨ ofL (ix a.Versions ((a.Versions.length - 1 : Nat) : Int)).Lines p = [] then (a, 15)
  else namdS a ⟨d, (ix a.Versions ((a.Versions.length - 1 : Nat) : Int)).Lines.filter fun x => !decide (x.Parcel = p)⟩ o la e l
end PL

def nlock_P (a : api_Application) (v : api_Version) (l : List (api_Notice)) (post : Int → Bool → Prop) : Prop := (bigA a ∧ bigV v) ∧ post ((lockS a v l).1) ((lockS a v l).2)
def nlock_sp : Spec := ⟨42, false, false, [.st .api_Application, .st .api_Version, .sl (.st .api_Notice)], .tup [.dat (.int .i64), .dat (.bool)], fun x post => nlock_P (x.1 : api_Application) (x.2.1 : api_Version) (x.2.2.1 : List (api_Notice)) (fun y0 y1 => post (y0, y1, ()))⟩
def nlock_C : CtxR := ⟨tau, [rule1 nann_sp, rule1 nof_sp, rule1 nsame_sp], lookJ [(0, 11, ⟨[(30, .dat (.int .i64))], [], [31, 32, 33, 10, 40, 39, 38, 37, 36, 35, 34, 41, 43], [], []⟩), (0, 1000007, ⟨[(41, .dat .bool)], [], [34, 35, 36, 37, 38, 39, 40], [], []⟩), (7154, 0, ⟨[(0, .dat .bool)], [], [], [], []⟩), (7154, 9, ⟨[(17, .dat (.int .i64))], [], [18, 19, 20, 21, 8, 7, 22, 23, 24, 25, 9, 26, 27, 28, 29, 30, 31], [], []⟩)]⟩
def nlock_W (a : api_Application) (v : api_Version) (l : List (api_Notice)) (post : Int → Bool → Prop) : Prop := (↑a.3.length : Int) ≤ (9223372036854775807 : Int) → IFB (decide ((↑a.3.length : Int) = (0 : Int))) (post (0 : Int) false) ((↑a.3.length : Int) ≤ (9223372036854775807 : Int) → ((0 : Int) ≤ IntKind.i64.wrap ((↑a.3.length : Int) - (1 : Int)) ∧ IntKind.i64.wrap ((↑a.3.length : Int) - (1 : Int)) < (↑a.3.length : Int)) ∧ True ∧ ((↑(annS l a.1 v.1).length : Int) ≤ (9223372036854775807 : Int) → LOOP [Ty.int IntKind.i64] (fun (rec1 : Int → Prop) (z2 : Int) ↦ IFB (decide (z2 < (↑(annS l a.1 v.1).length : Int))) (((0 : Int) ≤ z2 ∧ z2 < (↑(annS l a.1 v.1).length : Int)) ∧ JOIN [Ty.bool] (fun (y3 : Bool) ↦ IFB y3 (post (ix (annS l a.1 v.1) z2) true) (rec1 (IntKind.i64.wrap (z2 + (1 : Int))))) fun (J4 : Bool → Prop) ↦ (ix a.3 (IntKind.i64.wrap ((↑a.3.length : Int) - (1 : Int)))).2.length ≤ (2000000 : Nat) ∧ v.2.length ≤ (2000000 : Nat) ∧ JOIN [Ty.bool] (fun (y5 : Bool) ↦ J4 !y5) fun (J6 : Bool → Prop) ↦ (↑(ofL (ix a.3 (IntKind.i64.wrap ((↑a.3.length : Int) - (1 : Int)))).2 (ix (annS l a.1 v.1) z2)).length : Int) ≤ (9223372036854775807 : Int) → (↑(ofL v.2 (ix (annS l a.1 v.1) z2)).length : Int) ≤ (9223372036854775807 : Int) → IFB (!decide ((↑(ofL (ix a.3 (IntKind.i64.wrap ((↑a.3.length : Int) - (1 : Int)))).2 (ix (annS l a.1 v.1) z2)).length : Int) = (↑(ofL v.2 (ix (annS l a.1 v.1) z2)).length : Int))) (J6 false) ((↑(ofL (ix a.3 (IntKind.i64.wrap ((↑a.3.length : Int) - (1 : Int)))).2 (ix (annS l a.1 v.1) z2)).length : Int) ≤ (9223372036854775807 : Int) → LOOP [Ty.int IntKind.i64] (fun (rec7 : Int → Prop) (z8 : Int) ↦ IFB (decide (z8 < (↑(ofL (ix a.3 (IntKind.i64.wrap ((↑a.3.length : Int) - (1 : Int)))).2 (ix (annS l a.1 v.1) z2)).length : Int))) (((0 : Int) ≤ z8 ∧ z8 < (↑(ofL (ix a.3 (IntKind.i64.wrap ((↑a.3.length : Int) - (1 : Int)))).2 (ix (annS l a.1 v.1) z2)).length : Int)) ∧ ((0 : Int) ≤ z8 ∧ z8 < (↑(ofL v.2 (ix (annS l a.1 v.1) z2)).length : Int)) ∧ (ix (ofL (ix a.3 (IntKind.i64.wrap ((↑a.3.length : Int) - (1 : Int)))).2 (ix (annS l a.1 v.1) z2)) z8).2.1.length ≤ (1000000000 : Nat) ∧ ∀ (v9 : Bool), (v9 = true ↔ (ix (ofL (ix a.3 (IntKind.i64.wrap ((↑a.3.length : Int) - (1 : Int)))).2 (ix (annS l a.1 v.1) z2)) z8).3 = (ix (ofL v.2 (ix (annS l a.1 v.1) z2)) z8).3 ∧ (ix (ofL (ix a.3 (IntKind.i64.wrap ((↑a.3.length : Int) - (1 : Int)))).2 (ix (annS l a.1 v.1) z2)) z8).4 = (ix (ofL v.2 (ix (annS l a.1 v.1) z2)) z8).4 ∧ { Rects := (ix (ofL (ix a.3 (IntKind.i64.wrap ((↑a.3.length : Int) - (1 : Int)))).2 (ix (annS l a.1 v.1) z2)) z8).2.1 : api_Region } = { Rects := (ix (ofL v.2 (ix (annS l a.1 v.1) z2)) z8).2.1 : api_Region }) → IFB (!v9) (J6 false) (rec7 (IntKind.i64.wrap (z8 + (1 : Int))))) (J6 true)) ((0 : Int), PUnit.unit))) (post (0 : Int) false)) ((0 : Int), PUnit.unit)))
theorem nlock_w (a : api_Application) (v : api_Version) (l : List (api_Notice)) (post : dens (shT nlock_sp.rs []) → Prop) : nlock_W a v l (fun y0 y1 => post (y0, y1, ())) = walkG (callR Tryz.prog nlock_C (drawR Tryz.prog tau) 10 0) 42 false [tv (.st .api_Application) a, tv (.st .api_Version) v, tv (.sl (.st .api_Notice)) l] nlock_sp.rs post := by kernel_rfl
theorem nlock_of (h : ∀ (a : api_Application) (v : api_Version) (l : List (api_Notice)) (post : Int → Bool → Prop), nlock_P a v l post → nlock_W a v l post) : SpecOK Tryz.prog nlock_sp := SpecOK.of_rules (C := nlock_C) (dr := drawR Tryz.prog tau) (n := 10) (fk := 0) (.cons (rule1_ok nann_ok) (.cons (rule1_ok nof_ok) (.cons (rule1_ok nsame_ok) .nil))) (drawR_ok tau) fun x post hp => HoldW.of (nlock_w x.1 x.2.1 x.2.2.1 post) (h x.1 x.2.1 x.2.2.1 (fun y0 y1 => post (y0, y1, ())) hp)
theorem find_at {α : Type} {p : α → Bool} : ∀ {l : List α} {k : Nat} (hk : k < l.length), (∀ (j : Nat) (hj : j < k), p (l[j]'(by omega)) = false) → p l[k] = true → l.find? p = some l[k]
  | x :: r, 0, hk, h0, h1 => by
    have h1 : p x = true := h1
    simp [List.find?, h1]
  | x :: r, k + 1, hk, h0, h1 => by
    have hx : p x = false := h0 0 (by omega)
    have hk' : k < r.length := by simpa using hk
    have ih := find_at (l := r) (k := k) hk' (fun j hj => h0 (j + 1) (by omega)) h1
    simp only [List.find?, hx, ih, List.getElem_cons_succ]
theorem find_no {α : Type} {p : α → Bool} {l : List α} (h : ∀ (j : Nat) (hj : j < l.length), p l[j] = false) : l.find? p = none := by
  rw [List.find?_eq_none]
  intro x hx
  obtain ⟨j, hj, rfl⟩ := List.getElem_of_mem hx
  rw [h j hj]; simp
theorem annS_len {l : List api_Notice} {f d : Int} : (annS l f d).length ≤ 100 := by
  unfold annS
  split
  · simp
  · rename_i h
    have h : nchkS l = 0 := by simpa using h
    refine Nat.le_trans (uniqI_len _) ?_
    rw [List.length_map]
    exact Nat.le_trans (List.length_filter_le _ _) (nchk_len h)
theorem ofL_len {l : List api_Line} {p : Int} : (ofL l p).length ≤ l.length := List.length_filter_le _ _
theorem ofL_mem {l : List api_Line} {p : Int} {x : api_Line} : x ∈ ofL l p ↔ x ∈ l ∧ x.Parcel = p := by unfold ofL; simp
theorem nlock_ok : SpecOK Tryz.prog nlock_sp := nlock_of fun a v l post hp => by
  obtain ⟨⟨⟨ha1, ha2⟩, hv1, hv2⟩, hp⟩ := hp
  obtain ⟨f, y, vs⟩ := a
  obtain ⟨d, m⟩ := v
  unfold lockS at hp
  unfold nlock_W
  dsimp only at hp ha1 ha2 hv1 hv2 ⊢
  intro _
  refine IFB.mk (fun hb => ?_) (fun hb _ => ?_)
  · have hb : (vs.length : Int) = 0 := of_decide_eq_true hb
    have : vs = [] := List.eq_nil_of_length_eq_zero (by omega)
    rw [if_pos this] at hp
    exact hp
  · have hb : ¬ (vs.length : Int) = 0 := of_decide_eq_false hb
    have h0 : 0 < vs.length := by omega
    have hne : ¬ vs = [] := fun e => by rw [e] at h0; simp at h0
    rw [if_neg hne] at hp
    have hw : IntKind.i64.wrap ((vs.length : Int) - 1) = ((vs.length - 1 : Nat) : Int) := by rw [wrap_in (by omega) (by omega)]; omega
    rw [hw]
    have hL := ha2 (ix vs ((vs.length - 1 : Nat) : Int)) (ix_mem (by omega) (by omega))
    obtain ⟨hL1, hL2⟩ := hL
    generalize (ix vs ((vs.length - 1 : Nat) : Int)).Lines = L at hp hL1 hL2 ⊢
    refine ⟨by omega, trivial, fun _ => ?_⟩
    have hA := annS_len (l := l) (f := f) (d := d)
    generalize annS l f d = A at hp hA ⊢
    refine loopCmp (n := A.length) (by omega) (p := fun j => ofL L (ix A (j : Int)) = ofL m (ix A (j : Int))) (fun rec k hk hpre hrec => ⟨by omega, ?_⟩) fun hall => ?_
    · refine JOIN.opq fun (J4 : Bool → Prop) hJ4 => ⟨hL1, hv1, JOIN.opq fun (J6 : Bool → Prop) hJ6 _ _ => ?_⟩
      have key : ∀ y : Bool, (y = true ↔ ofL L (ix A (k : Int)) = ofL m (ix A (k : Int))) → J6 y := fun y hy => by
        rw [hJ6, hJ4]
        dsimp only
        refine IFB.mk (fun h => ?_) (fun h => hrec (hy.1 (by simpa using h)))
        have hn : ¬ ofL L (ix A (k : Int)) = ofL m (ix A (k : Int)) := fun e => by rw [hy.2 e] at h; cases h
        rw [find_at hk (fun j hj => by have := hpre j hj; rw [ix_lt (by omega)] at this; simp [this]) (by rw [ix_lt hk] at hn; simp [hn])] at hp
        rw [ix_lt hk]
        exact hp
      have q1 : (ofL L (ix A (k : Int))).length ≤ L.length := ofL_len
      have q2 : ∀ x ∈ ofL L (ix A (k : Int)), x.1 = ix A (k : Int) ∧ x.2.1.length ≤ 2000000 := fun x hx => ⟨(ofL_mem.1 hx).2, hL2 x (ofL_mem.1 hx).1⟩
      have q3 : ∀ x ∈ ofL m (ix A (k : Int)), x.1 = ix A (k : Int) := fun x hx => (ofL_mem.1 hx).2
      generalize ofL L (ix A (k : Int)) = X at key q1 q2 ⊢
      generalize ofL m (ix A (k : Int)) = Y at key q3 ⊢
      refine IFB.mk (fun hb => ?_) (fun hb _ => ?_)
      · refine key false ⟨fun h => (by cases h), fun e => ?_⟩
        rw [e] at hb; simp at hb
      · have hb : (X.length : Int) = Y.length := by simpa using hb
        refine loopCmp (n := X.length) (by omega) (p := fun j => ix X (j : Int) = ix Y (j : Int)) (fun rec2 i hi hpre2 hrec2 => ⟨by omega, by omega, ?_⟩) fun hall2 => ?_
        · have x1 := q2 _ (ix_mem (l := X) (i := (i : Int)) (by omega) (by omega))
          have y1 := q3 _ (ix_mem (l := Y) (i := (i : Int)) (by omega) (by omega))
          refine ⟨by have := x1.2; omega, fun v9 h9 => IFB.mk (fun h => ?_) (fun h => hrec2 ?_)⟩
          · refine key false ⟨fun h => (by cases h), fun e => ?_⟩
            have : v9 = true := h9.2 ⟨by rw [e], by rw [e], by rw [e]⟩
            rw [this] at h; cases h
          · obtain ⟨e1, e2, e3⟩ := h9.1 (by simpa using h)
            have x1 := x1.1
            generalize ix X (i : Int) = x at *
            generalize ix Y (i : Int) = y at *
            obtain ⟨a1, ⟨a2⟩, a3, a4⟩ := x
            obtain ⟨b1, ⟨b2⟩, b3, b4⟩ := y
            dsimp only at *
            rw [x1, y1, e1, e2, e3]
        · refine key true ⟨fun _ => ?_, fun _ => rfl⟩
          refine List.ext_getElem (by omega) fun j h1 h2 => ?_
          have := hall2 j h1
          rwa [ix_lt h1, ix_lt h2] at this
    · rw [find_no (fun j hj => by have := hall j hj; rw [ix_lt hj] at this; simp [this])] at hp
      exact hp

def nlines_P (l : List (api_Line)) (post : List (api_Line) → Prop) : Prop := (l.length ≤ 2000000 ∧ ∀ x ∈ l, x.2.1.length ≤ 2000000) ∧ post (l)
def nlines_sp : Spec := ⟨102, false, true, [.sl (.st .api_Line)], .own 46 (.st .api_Line), fun x post => nlines_P (x.1 : List (api_Line)) (fun y0 => post (y0, ()))⟩
def nlines_C : CtxR := ⟨tau, [rule1 pclr_sp, rule1 pcll_sp], lookJ [(0, 7, ⟨[(10, .dat (.int .i64))], [], [11, 12, 13, 14, 5, 4, 15, 16, 17, 18, 19, 20, 21, 22, 23, 24], [], [(0, 46, (.st .api_Line))]⟩)]⟩
def nlines_W (l : List (api_Line)) (post : List (api_Line) → Prop) : Prop := l.length ≤ (4000000 : Nat) ∧ ((↑l.length : Int) ≤ (9223372036854775807 : Int) → LOOP [Ty.int IntKind.i64, (Ty.st Sn.api_Line).sl] (fun (rec1 : Int → List api_Line → Prop) (z2 : Int) (z3 : List api_Line) ↦ IFB (decide (z2 < (↑l.length : Int))) (((0 : Int) ≤ z2 ∧ z2 < (↑l.length : Int)) ∧ (ix l z2).2.1.length ≤ (4000000 : Nat) ∧ ((0 : Int) ≤ z2 ∧ z2 < (↑z3.length : Int)) ∧ rec1 (IntKind.i64.wrap (z2 + (1 : Int))) (z3.set z2.toNat { Parcel := (ix z3 z2).1, Region := { Rects := (ix l z2).2.1 : api_Region }, Crop := (ix z3 z2).3, Schemes := (ix z3 z2).4 : api_Line })) (post z3)) ((0 : Int), l, PUnit.unit))
theorem nlines_w (l : List (api_Line)) (post : dens (shT nlines_sp.rs []) → Prop) : nlines_W l (fun y0 => post (y0, ())) = walkG (callR Tryz.prog nlines_C (drawR Tryz.prog tau) 8 0) 102 false [tv (.sl (.st .api_Line)) l] nlines_sp.rs post := by kernel_rfl
theorem nlines_of (h : ∀ (l : List (api_Line)) (post : List (api_Line) → Prop), nlines_P l post → nlines_W l post) : SpecOK Tryz.prog nlines_sp := SpecOK.of_rules (C := nlines_C) (dr := drawR Tryz.prog tau) (n := 8) (fk := 0) (.cons (rule1_ok pclr_ok) (.cons (rule1_ok pcll_ok) .nil)) (drawR_ok tau) fun x post hp => HoldW.of (nlines_w x.1 post) (h x.1 (fun y0 => post (y0, ())) hp)
theorem nlines_ok : SpecOK Tryz.prog nlines_sp := nlines_of fun l post hp => by
  obtain ⟨⟨h1, h2⟩, hp⟩ := hp
  unfold nlines_W
  refine ⟨by omega, fun _ => ?_⟩
  refine loopF (t := .sl (.st .api_Line)) (n := l.length) (by omega) (fun _ => l) (fun (rec : Int → List api_Line → Prop) k hk hrec => ?_) hp
  have hrec : rec (IntKind.i64.wrap ((k : Int) + 1)) l := hrec
  refine ⟨by omega, by have := h2 _ (ix_mem (l := l) (i := (k : Int)) (by omega) (by omega)); omega, by omega, ?_⟩
  exact (congrArg (rec _) (show l.set k (ix l (k : Int)) = l from set_self hk)).mpr hrec

def nclone_P (a : api_Application) (post : api_Application → Prop) : Prop := (bigA a) ∧ post (a)
def nclone_sp : Spec := ⟨100, false, true, [.st .api_Application], .dat (.st .api_Application), fun x post => nclone_P (x.1 : api_Application) (fun y0 => post (y0, ()))⟩
def nclone_C : CtxR := ⟨tau, [rule1 nlines_sp], lookJ [(0, 7, ⟨[(14, .dat (.int .i64))], [(2, [.dat (.int .i64), .dat (.int .i64), .own 31 (.st .api_Version)])], [15, 16, 17, 5, 28, 27, 26, 25, 24, 23, 22, 21, 20, 19, 18, 29], [], []⟩), (0, 1000005, ⟨[], [(2, [.dat (.int .i64), .dat (.int .i64), .own 31 (.st .api_Version)])], [18, 19, 20, 21, 22, 23, 24, 25, 26, 27, 28], [3], []⟩)]⟩
def nclone_W (a : api_Application) (post : api_Application → Prop) : Prop := (↑a.3.length : Int) ≤ (9223372036854775807 : Int) → LOOP [Ty.int IntKind.i64, Ty.int IntKind.i64, Ty.int IntKind.i64, (Ty.st Sn.api_Version).sl] (fun (rec1 : Int → Int → Int → List api_Version → Prop) (z2 z3 z4 : Int) (z5 : List api_Version) ↦ IFB (decide (z2 < (↑a.3.length : Int))) (((0 : Int) ≤ z2 ∧ z2 < (↑a.3.length : Int)) ∧ JOIN [Ty.int IntKind.i64, Ty.int IntKind.i64, (Ty.st Sn.api_Version).sl] (fun (y6 y7 : Int) (y8 : List api_Version) ↦ rec1 (IntKind.i64.wrap (z2 + (1 : Int))) y6 y7 y8) fun (J9 : Int → Int → List api_Version → Prop) ↦ ((ix a.3 z2).2.length ≤ (2000000 : Nat) ∧ ∀ (v10 : api_Line), v10 ∈ (ix a.3 z2).2 → v10.2.1.length ≤ (2000000 : Nat)) ∧ (z5.length + [{ Day := (ix a.3 z2).1, Lines := (ix a.3 z2).2 : api_Version }].length) * (32 : Nat) ≤ (140737488355328 : Nat) ∧ J9 z3 z4 (z5 ++ [{ Day := (ix a.3 z2).1, Lines := (ix a.3 z2).2 : api_Version }])) (post { Farm := z3, Year := z4, Versions := z5 : api_Application })) ((0 : Int), a.1, a.2, [], PUnit.unit)
theorem nclone_w (a : api_Application) (post : dens (shT nclone_sp.rs []) → Prop) : nclone_W a (fun y0 => post (y0, ())) = walkG (callR Tryz.prog nclone_C (drawR Tryz.prog tau) 8 0) 100 false [tv (.st .api_Application) a] nclone_sp.rs post := by kernel_rfl
theorem nclone_of (h : ∀ (a : api_Application) (post : api_Application → Prop), nclone_P a post → nclone_W a post) : SpecOK Tryz.prog nclone_sp := SpecOK.of_rules (C := nclone_C) (dr := drawR Tryz.prog tau) (n := 8) (fk := 0) (.cons (rule1_ok nlines_ok) .nil) (drawR_ok tau) fun x post hp => HoldW.of (nclone_w x.1 post) (h x.1 (fun y0 => post (y0, ())) hp)
theorem nclone_ok : SpecOK Tryz.prog nclone_sp := nclone_of fun a post hp => by
  obtain ⟨⟨h1, h2⟩, hp⟩ := hp
  obtain ⟨f, y, l⟩ := a
  unfold nclone_W
  dsimp only at h1 h2 ⊢
  intro _
  refine LOOP.fuel (fun u => ∃ k : Nat, u.1 = (k : Int) ∧ k ≤ l.length ∧ u.2.1 = f ∧ u.2.2.1 = y ∧ u.2.2.2.1 = l.take k) (fun u => l.length - Int.toNat u.1) ⟨0, rfl, Nat.zero_le _, rfl, rfl, (List.take_zero (l := l)).symm⟩ ?_
  rintro rec ⟨(z : Int), (z3 : Int), (z4 : Int), (z5 : List api_Version), ⟨⟩⟩ ⟨k, i1, i2, i3, i4, i5⟩ hrec
  have i1 : z = (k : Int) := i1
  have i3 : z3 = f := i3
  have i4 : z4 = y := i4
  have j5 : z5 = l.take k := i5
  clear i5
  subst i1 i3 i4
  refine IFB.mk (fun hb => ?_) (fun hb => ?_)
  · have hb : (k : Int) < l.length := of_decide_eq_true hb
    refine ⟨by omega, JOIN.opq fun (J9 : Int → Int → List api_Version → Prop) hJ9 => ⟨h2 _ (ix_mem (l := l) (i := (k : Int)) (by omega) hb), ?_, ?_⟩⟩
    · rw [j5]; simp only [List.length_take, List.length_cons, List.length_nil]; omega
    · rw [hJ9]
      show rec (IntKind.i64.wrap ((k : Int) + 1)) z3 z4 _
      rw [wrapS (by omega)]
      refine hrec (((k + 1 : Nat) : Int), z3, z4, _, ()) ⟨k + 1, rfl, by omega, rfl, rfl, ?_⟩ (by show l.length - ((k + 1 : Nat) : Int).toNat < l.length - (k : Int).toNat; omega)
      show z5 ++ [ix l (k : Int)] = _
      rw [j5, List.take_succ_eq_append_getElem (by omega : k < l.length), ix_lt (by omega)]
  · have hb : ¬ (k : Int) < l.length := of_decide_eq_false hb
    have : k = l.length := by omega
    rw [this, List.take_length] at j5
    rw [j5]; exact hp

def namd_P (a : api_Application) (v : api_Version) (o : Int) (la : Int) (e : Int) (l : List (api_Notice)) (post : api_Application → Int → Prop) : Prop := (bigA a ∧ bigV v) ∧ post ((namdS a v o la e l).1) ((namdS a v o la e l).2)
def namd_sp : Spec := ⟨44, false, true, [.st .api_Application, .st .api_Version, .int .i64, .int .i64, .int .i64, .sl (.st .api_Notice)], .tup [.dat (.st .api_Application), .dat (.int .i64)], fun x post => namd_P (x.1 : api_Application) (x.2.1 : api_Version) (x.2.2.1 : Int) (x.2.2.2.1 : Int) (x.2.2.2.2.1 : Int) (x.2.2.2.2.2.1 : List (api_Notice)) (fun y0 y1 => post (y0, y1, ()))⟩
def namd_C : CtxR := ⟨tau, [rule1 nchk_sp, rule1 nlock_sp, rule1 nclone_sp, rule1 pamend_sp], lookJ []⟩
def namd_W (a : api_Application) (v : api_Version) (o : Int) (la : Int) (e : Int) (l : List (api_Notice)) (post : api_Application → Int → Prop) : Prop := True ∧ IFB (!decide (nchkS l = (0 : Int))) ((a.3.length ≤ (1999999 : Nat) ∧ ∀ (v1 : api_Version), v1 ∈ a.3 → v1.2.length ≤ (2000000 : Nat) ∧ ∀ (v2 : api_Line), v2 ∈ v1.2 → v2.2.1.length ≤ (2000000 : Nat)) ∧ post { Farm := a.1, Year := a.2, Versions := a.3 : api_Application } (nchkS l)) (((a.3.length ≤ (1999999 : Nat) ∧ ∀ (v3 : api_Version), v3 ∈ a.3 → v3.2.length ≤ (2000000 : Nat) ∧ ∀ (v4 : api_Line), v4 ∈ v3.2 → v4.2.1.length ≤ (2000000 : Nat)) ∧ v.2.length ≤ (2000000 : Nat) ∧ ∀ (v5 : api_Line), v5 ∈ v.2 → v5.2.1.length ≤ (2000000 : Nat)) ∧ IFB (lockS { Farm := a.1, Year := a.2, Versions := a.3 : api_Application } { Day := v.1, Lines := v.2 : api_Version } l).2 ((a.3.length ≤ (1999999 : Nat) ∧ ∀ (v6 : api_Version), v6 ∈ a.3 → v6.2.length ≤ (2000000 : Nat) ∧ ∀ (v7 : api_Line), v7 ∈ v6.2 → v7.2.1.length ≤ (2000000 : Nat)) ∧ post { Farm := a.1, Year := a.2, Versions := a.3 : api_Application } (70 : Int)) (((a.3.length ≤ (1999999 : Nat) ∧ ∀ (v8 : api_Version), v8 ∈ a.3 → v8.2.length ≤ (2000000 : Nat) ∧ ∀ (v9 : api_Line), v9 ∈ v8.2 → v9.2.1.length ≤ (2000000 : Nat)) ∧ v.2.length ≤ (2000000 : Nat) ∧ ∀ (v10 : api_Line), v10 ∈ v.2 → v10.2.1.length ≤ (2000000 : Nat)) ∧ post { Farm := (amendS { Farm := a.1, Year := a.2, Versions := a.3 : api_Application } { Day := v.1, Lines := v.2 : api_Version } o la e).1.1, Year := (amendS { Farm := a.1, Year := a.2, Versions := a.3 : api_Application } { Day := v.1, Lines := v.2 : api_Version } o la e).1.2, Versions := (amendS { Farm := a.1, Year := a.2, Versions := a.3 : api_Application } { Day := v.1, Lines := v.2 : api_Version } o la e).1.3 : api_Application } (amendS { Farm := a.1, Year := a.2, Versions := a.3 : api_Application } { Day := v.1, Lines := v.2 : api_Version } o la e).2))
theorem namd_w (a : api_Application) (v : api_Version) (o : Int) (la : Int) (e : Int) (l : List (api_Notice)) (post : dens (shT namd_sp.rs []) → Prop) : namd_W a v o la e l (fun y0 y1 => post (y0, y1, ())) = walkG (callR Tryz.prog namd_C (drawR Tryz.prog tau) 8 0) 44 false [tv (.st .api_Application) a, tv (.st .api_Version) v, tv (.int .i64) o, tv (.int .i64) la, tv (.int .i64) e, tv (.sl (.st .api_Notice)) l] namd_sp.rs post := by kernel_rfl
theorem namd_of (h : ∀ (a : api_Application) (v : api_Version) (o : Int) (la : Int) (e : Int) (l : List (api_Notice)) (post : api_Application → Int → Prop), namd_P a v o la e l post → namd_W a v o la e l post) : SpecOK Tryz.prog namd_sp := SpecOK.of_rules (C := namd_C) (dr := drawR Tryz.prog tau) (n := 8) (fk := 0) (.cons (rule1_ok nchk_ok) (.cons (rule1_ok nlock_ok) (.cons (rule1_ok nclone_ok) (.cons (rule1_ok pamend_ok) .nil)))) (drawR_ok tau) fun x post hp => HoldW.of (namd_w x.1 x.2.1 x.2.2.1 x.2.2.2.1 x.2.2.2.2.1 x.2.2.2.2.2.1 post) (h x.1 x.2.1 x.2.2.1 x.2.2.2.1 x.2.2.2.2.1 x.2.2.2.2.2.1 (fun y0 y1 => post (y0, y1, ())) hp)
theorem namd_ok : SpecOK Tryz.prog namd_sp := namd_of fun a v o la e l post hp => by
  obtain ⟨⟨ha, hv⟩, hp⟩ := hp
  unfold namdS at hp
  unfold namd_W
  refine ⟨trivial, IFB.mk (fun hb => ⟨ha, ?_⟩) (fun hb => ⟨⟨ha, hv⟩, IFB.mk (fun hb2 => ⟨ha, ?_⟩) (fun hb2 => ⟨⟨ha, hv⟩, ?_⟩)⟩)⟩
  · rw [if_pos (by simpa using hb)] at hp; exact hp
  all_goals rw [if_neg (by simpa using hb)] at hp
  · rw [if_pos (show (lockS a v l).2 = true from hb2)] at hp; exact hp
  · rw [if_neg (by rw [show (lockS a v l).2 = false from hb2]; simp)] at hp; exact hp

end RE
end Go.Proofs.YtfbfknmnkcddpaaGreat
set_option maxRecDepth 100000
set_option linter.unusedVariables false
namespace Go.Proofs.YtfbfknmnkcddpaaGreat
open Go.RowKit
namespace RE
open PL

def nwd_P (a : api_Application) (p : Int) (d : Int) (o : Int) (la : Int) (e : Int) (l : List (api_Notice)) (post : api_Application → Int → Prop) : Prop := (bigA a) ∧ post ((nwdS a p d o la e l).1) ((nwdS a p d o la e l).2)
def nwd_sp : Spec := ⟨46, false, true, [.st .api_Application, .int .i64, .int .i64, .int .i64, .int .i64, .int .i64, .sl (.st .api_Notice)], .tup [.dat (.st .api_Application), .dat (.int .i64)], fun x post => nwd_P (x.1 : api_Application) (x.2.1 : Int) (x.2.2.1 : Int) (x.2.2.2.1 : Int) (x.2.2.2.2.1 : Int) (x.2.2.2.2.2.1 : Int) (x.2.2.2.2.2.2.1 : List (api_Notice)) (fun y0 y1 => post (y0, y1, ()))⟩
def nwd_C : CtxR := ⟨tau, [rule1 nchk_sp, rule1 nclone_sp, rule1 nof_sp, rule1 nlines_sp, rule1 namd_sp], lookJ [(7157, 0, ⟨[(0, .own 46 (.st .api_Line))], [], [], [3], []⟩), (7157, 11, ⟨[(6, .dat (.int .i64)), (5, .dat (.int .i64))], [], [16, 17, 18, 19, 35, 34, 33, 32, 31, 30, 29, 28, 27, 26, 7, 25, 24, 23, 22, 20, 21], [], [(3, 46, (.st .api_Line))]⟩), (7157, 12, ⟨[(5, .dat (.int .i64))], [], [22, 23, 24, 25, 7, 26, 27, 28, 29, 30, 31, 32, 33, 34, 35], [], [(3, 46, (.st .api_Line))]⟩), (7460751261, 0, ⟨[(0, .dat (.int .i64))], [], [], [], []⟩), (7460751261, 5, ⟨[(8, .dat (.int .i64))], [], [9, 10, 5, 11, 12, 13, 14, 15, 16, 18], [], []⟩)]⟩
def nwd_W (a : api_Application) (p : Int) (d : Int) (o : Int) (la : Int) (e : Int) (l : List (api_Notice)) (post : api_Application → Int → Prop) : Prop := True ∧ IFB (!decide (nchkS l = (0 : Int))) ((a.3.length ≤ (1999999 : Nat) ∧ ∀ (v1 : api_Version), v1 ∈ a.3 → v1.2.length ≤ (2000000 : Nat) ∧ ∀ (v2 : api_Line), v2 ∈ v1.2 → v2.2.1.length ≤ (2000000 : Nat)) ∧ post { Farm := a.1, Year := a.2, Versions := a.3 : api_Application } (nchkS l)) ((↑a.3.length : Int) ≤ (9223372036854775807 : Int) → (gx false (decide ((↑a.3.length : Int) = (0 : Int))) = true → (0 : Int) ≤ IntKind.i64.wrap ((↑a.3.length : Int) - (1 : Int)) ∧ IntKind.i64.wrap ((↑a.3.length : Int) - (1 : Int)) < (↑a.3.length : Int)) ∧ JOIN [(Ty.st Sn.api_Line).sl] (fun (y3 : List api_Line) ↦ (gx false (decide ((↑a.3.length : Int) = (0 : Int))) = true → (↑y3.length : Int) ≤ (9223372036854775807 : Int)) → IFB (decide ((↑a.3.length : Int) = (0 : Int)) || decide ((↑y3.length : Int) = (0 : Int))) ((a.3.length ≤ (1999999 : Nat) ∧ ∀ (v4 : api_Version), v4 ∈ a.3 → v4.2.length ≤ (2000000 : Nat) ∧ ∀ (v5 : api_Line), v5 ∈ v4.2 → v5.2.1.length ≤ (2000000 : Nat)) ∧ post { Farm := a.1, Year := a.2, Versions := a.3 : api_Application } (15 : Int)) (((0 : Int) ≤ IntKind.i64.wrap ((↑a.3.length : Int) - (1 : Int)) ∧ IntKind.i64.wrap ((↑a.3.length : Int) - (1 : Int)) < (↑a.3.length : Int)) ∧ ((ix a.3 (IntKind.i64.wrap ((↑a.3.length : Int) - (1 : Int)))).2.length ≤ (2000000 : Nat) ∧ ∀ (v6 : api_Line), v6 ∈ (ix a.3 (IntKind.i64.wrap ((↑a.3.length : Int) - (1 : Int)))).2 → v6.2.1.length ≤ (2000000 : Nat)) ∧ JOIN [(Ty.st Sn.api_Line).sl] (fun (y7 : List api_Line) ↦ ((a.3.length ≤ (1999999 : Nat) ∧ ∀ (v8 : api_Version), v8 ∈ a.3 → v8.2.length ≤ (2000000 : Nat) ∧ ∀ (v9 : api_Line), v9 ∈ v8.2 → v9.2.1.length ≤ (2000000 : Nat)) ∧ y7.length ≤ (2000000 : Nat) ∧ ∀ (v10 : api_Line), v10 ∈ y7 → v10.2.1.length ≤ (2000000 : Nat)) ∧ post { Farm := (namdS { Farm := a.1, Year := a.2, Versions := a.3 : api_Application } { Day := d, Lines := y7 : api_Version } o la e l).1.1, Year := (namdS { Farm := a.1, Year := a.2, Versions := a.3 : api_Application } { Day := d, Lines := y7 : api_Version } o la e l).1.2, Versions := (namdS { Farm := a.1, Year := a.2, Versions := a.3 : api_Application } { Day := d, Lines := y7 : api_Version } o la e l).1.3 : api_Application } (namdS { Farm := a.1, Year := a.2, Versions := a.3 : api_Application } { Day := d, Lines := y7 : api_Version } o la e l).2) fun (J11 : List api_Line → Prop) ↦ JOIN [Ty.int IntKind.i64] (fun (y12 : Int) ↦ IFB (decide (y12 = (-1 : Int))) (J11 (ix a.3 (IntKind.i64.wrap ((↑a.3.length : Int) - (1 : Int)))).2) (LOOP [Ty.int IntKind.i64, Ty.int IntKind.i64, (Ty.st Sn.api_Line).sl] (fun (rec13 : Int → Int → List api_Line → Prop) (z14 z15 : Int) (z16 : List api_Line) ↦ (↑z16.length : Int) ≤ (9223372036854775807 : Int) → IFB (decide (z14 < (↑z16.length : Int))) (JOIN [Ty.int IntKind.i64, (Ty.st Sn.api_Line).sl] (fun (y17 : Int) (y18 : List api_Line) ↦ rec13 (IntKind.i64.wrap (z14 + (1 : Int))) y17 y18) fun (J19 : Int → List api_Line → Prop) ↦ ((0 : Int) ≤ z14 ∧ z14 < (↑z16.length : Int)) ∧ IFB (!decide ((ix z16 z14).1 = p)) (((0 : Int) ≤ z15 ∧ z15 < (↑z16.length : Int)) ∧ J19 (IntKind.i64.wrap (z15 + (1 : Int))) (z16.set z15.toNat { Parcel := (ix z16 z14).1, Region := { Rects := (ix z16 z14).2.1 : api_Region }, Crop := (ix z16 z14).3, Schemes := (ix z16 z14).4 : api_Line })) (J19 z15 z16)) (((0 : Int) ≤ z15 ∧ z15 ≤ (↑z16.length : Int) ∧ (↑z16.length : Int) ≤ (↑z16.length : Int)) ∧ (Int.NonNeg (0 : Int) ∧ (0 : Int) ≤ z15 ∧ z15 ≤ (↑(List.take z15.toNat z16 ++ (List.replicate ((↑z16.length : Int).toNat - z15.toNat) { Parcel := (0 : Int), Region := { Rects := [] : api_Region }, Crop := (0 : Int), Schemes := (0 : Int) : api_Line } ++ List.drop (↑z16.length : Int).toNat z16)).length : Int)) ∧ J11 (List.take z15.toNat (List.take z15.toNat z16 ++ (List.replicate ((↑z16.length : Int).toNat - z15.toNat) { Parcel := (0 : Int), Region := { Rects := [] : api_Region }, Crop := (0 : Int), Schemes := (0 : Int) : api_Line } ++ List.drop (↑z16.length : Int).toNat z16))))) (IntKind.i64.wrap (y12 + (1 : Int)), y12, (ix a.3 (IntKind.i64.wrap ((↑a.3.length : Int) - (1 : Int)))).2, PUnit.unit))) fun (J20 : Int → Prop) ↦ (↑(ix a.3 (IntKind.i64.wrap ((↑a.3.length : Int) - (1 : Int)))).2.length : Int) ≤ (9223372036854775807 : Int) → LOOP [Ty.int IntKind.i64] (fun (rec21 : Int → Prop) (z22 : Int) ↦ IFB (decide (z22 < (↑(ix a.3 (IntKind.i64.wrap ((↑a.3.length : Int) - (1 : Int)))).2.length : Int))) (((0 : Int) ≤ z22 ∧ z22 < (↑(ix a.3 (IntKind.i64.wrap ((↑a.3.length : Int) - (1 : Int)))).2.length : Int)) ∧ IFB (decide ((ix (ix a.3 (IntKind.i64.wrap ((↑a.3.length : Int) - (1 : Int)))).2 z22).1 = p)) (J20 z22) (rec21 (IntKind.i64.wrap (z22 + (1 : Int))))) (J20 (-1 : Int))) ((0 : Int), PUnit.unit))) fun (J23 : List api_Line → Prop) ↦ IFB (gx false (decide ((↑a.3.length : Int) = (0 : Int)))) ((ix a.3 (IntKind.i64.wrap ((↑a.3.length : Int) - (1 : Int)))).2.length ≤ (2000000 : Nat) ∧ J23 (ofL (ix a.3 (IntKind.i64.wrap ((↑a.3.length : Int) - (1 : Int)))).2 p)) (J23 []))
theorem nwd_w (a : api_Application) (p : Int) (d : Int) (o : Int) (la : Int) (e : Int) (l : List (api_Notice)) (post : dens (shT nwd_sp.rs []) → Prop) : nwd_W a p d o la e l (fun y0 y1 => post (y0, y1, ())) = walkG (callR Tryz.prog nwd_C (drawR Tryz.prog tau) 10 0) 46 false [tv (.st .api_Application) a, tv (.int .i64) p, tv (.int .i64) d, tv (.int .i64) o, tv (.int .i64) la, tv (.int .i64) e, tv (.sl (.st .api_Notice)) l] nwd_sp.rs post := by kernel_rfl
theorem nwd_of (h : ∀ (a : api_Application) (p : Int) (d : Int) (o : Int) (la : Int) (e : Int) (l : List (api_Notice)) (post : api_Application → Int → Prop), nwd_P a p d o la e l post → nwd_W a p d o la e l post) : SpecOK Tryz.prog nwd_sp := SpecOK.of_rules (C := nwd_C) (dr := drawR Tryz.prog tau) (n := 10) (fk := 0) (.cons (rule1_ok nchk_ok) (.cons (rule1_ok nclone_ok) (.cons (rule1_ok nof_ok) (.cons (rule1_ok nlines_ok) (.cons (rule1_ok namd_ok) .nil))))) (drawR_ok tau) fun x post hp => HoldW.of (nwd_w x.1 x.2.1 x.2.2.1 x.2.2.2.1 x.2.2.2.2.1 x.2.2.2.2.2.1 x.2.2.2.2.2.2.1 post) (h x.1 x.2.1 x.2.2.1 x.2.2.2.1 x.2.2.2.2.1 x.2.2.2.2.2.1 x.2.2.2.2.2.2.1 (fun y0 y1 => post (y0, y1, ())) hp)
/-- The rows of a loop that deletes in place. -/
structure DelI {α : Type} (q : α → Bool) (L : List α) (k j : Nat) (W : List α) : Prop where
  len : W.length = L.length
  jk : j ≤ k
  kn : k ≤ L.length
  tk : W.take j = (L.take k).filter q
  dr : W.drop k = L.drop k
theorem DelI.at {α : Type} [Inhabited α] {q : α → Bool} {L W : List α} {k j : Nat} (h : DelI q L k j W) (hk : k < L.length) : ix W (k : Int) = ix L (k : Int) := by
  have h1 := congrArg (fun l => l[0]?) h.dr
  simp only [List.getElem?_drop, Nat.add_zero] at h1
  rw [List.getElem?_eq_getElem hk, List.getElem?_eq_getElem (by rw [h.len]; exact hk)] at h1
  rw [ix_lt hk, ix_lt (by rw [h.len]; exact hk)]
  exact Option.some.inj h1
theorem DelI.skip {α : Type} [Inhabited α] {q : α → Bool} {L W : List α} {k j : Nat} (h : DelI q L k j W) (hk : k < L.length) (hq : q (ix L (k : Int)) = false) : DelI q L (k + 1) j W := by
  refine ⟨h.len, by have := h.jk; omega, by omega, ?_, ?_⟩
  · rw [h.tk, List.take_succ_eq_append_getElem hk, List.filter_append]
    rw [ix_lt hk] at hq
    simp [hq]
  · have := congrArg (List.drop 1) h.dr
    rw [List.drop_drop, List.drop_drop] at this
    rwa [Nat.add_comm k 1] at this ⊢ <;> assumption
theorem DelI.keep {α : Type} [Inhabited α] {q : α → Bool} {L W : List α} {k j : Nat} (h : DelI q L k j W) (hk : k < L.length) (hq : q (ix L (k : Int)) = true) : DelI q L (k + 1) (j + 1) (W.set j (ix W (k : Int))) := by
  have hjk := h.jk
  have hl := h.len
  refine ⟨by rw [List.length_set]; exact hl, by omega, by omega, ?_, ?_⟩
  · rw [h.at hk, List.take_succ_eq_append_getElem hk, List.filter_append, ← h.tk]
    rw [ix_lt hk] at hq ⊢
    rw [List.take_succ_eq_append_getElem (by rw [List.length_set]; omega), List.take_set_of_le (by omega), List.getElem_set_self]
    simp [hq]
  · have := congrArg (List.drop 1) h.dr
    rw [List.drop_drop, List.drop_drop] at this
    rw [List.drop_set_of_lt (by omega)]
    exact this
theorem nwd_ok : SpecOK Tryz.prog nwd_sp := nwd_of fun a p d o la e l post hp => by
  obtain ⟨ha, hp⟩ := hp
  unfold nwdS at hp
  unfold nwd_W
  refine ⟨trivial, IFB.mk (fun hb => ⟨ha, ?_⟩) (fun hb hmax => ?_)⟩
  · rw [if_pos (by simpa using hb)] at hp; exact hp
  rw [if_neg (by simpa using hb)] at hp
  have hw : 0 < a.3.length → IntKind.i64.wrap ((a.3.length : Int) - 1) = ((a.3.length - 1 : Nat) : Int) := fun h => by rw [wrap_in (by omega) (by omega)]; omega
  have hbd : 0 < a.3.length → (0 : Int) ≤ ((a.3.length - 1 : Nat) : Int) ∧ ((a.3.length - 1 : Nat) : Int) < a.3.length := fun h => by omega
  refine ⟨fun h => ?_, JOIN.opq fun (J23 : List api_Line → Prop) hJ23 => ?_⟩
  · have h0 : 0 < a.3.length := by
      have : ¬ (a.3.length : Int) = 0 := by simpa [gx] using h
      omega
    rw [hw h0]; exact hbd h0
  have done : ∀ X : List api_Line, (a.3.length = 0 ∨ X = []) ↔ (decide ((a.3.length : Int) = 0) || decide ((X.length : Int) = 0)) = true := fun X => by
    rw [Bool.or_eq_true, decide_eq_true_eq, decide_eq_true_eq]
    constructor
    · rintro (h | h)
      · exact .inl (by omega)
      · exact .inr (by rw [h]; rfl)
    · rintro (h | h)
      · exact .inl (by omega)
      · exact .inr (List.eq_nil_of_length_eq_zero (by omega))
  by_cases h0 : a.3.length = 0
  · have hnil : a.3 = [] := List.eq_nil_of_length_eq_zero h0
    rw [if_pos (.inl hnil)] at hp
    refine IFB.mk (fun h => ?_) (fun _ => ?_)
    · have : ¬ (a.3.length : Int) = 0 := by simpa [gx] using h
      omega
    · rw [hJ23]
      intro _
      exact IFB.mk (fun _ => ⟨ha, hp⟩) (fun h => by rw [(done []).1 (.inl h0)] at h; cases h)
  have h0 : 0 < a.3.length := by omega
  have hne : ¬ a.3 = [] := fun e => by rw [e] at h0; simp at h0
  rw [hw h0] at hJ23 ⊢
  have hLb := hbd h0
  have hL := ha.2 (ix a.3 ((a.3.length - 1 : Nat) : Int)) (ix_mem hLb.1 hLb.2)
  obtain ⟨hL1, hL2⟩ := hL
  generalize (ix a.3 ((a.3.length - 1 : Nat) : Int)).2 = L at hp hL1 hL2 hJ23 ⊢
  have hL1 : L.length ≤ 2000000 := hL1
  refine IFB.mk (fun _ => ⟨hL1, ?_⟩) (fun h => ?_)
  rotate_left
  · have : (a.3.length : Int) = 0 := by simpa [gx] using h
    omega
  rw [hJ23]
  intro _
  refine IFB.mk (fun h => ?_) (fun h => ⟨hLb, ⟨hL1, hL2⟩, JOIN.opq fun (J11 : List api_Line → Prop) hJ11 => ?_⟩)
  · have := (done _).2 h
    rw [if_pos (.inr (this.resolve_left (by omega)))] at hp
    exact ⟨ha, hp⟩
  have hof : ¬ (a.3 = [] ∨ ofL L p = []) := by
    rintro (e | e)
    · exact hne e
    · rw [(done _).1 (.inr e)] at h; cases h
  rw [if_neg hof] at hp
  have hJ11 : ∀ X, X = L.filter (fun x => !decide (x.1 = p)) → J11 X := fun X hX => by
    rw [hJ11]
    subst hX
    refine ⟨⟨ha, Nat.le_trans (List.length_filter_le _ _) hL1, fun x hx => hL2 x (List.mem_filter.1 hx).1⟩, hp⟩
  refine JOIN.opq fun (J20 : Int → Prop) hJ20 _ => ?_
  refine loopCmp (n := L.length) (by omega) (p := fun j => ¬ (ix L (j : Int)).1 = p) (fun rec k hk hpre hrec => ⟨by omega, IFB.mk (fun h => ?_) (fun h => hrec (of_decide_eq_false h))⟩) fun hall => ?_
  rotate_left
  · rw [hJ20]
    dsimp only
    refine IFB.mk (fun _ => hJ11 L ?_) (fun h => (by cases h))
    refine (List.filter_eq_self.2 fun x hx => ?_).symm
    obtain ⟨j, hj, rfl⟩ := List.getElem_of_mem hx
    have := hall j hj
    rw [ix_lt hj] at this
    simp [this]
  have h : (ix L (k : Int)).1 = p := of_decide_eq_true h
  rw [hJ20]
  dsimp only
  refine IFB.mk (fun h => by have := of_decide_eq_true h; omega) (fun _ => ?_)
  rw [wrapS (by omega)]
  refine LOOP.fuel (fun u => ∃ m j : Nat, u.1 = (m : Int) ∧ u.2.1 = (j : Int) ∧ DelI (fun x : api_Line => !decide (x.1 = p)) L m j u.2.2.1) (fun u => L.length - Int.toNat u.1) ⟨k + 1, k, rfl, rfl, ?_⟩ ?_
  · have h1 : DelI (fun x : api_Line => !decide (x.1 = p)) L k k L := by
      refine ⟨rfl, Nat.le_refl _, by omega, ?_, rfl⟩
      refine (List.filter_eq_self.2 fun x hx => ?_).symm
      obtain ⟨j, hj, rfl⟩ := List.getElem_of_mem hx
      rw [List.length_take] at hj
      rw [List.getElem_take]
      have := hpre j (by omega)
      rw [ix_lt (by omega)] at this
      simp [this]
    exact h1.skip hk (by simp [h])
  · rintro rec ⟨(z14 : Int), (z15 : Int), (W : List api_Line), ⟨⟩⟩ ⟨m, j, i1, i2, i3⟩ hrec
    have e1 : z14 = (m : Int) := i1
    have e2 : z15 = (j : Int) := i2
    have e3 : DelI (fun x : api_Line => !decide (x.1 = p)) L m j W := i3
    clear i1 i2 i3
    subst e1 e2
    have i3 := e3
    have hjm := i3.jk
    have hmn := i3.kn
    have hWl := i3.len
    intro _
    refine IFB.mk (fun hb => ?_) (fun hb => ?_)
    · have hb : (m : Int) < W.length := of_decide_eq_true hb
      have hm : m < L.length := by omega
      refine JOIN.opq fun (J19 : Int → List api_Line → Prop) hJ19 => ⟨(by omega : (0 : Int) ≤ (m : Int) ∧ (m : Int) < (W.length : Int)), ?_⟩
      have hJ19 : ∀ (j' : Nat) (W' : List api_Line), DelI (fun x : api_Line => !decide (x.1 = p)) L (m + 1) j' W' → J19 (j' : Int) W' := fun j' W' hD => by
        rw [hJ19]
        show rec (IntKind.i64.wrap ((m : Int) + 1)) _ _
        rw [wrapS (by omega)]
        exact hrec (((m + 1 : Nat) : Int), (j' : Int), W', ()) ⟨m + 1, j', rfl, rfl, hD⟩ (by show L.length - ((m + 1 : Nat) : Int).toNat < L.length - (m : Int).toNat; omega)
      have hat := i3.at hm
      refine IFB.mk (fun h => ⟨(by omega : (0 : Int) ≤ (j : Int) ∧ (j : Int) < (W.length : Int)), ?_⟩) (fun h => ?_)
      · show J19 (IntKind.i64.wrap ((j : Int) + 1)) _
        rw [wrapS (by omega)]
        have h : (!decide ((ix W (m : Int)).1 = p)) = true := h
        rw [hat] at h
        exact hJ19 (j + 1) _ (i3.keep hm h)
      · have h : (!decide ((ix W (m : Int)).1 = p)) = false := h
        rw [hat] at h
        exact hJ19 j W (i3.skip hm h)
    · have hb : ¬ (m : Int) < W.length := of_decide_eq_false hb
      have hm : m = L.length := by omega
      have htk := i3.tk
      rw [hm, List.take_length] at htk
      refine ⟨⟨(by omega : (0 : Int) ≤ (j : Int)), (by omega : (j : Int) ≤ (W.length : Int)), (by omega : (W.length : Int) ≤ (W.length : Int))⟩, ⟨Int.NonNeg.mk _, (by omega : (0 : Int) ≤ (j : Int)), ?_⟩, hJ11 _ ?_⟩
      · show (j : Int) ≤ ((List.take (j : Int).toNat W ++ _ : List api_Line).length : Int)
        rw [show (j : Int).toNat = j by omega]
        simp only [List.length_append, List.length_take]
        omega
      · show List.take (j : Int).toNat (List.take (j : Int).toNat W ++ _ : List api_Line) = _
        rw [← htk, show (j : Int).toNat = j by omega]
        rw [List.take_append_of_le_length (by rw [List.length_take]; omega), List.take_take, Nat.min_self]

end RE
end Go.Proofs.YtfbfknmnkcddpaaGreat
set_option maxRecDepth 100000
set_option linter.unusedVariables false
namespace Go.Proofs.YtfbfknmnkcddpaaGreat
open Go.RowKit
namespace RE
open PL

namespace PL
def appliedOK (a : api_Application) (l e : Int) : Prop := (1 ≤ a.Versions.length ∧ a.Versions.length ≤ 2) ∧ (∀ v ∈ a.Versions, (linesOK v.Lines ∧ v.Lines.length ≤ 3) ∧ 2 ≤ v.Day ∧ v.Day ≤ l) ∧ a.Versions.Pairwise (fun v w => v.Day ≤ w.Day) ∧ (1 ≤ a.Farm ∧ a.Farm ≤ 3) ∧ a.Year = 2 ∧ 2 ≤ l ∧ l ≤ e ∧ e ≤ 100
def noticesOK (l : List api_Notice) : Prop := l.length ≤ 3 ∧ ∀ n ∈ l, (1 ≤ n.Farm ∧ n.Farm ≤ 3) ∧ (1 ≤ n.Parcel ∧ n.Parcel ≤ 4) ∧ 0 ≤ n.Day ∧ n.Day ≤ 24
def nextOK (a : api_Application) (v : api_Version) : Prop := v.Lines.length ≤ (ix a.Versions ((a.Versions.length - 1 : Nat) : Int)).Lines.length ∧ ((ix a.Versions ((a.Versions.length - 1 : Nat) : Int)).Day ≤ v.Day ∧ v.Day ≤ (ix a.Versions ((a.Versions.length - 1 : Nat) : Int)).Day + 11) ∧ ∀ x ∈ v.Lines, ∃ y ∈ (ix a.Versions ((a.Versions.length - 1 : Nat) : Int)).Lines, x.Region = y.Region
end PL

def kapp_P  (post : api_Application → Int → Int → Int → Prop) : Prop := ∀ (a : api_Application) (l e : Int), appliedOK a l e → post a 2 l e
def kapp_sp : Spec := ⟨34, true, true, [], .tup [.dat (.st .api_Application), .dat (.int .i64), .dat (.int .i64), .dat (.int .i64)], fun x post => kapp_P  (fun y0 y1 y2 y3 => post (y0, y1, y2, y3, ()))⟩
def kapp_C : CtxR := ⟨tau, [rule1 knext_sp, rule1 krange_sp, rule1 kcrops_sp, rule1 klines_sp], lookJ [(0, 1000010, ⟨[(5, .dat (.int .i64)), (4, .dat (.int .i64)), (3, .dat (.int .i64))], [(0, [.dat (.int .i64), .dat (.int .i64), .rf 2])], [45, 46, 47, 48, 49, 50, 51, 52, 53, 54], [], []⟩), (0, 11, ⟨[(9, .dat (.int .i64)), (8, .dat (.int .i64))], [(1, [.dat (.int .i64), .dat (.int .i64), .own 31 (.st .api_Version)])], [22, 23, 27, 28, 29, 26, 30, 31, 32, 10, 11, 12, 33, 34, 35, 36, 37, 38, 39, 40, 41, 42, 43, 44, 24, 25], [], []⟩)]⟩
def kapp_W  (post : api_Application → Int → Int → Int → Prop) : Prop := ∀ (v1 : List api_Crop), (3 : Nat) ≤ v1.length ∧ v1.length ≤ (8 : Nat) → (Int.NonNeg (1099511627777 : Int) ∧ Int.NonNeg (1099511627775 : Int) ∧ Int.NonNeg (1099511627779 : Int) ∧ (3 : Int) ≤ (1099511627776 : Int)) ∧ ∀ (v2 : Int), (1 : Int) ≤ v2 → v2 ≤ (3 : Int) ∨ v2 = (1 : Int) → (Int.NonNeg (1099511627778 : Int) ∧ Int.NonNeg (1099511627774 : Int) ∧ Int.NonNeg (1099511627784 : Int) ∧ (8 : Int) ≤ (1099511627776 : Int)) ∧ ∀ (v3 : Int), (2 : Int) ≤ v3 → v3 ≤ (8 : Int) ∨ v3 = (2 : Int) → (Int.NonNeg (1099511627777 : Int) ∧ Int.NonNeg (1099511627775 : Int) ∧ Int.NonNeg (1099511627778 : Int) ∧ (2 : Int) ≤ (1099511627776 : Int)) ∧ ∀ (v4 : Int), (1 : Int) ≤ v4 → v4 ≤ (2 : Int) ∨ v4 = (1 : Int) → LOOP [Ty.int IntKind.i64, Ty.int IntKind.i64, Ty.int IntKind.i64, Ty.int IntKind.i64, (Ty.st Sn.api_Version).sl] (fun (rec5 : Int → Int → Int → Int → List api_Version → Prop) (z6 z7 z8 z9 : Int) (z10 : List api_Version) ↦ IFB (decide ((0 : Int) < z6)) (((1 : Nat) ≤ v1.length ∧ v1.length ≤ (1000 : Nat) ∧ (0 : Int) ≤ (3 : Int) ∧ (3 : Int) ≤ (10 : Int)) ∧ ∀ (v11 : List api_Line) (v12 : List Int) (v13 : List api_Region), linesOK v11 ∧ (↑v11.length : Int) ≤ (3 : Int) → (z10.length + [{ Day := z7, Lines := v11 : api_Version }].length) * (32 : Nat) ≤ (140737488355328 : Nat) ∧ Int.NonNeg (9223372036854775803 : Int) ∧ ∀ (v14 : Int), (0 : Int) ≤ v14 → v14 < (4 : Int) ∨ v14 = (0 : Int) → rec5 (IntKind.i64.wrap (z6 - (1 : Int))) (IntKind.i64.wrap (z7 + v14)) z8 z9 (z10 ++ [{ Day := z7, Lines := v11 : api_Version }])) (JOIN [Ty.int IntKind.i64, Ty.int IntKind.i64, Ty.int IntKind.i64, Ty.int IntKind.i64, Ty.int IntKind.i64] (fun (y15 y16 y17 y18 y19 : Int) ↦ post { Farm := y18, Year := y19, Versions := z10 : api_Application } y17 y16 y15) fun (J20 : Int → Int → Int → Int → Int → Prop) ↦ Int.NonNeg (9223372036854775801 : Int) ∧ ∀ (v21 : Int), (0 : Int) ≤ v21 → v21 < (6 : Int) ∨ v21 = (0 : Int) → Int.NonNeg (9223372036854775799 : Int) ∧ ∀ (v22 : Int), (0 : Int) ≤ v22 → v22 < (8 : Int) ∨ v22 = (0 : Int) → J20 (IntKind.i64.wrap (IntKind.i64.wrap (z7 + (8 : Int)) + v22)) (IntKind.i64.wrap (z7 + v21)) (2 : Int) z8 z9)) (v4, v3, v2, (2 : Int), [], PUnit.unit)
theorem kapp_w  (post : dens (shT kapp_sp.rs []) → Prop) : kapp_W  (fun y0 y1 y2 y3 => post (y0, y1, y2, y3, ())) = walkG (callR Tryz.prog kapp_C (drawR Tryz.prog tau) 8 0) 34 true [] kapp_sp.rs post := by kernel_rfl
theorem kapp_of (h : ∀  (post : api_Application → Int → Int → Int → Prop), kapp_P  post → kapp_W  post) : SpecOK Tryz.prog kapp_sp := SpecOK.of_rules (C := kapp_C) (dr := drawR Tryz.prog tau) (n := 8) (fk := 0) (.cons (rule1_ok knext_ok) (.cons (rule1_ok krange_ok) (.cons (rule1_ok kcrops_ok) (.cons (rule1_ok klines_ok) .nil)))) (drawR_ok tau) fun x post hp => HoldW.of (kapp_w  post) (h  (fun y0 y1 y2 y3 => post (y0, y1, y2, y3, ())) hp)
def appI (v f n d w y : Int) (l : List api_Version) : Prop :=
  (0 ≤ n ∧ n + (l.length : Int) = v) ∧ (2 ≤ d ∧ d ≤ 8 + 3 * (l.length : Int)) ∧ (w = f ∧ y = 2) ∧ (∀ v ∈ l, (linesOK v.Lines ∧ v.Lines.length ≤ 3) ∧ 2 ≤ v.Day ∧ v.Day ≤ d) ∧ l.Pairwise (fun v w => v.Day ≤ w.Day)
theorem kapp_ok : SpecOK Tryz.prog kapp_sp := kapp_of fun post hp => by
  unfold kapp_P at hp
  unfold kapp_W
  refine fun v1 h1 => ⟨⟨Int.NonNeg.mk _, Int.NonNeg.mk _, Int.NonNeg.mk _, by omega⟩, fun v2 a2 b2 => ⟨⟨Int.NonNeg.mk _, Int.NonNeg.mk _, Int.NonNeg.mk _, by omega⟩, fun v3 a3 b3 => ⟨⟨Int.NonNeg.mk _, Int.NonNeg.mk _, Int.NonNeg.mk _, by omega⟩, fun v4 a4 b4 => ?_⟩⟩⟩
  refine LOOP.fuel (fun u => appI v4 v2 u.1 u.2.1 u.2.2.1 u.2.2.2.1 u.2.2.2.2.1) (fun u => Int.toNat u.1) ⟨⟨by show 0 ≤ v4; omega, by show v4 + (([] : List api_Version).length : Int) = v4; simp only [List.length_nil]; omega⟩, ⟨by show 2 ≤ v3; omega, by show v3 ≤ 8 + 3 * (([] : List api_Version).length : Int); simp only [List.length_nil]; omega⟩, ⟨rfl, rfl⟩, fun v hv => (by cases hv), List.Pairwise.nil⟩ ?_
  rintro rec ⟨(z6 : Int), (z7 : Int), (z8 : Int), (z9 : Int), (z10 : List api_Version), ⟨⟩⟩ ⟨⟨i1, i2⟩, ⟨i3, i4⟩, ⟨i5, i6⟩, i7, i8⟩ hrec
  have i1 : 0 ≤ z6 := i1
  have i2 : z6 + (z10.length : Int) = v4 := i2
  have i3 : 2 ≤ z7 := i3
  have i4 : z7 ≤ 8 + 3 * (z10.length : Int) := i4
  have i5 : z8 = v2 := i5
  have i6 : z9 = 2 := i6
  subst i5 i6
  have i7 : ∀ v ∈ z10, (linesOK v.Lines ∧ v.Lines.length ≤ 3) ∧ 2 ≤ v.Day ∧ v.Day ≤ z7 := i7
  have i8 : z10.Pairwise (fun v w => v.Day ≤ w.Day) := i8
  refine IFB.mk (fun hb => ?_) (fun hb => ?_)
  · have hb : 0 < z6 := of_decide_eq_true hb
    refine ⟨⟨by omega, by omega, by omega, by omega⟩, fun a b c h5 => ⟨by simp only [List.length_cons, List.length_nil]; omega, Int.NonNeg.mk _, fun v14 a14 b14 => ?_⟩⟩
    rw [wrap_in (z := z6 - 1) (by omega) (by omega), wrap_in (z := z7 + v14) (by omega) (by omega)]
    have hlen : (List.length (z10 ++ [(⟨z7, a⟩ : api_Version)]) : Int) = (z10.length : Int) + 1 := by simp
    show rec (z6 - 1) (z7 + v14) z8 (2 : Int) (z10 ++ [⟨z7, a⟩])
    refine hrec (z6 - 1, z7 + v14, z8, (2 : Int), z10 ++ [⟨z7, a⟩], ()) ⟨⟨by show 0 ≤ z6 - 1; omega, ?_⟩, ⟨by show 2 ≤ z7 + v14; omega, ?_⟩, ⟨rfl, rfl⟩, fun v hv => ?_, ?_⟩ (by show (z6 - 1).toNat < z6.toNat; omega)
    · show z6 - 1 + (List.length (z10 ++ [(⟨z7, a⟩ : api_Version)]) : Int) = v4
      omega
    · show z7 + v14 ≤ 8 + 3 * (List.length (z10 ++ [(⟨z7, a⟩ : api_Version)]) : Int)
      omega
    · show _ ∧ 2 ≤ v.Day ∧ v.Day ≤ z7 + v14
      rcases List.mem_append.1 hv with hv | hv
      · obtain ⟨q1, q2, q3⟩ := i7 v hv
        exact ⟨q1, q2, by omega⟩
      · rw [List.mem_singleton] at hv
        subst hv
        exact ⟨⟨h5.1, by have := h5.2; show a.length ≤ 3; omega⟩, i3, by show z7 ≤ z7 + v14; omega⟩
    · show List.Pairwise _ (z10 ++ [(⟨z7, a⟩ : api_Version)])
      rw [List.pairwise_append]
      refine ⟨i8, List.pairwise_singleton _ _, fun x hx y hy => ?_⟩
      rw [List.mem_singleton] at hy
      subst hy
      exact (i7 x hx).2.2
  · have hb : ¬ 0 < z6 := of_decide_eq_false hb
    refine JOIN.opq fun (J : Int → Int → Int → Int → Int → Prop) hJ => ⟨Int.NonNeg.mk _, fun v21 a21 b21 => ⟨Int.NonNeg.mk _, fun v22 a22 b22 => ?_⟩⟩
    rw [hJ]
    dsimp only
    rw [wrap_in (z := z7 + v21) (by omega) (by omega), wrap_in (z := z7 + 8) (by omega) (by omega), wrap_in (z := z7 + 8 + v22) (by omega) (by omega)]
    refine hp _ _ _ ⟨⟨by show 1 ≤ z10.length; omega, by show z10.length ≤ 2; omega⟩, fun v hv => ?_, i8, ⟨by show 1 ≤ z8; omega, by show z8 ≤ 3; omega⟩, rfl, by omega, by omega, by omega⟩
    obtain ⟨q1, q2, q3⟩ := i7 v hv
    exact ⟨q1, q2, by omega⟩

def knot_P  (post : List (api_Notice) → Prop) : Prop := ∀ l : List api_Notice, noticesOK l → post l
def knot_sp : Spec := ⟨35, true, true, [], .dat (.sl (.st .api_Notice)), fun x post => knot_P  (fun y0 => post (y0, ()))⟩
def knot_C : CtxR := ⟨tau, [rule1 knext_sp, rule1 krange_sp], lookJ [(0, 7, ⟨[(4, .dat (.int .i64)), (3, .own 67 (.st .api_Notice))], [], [7, 8, 11, 12, 13, 14, 15, 16, 17, 18, 19, 20, 9, 10], [], []⟩)]⟩
def knot_W  (post : List (api_Notice) → Prop) : Prop := Int.NonNeg (9223372036854775803 : Int) ∧ ∀ (v1 : Int), (0 : Int) ≤ v1 → v1 < (4 : Int) ∨ v1 = (0 : Int) → LOOP [Ty.int IntKind.i64, (Ty.st Sn.api_Notice).sl] (fun (rec2 : Int → List api_Notice → Prop) (z3 : Int) (z4 : List api_Notice) ↦ IFB (decide ((0 : Int) < z3)) ((Int.NonNeg (1099511627777 : Int) ∧ Int.NonNeg (1099511627775 : Int) ∧ Int.NonNeg (1099511627779 : Int) ∧ (3 : Int) ≤ (1099511627776 : Int)) ∧ ∀ (v5 : Int), (1 : Int) ≤ v5 → v5 ≤ (3 : Int) ∨ v5 = (1 : Int) → (Int.NonNeg (1099511627777 : Int) ∧ Int.NonNeg (1099511627775 : Int) ∧ Int.NonNeg (1099511627780 : Int) ∧ (4 : Int) ≤ (1099511627776 : Int)) ∧ ∀ (v6 : Int), (1 : Int) ≤ v6 → v6 ≤ (4 : Int) ∨ v6 = (1 : Int) → Int.NonNeg (9223372036854775782 : Int) ∧ ∀ (v7 : Int), (0 : Int) ≤ v7 → v7 < (25 : Int) ∨ v7 = (0 : Int) → (z4.length + [{ Farm := v5, Parcel := v6, Day := v7 : api_Notice }].length) * (24 : Nat) ≤ (140737488355328 : Nat) ∧ rec2 (IntKind.i64.wrap (z3 - (1 : Int))) (z4 ++ [{ Farm := v5, Parcel := v6, Day := v7 : api_Notice }])) (post z4)) (v1, [], PUnit.unit)
theorem knot_w  (post : dens (shT knot_sp.rs []) → Prop) : knot_W  (fun y0 => post (y0, ())) = walkG (callR Tryz.prog knot_C (drawR Tryz.prog tau) 8 0) 35 true [] knot_sp.rs post := by kernel_rfl
theorem knot_of (h : ∀  (post : List (api_Notice) → Prop), knot_P  post → knot_W  post) : SpecOK Tryz.prog knot_sp := SpecOK.of_rules (C := knot_C) (dr := drawR Tryz.prog tau) (n := 8) (fk := 0) (.cons (rule1_ok knext_ok) (.cons (rule1_ok krange_ok) .nil)) (drawR_ok tau) fun x post hp => HoldW.of (knot_w  post) (h  (fun y0 => post (y0, ())) hp)
def notI (z : Int) (l : List api_Notice) : Prop := (0 ≤ z ∧ z + (l.length : Int) ≤ 3) ∧ noticesOK l
theorem knot_ok : SpecOK Tryz.prog knot_sp := knot_of fun post hp => by
  unfold knot_P at hp
  unfold knot_W
  refine ⟨Int.NonNeg.mk _, fun v1 a1 b1 => ?_⟩
  refine LOOP.fuel (fun u => notI u.1 u.2.1) (fun u => Int.toNat u.1) ⟨⟨by show 0 ≤ v1; omega, by show v1 + (([] : List api_Notice).length : Int) ≤ 3; simp only [List.length_nil]; omega⟩, by show 0 ≤ 3; omega, fun n hn => (by cases hn)⟩ ?_
  rintro rec ⟨(z3 : Int), (z4 : List api_Notice), ⟨⟩⟩ ⟨⟨i1, i2⟩, i3, i4⟩ hrec
  have i1 : 0 ≤ z3 := i1
  have i2 : z3 + (z4.length : Int) ≤ 3 := i2
  have i3 : z4.length ≤ 3 := i3
  refine IFB.mk (fun hb => ?_) (fun hb => hp z4 ⟨i3, i4⟩)
  have hb : 0 < z3 := of_decide_eq_true hb
  refine ⟨⟨Int.NonNeg.mk _, Int.NonNeg.mk _, Int.NonNeg.mk _, by omega⟩, fun v5 a5 b5 => ⟨⟨Int.NonNeg.mk _, Int.NonNeg.mk _, Int.NonNeg.mk _, by omega⟩, fun v6 a6 b6 => ⟨Int.NonNeg.mk _, fun v7 a7 b7 => ⟨by simp only [List.length_cons, List.length_nil]; omega, ?_⟩⟩⟩⟩
  rw [wrap_in (z := z3 - 1) (by omega) (by omega)]
  have hlen : (List.length (z4 ++ [(⟨v5, v6, v7⟩ : api_Notice)])) = z4.length + 1 := by simp
  show rec (z3 - 1) (z4 ++ [⟨v5, v6, v7⟩])
  refine hrec (z3 - 1, z4 ++ [⟨v5, v6, v7⟩], ()) ⟨⟨by show 0 ≤ z3 - 1; omega, ?_⟩, ?_, fun n hn => ?_⟩ (by show (z3 - 1).toNat < z3.toNat; omega)
  · show z3 - 1 + (List.length (z4 ++ [(⟨v5, v6, v7⟩ : api_Notice)]) : Int) ≤ 3
    omega
  · show (List.length (z4 ++ [(⟨v5, v6, v7⟩ : api_Notice)])) ≤ 3
    omega
  · rcases List.mem_append.1 hn with hn | hn
    · exact i4 n hn
    · rw [List.mem_singleton] at hn
      subst hn
      exact ⟨⟨by show 1 ≤ v5; omega, by show v5 ≤ 3; omega⟩, ⟨by show 1 ≤ v6; omega, by show v6 ≤ 4; omega⟩, by show 0 ≤ v7; omega, by show v7 ≤ 24; omega⟩

def knxt_P (a : api_Application) (post : api_Version → Prop) : Prop := ((1 ≤ a.3.length ∧ a.3.length ≤ 1000000) ∧ (-1000000000 ≤ (ix a.3 ((a.3.length - 1 : Nat) : Int)).1 ∧ (ix a.3 ((a.3.length - 1 : Nat) : Int)).1 ≤ 1000000000) ∧ (ix a.3 ((a.3.length - 1 : Nat) : Int)).2.length ≤ 1000000) ∧ ∀ v : api_Version, nextOK a v → post v
def knxt_sp : Spec := ⟨41, true, true, [.st .api_Application], .dat (.st .api_Version), fun x post => knxt_P (x.1 : api_Application) (fun y0 => post (y0, ()))⟩
def knxt_C : CtxR := ⟨tau, [rule1 knext_sp], lookJ [(0, 26, ⟨[], [(3, [.dat (.int .i64), .own 46 (.st .api_Line)])], [58, 57, 59, 60, 61, 62, 63, 51, 50, 52, 53, 54, 55, 56, 27, 28, 29, 7, 30, 31, 32, 33, 34, 8, 35, 36, 38, 37, 39, 40, 41, 42, 43, 44, 45, 46, 47, 48, 49], [4], []⟩)]⟩
def knxt_W (a : api_Application) (post : api_Version → Prop) : Prop := (↑a.3.length : Int) ≤ (9223372036854775807 : Int) → ((0 : Int) ≤ IntKind.i64.wrap ((↑a.3.length : Int) - (1 : Int)) ∧ IntKind.i64.wrap ((↑a.3.length : Int) - (1 : Int)) < (↑a.3.length : Int)) ∧ JOIN [Ty.int IntKind.i64, (Ty.st Sn.api_Line).sl] (fun (y1 : Int) (y2 : List api_Line) ↦ JOIN [Ty.int IntKind.i64, (Ty.st Sn.api_Line).sl] (fun (y3 : Int) (y4 : List api_Line) ↦ post { Day := y3, Lines := y4 : api_Version }) fun (J5 : Int → List api_Line → Prop) ↦ (↑y2.length : Int) ≤ (9223372036854775807 : Int) → IFB (decide ((0 : Int) < (↑y2.length : Int))) ((↑y2.length : Int) ≤ (9223372036854775807 : Int) ∧ ∀ (v6 : Int), (0 : Int) ≤ v6 → v6 < (↑y2.length : Int) ∨ v6 = (0 : Int) → Int.NonNeg (9223372036854775803 : Int) ∧ ∀ (v7 : Int), (0 : Int) ≤ v7 → v7 < (4 : Int) ∨ v7 = (0 : Int) → IFB (decide (v7 = (0 : Int))) ((Int.NonNeg (0 : Int) ∧ (0 : Int) ≤ v6 ∧ v6 ≤ (↑y2.length : Int)) ∧ ((0 : Int) ≤ IntKind.i64.wrap (v6 + (1 : Int)) ∧ IntKind.i64.wrap (v6 + (1 : Int)) ≤ (↑y2.length : Int) ∧ (↑y2.length : Int) ≤ (↑y2.length : Int)) ∧ ((0 : Int) = (0 : Int) ∧ v6 ≤ IntKind.i64.wrap (v6 + (1 : Int))) ∧ J5 y1 (List.take (v6 + ((↑y2.length : Int) - IntKind.i64.wrap (v6 + (1 : Int)))).toNat (List.take v6.toNat y2 ++ (sub y2 (IntKind.i64.wrap (v6 + (1 : Int))) (↑y2.length : Int) ++ List.drop (v6.toNat + ((↑y2.length : Int).toNat - (IntKind.i64.wrap (v6 + (1 : Int))).toNat)) y2)))) (IFB (decide (v7 = (1 : Int))) (((0 : Int) ≤ v6 ∧ v6 < (↑y2.length : Int)) ∧ J5 y1 (y2.set v6.toNat { Parcel := (ix y2 v6).1, Region := { Rects := (ix y2 v6).2.1 : api_Region }, Crop := (ix y2 v6).3, Schemes := (1 : Int) : api_Line })) (IFB (decide (v7 = (2 : Int))) (((0 : Int) ≤ v6 ∧ v6 < (↑y2.length : Int)) ∧ J5 y1 (y2.set v6.toNat { Parcel := (ix y2 v6).1, Region := { Rects := (ix y2 v6).2.1 : api_Region }, Crop := (0 : Int), Schemes := (ix y2 v6).4 : api_Line })) (J5 y1 y2)))) (J5 y1 y2)) fun (J8 : Int → List api_Line → Prop) ↦ (Int.NonNeg (9223372036854775795 : Int) ∧ ∀ (v9 : Int), (0 : Int) ≤ v9 → v9 < (12 : Int) ∨ v9 = (0 : Int) → ((((0 : Nat) + (ix a.3 (IntKind.i64.wrap ((↑a.3.length : Int) - (1 : Int)))).2.length) * (48 : Nat) ≤ (140737488355328 : Nat) ∧ J8 (IntKind.i64.wrap ((ix a.3 (IntKind.i64.wrap ((↑a.3.length : Int) - (1 : Int)))).1 + v9)) ([] ++ (ix a.3 (IntKind.i64.wrap ((↑a.3.length : Int) - (1 : Int)))).2) ∧ J8 (IntKind.i64.wrap ((ix a.3 (IntKind.i64.wrap ((↑a.3.length : Int) - (1 : Int)))).1 + v9)) ([] ++ (ix a.3 (IntKind.i64.wrap ((↑a.3.length : Int) - (1 : Int)))).2)) ∧ ((0 : Nat) + (ix a.3 (IntKind.i64.wrap ((↑a.3.length : Int) - (1 : Int)))).2.length) * (48 : Nat) ≤ (140737488355328 : Nat) ∧ J8 (IntKind.i64.wrap ((ix a.3 (IntKind.i64.wrap ((↑a.3.length : Int) - (1 : Int)))).1 + v9)) ([] ++ (ix a.3 (IntKind.i64.wrap ((↑a.3.length : Int) - (1 : Int)))).2)) ∧ ((0 : Nat) + (ix a.3 (IntKind.i64.wrap ((↑a.3.length : Int) - (1 : Int)))).2.length) * (48 : Nat) ≤ (140737488355328 : Nat) ∧ J8 (IntKind.i64.wrap ((ix a.3 (IntKind.i64.wrap ((↑a.3.length : Int) - (1 : Int)))).1 + v9)) ([] ++ (ix a.3 (IntKind.i64.wrap ((↑a.3.length : Int) - (1 : Int)))).2)) ∧ ((Int.NonNeg (9223372036854775795 : Int) ∧ ∀ (v10 : Int), (0 : Int) ≤ v10 → v10 < (12 : Int) ∨ v10 = (0 : Int) → (((0 : Nat) + (ix a.3 (IntKind.i64.wrap ((↑a.3.length : Int) - (1 : Int)))).2.length) * (48 : Nat) ≤ (140737488355328 : Nat) ∧ J8 (IntKind.i64.wrap ((ix a.3 (IntKind.i64.wrap ((↑a.3.length : Int) - (1 : Int)))).1 + v10)) ([] ++ (ix a.3 (IntKind.i64.wrap ((↑a.3.length : Int) - (1 : Int)))).2) ∧ J8 (IntKind.i64.wrap ((ix a.3 (IntKind.i64.wrap ((↑a.3.length : Int) - (1 : Int)))).1 + v10)) ([] ++ (ix a.3 (IntKind.i64.wrap ((↑a.3.length : Int) - (1 : Int)))).2)) ∧ ((0 : Nat) + (ix a.3 (IntKind.i64.wrap ((↑a.3.length : Int) - (1 : Int)))).2.length) * (48 : Nat) ≤ (140737488355328 : Nat) ∧ J8 (IntKind.i64.wrap ((ix a.3 (IntKind.i64.wrap ((↑a.3.length : Int) - (1 : Int)))).1 + v10)) ([] ++ (ix a.3 (IntKind.i64.wrap ((↑a.3.length : Int) - (1 : Int)))).2)) ∧ Int.NonNeg (9223372036854775795 : Int) ∧ ∀ (v11 : Int), (0 : Int) ≤ v11 → v11 < (12 : Int) ∨ v11 = (0 : Int) → ((0 : Nat) + (ix a.3 (IntKind.i64.wrap ((↑a.3.length : Int) - (1 : Int)))).2.length) * (48 : Nat) ≤ (140737488355328 : Nat) ∧ J8 (IntKind.i64.wrap ((ix a.3 (IntKind.i64.wrap ((↑a.3.length : Int) - (1 : Int)))).1 + v11)) ([] ++ (ix a.3 (IntKind.i64.wrap ((↑a.3.length : Int) - (1 : Int)))).2)) ∧ (Int.NonNeg (9223372036854775795 : Int) ∧ ∀ (v12 : Int), (0 : Int) ≤ v12 → v12 < (12 : Int) ∨ v12 = (0 : Int) → ((0 : Nat) + (ix a.3 (IntKind.i64.wrap ((↑a.3.length : Int) - (1 : Int)))).2.length) * (48 : Nat) ≤ (140737488355328 : Nat) ∧ J8 (IntKind.i64.wrap ((ix a.3 (IntKind.i64.wrap ((↑a.3.length : Int) - (1 : Int)))).1 + v12)) ([] ++ (ix a.3 (IntKind.i64.wrap ((↑a.3.length : Int) - (1 : Int)))).2)) ∧ Int.NonNeg (9223372036854775795 : Int) ∧ ∀ (v13 : Int), (0 : Int) ≤ v13 → v13 < (12 : Int) ∨ v13 = (0 : Int) → ((0 : Nat) + (ix a.3 (IntKind.i64.wrap ((↑a.3.length : Int) - (1 : Int)))).2.length) * (48 : Nat) ≤ (140737488355328 : Nat) ∧ J8 (IntKind.i64.wrap ((ix a.3 (IntKind.i64.wrap ((↑a.3.length : Int) - (1 : Int)))).1 + v13)) ([] ++ (ix a.3 (IntKind.i64.wrap ((↑a.3.length : Int) - (1 : Int)))).2)
theorem knxt_w (a : api_Application) (post : dens (shT knxt_sp.rs []) → Prop) : knxt_W a (fun y0 => post (y0, ())) = walkG (callR Tryz.prog knxt_C (drawN tau (lookN [(2, (6, [.dat (.int .i64), .own 46 (.st .api_Line)]))]) (drawR Tryz.prog tau)) 8 0) 41 true [tv (.st .api_Application) a] knxt_sp.rs post := by kernel_rfl
theorem knxt_of (h : ∀ (a : api_Application) (post : api_Version → Prop), knxt_P a post → knxt_W a post) : SpecOK Tryz.prog knxt_sp := SpecOK.of_rules (C := knxt_C) (dr := drawN tau (lookN [(2, (6, [.dat (.int .i64), .own 46 (.st .api_Line)]))]) (drawR Tryz.prog tau)) (n := 8) (fk := 0) (.cons (rule1_ok knext_ok) .nil) (drawN_ok tau _ (drawR_ok tau)) fun x post hp => HoldW.of (knxt_w x.1 post) (h x.1 (fun y0 => post (y0, ())) hp)
theorem knxt_ok : SpecOK Tryz.prog knxt_sp := knxt_of fun a post hp => by
  obtain ⟨⟨⟨h1, h2⟩, ⟨h3, h4⟩, h5⟩, hp⟩ := hp
  unfold nextOK at hp
  unfold knxt_W
  intro _
  have hw : IntKind.i64.wrap ((a.3.length : Int) - 1) = ((a.3.length - 1 : Nat) : Int) := by rw [wrap_in (by omega) (by omega)]; omega
  rw [hw]
  generalize ix a.3 ((a.3.length - 1 : Nat) : Int) = L at hp h3 h4 h5 ⊢
  obtain ⟨d, l⟩ := L
  dsimp only at hp h3 h4 h5 ⊢
  refine ⟨by omega, JOIN.opq fun (J8 : Int → List api_Line → Prop) hJ8 => ?_⟩
  have hJ : ∀ v : Int, 0 ≤ v → v < 12 ∨ v = 0 → J8 (IntKind.i64.wrap (d + v)) ([] ++ l) := fun v q1 q2 => by
    rw [hJ8]
    dsimp only
    rw [wrap_in (z := d + v) (by omega) (by omega), List.nil_append]
    refine JOIN.opq fun (J5 : Int → List api_Line → Prop) hJ5 => ?_
    have hJ5 : ∀ m : List api_Line, m.length ≤ l.length → (∀ x ∈ m, ∃ y ∈ l, x.Region = y.Region) → J5 (d + v) m := fun m q3 q4 => by
      rw [hJ5]
      exact hp ⟨d + v, m⟩ ⟨q3, ⟨by show d ≤ d + v; omega, by show d + v ≤ d + 11; omega⟩, q4⟩
    have same : J5 (d + v) l := hJ5 l (Nat.le_refl _) fun x hx => ⟨x, hx, rfl⟩
    have sets : ∀ (k : Int) (y : api_Line), 0 ≤ k → k < l.length → y.Region = (ix l k).Region → J5 (d + v) (l.set k.toNat y) := fun k y q3 q4 q5 => hJ5 _ (by simp) fun x hx => by
      rcases List.mem_or_eq_of_mem_set hx with hx | rfl
      · exact ⟨x, hx, rfl⟩
      · exact ⟨_, ix_mem q3 q4, q5⟩
    intro _
    refine IFB.mk (fun hb => ⟨by omega, fun v6 a6 b6 => ⟨Int.NonNeg.mk _, fun v7 a7 b7 => ?_⟩⟩) (fun _ => same)
    have hb : (0 : Int) < l.length := of_decide_eq_true hb
    have hk : v6 < l.length := by omega
    rw [wrap_in (z := v6 + 1) (by omega) (by omega)]
    refine IFB.mk (fun _ => ⟨⟨Int.NonNeg.mk _, by omega, by omega⟩, ⟨by omega, by omega, by omega⟩, ⟨rfl, by omega⟩, ?_⟩) (fun _ => IFB.mk (fun _ => ⟨⟨a6, hk⟩, sets v6 _ a6 hk rfl⟩) (fun _ => IFB.mk (fun _ => ⟨⟨a6, hk⟩, sets v6 _ a6 hk rfl⟩) (fun _ => same)))
    have e : ((l.length : Int) - (v6 + 1)).toNat = l.length - (v6.toNat + 1) := by omega
    have hs : sub l (v6 + 1) (l.length : Int) = l.drop (v6.toNat + 1) := by
      have := sub_back (l := l) (k := v6.toNat + 1)
      rwa [show ((v6.toNat + 1 : Nat) : Int) = v6 + 1 by omega] at this
    refine hJ5 _ ?_ fun x hx => ?_
    · rw [List.length_take]
      rw [hs]
      simp only [List.length_append, List.length_take, List.length_drop]
      omega
    · have hx := List.mem_of_mem_take hx
      rw [hs] at hx
      rcases List.mem_append.1 hx with hx | hx
      · exact ⟨x, List.mem_of_mem_take hx, rfl⟩
      · rcases List.mem_append.1 hx with hx | hx
        · exact ⟨x, List.mem_of_mem_drop hx, rfl⟩
        · exact ⟨x, List.mem_of_mem_drop hx, rfl⟩
  have h6 : (0 + l.length) * 48 ≤ 140737488355328 := by omega
  repeat' first
    | exact Int.NonNeg.mk _
    | exact h6
    | with_reducible apply And.intro
    | intro _
  all_goals exact hJ _ (by assumption) (by assumption)

end RE
end Go.Proofs.YtfbfknmnkcddpaaGreat
set_option maxRecDepth 100000
set_option linter.unusedVariables false
namespace Go.Proofs.YtfbfknmnkcddpaaGreat
open Go.RowKit
namespace RE
open PL

def lof_P (v : List (api_Line)) (p : Int) (post : List (api_Line) → Prop) : Prop := (v.length ≤ 2000000) ∧ post (ofL v p)
def lof_C : CtxR := ⟨tau, [], lookJ [(0, 7, ⟨[(10, .dat (.int .i64)), (5, .own 46 (.st .api_Line))], [], [11, 21, 20, 19, 18, 17, 16, 15, 14, 7, 13, 12, 22], [], []⟩), (0, 14, ⟨[(5, .own 46 (.st .api_Line))], [], [12, 13, 7, 14, 15, 16, 17, 18, 19, 20, 21], [0], []⟩)]⟩
def lof_W (v : List (api_Line)) (p : Int) (post : List (api_Line) → Prop) : Prop := (↑v.length : Int) ≤ (9223372036854775807 : Int) → LOOP [Ty.int IntKind.i64, (Ty.st Sn.api_Line).sl] (fun (rec1 : Int → List api_Line → Prop) (z2 : Int) (z3 : List api_Line) ↦ IFB (decide (z2 < (↑v.length : Int))) (JOIN [(Ty.st Sn.api_Line).sl] (fun (y4 : List api_Line) ↦ rec1 (IntKind.i64.wrap (z2 + (1 : Int))) y4) fun (J5 : List api_Line → Prop) ↦ ((0 : Int) ≤ z2 ∧ z2 < (↑v.length : Int)) ∧ IFB (decide ((ix v z2).1 = p)) ((z3.length + [{ Parcel := (ix v z2).1, Region := { Rects := (ix v z2).2.1 : api_Region }, Crop := (ix v z2).3, Schemes := (ix v z2).4 : api_Line }].length) * (48 : Nat) ≤ (140737488355328 : Nat) ∧ J5 (z3 ++ [{ Parcel := (ix v z2).1, Region := { Rects := (ix v z2).2.1 : api_Region }, Crop := (ix v z2).3, Schemes := (ix v z2).4 : api_Line }])) (J5 z3)) (post z3)) ((0 : Int), [], PUnit.unit)
theorem loopCmpL {n : Nat} (hn : n ≤ 1000000000) {A : Prop} {B : (Int → Prop) → Int → Prop} {K : Prop} {p : Nat → Prop} (hB : ∀ (rec : Int → Prop) (k : Nat), k < n → (∀ j, j < k → p j) → (p k → rec (IntKind.i64.wrap ((k : Int) + 1))) → B rec (k : Int)) (hK : (∀ j, j < n → p j) → K) :
    LOOP [Ty.int IntKind.i64] (fun (rec : Int → Prop) (z : Int) => A → IFB (decide (z < (n : Int))) (B rec z) K) ((0 : Int), PUnit.unit) := by
  refine LOOP.fuel (fun u => ∃ k : Nat, u.1 = (k : Int) ∧ k ≤ n ∧ ∀ j, j < k → p j) (fun u => n - Int.toNat u.1) ⟨0, rfl, Nat.zero_le _, fun j hj => by omega⟩ ?_
  rintro rec ⟨(z : Int), ⟨⟩⟩ ⟨k, hz, hk, hp⟩ hrec
  have hz : z = (k : Int) := hz
  subst hz
  intro _
  refine IFB.mk (fun hb => ?_) (fun hb => hK fun j hj => hp j (by have := of_decide_eq_false hb; omega))
  have hb : (k : Int) < n := of_decide_eq_true hb
  refine hB rec k (by omega) hp fun hpk => ?_
  rw [wrapS (by omega)]
  refine hrec (((k + 1 : Nat) : Int), ()) ⟨k + 1, rfl, by omega, fun j hj => ?_⟩ (by show n - ((k + 1 : Nat) : Int).toNat < n - (k : Int).toNat; omega)
  by_cases h : j = k
  · rw [h]; exact hpk
  · exact hp j (by omega)

def rints_P (a : List (Int)) (b : List (Int)) (post : Bool → Prop) : Prop := (a.length ≤ 1000000000) ∧ ∀ q : Bool, (q = true ↔ a = b) → post q
def rints_sp : Spec := ⟨38, false, false, [.sl (.int .i64), .sl (.int .i64)], .dat (.bool), fun x post => rints_P (x.1 : List (Int)) (x.2.1 : List (Int)) (fun y0 => post (y0, ()))⟩
def rints_C : CtxR := ⟨tau, [], lookJ [(0, 9, ⟨[(5, .dat (.int .i64))], [], [11, 12, 13, 14, 17, 18, 19, 20, 21, 22, 23, 24, 25, 15, 16], [], []⟩)]⟩
def rints_W (a : List (Int)) (b : List (Int)) (post : Bool → Prop) : Prop := (↑a.length : Int) ≤ (9223372036854775807 : Int) → (↑b.length : Int) ≤ (9223372036854775807 : Int) → IFB (!decide ((↑a.length : Int) = (↑b.length : Int))) (post false) (LOOP [Ty.int IntKind.i64] (fun (rec1 : Int → Prop) (z2 : Int) ↦ (↑a.length : Int) ≤ (9223372036854775807 : Int) → IFB (decide (z2 < (↑a.length : Int))) (((0 : Int) ≤ z2 ∧ z2 < (↑a.length : Int)) ∧ ((0 : Int) ≤ z2 ∧ z2 < (↑b.length : Int)) ∧ IFB (!decide (ix a z2 = ix b z2)) (post false) (rec1 (IntKind.i64.wrap (z2 + (1 : Int))))) (post true)) ((0 : Int), PUnit.unit))
theorem rints_w (a : List (Int)) (b : List (Int)) (post : dens (shT rints_sp.rs []) → Prop) : rints_W a b (fun y0 => post (y0, ())) = walkG (callR Tryz.prog rints_C (drawR Tryz.prog tau) 8 0) 38 false [tv (.sl (.int .i64)) a, tv (.sl (.int .i64)) b] rints_sp.rs post := by kernel_rfl
theorem rints_of (h : ∀ (a : List (Int)) (b : List (Int)) (post : Bool → Prop), rints_P a b post → rints_W a b post) : SpecOK Tryz.prog rints_sp := SpecOK.of_rules (C := rints_C) (dr := drawR Tryz.prog tau) (n := 8) (fk := 0) .nil (drawR_ok tau) fun x post hp => HoldW.of (rints_w x.1 x.2.1 post) (h x.1 x.2.1 (fun y0 => post (y0, ())) hp)
theorem rints_ok : SpecOK Tryz.prog rints_sp := rints_of fun a b post hp => by
  obtain ⟨hl, hp⟩ := hp
  unfold rints_W
  intro _ _
  refine IFB.mk (fun hb => hp _ ⟨fun h => (by cases h), fun h => ?_⟩) (fun hb => ?_)
  · rw [h] at hb; simp at hb
  · have hb : (a.length : Int) = b.length := by simpa using hb
    refine loopCmpL (n := a.length) (by omega) (p := fun j => ix a (j : Int) = ix b (j : Int)) (fun rec k hk hpre hrec => ⟨by omega, by omega, IFB.mk (fun h => ?_) (fun h => hrec (by simpa using h))⟩) fun hall => ?_
    · refine hp _ ⟨fun h => (by cases h), fun e => ?_⟩
      rw [e] at h; simp at h
    · refine hp _ ⟨fun _ => (list_eq_iff (by omega)).2 hall, fun _ => rfl⟩

def rhas_P (l : List (Int)) (x : Int) (post : Bool → Prop) : Prop := (l.length ≤ 1000000000) ∧ ∀ q : Bool, (q = true ↔ x ∈ l) → post q
def rhas_sp : Spec := ⟨94, false, false, [.sl (.int .i64), .int .i64], .dat (.bool), fun x post => rhas_P (x.1 : List (Int)) (x.2.1 : Int) (fun y0 => post (y0, ()))⟩
def rhas_C : CtxR := ⟨tau, [], lookJ [(0, 5, ⟨[(5, .dat (.int .i64))], [], [6, 7, 8, 9, 12, 13, 14, 15, 16, 17, 10, 11], [], []⟩)]⟩
def rhas_W (l : List (Int)) (x : Int) (post : Bool → Prop) : Prop := LOOP [Ty.int IntKind.i64] (fun (rec1 : Int → Prop) (z2 : Int) ↦ (↑l.length : Int) ≤ (9223372036854775807 : Int) → IFB (decide (z2 < (↑l.length : Int))) (((0 : Int) ≤ z2 ∧ z2 < (↑l.length : Int)) ∧ IFB (decide (ix l z2 = x)) (post true) (rec1 (IntKind.i64.wrap (z2 + (1 : Int))))) (post false)) ((0 : Int), PUnit.unit)
theorem rhas_w (l : List (Int)) (x : Int) (post : dens (shT rhas_sp.rs []) → Prop) : rhas_W l x (fun y0 => post (y0, ())) = walkG (callR Tryz.prog rhas_C (drawR Tryz.prog tau) 8 0) 94 false [tv (.sl (.int .i64)) l, tv (.int .i64) x] rhas_sp.rs post := by kernel_rfl
theorem rhas_of (h : ∀ (l : List (Int)) (x : Int) (post : Bool → Prop), rhas_P l x post → rhas_W l x post) : SpecOK Tryz.prog rhas_sp := SpecOK.of_rules (C := rhas_C) (dr := drawR Tryz.prog tau) (n := 8) (fk := 0) .nil (drawR_ok tau) fun x post hp => HoldW.of (rhas_w x.1 x.2.1 post) (h x.1 x.2.1 (fun y0 => post (y0, ())) hp)
theorem rhas_ok : SpecOK Tryz.prog rhas_sp := rhas_of fun l x post hp => by
  obtain ⟨hl, hp⟩ := hp
  unfold rhas_W
  refine loopCmpL (n := l.length) (by omega) (p := fun j => ¬ ix l (j : Int) = x) (fun rec k hk hpre hrec => ⟨by omega, IFB.mk (fun h => ?_) (fun h => hrec (of_decide_eq_false h))⟩) fun hall => ?_
  · have h : ix l (k : Int) = x := of_decide_eq_true h
    exact hp _ ⟨fun _ => h ▸ ix_mem (by omega) (by omega), fun _ => rfl⟩
  · refine hp _ ⟨fun h => (by cases h), fun h => ?_⟩
    obtain ⟨j, hj, rfl⟩ := List.getElem_of_mem h
    exact absurd (ix_lt hj) (hall j hj)

def rsml_P (a : List (api_Line)) (b : List (api_Line)) (post : Bool → Prop) : Prop := (a.length ≤ 1000000000 ∧ ∀ x ∈ a, x.2.1.length ≤ 1000000000) ∧ ∀ q : Bool, (q = true ↔ a = b) → post q
def rsml_sp : Spec := ⟨78, false, false, [.sl (.st .api_Line), .sl (.st .api_Line)], .dat (.bool), fun x post => rsml_P (x.1 : List (api_Line)) (x.2.1 : List (api_Line)) (fun y0 => post (y0, ()))⟩
def rsml_C : CtxR := ⟨tau, [rule1 rrec_sp], lookJ [(0, 9, ⟨[(13, .dat (.int .i64))], [], [14, 15, 5, 16, 17, 18, 19, 20, 21, 22, 23, 24, 25, 26, 27, 39, 40, 52, 53, 66, 28, 29, 30, 31, 32, 33, 34, 35, 36, 37, 38, 41, 42, 43, 44, 45, 46, 47, 48, 49, 50, 51, 54, 55, 56, 57, 58, 59, 60, 61, 62, 63, 64, 65, 67], [], []⟩)]⟩
def rsml_W (a : List (api_Line)) (b : List (api_Line)) (post : Bool → Prop) : Prop := (↑a.length : Int) ≤ (9223372036854775807 : Int) → (↑b.length : Int) ≤ (9223372036854775807 : Int) → IFB (!decide ((↑a.length : Int) = (↑b.length : Int))) (post false) ((↑a.length : Int) ≤ (9223372036854775807 : Int) → LOOP [Ty.int IntKind.i64] (fun (rec1 : Int → Prop) (z2 : Int) ↦ IFB (decide (z2 < (↑a.length : Int))) (((0 : Int) ≤ z2 ∧ z2 < (↑a.length : Int)) ∧ ((0 : Int) ≤ z2 ∧ z2 < (↑b.length : Int)) ∧ ((gx false !decide ((ix a z2).1 = (ix b z2).1)) = true → (0 : Int) ≤ z2 ∧ z2 < (↑a.length : Int)) ∧ ((gx false !decide ((ix a z2).1 = (ix b z2).1)) = true → (0 : Int) ≤ z2 ∧ z2 < (↑b.length : Int)) ∧ (gx false (!decide ((ix a z2).1 = (ix b z2).1) || !decide ((ix a z2).3 = (ix b z2).3)) = true → (0 : Int) ≤ z2 ∧ z2 < (↑a.length : Int)) ∧ (gx false (!decide ((ix a z2).1 = (ix b z2).1) || !decide ((ix a z2).3 = (ix b z2).3)) = true → (0 : Int) ≤ z2 ∧ z2 < (↑b.length : Int)) ∧ (gx false (!decide ((ix a z2).1 = (ix b z2).1) || !decide ((ix a z2).3 = (ix b z2).3) || !decide ((ix a z2).4 = (ix b z2).4)) = true → (0 : Int) ≤ z2 ∧ z2 < (↑a.length : Int)) ∧ (gx false (!decide ((ix a z2).1 = (ix b z2).1) || !decide ((ix a z2).3 = (ix b z2).3) || !decide ((ix a z2).4 = (ix b z2).4)) = true → (0 : Int) ≤ z2 ∧ z2 < (↑b.length : Int)) ∧ JOIN [Ty.bool] (fun (y3 : Bool) ↦ IFB (!decide ((ix a z2).1 = (ix b z2).1) || !decide ((ix a z2).3 = (ix b z2).3) || !decide ((ix a z2).4 = (ix b z2).4) || !y3) (post false) (rec1 (IntKind.i64.wrap (z2 + (1 : Int))))) fun (J4 : Bool → Prop) ↦ IFB (gx false (!decide ((ix a z2).1 = (ix b z2).1) || !decide ((ix a z2).3 = (ix b z2).3) || !decide ((ix a z2).4 = (ix b z2).4))) ((ix a z2).2.1.length ≤ (1000000000 : Nat) ∧ ∀ (v5 : Bool), (v5 = true ↔ (ix a z2).2.1 = (ix b z2).2.1) → J4 v5) (J4 false)) (post true)) ((0 : Int), PUnit.unit))
theorem rsml_w (a : List (api_Line)) (b : List (api_Line)) (post : dens (shT rsml_sp.rs []) → Prop) : rsml_W a b (fun y0 => post (y0, ())) = walkG (callR Tryz.prog rsml_C (drawR Tryz.prog tau) 8 0) 78 false [tv (.sl (.st .api_Line)) a, tv (.sl (.st .api_Line)) b] rsml_sp.rs post := by kernel_rfl
theorem rsml_of (h : ∀ (a : List (api_Line)) (b : List (api_Line)) (post : Bool → Prop), rsml_P a b post → rsml_W a b post) : SpecOK Tryz.prog rsml_sp := SpecOK.of_rules (C := rsml_C) (dr := drawR Tryz.prog tau) (n := 8) (fk := 0) (.cons (rule1_ok rrec_ok) .nil) (drawR_ok tau) fun x post hp => HoldW.of (rsml_w x.1 x.2.1 post) (h x.1 x.2.1 (fun y0 => post (y0, ())) hp)
theorem rsml_ok : SpecOK Tryz.prog rsml_sp := rsml_of fun a b post hp => by
  obtain ⟨⟨hl, hr⟩, hp⟩ := hp
  unfold rsml_W
  intro _ _
  refine IFB.mk (fun hb => hp _ ⟨fun h => (by cases h), fun h => ?_⟩) (fun hb _ => ?_)
  · rw [h] at hb; simp at hb
  · have hb : (a.length : Int) = b.length := by simpa using hb
    refine loopCmp (n := a.length) (by omega) (p := fun j => ix a (j : Int) = ix b (j : Int)) (fun rec k hk hpre hrec => ?_) fun hall => hp _ ⟨fun _ => (list_eq_iff (by omega)).2 hall, fun _ => rfl⟩
    have ha : (0 : Int) ≤ (k : Int) ∧ (k : Int) < a.length := by omega
    have hb2 : (0 : Int) ≤ (k : Int) ∧ (k : Int) < b.length := by omega
    refine ⟨ha, hb2, fun _ => ha, fun _ => hb2, fun _ => ha, fun _ => hb2, fun _ => ha, fun _ => hb2, JOIN.opq fun (J : Bool → Prop) hJ => ?_⟩
    have hx := hr _ (ix_mem (l := a) (i := (k : Int)) ha.1 ha.2)
    have no : ¬ ix a (k : Int) = ix b (k : Int) → post false := fun h => hp _ ⟨fun h => (by cases h), fun e => absurd ((list_eq_iff (by omega)).1 e k hk) h⟩
    generalize ix a (k : Int) = x at hx hrec hJ no ⊢
    generalize ix b (k : Int) = y at hrec hJ no ⊢
    obtain ⟨x1, ⟨x2⟩, x3, x4⟩ := x
    obtain ⟨y1, ⟨y2⟩, y3, y4⟩ := y
    dsimp only at hx hJ ⊢
    rw [hJ]
    dsimp only
    have e : ∀ q : Bool, (q = true ↔ x2 = y2) → ((!decide (x1 = y1) || !decide (x3 = y3) || !decide (x4 = y4) || !q) = false ↔ (⟨x1, ⟨x2⟩, x3, x4⟩ : api_Line) = ⟨y1, ⟨y2⟩, y3, y4⟩) := fun q hq => by
      simp only [Bool.or_eq_false_iff, Bool.not_eq_false', decide_eq_true_eq, hq, api_Line.mk.injEq, api_Region.mk.injEq]
      constructor
      · rintro ⟨⟨⟨h1, h2⟩, h3⟩, h4⟩; exact ⟨h1, h4, h2, h3⟩
      · rintro ⟨h1, h4, h2, h3⟩; exact ⟨⟨⟨h1, h2⟩, h3⟩, h4⟩
    refine IFB.mk (fun _ => ⟨hx, fun v hv => IFB.mk (fun h => no fun he => ?_) (fun h => hrec ((e v hv).1 h))⟩) (fun h => IFB.mk (fun h2 => no fun he => ?_) (fun h2 => by rw [Bool.not_false, Bool.or_true] at h2; cases h2))
    · rw [(e v hv).2 he] at h; cases h
    · injection he with q1 q2 q3 q4
      rw [q1, q3, q4] at h
      simp [gx] at h

def rsmv_P (a : api_Version) (b : api_Version) (post : Bool → Prop) : Prop := (a.2.length ≤ 1000000000 ∧ ∀ x ∈ a.2, x.2.1.length ≤ 1000000000) ∧ ∀ q : Bool, (q = true ↔ a = b) → post q
def rsmv_sp : Spec := ⟨16, false, false, [.st .api_Version, .st .api_Version], .dat (.bool), fun x post => rsmv_P (x.1 : api_Version) (x.2.1 : api_Version) (fun y0 => post (y0, ()))⟩
def rsmv_C : CtxR := ⟨tau, [rule1 rsml_sp], lookJ []⟩
def rsmv_W (a : api_Version) (b : api_Version) (post : Bool → Prop) : Prop := JOIN [Ty.bool] (fun (y1 : Bool) ↦ post (decide (a.1 = b.1) && y1)) fun (J2 : Bool → Prop) ↦ IFB (gx true (decide (a.1 = b.1))) ((a.2.length ≤ (1000000000 : Nat) ∧ ∀ (v3 : api_Line), v3 ∈ a.2 → v3.2.1.length ≤ (1000000000 : Nat)) ∧ ∀ (v4 : Bool), (v4 = true ↔ a.2 = b.2) → J2 v4) (J2 false)
theorem rsmv_w (a : api_Version) (b : api_Version) (post : dens (shT rsmv_sp.rs []) → Prop) : rsmv_W a b (fun y0 => post (y0, ())) = walkG (callR Tryz.prog rsmv_C (drawR Tryz.prog tau) 8 0) 16 false [tv (.st .api_Version) a, tv (.st .api_Version) b] rsmv_sp.rs post := by kernel_rfl
theorem rsmv_of (h : ∀ (a : api_Version) (b : api_Version) (post : Bool → Prop), rsmv_P a b post → rsmv_W a b post) : SpecOK Tryz.prog rsmv_sp := SpecOK.of_rules (C := rsmv_C) (dr := drawR Tryz.prog tau) (n := 8) (fk := 0) (.cons (rule1_ok rsml_ok) .nil) (drawR_ok tau) fun x post hp => HoldW.of (rsmv_w x.1 x.2.1 post) (h x.1 x.2.1 (fun y0 => post (y0, ())) hp)
theorem rsmv_ok : SpecOK Tryz.prog rsmv_sp := rsmv_of fun a b post hp => by
  obtain ⟨hl, hp⟩ := hp
  obtain ⟨d, l⟩ := a
  obtain ⟨d2, l2⟩ := b
  unfold rsmv_W
  dsimp only at hl hp ⊢
  refine JOIN.opq fun (J : Bool → Prop) hJ => ?_
  rw [hJ]
  dsimp only
  refine IFB.mk (fun _ => ⟨hl, fun v hv => hp _ ?_⟩) (fun h => hp _ ?_)
  · rw [Bool.and_eq_true, decide_eq_true_eq, hv, api_Version.mk.injEq]
  · rw [Bool.and_false]
    refine ⟨fun h => (by cases h), fun e => ?_⟩
    injection e with q1 q2
    rw [q1] at h; simp [gx] at h

def rsma_P (a : api_Application) (b : api_Application) (post : Bool → Prop) : Prop := (a.3.length ≤ 1000000000 ∧ ∀ v ∈ a.3, v.2.length ≤ 1000000000 ∧ ∀ x ∈ v.2, x.2.1.length ≤ 1000000000) ∧ ∀ q : Bool, (q = true ↔ a = b) → post q
def rsma_sp : Spec := ⟨25, false, false, [.st .api_Application, .st .api_Application], .dat (.bool), fun x post => rsma_P (x.1 : api_Application) (x.2.1 : api_Application) (fun y0 => post (y0, ()))⟩
def rsma_C : CtxR := ⟨tau, [rule1 rsmv_sp], lookJ [(0, 9, ⟨[(30, .dat (.int .i64))], [], [31, 32, 5, 33, 34, 35, 36, 37, 38, 39, 40, 41, 42, 43, 44, 45], [], []⟩)]⟩
def rsma_W (a : api_Application) (b : api_Application) (post : Bool → Prop) : Prop := (gx false (!decide (a.1 = b.1) || !decide (a.2 = b.2)) = true → (↑a.3.length : Int) ≤ (9223372036854775807 : Int)) → (gx false (!decide (a.1 = b.1) || !decide (a.2 = b.2)) = true → (↑b.3.length : Int) ≤ (9223372036854775807 : Int)) → IFB (!decide (a.1 = b.1) || !decide (a.2 = b.2) || !decide ((↑a.3.length : Int) = (↑b.3.length : Int))) (post false) ((↑a.3.length : Int) ≤ (9223372036854775807 : Int) → LOOP [Ty.int IntKind.i64] (fun (rec1 : Int → Prop) (z2 : Int) ↦ IFB (decide (z2 < (↑a.3.length : Int))) (((0 : Int) ≤ z2 ∧ z2 < (↑a.3.length : Int)) ∧ ((0 : Int) ≤ z2 ∧ z2 < (↑b.3.length : Int)) ∧ ((ix a.3 z2).2.length ≤ (1000000000 : Nat) ∧ ∀ (v3 : api_Line), v3 ∈ (ix a.3 z2).2 → v3.2.1.length ≤ (1000000000 : Nat)) ∧ ∀ (v4 : Bool), (v4 = true ↔ { Day := (ix a.3 z2).1, Lines := (ix a.3 z2).2 : api_Version } = { Day := (ix b.3 z2).1, Lines := (ix b.3 z2).2 : api_Version }) → IFB (!v4) (post false) (rec1 (IntKind.i64.wrap (z2 + (1 : Int))))) (post true)) ((0 : Int), PUnit.unit))
theorem rsma_w (a : api_Application) (b : api_Application) (post : dens (shT rsma_sp.rs []) → Prop) : rsma_W a b (fun y0 => post (y0, ())) = walkG (callR Tryz.prog rsma_C (drawR Tryz.prog tau) 8 0) 25 false [tv (.st .api_Application) a, tv (.st .api_Application) b] rsma_sp.rs post := by kernel_rfl
theorem rsma_of (h : ∀ (a : api_Application) (b : api_Application) (post : Bool → Prop), rsma_P a b post → rsma_W a b post) : SpecOK Tryz.prog rsma_sp := SpecOK.of_rules (C := rsma_C) (dr := drawR Tryz.prog tau) (n := 8) (fk := 0) (.cons (rule1_ok rsmv_ok) .nil) (drawR_ok tau) fun x post hp => HoldW.of (rsma_w x.1 x.2.1 post) (h x.1 x.2.1 (fun y0 => post (y0, ())) hp)
theorem rsma_ok : SpecOK Tryz.prog rsma_sp := rsma_of fun a b post hp => by
  obtain ⟨⟨hl, hr⟩, hp⟩ := hp
  obtain ⟨f, y, l⟩ := a
  obtain ⟨f2, y2, l2⟩ := b
  unfold rsma_W
  dsimp only at hl hr hp ⊢
  intro _ _
  refine IFB.mk (fun hb => hp _ ⟨fun h => (by cases h), fun h => ?_⟩) (fun hb _ => ?_)
  · injection h with q1 q2 q3
    rw [q1, q2, q3] at hb; simp at hb
  · obtain ⟨⟨q1, q2⟩, q3⟩ : (f = f2 ∧ y = y2) ∧ (l.length : Int) = l2.length := by simpa using hb
    subst q1 q2
    have hq : ∀ q : Bool, (q = true ↔ l = l2) → post q := fun q h => hp q (h.trans ⟨fun e => by rw [e], fun e => by injection e⟩)
    refine loopCmp (n := l.length) (by omega) (p := fun j => ix l (j : Int) = ix l2 (j : Int)) (fun rec k hk hpre hrec => ⟨by omega, by omega, ?_⟩) fun hall => hq _ ⟨fun _ => (list_eq_iff (by omega)).2 hall, fun _ => rfl⟩
    refine ⟨hr _ (ix_mem (l := l) (i := (k : Int)) (by omega) (by omega)), fun v hv => IFB.mk (fun h => ?_) (fun h => hrec (hv.1 (by simpa using h)))⟩
    refine hq _ ⟨fun h => (by cases h), fun e => ?_⟩
    have := (list_eq_iff (by omega)).1 e k hk
    rw [hv.2 this] at h; cases h

def rarea_P (a : api_Region) (post : Int → Prop) : Prop := ∀ n : Int, 0 ≤ n ∧ n ≤ 40000000000 → post n
def rarea_sp : Spec := ⟨108, false, false, [.st .api_Region], .dat (.int .i64), fun x post => rarea_P (x.1 : api_Region) (fun y0 => post (y0, ()))⟩
def rarea_C : CtxR := ⟨tau, [rule1 rval_sp], lookJ [(3066, 7, ⟨[(8, .dat (.int .i64)), (3, .dat (.int .i64))], [], [9, 10, 11, 5, 12, 13, 14, 15, 16, 17, 18, 19, 20, 21, 22, 23, 24, 25], [], []⟩)]⟩
def rarea_W (a : api_Region) (post : Int → Prop) : Prop := ∀ (v1 : Bool), (v1 = true ↔ validP a.1) → IFB (!v1) (post (0 : Int)) ((↑a.1.length : Int) ≤ (9223372036854775807 : Int) → LOOP [Ty.int IntKind.i64, Ty.int IntKind.i64] (fun (rec2 : Int → Int → Prop) (z3 z4 : Int) ↦ IFB (decide (z3 < (↑a.1.length : Int))) (((0 : Int) ≤ z3 ∧ z3 < (↑a.1.length : Int)) ∧ rec2 (IntKind.i64.wrap (z3 + (1 : Int))) (IntKind.i64.wrap (z4 + IntKind.i64.wrap (IntKind.i64.wrap ((ix a.1 z3).3 - (ix a.1 z3).1) * IntKind.i64.wrap ((ix a.1 z3).4 - (ix a.1 z3).2))))) (post z4)) ((0 : Int), (0 : Int), PUnit.unit))
theorem rarea_w (a : api_Region) (post : dens (shT rarea_sp.rs []) → Prop) : rarea_W a (fun y0 => post (y0, ())) = walkG (callR Tryz.prog rarea_C (drawR Tryz.prog tau) 8 0) 108 false [tv (.st .api_Region) a] rarea_sp.rs post := by kernel_rfl
theorem rarea_of (h : ∀ (a : api_Region) (post : Int → Prop), rarea_P a post → rarea_W a post) : SpecOK Tryz.prog rarea_sp := SpecOK.of_rules (C := rarea_C) (dr := drawR Tryz.prog tau) (n := 8) (fk := 0) (.cons (rule1_ok rval_ok) .nil) (drawR_ok tau) fun x post hp => HoldW.of (rarea_w x.1 post) (h x.1 (fun y0 => post (y0, ())) hp)
def areaI (n : Nat) (z s : Int) : Prop := ∃ k : Nat, z = (k : Int) ∧ k ≤ n ∧ 0 ≤ s ∧ s ≤ 268435456 * (k : Int)
theorem rarea_ok : SpecOK Tryz.prog rarea_sp := rarea_of fun a post hp => by
  unfold rarea_P at hp
  unfold rarea_W
  refine fun v hv => IFB.mk (fun _ => hp 0 ⟨Int.le_refl _, by omega⟩) (fun h _ => ?_)
  obtain ⟨h1, h2, _⟩ := hv.1 (by simpa using h)
  refine LOOP.fuel (fun u => areaI a.1.length u.1 u.2.1) (fun u => a.1.length - Int.toNat u.1) ⟨0, rfl, Nat.zero_le _, Int.le_refl _, Int.le_refl _⟩ ?_
  rintro rec ⟨(z3 : Int), (z4 : Int), ⟨⟩⟩ ⟨k, i1, i2, i3, i4⟩ hrec
  have i1 : z3 = (k : Int) := i1
  have i3 : 0 ≤ z4 := i3
  have i4 : z4 ≤ 268435456 * (k : Int) := i4
  subst i1
  refine IFB.mk (fun hb => ⟨by have := of_decide_eq_true hb; omega, ?_⟩) (fun hb => hp z4 ⟨i3, by omega⟩)
  have hb : (k : Int) < a.1.length := of_decide_eq_true hb
  obtain ⟨p1, p2, p3, p4, p5, p6⟩ := h2 _ (ix_mem (l := a.1) (i := (k : Int)) (by omega) hb)
  generalize ix a.1 (k : Int) = r at *
  obtain ⟨l, lo, ri, hi⟩ := r
  dsimp only at p1 p2 p3 p4 p5 p6 ⊢
  rw [wrap_in (z := ri - l) (by omega) (by omega), wrap_in (z := hi - lo) (by omega) (by omega)]
  have m1 : 0 ≤ (ri - l) * (hi - lo) := Int.mul_nonneg (by omega) (by omega)
  have m2 : (ri - l) * (hi - lo) ≤ 16384 * 16384 := Int.mul_le_mul (by omega) (by omega) (by omega) (by omega)
  rw [wrap_in (z := (ri - l) * (hi - lo)) (by omega) (by omega), wrap_in (z := z4 + (ri - l) * (hi - lo)) (by omega) (by omega), wrapS (by omega)]
  exact hrec (((k + 1 : Nat) : Int), z4 + (ri - l) * (hi - lo), ()) ⟨k + 1, rfl, by omega, by show 0 ≤ z4 + _; omega, by show z4 + _ ≤ 268435456 * ((k + 1 : Nat) : Int); omega⟩ (by show a.1.length - ((k + 1 : Nat) : Int).toNat < a.1.length - (k : Int).toNat; omega)

end RE
end Go.Proofs.YtfbfknmnkcddpaaGreat
set_option maxRecDepth 100000
set_option linter.unusedVariables false
namespace Go.Proofs.YtfbfknmnkcddpaaGreat
open Go.RowKit
namespace RE
open PL

def nchkV_P (l : List (api_Notice)) (post : Int → Prop) : Prop := ∀ q : Int, q = nchkS l → post q
def nchkV_sp : Spec := ⟨36, false, false, [.sl (.st .api_Notice)], .dat (.int .i64), fun x post => nchkV_P (x.1 : List (api_Notice)) (fun y0 => post (y0, ()))⟩
theorem nchkV_ok : SpecOK Tryz.prog nchkV_sp := fun x post hp => nchk_ok x post (by
  exact ⟨trivial, hp _ rfl⟩)
def nannV_P (l : List (api_Notice)) (f : Int) (d : Int) (post : List (Int) → Prop) : Prop := ∀ q : List Int, q = annS l f d → post q
def nannV_sp : Spec := ⟨39, false, true, [.sl (.st .api_Notice), .int .i64, .int .i64], .dat (.sl (.int .i64)), fun x post => nannV_P (x.1 : List (api_Notice)) (x.2.1 : Int) (x.2.2.1 : Int) (fun y0 => post (y0, ()))⟩
theorem nannV_ok : SpecOK Tryz.prog nannV_sp := fun x post hp => nann_ok x post (by
  exact ⟨trivial, hp _ rfl⟩)
def nlockV_P (a : api_Application) (v : api_Version) (l : List (api_Notice)) (post : Int → Bool → Prop) : Prop := (bigA a ∧ bigV v) ∧ ∀ (p : Int) (q : Bool), (p, q) = lockS a v l → post p q
def nlockV_sp : Spec := ⟨42, false, false, [.st .api_Application, .st .api_Version, .sl (.st .api_Notice)], .tup [.dat (.int .i64), .dat (.bool)], fun x post => nlockV_P (x.1 : api_Application) (x.2.1 : api_Version) (x.2.2.1 : List (api_Notice)) (fun y0 y1 => post (y0, y1, ()))⟩
theorem nlockV_ok : SpecOK Tryz.prog nlockV_sp := fun x post hp => nlock_ok x post (by
  exact ⟨hp.1, hp.2 _ _ rfl⟩)
def namdV_P (a : api_Application) (v : api_Version) (o : Int) (la : Int) (e : Int) (l : List (api_Notice)) (post : api_Application → Int → Prop) : Prop := (bigA a ∧ bigV v) ∧ ∀ (b : api_Application) (q : Int), (b, q) = namdS a v o la e l → post b q
def namdV_sp : Spec := ⟨44, false, true, [.st .api_Application, .st .api_Version, .int .i64, .int .i64, .int .i64, .sl (.st .api_Notice)], .tup [.dat (.st .api_Application), .dat (.int .i64)], fun x post => namdV_P (x.1 : api_Application) (x.2.1 : api_Version) (x.2.2.1 : Int) (x.2.2.2.1 : Int) (x.2.2.2.2.1 : Int) (x.2.2.2.2.2.1 : List (api_Notice)) (fun y0 y1 => post (y0, y1, ()))⟩
theorem namdV_ok : SpecOK Tryz.prog namdV_sp := fun x post hp => namd_ok x post (by
  exact ⟨hp.1, hp.2 _ _ rfl⟩)
def nwdV_P (a : api_Application) (p : Int) (d : Int) (o : Int) (la : Int) (e : Int) (l : List (api_Notice)) (post : api_Application → Int → Prop) : Prop := (bigA a) ∧ ∀ (b : api_Application) (q : Int), (b, q) = nwdS a p d o la e l → post b q
def nwdV_sp : Spec := ⟨46, false, true, [.st .api_Application, .int .i64, .int .i64, .int .i64, .int .i64, .int .i64, .sl (.st .api_Notice)], .tup [.dat (.st .api_Application), .dat (.int .i64)], fun x post => nwdV_P (x.1 : api_Application) (x.2.1 : Int) (x.2.2.1 : Int) (x.2.2.2.1 : Int) (x.2.2.2.2.1 : Int) (x.2.2.2.2.2.1 : Int) (x.2.2.2.2.2.2.1 : List (api_Notice)) (fun y0 y1 => post (y0, y1, ()))⟩
theorem nwdV_ok : SpecOK Tryz.prog nwdV_sp := fun x post hp => nwd_ok x post (by
  exact ⟨hp.1, hp.2 _ _ rfl⟩)
def nawake_P  (post : Bool → Prop) : Prop := (True) ∧ post (true)
def nawake_sp : Spec := ⟨33, false, false, [], .dat (.bool), fun x post => nawake_P  (fun y0 => post (y0, ()))⟩
def nawake_C : CtxR := ⟨tau, [rule1 nwdV_sp, rule1 nchkV_sp, rule1 nannV_sp, rule1 rints_sp], lookJ []⟩
def nawake_W  (post : Bool → Prop) : Prop := (Nat.le ((1 : Nat)) ((1999999 : Nat)) ∧ ∀ (v1 : api_Version), v1 ∈ [{ Day := (5 : Int), Lines := [{ Parcel := (7 : Int), Region := { Rects := [{ Left := (0 : Int), Low := (0 : Int), Right := (2 : Int), High := (2 : Int) : api_Rect }] : api_Region }, Crop := (0 : Int), Schemes := (1 : Int) : api_Line }] : api_Version }] → v1.2.length ≤ (2000000 : Nat) ∧ ∀ (v2 : api_Line), v2 ∈ v1.2 → v2.2.1.length ≤ (2000000 : Nat)) ∧ ∀ (v3 : api_Application) (v4 : Int), (v3, v4) = nwdS { Farm := (3 : Int), Year := (1 : Int), Versions := [{ Day := (5 : Int), Lines := [{ Parcel := (7 : Int), Region := { Rects := [{ Left := (0 : Int), Low := (0 : Int), Right := (2 : Int), High := (2 : Int) : api_Rect }] : api_Region }, Crop := (0 : Int), Schemes := (1 : Int) : api_Line }] : api_Version }] : api_Application } (7 : Int) (99 : Int) (1 : Int) (200 : Int) (300 : Int) [{ Farm := (3 : Int), Parcel := (7 : Int), Day := (100 : Int) : api_Notice }] → (Nat.le ((1 : Nat)) ((1999999 : Nat)) ∧ ∀ (v5 : api_Version), v5 ∈ [{ Day := (5 : Int), Lines := [{ Parcel := (7 : Int), Region := { Rects := [{ Left := (0 : Int), Low := (0 : Int), Right := (2 : Int), High := (2 : Int) : api_Rect }] : api_Region }, Crop := (0 : Int), Schemes := (1 : Int) : api_Line }] : api_Version }] → v5.2.length ≤ (2000000 : Nat) ∧ ∀ (v6 : api_Line), v6 ∈ v5.2 → v6.2.1.length ≤ (2000000 : Nat)) ∧ ∀ (v7 : api_Application) (v8 : Int), (v7, v8) = nwdS { Farm := (3 : Int), Year := (1 : Int), Versions := [{ Day := (5 : Int), Lines := [{ Parcel := (7 : Int), Region := { Rects := [{ Left := (0 : Int), Low := (0 : Int), Right := (2 : Int), High := (2 : Int) : api_Rect }] : api_Region }, Crop := (0 : Int), Schemes := (1 : Int) : api_Line }] : api_Version }] : api_Application } (7 : Int) (100 : Int) (1 : Int) (200 : Int) (300 : Int) [{ Farm := (3 : Int), Parcel := (7 : Int), Day := (100 : Int) : api_Notice }] → ∀ (v9 : Int), v9 = nchkS [{ Farm := (3 : Int), Parcel := (7 : Int), Day := (100 : Int) : api_Notice }] → JOIN [(Ty.int IntKind.i64).sl] (fun (y10 : List Int) ↦ IFB (gx true (decide (v9 = (0 : Int)))) (JOIN [Ty.bool] (fun (y11 : Bool) ↦ (gx true (decide (v9 = (0 : Int)) && y11 && decide (v4 = (0 : Int))) = true → (↑v3.3.length : Int) ≤ (9223372036854775807 : Int)) → (gx true (decide (v9 = (0 : Int)) && y11 && decide (v4 = (0 : Int)) && decide ((↑v3.3.length : Int) = (2 : Int))) = true → Int.NonNeg (1 : Int) ∧ (1 : Int) < (↑v3.3.length : Int)) ∧ ((gx true (decide (v9 = (0 : Int)) && y11 && decide (v4 = (0 : Int)) && decide ((↑v3.3.length : Int) = (2 : Int))) = true → (↑(ix v3.3 (1 : Int)).2.length : Int) ≤ (9223372036854775807 : Int)) → post (decide (v9 = (0 : Int)) && y11 && decide (v4 = (0 : Int)) && decide ((↑v3.3.length : Int) = (2 : Int)) && decide ((↑(ix v3.3 (1 : Int)).2.length : Int) = (0 : Int)) && decide (v8 = (70 : Int))))) fun (J12 : Bool → Prop) ↦ IFB (gx true (decide (v9 = (0 : Int)))) (y10.length ≤ (1000000000 : Nat) ∧ ∀ (v13 : Bool), (v13 = true ↔ y10 = [(7 : Int)]) → J12 v13) (J12 false)) (JOIN [Ty.bool] (fun (y14 : Bool) ↦ (gx true (decide (v9 = (0 : Int)) && y14 && decide (v4 = (0 : Int))) = true → (↑v3.3.length : Int) ≤ (9223372036854775807 : Int)) → (gx true (decide (v9 = (0 : Int)) && y14 && decide (v4 = (0 : Int)) && decide ((↑v3.3.length : Int) = (2 : Int))) = true → Int.NonNeg (1 : Int) ∧ (1 : Int) < (↑v3.3.length : Int)) ∧ ((gx true (decide (v9 = (0 : Int)) && y14 && decide (v4 = (0 : Int)) && decide ((↑v3.3.length : Int) = (2 : Int))) = true → (↑(ix v3.3 (1 : Int)).2.length : Int) ≤ (9223372036854775807 : Int)) → post (decide (v9 = (0 : Int)) && y14 && decide (v4 = (0 : Int)) && decide ((↑v3.3.length : Int) = (2 : Int)) && decide ((↑(ix v3.3 (1 : Int)).2.length : Int) = (0 : Int)) && decide (v8 = (70 : Int))))) fun (J15 : Bool → Prop) ↦ IFB (gx true (decide (v9 = (0 : Int)))) False (J15 false))) fun (J16 : List Int → Prop) ↦ IFB (gx true (decide (v9 = (0 : Int)))) (∀ (v17 : List Int), v17 = annS [{ Farm := (3 : Int), Parcel := (7 : Int), Day := (100 : Int) : api_Notice }] (3 : Int) (100 : Int) → J16 v17) (J16 [])
theorem nawake_w  (post : dens (shT nawake_sp.rs []) → Prop) : nawake_W  (fun y0 => post (y0, ())) = walkG (callR Tryz.prog nawake_C (drawR Tryz.prog tau) 8 0) 33 false [] nawake_sp.rs post := by kernel_rfl
theorem nawake_of (h : ∀  (post : Bool → Prop), nawake_P  post → nawake_W  post) : SpecOK Tryz.prog nawake_sp := SpecOK.of_rules (C := nawake_C) (dr := drawR Tryz.prog tau) (n := 8) (fk := 0) (.cons (rule1_ok nwdV_ok) (.cons (rule1_ok nchkV_ok) (.cons (rule1_ok nannV_ok) (.cons (rule1_ok rints_ok) .nil)))) (drawR_ok tau) fun x post hp => HoldW.of (nawake_w  post) (h  (fun y0 => post (y0, ())) hp)
theorem nchk_notices {l : List api_Notice} (h : noticesOK l) : nchkS l = 0 := by
  unfold nchkS
  rw [if_neg (by have := h.1; omega), if_neg]
  rintro ⟨n, hn, hr⟩
  obtain ⟨⟨a1, a2⟩, ⟨b1, b2⟩, c1, c2⟩ := h.2 n hn
  exact hr ⟨⟨a1, by omega⟩, ⟨by omega, by omega⟩, c1, by omega⟩
theorem annS_mem {l : List api_Notice} {f d x : Int} (h : nchkS l = 0) : x ∈ annS l f d ↔ ∃ n ∈ l, n.Farm = f ∧ n.Day ≤ d ∧ n.Parcel = x := by
  unfold annS
  rw [if_neg (by simp [h]), (uniqI_ok _).2, List.mem_map]
  constructor
  · rintro ⟨n, hn, rfl⟩
    obtain ⟨h1, h2⟩ := List.mem_filter.1 hn
    unfold annF at h2
    rw [Bool.and_eq_true, decide_eq_true_eq, decide_eq_true_eq] at h2
    exact ⟨n, h1, h2.1, h2.2, rfl⟩
  · rintro ⟨n, hn, h1, h2, rfl⟩
    refine ⟨n, List.mem_filter.2 ⟨hn, ?_⟩, rfl⟩
    unfold annF
    rw [Bool.and_eq_true, decide_eq_true_eq, decide_eq_true_eq]
    exact ⟨h1, h2⟩
theorem annS_inc {l : List api_Notice} {f d : Int} : (annS l f d).Pairwise (· < ·) := by
  unfold annS
  split
  · exact List.Pairwise.nil
  · exact (uniqI_ok _).1
theorem annS_same {l m : List api_Notice} {f g d e : Int} (hl : nchkS l = 0) (hm : nchkS m = 0) (h : ∀ x, (∃ n ∈ l, n.Farm = f ∧ n.Day ≤ d ∧ n.Parcel = x) ↔ ∃ n ∈ m, n.Farm = g ∧ n.Day ≤ e ∧ n.Parcel = x) : annS l f d = annS m g e :=
  inc_uniq annS_inc annS_inc fun x => by rw [annS_mem hl, annS_mem hm, h]
theorem annS_none {l : List api_Notice} {f d : Int} (h : ∀ n ∈ l, n.Farm = f → n.Day ≤ d → False) : annS l f d = [] := by
  unfold annS
  split
  · rfl
  · rw [List.filter_eq_nil_iff.2]
    · exact uniqI_eq List.Pairwise.nil fun x => Iff.rfl
    · intro n hn h2
      unfold annF at h2
      rw [Bool.and_eq_true, decide_eq_true_eq, decide_eq_true_eq] at h2
      exact h n hn h2.1 h2.2
theorem lock_none {a : api_Application} {v : api_Version} {l : List api_Notice} (h : annS l a.Farm v.Day = []) : lockS a v l = (0, false) := by
  unfold lockS
  rw [h]
  split <;> rfl
def awA : api_Application := ⟨3, 1, [⟨5, [⟨7, ⟨[⟨0, 0, 2, 2⟩]⟩, 0, 1⟩]⟩]⟩
def awL : List api_Notice := [⟨3, 7, 100⟩]
theorem awL_ok : nchkS awL = 0 := by
  unfold nchkS awL
  rw [if_neg (by simp), if_neg]
  rintro ⟨n, hn, hr⟩
  rw [List.mem_singleton] at hn
  subst hn
  exact hr ⟨⟨by decide, by decide⟩, ⟨by decide, by decide⟩, by decide, by decide⟩
theorem awA_lines : linesV [⟨7, ⟨[⟨0, 0, 2, 2⟩]⟩, 0, 1⟩] := fun x hx => by
  rw [List.mem_singleton] at hx; subst hx; exact valid_one (by unfold proper; simp)
theorem awA_ok : chkS awA 1 200 300 = 0 := by
  unfold awA
  simp [chkS, firstE, chkAt, chk1, prevV, ix, awA_lines]
theorem awA_ok2 : chkS (moreV awA ⟨99, []⟩) 1 200 300 = 0 := by
  unfold awA moreV
  simp [chkS, firstE, chkAt, chk1, prevV, ix, awA_lines, lines_nil]
theorem awA_of (d : Int) : nwdS awA 7 d 1 200 300 awL = namdS awA ⟨d, []⟩ 1 200 300 awL := by
  unfold nwdS
  rw [if_neg (by simp [awL_ok]), if_neg]
  · rfl
  · rintro (h | h)
    · cases h
    · have : ofL [⟨7, ⟨[⟨0, 0, 2, 2⟩]⟩, 0, 1⟩] 7 = [] := h
      unfold ofL at this
      simp at this
theorem awA_yes : nwdS awA 7 99 1 200 300 awL = (moreV awA ⟨99, []⟩, 0) := by
  rw [awA_of]
  unfold namdS
  rw [if_neg (by simp [awL_ok]), lock_none (annS_none fun n hn h1 h2 => ?_), if_neg (by simp)]
  · exact amend_yes awA_ok awA_ok2
  · unfold awL at hn
    rw [List.mem_singleton] at hn
    subst hn
    have h2 : (100 : Int) ≤ 99 := h2
    omega
theorem awL_ann : annS awL 3 100 = [7] := by
  refine inc_uniq annS_inc (List.pairwise_singleton _ _) fun x => ?_
  rw [annS_mem awL_ok]
  unfold awL
  simp [eq_comm]
theorem awA_no : nwdS awA 7 100 1 200 300 awL = (awA, 70) := by
  rw [awA_of]
  unfold namdS
  rw [if_neg (by simp [awL_ok]), if_pos]
  unfold lockS
  rw [show awA.Farm = 3 from rfl, show (⟨100, []⟩ : api_Version).Day = 100 from rfl, awL_ann]
  rw [if_neg (by unfold awA; simp)]
  have h : decide (ofL (ix awA.Versions ((awA.Versions.length - 1 : Nat) : Int)).Lines 7 ≠ ofL (⟨100, []⟩ : api_Version).Lines 7) = true := by
    rw [decide_eq_true_eq]
    show ¬ ofL [⟨7, ⟨[⟨0, 0, 2, 2⟩]⟩, 0, 1⟩] 7 = ofL [] 7
    unfold ofL
    simp
  simp only [List.find?]
  rw [h]
theorem nawake_ok : SpecOK Tryz.prog nawake_sp := nawake_of fun post hp => by
  obtain ⟨_, hp⟩ := hp
  unfold nawake_W
  have ha : bigA awA := by
    refine ⟨(by show 1 ≤ 1999999; omega), fun v hv => ?_⟩
    unfold awA at hv
    rw [List.mem_singleton] at hv; subst hv
    refine ⟨(by show 1 ≤ 2000000; omega), fun x hx => ?_⟩
    rw [List.mem_singleton] at hx; subst hx
    show 1 ≤ 2000000
    omega
  refine ⟨ha, fun b q h1 => ⟨ha, fun b2 q2 h2 v9 h9 => ?_⟩⟩
  have h1 : (b, q) = nwdS awA 7 99 1 200 300 awL := h1
  have h2 : (b2, q2) = nwdS awA 7 100 1 200 300 awL := h2
  have h9 : v9 = nchkS awL := h9
  rw [awA_yes] at h1
  rw [awA_no] at h2
  rw [awL_ok] at h9
  injection h1 with h1 h1'
  injection h2 with h2 h2'
  subst h1 h1' h2 h2' h9
  refine JOIN.opq fun (J16 : List Int → Prop) hJ16 => ?_
  refine IFB.mk (fun _ v17 h17 => ?_) (fun h => by cases h)
  have h17 : v17 = annS awL 3 100 := h17
  rw [awL_ann] at h17
  subst h17
  rw [hJ16]
  dsimp only
  refine IFB.mk (fun _ => ?_) (fun h => by cases h)
  refine JOIN.opq fun (J12 : Bool → Prop) hJ12 => ?_
  refine IFB.mk (fun _ => ⟨by show 1 ≤ 1000000000; omega, fun v hv => ?_⟩) (fun h => by cases h)
  have hv : v = true := hv.2 rfl
  subst hv
  rw [hJ12]
  intro _
  exact ⟨fun _ => ⟨Int.NonNeg.mk _, by decide⟩, fun _ => hp⟩

end RE
end Go.Proofs.YtfbfknmnkcddpaaGreat
