/-
  Chapter 36: notices.
-/
import Derived.Test.YtfbfknmnkcddpaaGreatVApp
import Derived.Test.YtfbfknmnkcddpaaGreatVEngC
set_option maxRecDepth 100000
set_option linter.unusedVariables false
namespace Go.Proofs.YtfbfknmnkcddpaaGreat
open Go.RowKit
namespace RE
open PL

namespace PL
def noticeR (n : api_Notice) : Prop := (1 ≤ n.Farm ∧ n.Farm ≤ 60) ∧ (0 ≤ n.Parcel ∧ n.Parcel ≤ 1125899906842624) ∧ 0 ≤ n.Day ∧ n.Day ≤ 36864
open Classical in
noncomputable def nchkS (l : List api_Notice) : Int := if 100 < l.length then 1 else if ∃ n ∈ l, ¬ noticeR n then 69 else 0
def annF (farm day : Int) (n : api_Notice) : Bool := decide (n.Farm = farm) && decide (n.Day ≤ day)
open Classical in
noncomputable def annS (l : List api_Notice) (farm day : Int) : List Int := if nchkS l ≠ 0 then [] else uniqI ((l.filter (annF farm day)).map (·.Parcel))
def ofL (l : List api_Line) (p : Int) : List api_Line := l.filter fun x => decide (x.Parcel = p)
end PL

theorem loopF {t : Ty} {n : Nat} (hn : n ≤ 1000000000) {B : (Int → den t → Prop) → Int → den t → Prop} {K : den t → Prop} (F : Nat → den t) (hB : ∀ (rec : Int → den t → Prop) (k : Nat), k < n → rec (IntKind.i64.wrap ((k : Int) + 1)) (F (k + 1)) → B rec (k : Int) (F k)) (hK : K (F n)) :
    LOOP [Ty.int IntKind.i64, t] (fun (rec : Int → den t → Prop) (z : Int) (s : den t) => IFB (decide (z < (n : Int))) (B rec z s) (K s)) ((0 : Int), F 0, PUnit.unit) := by
  refine LOOP.fuel (fun u => ∃ k : Nat, u.1 = (k : Int) ∧ k ≤ n ∧ u.2.1 = F k) (fun u => n - Int.toNat u.1) ⟨0, rfl, Nat.zero_le _, rfl⟩ ?_
  rintro rec ⟨(z : Int), s, ⟨⟩⟩ ⟨k, hz, hk, hs⟩ hrec
  have hz : z = (k : Int) := hz
  have hs : s = F k := hs
  subst hz hs
  refine IFB.mk (fun hb => ?_) (fun hb => ?_)
  · have hb : (k : Int) < n := of_decide_eq_true hb
    refine hB _ k (by omega) ?_
    rw [wrapS (by omega)]
    exact hrec (((k + 1 : Nat) : Int), F (k + 1), ()) ⟨k + 1, rfl, by omega, rfl⟩ (by show n - ((k + 1 : Nat) : Int).toNat < n - (k : Int).toNat; omega)
  · have hb : ¬ (k : Int) < n := of_decide_eq_false hb
    have : k = n := by omega
    subst this
    exact hK
def filtK {α : Type} (p : α → Bool) (l : List α) (k : Nat) : List α := (l.take k).filter p
theorem filtK_succ {α : Type} [Inhabited α] {p : α → Bool} {l : List α} {k : Nat} (h : k < l.length) : filtK p l (k + 1) = if p (ix l (k : Int)) = true then filtK p l k ++ [ix l (k : Int)] else filtK p l k := by
  unfold filtK
  rw [List.take_succ_eq_append_getElem h, List.filter_append, ix_lt h]
  split
  · rename_i hp; simp [hp]
  · rename_i hp; simp [hp]
theorem filtK_len {α : Type} {p : α → Bool} {l : List α} {k : Nat} : (filtK p l k).length ≤ k := Nat.le_trans (List.length_filter_le _ _) (by simp; omega)
theorem filtK_all {α : Type} {p : α → Bool} {l : List α} : filtK p l l.length = l.filter p := by unfold filtK; rw [List.take_length]

def nchk_P (l : List (api_Notice)) (post : Int → Prop) : Prop := (True) ∧ post (nchkS l)
def nchk_sp : Spec := ⟨36, false, false, [.sl (.st .api_Notice)], .dat (.int .i64), fun x post => nchk_P (x.1 : List (api_Notice)) (fun y0 => post (y0, ()))⟩
def nchk_C : CtxR := ⟨tau, [], lookJ [(0, 9, ⟨[(10, .dat (.int .i64))], [], [11, 12, 13, 4, 14, 15, 16, 17], [], []⟩)]⟩
def nchk_W (l : List (api_Notice)) (post : Int → Prop) : Prop := (↑l.length : Int) ≤ (9223372036854775807 : Int) → IFB (decide ((100 : Int) < (↑l.length : Int))) (post (1 : Int)) ((↑l.length : Int) ≤ (9223372036854775807 : Int) → LOOP [Ty.int IntKind.i64] (fun (rec1 : Int → Prop) (z2 : Int) ↦ IFB (decide (z2 < (↑l.length : Int))) (((0 : Int) ≤ z2 ∧ z2 < (↑l.length : Int)) ∧ IFB (!(decide ((1 : Int) ≤ (ix l z2).1) && decide ((ix l z2).1 ≤ (60 : Int)) && decide ((0 : Int) ≤ (ix l z2).2) && decide ((ix l z2).2 ≤ (1125899906842624 : Int)) && decide ((0 : Int) ≤ (ix l z2).3) && decide ((ix l z2).3 ≤ (36864 : Int)))) (post (69 : Int)) (rec1 (IntKind.i64.wrap (z2 + (1 : Int))))) (post (0 : Int))) ((0 : Int), PUnit.unit))
theorem nchk_w (l : List (api_Notice)) (post : dens (shT nchk_sp.rs []) → Prop) : nchk_W l (fun y0 => post (y0, ())) = walkG (callR Tryz.prog nchk_C (drawR Tryz.prog tau) 8 0) 36 false [tv (.sl (.st .api_Notice)) l] nchk_sp.rs post := by kernel_rfl
theorem nchk_of (h : ∀ (l : List (api_Notice)) (post : Int → Prop), nchk_P l post → nchk_W l post) : SpecOK Tryz.prog nchk_sp := SpecOK.of_rules (C := nchk_C) (dr := drawR Tryz.prog tau) (n := 8) (fk := 0) .nil (drawR_ok tau) fun x post hp => HoldW.of (nchk_w x.1 post) (h x.1 (fun y0 => post (y0, ())) hp)
theorem nchk_ok : SpecOK Tryz.prog nchk_sp := nchk_of fun l post hp => by
  obtain ⟨_, hp⟩ := hp
  unfold nchkS at hp
  unfold nchk_W
  intro _
  refine IFB.mk (fun hb => ?_) (fun hb _ => ?_)
  · rw [if_pos (by have := of_decide_eq_true hb; omega)] at hp; exact hp
  · have hb := of_decide_eq_false hb
    rw [if_neg (by omega)] at hp
    refine loopCmp (n := l.length) (by omega) (p := fun j => noticeR (ix l (j : Int))) (fun rec k hk hpre hrec => ⟨by omega, IFB.mk (fun h => ?_) (fun h => hrec ?_)⟩) fun hall => ?_
    · rw [if_pos] at hp
      · exact hp
      · refine ⟨_, ix_mem (l := l) (i := (k : Int)) (by omega) (by omega), fun hr => ?_⟩
        obtain ⟨⟨h1, h2⟩, ⟨h3, h4⟩, h5, h6⟩ := hr
        simp [h1, h2, h3, h4, h5, h6] at h
    · simp only [Bool.not_eq_false', Bool.and_eq_true, decide_eq_true_eq] at h
      obtain ⟨⟨⟨⟨⟨h1, h2⟩, h3⟩, h4⟩, h5⟩, h6⟩ := h
      exact ⟨⟨h1, h2⟩, ⟨h3, h4⟩, h5, h6⟩
    · rw [if_neg] at hp
      · exact hp
      · rintro ⟨n, hn, hr⟩
        obtain ⟨j, hj, rfl⟩ := List.getElem_of_mem hn
        have := hall j hj
        rw [ix_lt hj] at this
        exact hr this
theorem nchk_len {l : List api_Notice} (h : nchkS l = 0) : l.length ≤ 100 := by
  unfold nchkS at h
  split at h
  · cases h
  · omega

def nann_P (l : List (api_Notice)) (f : Int) (d : Int) (post : List (Int) → Prop) : Prop := (True) ∧ post (annS l f d)
def nann_sp : Spec := ⟨39, false, true, [.sl (.st .api_Notice), .int .i64, .int .i64], .dat (.sl (.int .i64)), fun x post => nann_P (x.1 : List (api_Notice)) (x.2.1 : Int) (x.2.2.1 : Int) (fun y0 => post (y0, ()))⟩
def nann_C : CtxR := ⟨tau, [rule1 nchk_sp, rule3 ssort_sp, rule2 scompact_sp], lookJ [(0, 11, ⟨[(15, .dat (.int .i64)), (7, .own 3 (.int .i64))], [], [16, 33, 32, 31, 30, 29, 27, 26, 25, 24, 28, 23, 22, 21, 20, 19, 9, 18, 17, 34], [], []⟩), (0, 18, ⟨[(7, .own 3 (.int .i64))], [], [17, 18, 9, 19, 20, 21, 22, 23, 28, 24, 25, 26, 27, 29, 30, 31, 32, 33], [0], []⟩)]⟩
def nann_W (l : List (api_Notice)) (f : Int) (d : Int) (post : List (Int) → Prop) : Prop := True ∧ IFB (!decide (nchkS l = (0 : Int))) (post []) ((↑l.length : Int) ≤ (9223372036854775807 : Int) → LOOP [Ty.int IntKind.i64, (Ty.int IntKind.i64).sl] (fun (rec1 : Int → List Int → Prop) (z2 : Int) (z3 : List Int) ↦ IFB (decide (z2 < (↑l.length : Int))) (JOIN [(Ty.int IntKind.i64).sl] (fun (y4 : List Int) ↦ rec1 (IntKind.i64.wrap (z2 + (1 : Int))) y4) fun (J5 : List Int → Prop) ↦ ((0 : Int) ≤ z2 ∧ z2 < (↑l.length : Int)) ∧ IFB (decide ((ix l z2).1 = f) && decide ((ix l z2).3 ≤ d)) ((z3.length + [(ix l z2).2].length) * (8 : Nat) ≤ (140737488355328 : Nat) ∧ J5 (z3 ++ [(ix l z2).2])) (J5 z3)) (z3.length ≤ (1000000 : Nat) ∧ (sortI z3).length ≤ (1000000 : Nat) ∧ post (compI (sortI z3)))) ((0 : Int), [], PUnit.unit))
theorem nann_w (l : List (api_Notice)) (f : Int) (d : Int) (post : dens (shT nann_sp.rs []) → Prop) : nann_W l f d (fun y0 => post (y0, ())) = walkG (callR Tryz.prog nann_C (drawR Tryz.prog tau) 8 0) 39 false [tv (.sl (.st .api_Notice)) l, tv (.int .i64) f, tv (.int .i64) d] nann_sp.rs post := by kernel_rfl
theorem nann_of (h : ∀ (l : List (api_Notice)) (f : Int) (d : Int) (post : List (Int) → Prop), nann_P l f d post → nann_W l f d post) : SpecOK Tryz.prog nann_sp := SpecOK.of_rules (C := nann_C) (dr := drawR Tryz.prog tau) (n := 8) (fk := 0) (.cons (rule1_ok nchk_ok) (.cons (rule3_ok ssort_ok) (.cons (rule2_ok scompact_ok) .nil))) (drawR_ok tau) fun x post hp => HoldW.of (nann_w x.1 x.2.1 x.2.2.1 post) (h x.1 x.2.1 x.2.2.1 (fun y0 => post (y0, ())) hp)
theorem nann_ok : SpecOK Tryz.prog nann_sp := nann_of fun l f d post hp => by
  obtain ⟨_, hp⟩ := hp
  unfold annS at hp
  unfold nann_W
  refine ⟨trivial, IFB.mk (fun hb => ?_) (fun hb _ => ?_)⟩
  · rw [if_pos (by simpa using hb)] at hp; exact hp
  · have hb : nchkS l = 0 := by simpa using hb
    have hl := nchk_len hb
    rw [if_neg (fun h => h hb)] at hp
    refine loopF (t := .sl (.int .i64)) (n := l.length) (by omega) (fun k => List.map (α := api_Notice) (β := Int) (·.Parcel) (filtK (annF f d) l k)) (fun (rec : Int → List Int → Prop) k hk hrec => ?_) ?_
    · refine JOIN.opq fun (J5 : List Int → Prop) hJ5 => ⟨by omega, ?_⟩
      have hrec : rec (IntKind.i64.wrap ((k : Int) + 1)) ((filtK (annF f d) l (k + 1)).map (·.Parcel)) := hrec
      rw [filtK_succ hk] at hrec
      have hlen : ((filtK (annF f d) l k).map (·.Parcel)).length ≤ k := by rw [List.length_map]; exact filtK_len
      refine IFB.mk (fun h => ⟨by simp only [List.length_cons, List.length_nil]; omega, ?_⟩) (fun h => ?_)
      · rw [if_pos (show annF f d (ix l (k : Int)) = true from h), List.map_append] at hrec
        rw [hJ5]; exact hrec
      · rw [if_neg (by show ¬ annF f d _ = true; rw [show annF f d (ix l (k : Int)) = false from h]; simp)] at hrec
        rw [hJ5]; exact hrec
    · show ((filtK (annF f d) l l.length).map (·.Parcel)).length ≤ 1000000 ∧ (sortI ((filtK (annF f d) l l.length).map (·.Parcel))).length ≤ 1000000 ∧ post (compI (sortI ((filtK (annF f d) l l.length).map (·.Parcel))))
      rw [filtK_all]
      have h1 : ((l.filter (annF f d)).map (·.Parcel)).length ≤ 100 := by rw [List.length_map]; exact Nat.le_trans (List.length_filter_le _ _) hl
      have h2 : (sortI ((l.filter (annF f d)).map (·.Parcel))).length = ((l.filter (annF f d)).map (·.Parcel)).length := by unfold sortI; simp
      exact ⟨by omega, by omega, hp⟩

def nof_P (v : api_Version) (p : Int) (post : List (api_Line) → Prop) : Prop := (v.2.length ≤ 2000000) ∧ post (ofL v.2 p)
def nof_sp : Spec := ⟨97, false, true, [.st .api_Version, .int .i64], .dat (.sl (.st .api_Line)), fun x post => nof_P (x.1 : api_Version) (x.2.1 : Int) (fun y0 => post (y0, ()))⟩
def nof_C : CtxR := ⟨tau, [], lookJ [(0, 7, ⟨[(11, .dat (.int .i64)), (5, .own 46 (.st .api_Line))], [], [12, 22, 21, 20, 19, 18, 17, 16, 15, 7, 14, 13, 23], [], []⟩), (0, 14, ⟨[(5, .own 46 (.st .api_Line))], [], [13, 14, 7, 15, 16, 17, 18, 19, 20, 21, 22], [1], []⟩)]⟩
def nof_W (v : api_Version) (p : Int) (post : List (api_Line) → Prop) : Prop := (↑v.2.length : Int) ≤ (9223372036854775807 : Int) → LOOP [Ty.int IntKind.i64, (Ty.st Sn.api_Line).sl] (fun (rec1 : Int → List api_Line → Prop) (z2 : Int) (z3 : List api_Line) ↦ IFB (decide (z2 < (↑v.2.length : Int))) (JOIN [(Ty.st Sn.api_Line).sl] (fun (y4 : List api_Line) ↦ rec1 (IntKind.i64.wrap (z2 + (1 : Int))) y4) fun (J5 : List api_Line → Prop) ↦ ((0 : Int) ≤ z2 ∧ z2 < (↑v.2.length : Int)) ∧ IFB (decide ((ix v.2 z2).1 = p)) ((z3.length + [{ Parcel := (ix v.2 z2).1, Region := { Rects := (ix v.2 z2).2.1 : api_Region }, Crop := (ix v.2 z2).3, Schemes := (ix v.2 z2).4 : api_Line }].length) * (48 : Nat) ≤ (140737488355328 : Nat) ∧ J5 (z3 ++ [{ Parcel := (ix v.2 z2).1, Region := { Rects := (ix v.2 z2).2.1 : api_Region }, Crop := (ix v.2 z2).3, Schemes := (ix v.2 z2).4 : api_Line }])) (J5 z3)) (post z3)) ((0 : Int), [], PUnit.unit)
theorem nof_w (v : api_Version) (p : Int) (post : dens (shT nof_sp.rs []) → Prop) : nof_W v p (fun y0 => post (y0, ())) = walkG (callR Tryz.prog nof_C (drawR Tryz.prog tau) 8 0) 97 false [tv (.st .api_Version) v, tv (.int .i64) p] nof_sp.rs post := by kernel_rfl
theorem nof_of (h : ∀ (v : api_Version) (p : Int) (post : List (api_Line) → Prop), nof_P v p post → nof_W v p post) : SpecOK Tryz.prog nof_sp := SpecOK.of_rules (C := nof_C) (dr := drawR Tryz.prog tau) (n := 8) (fk := 0) .nil (drawR_ok tau) fun x post hp => HoldW.of (nof_w x.1 x.2.1 post) (h x.1 x.2.1 (fun y0 => post (y0, ())) hp)
theorem nof_ok : SpecOK Tryz.prog nof_sp := nof_of fun v p post hp => by
  obtain ⟨hl, hp⟩ := hp
  obtain ⟨d, l⟩ := v
  unfold ofL at hp
  unfold nof_W
  dsimp only at hl hp ⊢
  intro _
  refine loopF (t := .sl (.st .api_Line)) (n := l.length) (by omega) (fun k => filtK (α := api_Line) (fun x => decide (x.Parcel = p)) l k) (fun (rec : Int → List api_Line → Prop) k hk hrec => ?_) (by show post (filtK (α := api_Line) (fun x => decide (x.Parcel = p)) l l.length); rw [filtK_all]; exact hp)
  refine JOIN.opq fun (J5 : List api_Line → Prop) hJ5 => ⟨by omega, ?_⟩
  have hrec : rec (IntKind.i64.wrap ((k : Int) + 1)) (filtK (α := api_Line) (fun x => decide (x.Parcel = p)) l (k + 1)) := hrec
  rw [filtK_succ hk] at hrec
  have hlen : (filtK (fun x : api_Line => decide (x.Parcel = p)) l k).length ≤ k := filtK_len
  refine IFB.mk (fun h => ⟨by simp only [List.length_cons, List.length_nil]; omega, ?_⟩) (fun h => ?_)
  · rw [if_pos h] at hrec
    rw [hJ5]; exact hrec
  · rw [if_neg (by show ¬ decide ((ix l (k : Int)).1 = p) = true; rw [h]; simp)] at hrec
    rw [hJ5]; exact hrec

def nsame_P (a : api_Line) (b : api_Line) (post : Bool → Prop) : Prop := (a.2.1.length ≤ 1000000000) ∧ ∀ q : Bool, (q = true ↔ a.3 = b.3 ∧ a.4 = b.4 ∧ a.2 = b.2) → post q
def nsame_sp : Spec := ⟨98, false, false, [.st .api_Line, .st .api_Line], .dat (.bool), fun x post => nsame_P (x.1 : api_Line) (x.2.1 : api_Line) (fun y0 => post (y0, ()))⟩
def nsame_C : CtxR := ⟨tau, [rule1 peqr_sp], lookJ []⟩
def nsame_W (a : api_Line) (b : api_Line) (post : Bool → Prop) : Prop := JOIN [Ty.bool] (fun (y1 : Bool) ↦ post (decide (a.3 = b.3) && decide (a.4 = b.4) && y1)) fun (J2 : Bool → Prop) ↦ IFB (gx true (decide (a.3 = b.3) && decide (a.4 = b.4))) (a.2.1.length ≤ (1000000000 : Nat) ∧ ∀ (v3 : Bool), (v3 = true ↔ a.2.1 = b.2.1) → J2 v3) (J2 false)
theorem nsame_w (a : api_Line) (b : api_Line) (post : dens (shT nsame_sp.rs []) → Prop) : nsame_W a b (fun y0 => post (y0, ())) = walkG (callR Tryz.prog nsame_C (drawR Tryz.prog tau) 8 0) 98 false [tv (.st .api_Line) a, tv (.st .api_Line) b] nsame_sp.rs post := by kernel_rfl
theorem nsame_of (h : ∀ (a : api_Line) (b : api_Line) (post : Bool → Prop), nsame_P a b post → nsame_W a b post) : SpecOK Tryz.prog nsame_sp := SpecOK.of_rules (C := nsame_C) (dr := drawR Tryz.prog tau) (n := 8) (fk := 0) (.cons (rule1_ok peqr_ok) .nil) (drawR_ok tau) fun x post hp => HoldW.of (nsame_w x.1 x.2.1 post) (h x.1 x.2.1 (fun y0 => post (y0, ())) hp)
theorem nsame_ok : SpecOK Tryz.prog nsame_sp := nsame_of fun a b post hp => by
  obtain ⟨hl, hp⟩ := hp
  obtain ⟨p, ⟨r⟩, c, s⟩ := a
  obtain ⟨p', ⟨r'⟩, c', s'⟩ := b
  unfold nsame_W
  dsimp only at hl hp ⊢
  refine JOIN.opq fun (J2 : Bool → Prop) hJ2 => ?_
  have key : ∀ y : Bool, ((decide (c = c') && decide (s = s') && y) = true ↔ c = c' ∧ s = s' ∧ r = r') → J2 y := fun y hy => by
    rw [hJ2]
    refine hp _ (hy.trans ⟨fun h => ⟨h.1, h.2.1, by rw [h.2.2]⟩, fun h => ⟨h.1, h.2.1, by have := h.2.2; injection this⟩⟩)
  refine IFB.mk (fun h => ⟨hl, fun v hv => key v ?_⟩) (fun h => key false ?_)
  · simp only [Bool.and_eq_true, decide_eq_true_eq, hv, and_assoc]
  · have h : (decide (c = c') && decide (s = s')) = false := h
    rw [Bool.and_false]
    constructor
    · intro h; cases h
    · rintro ⟨h1, h2, _⟩
      rw [decide_eq_true h1, decide_eq_true h2] at h; cases h

end RE
end Go.Proofs.YtfbfknmnkcddpaaGreat
set_option maxRecDepth 100000
set_option linter.unusedVariables false
namespace Go.Proofs.YtfbfknmnkcddpaaGreat
open Go.RowKit
namespace RE
open PL

def lof_P (v : List (api_Line)) (p : Int) (post : List (api_Line) → Prop) : Prop := (v.length ≤ 2000000) ∧ post (ofL v p)
def lof_C : CtxR := ⟨tau, [], lookJ [(0, 7, ⟨[(10, .dat (.int .i64)), (5, .own 46 (.st .api_Line))], [], [11, 21, 20, 19, 18, 17, 16, 15, 14, 7, 13, 12, 22], [], []⟩), (0, 14, ⟨[(5, .own 46 (.st .api_Line))], [], [12, 13, 7, 14, 15, 16, 17, 18, 19, 20, 21], [0], []⟩)]⟩
def lof_W (v : List (api_Line)) (p : Int) (post : List (api_Line) → Prop) : Prop := (↑v.length : Int) ≤ (9223372036854775807 : Int) → LOOP [Ty.int IntKind.i64, (Ty.st Sn.api_Line).sl] (fun (rec1 : Int → List api_Line → Prop) (z2 : Int) (z3 : List api_Line) ↦ IFB (decide (z2 < (↑v.length : Int))) (JOIN [(Ty.st Sn.api_Line).sl] (fun (y4 : List api_Line) ↦ rec1 (IntKind.i64.wrap (z2 + (1 : Int))) y4) fun (J5 : List api_Line → Prop) ↦ ((0 : Int) ≤ z2 ∧ z2 < (↑v.length : Int)) ∧ IFB (decide ((ix v z2).1 = p)) ((z3.length + [{ Parcel := (ix v z2).1, Region := { Rects := (ix v z2).2.1 : api_Region }, Crop := (ix v z2).3, Schemes := (ix v z2).4 : api_Line }].length) * (48 : Nat) ≤ (140737488355328 : Nat) ∧ J5 (z3 ++ [{ Parcel := (ix v z2).1, Region := { Rects := (ix v z2).2.1 : api_Region }, Crop := (ix v z2).3, Schemes := (ix v z2).4 : api_Line }])) (J5 z3)) (post z3)) ((0 : Int), [], PUnit.unit)
theorem loopCmpL {n : Nat} (hn : n ≤ 1000000000) {A : Prop} {B : (Int → Prop) → Int → Prop} {K : Prop} {p : Nat → Prop} (hB : ∀ (rec : Int → Prop) (k : Nat), k < n → (∀ j, j < k → p j) → (p k → rec (IntKind.i64.wrap ((k : Int) + 1))) → B rec (k : Int)) (hK : (∀ j, j < n → p j) → K) :
    LOOP [Ty.int IntKind.i64] (fun (rec : Int → Prop) (z : Int) => A → IFB (decide (z < (n : Int))) (B rec z) K) ((0 : Int), PUnit.unit) := by
  refine LOOP.fuel (fun u => ∃ k : Nat, u.1 = (k : Int) ∧ k ≤ n ∧ ∀ j, j < k → p j) (fun u => n - Int.toNat u.1) ⟨0, rfl, Nat.zero_le _, fun j hj => by omega⟩ ?_
  rintro rec ⟨(z : Int), ⟨⟩⟩ ⟨k, hz, hk, hp⟩ hrec
  have hz : z = (k : Int) := hz
  subst hz
  intro _
  refine IFB.mk (fun hb => ?_) (fun hb => hK fun j hj => hp j (by have := of_decide_eq_false hb; omega))
  have hb : (k : Int) < n := of_decide_eq_true hb
  refine hB rec k (by omega) hp fun hpk => ?_
  rw [wrapS (by omega)]
  refine hrec (((k + 1 : Nat) : Int), ()) ⟨k + 1, rfl, by omega, fun j hj => ?_⟩ (by show n - ((k + 1 : Nat) : Int).toNat < n - (k : Int).toNat; omega)
  by_cases h : j = k
  · rw [h]; exact hpk
  · exact hp j (by omega)

def rints_P (a : List (Int)) (b : List (Int)) (post : Bool → Prop) : Prop := (a.length ≤ 1000000000) ∧ ∀ q : Bool, (q = true ↔ a = b) → post q
def rints_sp : Spec := ⟨38, false, false, [.sl (.int .i64), .sl (.int .i64)], .dat (.bool), fun x post => rints_P (x.1 : List (Int)) (x.2.1 : List (Int)) (fun y0 => post (y0, ()))⟩
def rints_C : CtxR := ⟨tau, [], lookJ [(0, 9, ⟨[(5, .dat (.int .i64))], [], [11, 12, 13, 14, 17, 18, 19, 20, 21, 22, 23, 24, 25, 15, 16], [], []⟩)]⟩
def rints_W (a : List (Int)) (b : List (Int)) (post : Bool → Prop) : Prop := (↑a.length : Int) ≤ (9223372036854775807 : Int) → (↑b.length : Int) ≤ (9223372036854775807 : Int) → IFB (!decide ((↑a.length : Int) = (↑b.length : Int))) (post false) (LOOP [Ty.int IntKind.i64] (fun (rec1 : Int → Prop) (z2 : Int) ↦ (↑a.length : Int) ≤ (9223372036854775807 : Int) → IFB (decide (z2 < (↑a.length : Int))) (((0 : Int) ≤ z2 ∧ z2 < (↑a.length : Int)) ∧ ((0 : Int) ≤ z2 ∧ z2 < (↑b.length : Int)) ∧ IFB (!decide (ix a z2 = ix b z2)) (post false) (rec1 (IntKind.i64.wrap (z2 + (1 : Int))))) (post true)) ((0 : Int), PUnit.unit))
theorem rints_w (a : List (Int)) (b : List (Int)) (post : dens (shT rints_sp.rs []) → Prop) : rints_W a b (fun y0 => post (y0, ())) = walkG (callR Tryz.prog rints_C (drawR Tryz.prog tau) 8 0) 38 false [tv (.sl (.int .i64)) a, tv (.sl (.int .i64)) b] rints_sp.rs post := by kernel_rfl
theorem rints_of (h : ∀ (a : List (Int)) (b : List (Int)) (post : Bool → Prop), rints_P a b post → rints_W a b post) : SpecOK Tryz.prog rints_sp := SpecOK.of_rules (C := rints_C) (dr := drawR Tryz.prog tau) (n := 8) (fk := 0) .nil (drawR_ok tau) fun x post hp => HoldW.of (rints_w x.1 x.2.1 post) (h x.1 x.2.1 (fun y0 => post (y0, ())) hp)
theorem rints_ok : SpecOK Tryz.prog rints_sp := rints_of fun a b post hp => by
  obtain ⟨hl, hp⟩ := hp
  unfold rints_W
  intro _ _
  refine IFB.mk (fun hb => hp _ ⟨fun h => (by cases h), fun h => ?_⟩) (fun hb => ?_)
  · rw [h] at hb; simp at hb
  · have hb : (a.length : Int) = b.length := by simpa using hb
    refine loopCmpL (n := a.length) (by omega) (p := fun j => ix a (j : Int) = ix b (j : Int)) (fun rec k hk hpre hrec => ⟨by omega, by omega, IFB.mk (fun h => ?_) (fun h => hrec (by simpa using h))⟩) fun hall => ?_
    · refine hp _ ⟨fun h => (by cases h), fun e => ?_⟩
      rw [e] at h; simp at h
    · refine hp _ ⟨fun _ => (list_eq_iff (by omega)).2 hall, fun _ => rfl⟩

def rhas_P (l : List (Int)) (x : Int) (post : Bool → Prop) : Prop := (l.length ≤ 1000000000) ∧ ∀ q : Bool, (q = true ↔ x ∈ l) → post q
def rhas_sp : Spec := ⟨94, false, false, [.sl (.int .i64), .int .i64], .dat (.bool), fun x post => rhas_P (x.1 : List (Int)) (x.2.1 : Int) (fun y0 => post (y0, ()))⟩
def rhas_C : CtxR := ⟨tau, [], lookJ [(0, 5, ⟨[(5, .dat (.int .i64))], [], [6, 7, 8, 9, 12, 13, 14, 15, 16, 17, 10, 11], [], []⟩)]⟩
def rhas_W (l : List (Int)) (x : Int) (post : Bool → Prop) : Prop := LOOP [Ty.int IntKind.i64] (fun (rec1 : Int → Prop) (z2 : Int) ↦ (↑l.length : Int) ≤ (9223372036854775807 : Int) → IFB (decide (z2 < (↑l.length : Int))) (((0 : Int) ≤ z2 ∧ z2 < (↑l.length : Int)) ∧ IFB (decide (ix l z2 = x)) (post true) (rec1 (IntKind.i64.wrap (z2 + (1 : Int))))) (post false)) ((0 : Int), PUnit.unit)
theorem rhas_w (l : List (Int)) (x : Int) (post : dens (shT rhas_sp.rs []) → Prop) : rhas_W l x (fun y0 => post (y0, ())) = walkG (callR Tryz.prog rhas_C (drawR Tryz.prog tau) 8 0) 94 false [tv (.sl (.int .i64)) l, tv (.int .i64) x] rhas_sp.rs post := by kernel_rfl
theorem rhas_of (h : ∀ (l : List (Int)) (x : Int) (post : Bool → Prop), rhas_P l x post → rhas_W l x post) : SpecOK Tryz.prog rhas_sp := SpecOK.of_rules (C := rhas_C) (dr := drawR Tryz.prog tau) (n := 8) (fk := 0) .nil (drawR_ok tau) fun x post hp => HoldW.of (rhas_w x.1 x.2.1 post) (h x.1 x.2.1 (fun y0 => post (y0, ())) hp)
theorem rhas_ok : SpecOK Tryz.prog rhas_sp := rhas_of fun l x post hp => by
  obtain ⟨hl, hp⟩ := hp
  unfold rhas_W
  refine loopCmpL (n := l.length) (by omega) (p := fun j => ¬ ix l (j : Int) = x) (fun rec k hk hpre hrec => ⟨by omega, IFB.mk (fun h => ?_) (fun h => hrec (of_decide_eq_false h))⟩) fun hall => ?_
  · have h : ix l (k : Int) = x := of_decide_eq_true h
    exact hp _ ⟨fun _ => h ▸ ix_mem (by omega) (by omega), fun _ => rfl⟩
  · refine hp _ ⟨fun h => (by cases h), fun h => ?_⟩
    obtain ⟨j, hj, rfl⟩ := List.getElem_of_mem h
    exact absurd (ix_lt hj) (hall j hj)

def rsml_P (a : List (api_Line)) (b : List (api_Line)) (post : Bool → Prop) : Prop := (a.length ≤ 1000000000 ∧ ∀ x ∈ a, x.2.1.length ≤ 1000000000) ∧ ∀ q : Bool, (q = true ↔ a = b) → post q
def rsml_sp : Spec := ⟨78, false, false, [.sl (.st .api_Line), .sl (.st .api_Line)], .dat (.bool), fun x post => rsml_P (x.1 : List (api_Line)) (x.2.1 : List (api_Line)) (fun y0 => post (y0, ()))⟩
def rsml_C : CtxR := ⟨tau, [rule1 rrec_sp], lookJ [(0, 9, ⟨[(13, .dat (.int .i64))], [], [14, 15, 5, 16, 17, 18, 19, 20, 21, 22, 23, 24, 25, 26, 27, 39, 40, 52, 53, 66, 28, 29, 30, 31, 32, 33, 34, 35, 36, 37, 38, 41, 42, 43, 44, 45, 46, 47, 48, 49, 50, 51, 54, 55, 56, 57, 58, 59, 60, 61, 62, 63, 64, 65, 67], [], []⟩)]⟩
def rsml_W (a : List (api_Line)) (b : List (api_Line)) (post : Bool → Prop) : Prop := (↑a.length : Int) ≤ (9223372036854775807 : Int) → (↑b.length : Int) ≤ (9223372036854775807 : Int) → IFB (!decide ((↑a.length : Int) = (↑b.length : Int))) (post false) ((↑a.length : Int) ≤ (9223372036854775807 : Int) → LOOP [Ty.int IntKind.i64] (fun (rec1 : Int → Prop) (z2 : Int) ↦ IFB (decide (z2 < (↑a.length : Int))) (((0 : Int) ≤ z2 ∧ z2 < (↑a.length : Int)) ∧ ((0 : Int) ≤ z2 ∧ z2 < (↑b.length : Int)) ∧ ((gx false !decide ((ix a z2).1 = (ix b z2).1)) = true → (0 : Int) ≤ z2 ∧ z2 < (↑a.length : Int)) ∧ ((gx false !decide ((ix a z2).1 = (ix b z2).1)) = true → (0 : Int) ≤ z2 ∧ z2 < (↑b.length : Int)) ∧ (gx false (!decide ((ix a z2).1 = (ix b z2).1) || !decide ((ix a z2).3 = (ix b z2).3)) = true → (0 : Int) ≤ z2 ∧ z2 < (↑a.length : Int)) ∧ (gx false (!decide ((ix a z2).1 = (ix b z2).1) || !decide ((ix a z2).3 = (ix b z2).3)) = true → (0 : Int) ≤ z2 ∧ z2 < (↑b.length : Int)) ∧ (gx false (!decide ((ix a z2).1 = (ix b z2).1) || !decide ((ix a z2).3 = (ix b z2).3) || !decide ((ix a z2).4 = (ix b z2).4)) = true → (0 : Int) ≤ z2 ∧ z2 < (↑a.length : Int)) ∧ (gx false (!decide ((ix a z2).1 = (ix b z2).1) || !decide ((ix a z2).3 = (ix b z2).3) || !decide ((ix a z2).4 = (ix b z2).4)) = true → (0 : Int) ≤ z2 ∧ z2 < (↑b.length : Int)) ∧ JOIN [Ty.bool] (fun (y3 : Bool) ↦ IFB (!decide ((ix a z2).1 = (ix b z2).1) || !decide ((ix a z2).3 = (ix b z2).3) || !decide ((ix a z2).4 = (ix b z2).4) || !y3) (post false) (rec1 (IntKind.i64.wrap (z2 + (1 : Int))))) fun (J4 : Bool → Prop) ↦ IFB (gx false (!decide ((ix a z2).1 = (ix b z2).1) || !decide ((ix a z2).3 = (ix b z2).3) || !decide ((ix a z2).4 = (ix b z2).4))) ((ix a z2).2.1.length ≤ (1000000000 : Nat) ∧ ∀ (v5 : Bool), (v5 = true ↔ (ix a z2).2.1 = (ix b z2).2.1) → J4 v5) (J4 false)) (post true)) ((0 : Int), PUnit.unit))
theorem rsml_w (a : List (api_Line)) (b : List (api_Line)) (post : dens (shT rsml_sp.rs []) → Prop) : rsml_W a b (fun y0 => post (y0, ())) = walkG (callR Tryz.prog rsml_C (drawR Tryz.prog tau) 8 0) 78 false [tv (.sl (.st .api_Line)) a, tv (.sl (.st .api_Line)) b] rsml_sp.rs post := by kernel_rfl
theorem rsml_of (h : ∀ (a : List (api_Line)) (b : List (api_Line)) (post : Bool → Prop), rsml_P a b post → rsml_W a b post) : SpecOK Tryz.prog rsml_sp := SpecOK.of_rules (C := rsml_C) (dr := drawR Tryz.prog tau) (n := 8) (fk := 0) (.cons (rule1_ok rrec_ok) .nil) (drawR_ok tau) fun x post hp => HoldW.of (rsml_w x.1 x.2.1 post) (h x.1 x.2.1 (fun y0 => post (y0, ())) hp)
theorem rsml_ok : SpecOK Tryz.prog rsml_sp := rsml_of fun a b post hp => by
  obtain ⟨⟨hl, hr⟩, hp⟩ := hp
  unfold rsml_W
  intro _ _
  refine IFB.mk (fun hb => hp _ ⟨fun h => (by cases h), fun h => ?_⟩) (fun hb _ => ?_)
  · rw [h] at hb; simp at hb
  · have hb : (a.length : Int) = b.length := by simpa using hb
    refine loopCmp (n := a.length) (by omega) (p := fun j => ix a (j : Int) = ix b (j : Int)) (fun rec k hk hpre hrec => ?_) fun hall => hp _ ⟨fun _ => (list_eq_iff (by omega)).2 hall, fun _ => rfl⟩
    have ha : (0 : Int) ≤ (k : Int) ∧ (k : Int) < a.length := by omega
    have hb2 : (0 : Int) ≤ (k : Int) ∧ (k : Int) < b.length := by omega
    refine ⟨ha, hb2, fun _ => ha, fun _ => hb2, fun _ => ha, fun _ => hb2, fun _ => ha, fun _ => hb2, JOIN.opq fun (J : Bool → Prop) hJ => ?_⟩
    have hx := hr _ (ix_mem (l := a) (i := (k : Int)) ha.1 ha.2)
    have no : ¬ ix a (k : Int) = ix b (k : Int) → post false := fun h => hp _ ⟨fun h => (by cases h), fun e => absurd ((list_eq_iff (by omega)).1 e k hk) h⟩
    generalize ix a (k : Int) = x at hx hrec hJ no ⊢
    generalize ix b (k : Int) = y at hrec hJ no ⊢
    obtain ⟨x1, ⟨x2⟩, x3, x4⟩ := x
    obtain ⟨y1, ⟨y2⟩, y3, y4⟩ := y
    dsimp only at hx hJ ⊢
    rw [hJ]
    dsimp only
    have e : ∀ q : Bool, (q = true ↔ x2 = y2) → ((!decide (x1 = y1) || !decide (x3 = y3) || !decide (x4 = y4) || !q) = false ↔ (⟨x1, ⟨x2⟩, x3, x4⟩ : api_Line) = ⟨y1, ⟨y2⟩, y3, y4⟩) := fun q hq => by
      simp only [Bool.or_eq_false_iff, Bool.not_eq_false', decide_eq_true_eq, hq, api_Line.mk.injEq, api_Region.mk.injEq]
      constructor
      · rintro ⟨⟨⟨h1, h2⟩, h3⟩, h4⟩; exact ⟨h1, h4, h2, h3⟩
      · rintro ⟨h1, h4, h2, h3⟩; exact ⟨⟨⟨h1, h2⟩, h3⟩, h4⟩
    refine IFB.mk (fun _ => ⟨hx, fun v hv => IFB.mk (fun h => no fun he => ?_) (fun h => hrec ((e v hv).1 h))⟩) (fun h => IFB.mk (fun h2 => no fun he => ?_) (fun h2 => by rw [Bool.not_false, Bool.or_true] at h2; cases h2))
    · rw [(e v hv).2 he] at h; cases h
    · injection he with q1 q2 q3 q4
      rw [q1, q3, q4] at h
      simp [gx] at h

def rsmv_P (a : api_Version) (b : api_Version) (post : Bool → Prop) : Prop := (a.2.length ≤ 1000000000 ∧ ∀ x ∈ a.2, x.2.1.length ≤ 1000000000) ∧ ∀ q : Bool, (q = true ↔ a = b) → post q
def rsmv_sp : Spec := ⟨16, false, false, [.st .api_Version, .st .api_Version], .dat (.bool), fun x post => rsmv_P (x.1 : api_Version) (x.2.1 : api_Version) (fun y0 => post (y0, ()))⟩
def rsmv_C : CtxR := ⟨tau, [rule1 rsml_sp], lookJ []⟩
def rsmv_W (a : api_Version) (b : api_Version) (post : Bool → Prop) : Prop := JOIN [Ty.bool] (fun (y1 : Bool) ↦ post (decide (a.1 = b.1) && y1)) fun (J2 : Bool → Prop) ↦ IFB (gx true (decide (a.1 = b.1))) ((a.2.length ≤ (1000000000 : Nat) ∧ ∀ (v3 : api_Line), v3 ∈ a.2 → v3.2.1.length ≤ (1000000000 : Nat)) ∧ ∀ (v4 : Bool), (v4 = true ↔ a.2 = b.2) → J2 v4) (J2 false)
theorem rsmv_w (a : api_Version) (b : api_Version) (post : dens (shT rsmv_sp.rs []) → Prop) : rsmv_W a b (fun y0 => post (y0, ())) = walkG (callR Tryz.prog rsmv_C (drawR Tryz.prog tau) 8 0) 16 false [tv (.st .api_Version) a, tv (.st .api_Version) b] rsmv_sp.rs post := by kernel_rfl
theorem rsmv_of (h : ∀ (a : api_Version) (b : api_Version) (post : Bool → Prop), rsmv_P a b post → rsmv_W a b post) : SpecOK Tryz.prog rsmv_sp := SpecOK.of_rules (C := rsmv_C) (dr := drawR Tryz.prog tau) (n := 8) (fk := 0) (.cons (rule1_ok rsml_ok) .nil) (drawR_ok tau) fun x post hp => HoldW.of (rsmv_w x.1 x.2.1 post) (h x.1 x.2.1 (fun y0 => post (y0, ())) hp)
theorem rsmv_ok : SpecOK Tryz.prog rsmv_sp := rsmv_of fun a b post hp => by
  obtain ⟨hl, hp⟩ := hp
  obtain ⟨d, l⟩ := a
  obtain ⟨d2, l2⟩ := b
  unfold rsmv_W
  dsimp only at hl hp ⊢
  refine JOIN.opq fun (J : Bool → Prop) hJ => ?_
  rw [hJ]
  dsimp only
  refine IFB.mk (fun _ => ⟨hl, fun v hv => hp _ ?_⟩) (fun h => hp _ ?_)
  · rw [Bool.and_eq_true, decide_eq_true_eq, hv, api_Version.mk.injEq]
  · rw [Bool.and_false]
    refine ⟨fun h => (by cases h), fun e => ?_⟩
    injection e with q1 q2
    rw [q1] at h; simp [gx] at h

def rsma_P (a : api_Application) (b : api_Application) (post : Bool → Prop) : Prop := (a.3.length ≤ 1000000000 ∧ ∀ v ∈ a.3, v.2.length ≤ 1000000000 ∧ ∀ x ∈ v.2, x.2.1.length ≤ 1000000000) ∧ ∀ q : Bool, (q = true ↔ a = b) → post q
def rsma_sp : Spec := ⟨25, false, false, [.st .api_Application, .st .api_Application], .dat (.bool), fun x post => rsma_P (x.1 : api_Application) (x.2.1 : api_Application) (fun y0 => post (y0, ()))⟩
def rsma_C : CtxR := ⟨tau, [rule1 rsmv_sp], lookJ [(0, 9, ⟨[(30, .dat (.int .i64))], [], [31, 32, 5, 33, 34, 35, 36, 37, 38, 39, 40, 41, 42, 43, 44, 45], [], []⟩)]⟩
def rsma_W (a : api_Application) (b : api_Application) (post : Bool → Prop) : Prop := (gx false (!decide (a.1 = b.1) || !decide (a.2 = b.2)) = true → (↑a.3.length : Int) ≤ (9223372036854775807 : Int)) → (gx false (!decide (a.1 = b.1) || !decide (a.2 = b.2)) = true → (↑b.3.length : Int) ≤ (9223372036854775807 : Int)) → IFB (!decide (a.1 = b.1) || !decide (a.2 = b.2) || !decide ((↑a.3.length : Int) = (↑b.3.length : Int))) (post false) ((↑a.3.length : Int) ≤ (9223372036854775807 : Int) → LOOP [Ty.int IntKind.i64] (fun (rec1 : Int → Prop) (z2 : Int) ↦ IFB (decide (z2 < (↑a.3.length : Int))) (((0 : Int) ≤ z2 ∧ z2 < (↑a.3.length : Int)) ∧ ((0 : Int) ≤ z2 ∧ z2 < (↑b.3.length : Int)) ∧ ((ix a.3 z2).2.length ≤ (1000000000 : Nat) ∧ ∀ (v3 : api_Line), v3 ∈ (ix a.3 z2).2 → v3.2.1.length ≤ (1000000000 : Nat)) ∧ ∀ (v4 : Bool), (v4 = true ↔ { Day := (ix a.3 z2).1, Lines := (ix a.3 z2).2 : api_Version } = { Day := (ix b.3 z2).1, Lines := (ix b.3 z2).2 : api_Version }) → IFB (!v4) (post false) (rec1 (IntKind.i64.wrap (z2 + (1 : Int))))) (post true)) ((0 : Int), PUnit.unit))
theorem rsma_w (a : api_Application) (b : api_Application) (post : dens (shT rsma_sp.rs []) → Prop) : rsma_W a b (fun y0 => post (y0, ())) = walkG (callR Tryz.prog rsma_C (drawR Tryz.prog tau) 8 0) 25 false [tv (.st .api_Application) a, tv (.st .api_Application) b] rsma_sp.rs post := by kernel_rfl
theorem rsma_of (h : ∀ (a : api_Application) (b : api_Application) (post : Bool → Prop), rsma_P a b post → rsma_W a b post) : SpecOK Tryz.prog rsma_sp := SpecOK.of_rules (C := rsma_C) (dr := drawR Tryz.prog tau) (n := 8) (fk := 0) (.cons (rule1_ok rsmv_ok) .nil) (drawR_ok tau) fun x post hp => HoldW.of (rsma_w x.1 x.2.1 post) (h x.1 x.2.1 (fun y0 => post (y0, ())) hp)
theorem rsma_ok : SpecOK Tryz.prog rsma_sp := rsma_of fun a b post hp => by
  obtain ⟨⟨hl, hr⟩, hp⟩ := hp
  obtain ⟨f, y, l⟩ := a
  obtain ⟨f2, y2, l2⟩ := b
  unfold rsma_W
  dsimp only at hl hr hp ⊢
  intro _ _
  refine IFB.mk (fun hb => hp _ ⟨fun h => (by cases h), fun h => ?_⟩) (fun hb _ => ?_)
  · injection h with q1 q2 q3
    rw [q1, q2, q3] at hb; simp at hb
  · obtain ⟨⟨q1, q2⟩, q3⟩ : (f = f2 ∧ y = y2) ∧ (l.length : Int) = l2.length := by simpa using hb
    subst q1 q2
    have hq : ∀ q : Bool, (q = true ↔ l = l2) → post q := fun q h => hp q (h.trans ⟨fun e => by rw [e], fun e => by injection e⟩)
    refine loopCmp (n := l.length) (by omega) (p := fun j => ix l (j : Int) = ix l2 (j : Int)) (fun rec k hk hpre hrec => ⟨by omega, by omega, ?_⟩) fun hall => hq _ ⟨fun _ => (list_eq_iff (by omega)).2 hall, fun _ => rfl⟩
    refine ⟨hr _ (ix_mem (l := l) (i := (k : Int)) (by omega) (by omega)), fun v hv => IFB.mk (fun h => ?_) (fun h => hrec (hv.1 (by simpa using h)))⟩
    refine hq _ ⟨fun h => (by cases h), fun e => ?_⟩
    have := (list_eq_iff (by omega)).1 e k hk
    rw [hv.2 this] at h; cases h

def rarea_P (a : api_Region) (post : Int → Prop) : Prop := ∀ n : Int, 0 ≤ n ∧ n ≤ 40000000000 → post n
def rarea_sp : Spec := ⟨108, false, false, [.st .api_Region], .dat (.int .i64), fun x post => rarea_P (x.1 : api_Region) (fun y0 => post (y0, ()))⟩
def rarea_C : CtxR := ⟨tau, [rule1 rval_sp], lookJ [(3066, 7, ⟨[(8, .dat (.int .i64)), (3, .dat (.int .i64))], [], [9, 10, 11, 5, 12, 13, 14, 15, 16, 17, 18, 19, 20, 21, 22, 23, 24, 25], [], []⟩)]⟩
def rarea_W (a : api_Region) (post : Int → Prop) : Prop := ∀ (v1 : Bool), (v1 = true ↔ validP a.1) → IFB (!v1) (post (0 : Int)) ((↑a.1.length : Int) ≤ (9223372036854775807 : Int) → LOOP [Ty.int IntKind.i64, Ty.int IntKind.i64] (fun (rec2 : Int → Int → Prop) (z3 z4 : Int) ↦ IFB (decide (z3 < (↑a.1.length : Int))) (((0 : Int) ≤ z3 ∧ z3 < (↑a.1.length : Int)) ∧ rec2 (IntKind.i64.wrap (z3 + (1 : Int))) (IntKind.i64.wrap (z4 + IntKind.i64.wrap (IntKind.i64.wrap ((ix a.1 z3).3 - (ix a.1 z3).1) * IntKind.i64.wrap ((ix a.1 z3).4 - (ix a.1 z3).2))))) (post z4)) ((0 : Int), (0 : Int), PUnit.unit))
theorem rarea_w (a : api_Region) (post : dens (shT rarea_sp.rs []) → Prop) : rarea_W a (fun y0 => post (y0, ())) = walkG (callR Tryz.prog rarea_C (drawR Tryz.prog tau) 8 0) 108 false [tv (.st .api_Region) a] rarea_sp.rs post := by kernel_rfl
theorem rarea_of (h : ∀ (a : api_Region) (post : Int → Prop), rarea_P a post → rarea_W a post) : SpecOK Tryz.prog rarea_sp := SpecOK.of_rules (C := rarea_C) (dr := drawR Tryz.prog tau) (n := 8) (fk := 0) (.cons (rule1_ok rval_ok) .nil) (drawR_ok tau) fun x post hp => HoldW.of (rarea_w x.1 post) (h x.1 (fun y0 => post (y0, ())) hp)
def areaI (n : Nat) (z s : Int) : Prop := ∃ k : Nat, z = (k : Int) ∧ k ≤ n ∧ 0 ≤ s ∧ s ≤ 268435456 * (k : Int)
theorem rarea_ok : SpecOK Tryz.prog rarea_sp := rarea_of fun a post hp => by
  unfold rarea_P at hp
  unfold rarea_W
  refine fun v hv => IFB.mk (fun _ => hp 0 ⟨Int.le_refl _, by omega⟩) (fun h _ => ?_)
  obtain ⟨h1, h2, _⟩ := hv.1 (by simpa using h)
  refine LOOP.fuel (fun u => areaI a.1.length u.1 u.2.1) (fun u => a.1.length - Int.toNat u.1) ⟨0, rfl, Nat.zero_le _, Int.le_refl _, Int.le_refl _⟩ ?_
  rintro rec ⟨(z3 : Int), (z4 : Int), ⟨⟩⟩ ⟨k, i1, i2, i3, i4⟩ hrec
  have i1 : z3 = (k : Int) := i1
  have i3 : 0 ≤ z4 := i3
  have i4 : z4 ≤ 268435456 * (k : Int) := i4
  subst i1
  refine IFB.mk (fun hb => ⟨by have := of_decide_eq_true hb; omega, ?_⟩) (fun hb => hp z4 ⟨i3, by omega⟩)
  have hb : (k : Int) < a.1.length := of_decide_eq_true hb
  obtain ⟨p1, p2, p3, p4, p5, p6⟩ := h2 _ (ix_mem (l := a.1) (i := (k : Int)) (by omega) hb)
  generalize ix a.1 (k : Int) = r at *
  obtain ⟨l, lo, ri, hi⟩ := r
  dsimp only at p1 p2 p3 p4 p5 p6 ⊢
  rw [wrap_in (z := ri - l) (by omega) (by omega), wrap_in (z := hi - lo) (by omega) (by omega)]
  have m1 : 0 ≤ (ri - l) * (hi - lo) := Int.mul_nonneg (by omega) (by omega)
  have m2 : (ri - l) * (hi - lo) ≤ 16384 * 16384 := Int.mul_le_mul (by omega) (by omega) (by omega) (by omega)
  rw [wrap_in (z := (ri - l) * (hi - lo)) (by omega) (by omega), wrap_in (z := z4 + (ri - l) * (hi - lo)) (by omega) (by omega), wrapS (by omega)]
  exact hrec (((k + 1 : Nat) : Int), z4 + (ri - l) * (hi - lo), ()) ⟨k + 1, rfl, by omega, by show 0 ≤ z4 + _; omega, by show z4 + _ ≤ 268435456 * ((k + 1 : Nat) : Int); omega⟩ (by show a.1.length - ((k + 1 : Nat) : Int).toNat < a.1.length - (k : Int).toNat; omega)

end RE
end Go.Proofs.YtfbfknmnkcddpaaGreat
