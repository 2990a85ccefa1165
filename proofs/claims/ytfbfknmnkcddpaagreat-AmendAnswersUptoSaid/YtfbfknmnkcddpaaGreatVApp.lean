/-
  Chapter 14: Reduces.
-/
import Derived.Test.YtfbfknmnkcddpaaGreatVTape
import Derived.Test.YtfbfknmnkcddpaaGreatVReg
import Derived.Test.YtfbfknmnkcddpaaGreatVEngC
set_option maxRecDepth 100000
set_option linter.unusedVariables false
namespace Go.Proofs.YtfbfknmnkcddpaaGreat
open Go.RowKit
namespace RE
open PL

namespace PL
def lessB (x y : api_Line) : Bool := (decide (x.1 = y.1) && decide (x.3 = y.3) && decide (IntKind.i64.wrap (↑(Nat.instAndOp.1 (x.4 % (18446744073709551616 : Int)).toNat (Nat.instXorOp.1 ((18446744073709551615 : Nat)) (y.4 % (18446744073709551616 : Int)).toNat)) : Int) = (0 : Int)))
def lessL (x y : api_Line) : Prop := lessB x y = true ∧ withinP x.Region.1 y.Region.1
def reducesP (a b : api_Version) : Prop := ∀ x ∈ b.Lines, ∃ y ∈ a.Lines, lessL x y
end PL

def pred_P (a : api_Version) (b : api_Version) (post : Bool → Int → Prop) : Prop := (a.2.length ≤ 20 ∧ b.2.length ≤ 20 ∧ (∀ x ∈ a.2, validP x.2.1) ∧ ∀ x ∈ b.2, validP x.2.1) ∧ ∀ q : Bool, (q = true ↔ reducesP a b) → post q 0
def pred_sp : Spec := ⟨29, false, false, [.st .api_Version, .st .api_Version], .tup [.dat (.bool), .dat (.int .i64)], fun x post => pred_P (x.1 : api_Version) (x.2.1 : api_Version) (fun y0 y1 => post (y0, y1, ()))⟩
def pred_C : CtxR := ⟨tau, [rule1 pval_sp, rule1 pwit_sp], lookJ [(5557299152179765, 0, ⟨[(0, .dat (.int .i64))], [], [], [], []⟩), (5557299152179765, 5, ⟨[(8, .dat (.int .i64))], [], [9, 10, 5, 11, 12, 13, 14, 15, 16, 18], [], []⟩), (6295326050687551641904219627306786, 0, ⟨[(0, .dat (.int .i64))], [], [], [], []⟩), (6295326050687551641904219627306786, 5, ⟨[(8, .dat (.int .i64))], [], [9, 10, 5, 11, 12, 13, 14, 15, 16, 18], [], []⟩), (3337205291793318, 0, ⟨[(0, .dat (.int .i64))], [], [], [], []⟩), (3337205291793318, 5, ⟨[(8, .dat (.int .i64))], [], [9, 10, 5, 11, 12, 13, 14, 15, 16, 18], [], []⟩), (3331771875600913, 0, ⟨[(0, .dat (.int .i64))], [], [], [], []⟩), (3331771875600913, 5, ⟨[(8, .dat (.int .i64))], [], [9, 10, 5, 11, 12, 13, 14, 15, 16, 18], [], []⟩)]⟩
def pred_W (a : api_Version) (b : api_Version) (post : Bool → Int → Prop) : Prop := (↑a.2.length : Int) ≤ (9223372036854775807 : Int) → JOIN [Ty.bool] (fun (y1 : Bool) ↦ IFB (decide ((20 : Int) < (↑a.2.length : Int)) || y1) (post false (1 : Int)) (JOIN [Ty.int IntKind.i64] (fun (y2 : Int) ↦ JOIN [Ty.bool] (fun (y3 : Bool) ↦ IFB (!!decide ((0 : Int) ≤ y2) || !y3) (post false (7 : Int)) (JOIN [Ty.int IntKind.i64] (fun (y4 : Int) ↦ post (!decide ((0 : Int) ≤ y4)) (0 : Int)) fun (J5 : Int → Prop) ↦ (↑b.2.length : Int) ≤ (9223372036854775807 : Int) → LOOP [Ty.int IntKind.i64] (fun (rec6 : Int → Prop) (z7 : Int) ↦ IFB (decide (z7 < (↑b.2.length : Int))) (((0 : Int) ≤ z7 ∧ z7 < (↑b.2.length : Int)) ∧ JOIN [Ty.int IntKind.i64] (fun (y8 : Int) ↦ IFB (!decide ((0 : Int) ≤ y8)) (J5 z7) (rec6 (IntKind.i64.wrap (z7 + (1 : Int))))) fun (J9 : Int → Prop) ↦ (↑a.2.length : Int) ≤ (9223372036854775807 : Int) → LOOP [Ty.int IntKind.i64] (fun (rec10 : Int → Prop) (z11 : Int) ↦ IFB (decide (z11 < (↑a.2.length : Int))) (((0 : Int) ≤ z11 ∧ z11 < (↑a.2.length : Int)) ∧ JOIN [Ty.bool] (fun (y12 : Bool) ↦ IFB (decide ((ix b.2 z7).1 = (ix a.2 z11).1) && decide ((ix b.2 z7).3 = (ix a.2 z11).3) && decide (IntKind.i64.wrap (↑(Nat.instAndOp.1 ((ix b.2 z7).4 % (18446744073709551616 : Int)).toNat (Nat.instXorOp.1 ((18446744073709551615 : Nat)) ((ix a.2 z11).4 % (18446744073709551616 : Int)).toNat)) : Int) = (0 : Int)) && y12) (J9 z11) (rec10 (IntKind.i64.wrap (z11 + (1 : Int))))) fun (J13 : Bool → Prop) ↦ IFB (gx true (decide ((ix b.2 z7).1 = (ix a.2 z11).1) && decide ((ix b.2 z7).3 = (ix a.2 z11).3) && decide (IntKind.i64.wrap (↑(Nat.instAndOp.1 ((ix b.2 z7).4 % (18446744073709551616 : Int)).toNat (Nat.instXorOp.1 ((18446744073709551615 : Nat)) ((ix a.2 z11).4 % (18446744073709551616 : Int)).toNat)) : Int) = (0 : Int)))) (∀ (v14 : Bool), (v14 = true ↔ withinP (ix b.2 z7).2.1 (ix a.2 z11).2.1) → J13 v14) (J13 false)) (J9 (-1 : Int))) ((0 : Int), PUnit.unit)) (J5 (-1 : Int))) ((0 : Int), PUnit.unit))) fun (J15 : Bool → Prop) ↦ IFB (gx false !!decide ((0 : Int) ≤ y2)) (JOIN [Ty.int IntKind.i64] (fun (y16 : Int) ↦ J15 !decide ((0 : Int) ≤ y16)) fun (J17 : Int → Prop) ↦ (↑b.2.length : Int) ≤ (9223372036854775807 : Int) → LOOP [Ty.int IntKind.i64] (fun (rec18 : Int → Prop) (z19 : Int) ↦ IFB (decide (z19 < (↑b.2.length : Int))) (((0 : Int) ≤ z19 ∧ z19 < (↑b.2.length : Int)) ∧ ∀ (v20 : Bool), (v20 = true ↔ validP (ix b.2 z19).2.1) → IFB (!v20) (J17 z19) (rec18 (IntKind.i64.wrap (z19 + (1 : Int))))) (J17 (-1 : Int))) ((0 : Int), PUnit.unit)) (J15 false)) fun (J21 : Int → Prop) ↦ (↑a.2.length : Int) ≤ (9223372036854775807 : Int) → LOOP [Ty.int IntKind.i64] (fun (rec22 : Int → Prop) (z23 : Int) ↦ IFB (decide (z23 < (↑a.2.length : Int))) (((0 : Int) ≤ z23 ∧ z23 < (↑a.2.length : Int)) ∧ ∀ (v24 : Bool), (v24 = true ↔ validP (ix a.2 z23).2.1) → IFB (!v24) (J21 z23) (rec22 (IntKind.i64.wrap (z23 + (1 : Int))))) (J21 (-1 : Int))) ((0 : Int), PUnit.unit))) fun (J25 : Bool → Prop) ↦ IFB (gx false (decide ((20 : Int) < (↑a.2.length : Int)))) ((↑b.2.length : Int) ≤ (9223372036854775807 : Int) → J25 (decide ((20 : Int) < (↑b.2.length : Int)))) (J25 false)
theorem pred_w (a : api_Version) (b : api_Version) (post : dens (shT pred_sp.rs []) → Prop) : pred_W a b (fun y0 y1 => post (y0, y1, ())) = walkG (callR Tryz.prog pred_C (drawR Tryz.prog tau) 10 0) 29 false [tv (.st .api_Version) a, tv (.st .api_Version) b] pred_sp.rs post := by kernel_rfl
theorem pred_of (h : ∀ (a : api_Version) (b : api_Version) (post : Bool → Int → Prop), pred_P a b post → pred_W a b post) : SpecOK Tryz.prog pred_sp := SpecOK.of_rules (C := pred_C) (dr := drawR Tryz.prog tau) (n := 10) (fk := 0) (.cons (rule1_ok pval_ok) (.cons (rule1_ok pwit_ok) .nil)) (drawR_ok tau) fun x post hp => HoldW.of (pred_w x.1 x.2.1 post) (h x.1 x.2.1 (fun y0 y1 => post (y0, y1, ())) hp)
theorem pred_ok : SpecOK Tryz.prog pred_sp := pred_of fun a b post hp => by
  obtain ⟨⟨h1, h2, h3, h4⟩, hp⟩ := hp
  obtain ⟨da, la⟩ := a
  obtain ⟨db, lb⟩ := b
  dsimp only at h1 h2 h3 h4
  unfold pred_W
  dsimp only
  intro _
  have hm : decide (0 ≤ (-1 : Int)) = false := rfl
  have ha20 : decide ((20 : Int) < (la.length : Int)) = false := decide_eq_false (by omega)
  have hb20 : decide ((20 : Int) < (lb.length : Int)) = false := decide_eq_false (by omega)
  refine JOIN.opq fun (J25 : Bool → Prop) hJ25 => ?_
  have main : J25 false := by
    rw [hJ25]
    dsimp only
    rw [ha20]
    refine IFB.mk (fun h => (by cases h)) (fun _ => ?_)
    refine JOIN.opq fun (J21 : Int → Prop) hJ21 => ?_
    intro _
    refine loopCmp (n := la.length) (by omega) (p := fun j => True) (fun rec k hk hpre hrec => ⟨by omega, fun v hv => IFB.mk (fun h => ?_) (fun _ => hrec trivial)⟩) fun hall => ?_
    · have := hv.2 (h3 _ (ix_mem (l := la) (i := (k : Int)) (by omega) (by omega)))
      rw [this] at h; cases h
    rw [hJ21]
    refine JOIN.opq fun (J15 : Bool → Prop) hJ15 => ?_
    rw [hm]
    refine IFB.mk (fun _ => ?_) (fun h => (by cases h))
    refine JOIN.opq fun (J17 : Int → Prop) hJ17 => ?_
    intro _
    refine loopCmp (n := lb.length) (by omega) (p := fun j => True) (fun rec k hk hpre hrec => ⟨by omega, fun v hv => IFB.mk (fun h => ?_) (fun _ => hrec trivial)⟩) fun hall => ?_
    · have := hv.2 (h4 _ (ix_mem (l := lb) (i := (k : Int)) (by omega) (by omega)))
      rw [this] at h; cases h
    rw [hJ17]
    dsimp only
    rw [hm, hJ15]
    dsimp only
    rw [hm]
    refine IFB.mk (fun h => (by cases h)) (fun _ => ?_)
    refine JOIN.opq fun (J5 : Int → Prop) hJ5 => ?_
    intro _
    refine loopCmp (n := lb.length) (by omega) (p := fun j => ∃ y ∈ la, lessL (ix lb (j : Int)) y) (fun rec k hk hpre hrec => ⟨by omega, ?_⟩) fun hall => ?_
    · refine JOIN.opq fun (J9 : Int → Prop) hJ9 => ?_
      intro _
      refine loopCmp (n := la.length) (by omega) (p := fun j => ¬ lessL (ix lb (k : Int)) (ix la (j : Int))) (fun rec2 m hm2 hpre2 hrec2 => ⟨by omega, ?_⟩) fun hall2 => ?_
      · refine JOIN.opq fun (J13 : Bool → Prop) hJ13 => ?_
        have hx : ix la (m : Int) ∈ la := ix_mem (by omega) (by omega)
        have hJ13 : ∀ y : Bool, ((lessB (ix lb (k : Int)) (ix la (m : Int)) && y) = true → lessL (ix lb (k : Int)) (ix la (m : Int))) → ((lessB (ix lb (k : Int)) (ix la (m : Int)) && y) = false → ¬ lessL (ix lb (k : Int)) (ix la (m : Int))) → J13 y := fun y q1 q2 => by
          rw [hJ13]
          refine IFB.mk (fun h => ?_) (fun h => hrec2 (q2 h))
          rw [hJ9]
          dsimp only
          rw [decide_eq_true (by omega : (0 : Int) ≤ (m : Int))]
          exact IFB.mk (fun h => (by cases h)) (fun _ => hrec ⟨_, hx, q1 h⟩)
        refine IFB.mk (fun h v hv => hJ13 v (fun q => ?_) (fun q => ?_)) (fun h => hJ13 false (fun q => ?_) (fun _ q => ?_))
        · rw [Bool.and_eq_true] at q
          exact ⟨q.1, hv.1 q.2⟩
        · intro hl
          have : lessB (ix lb (k : Int)) (ix la (m : Int)) = true := hl.1
          rw [this, hv.2 hl.2] at q
          cases q
        · rw [Bool.and_false] at q; cases q
        · have h : lessB (ix lb (k : Int)) (ix la (m : Int)) = false := h
          rw [q.1] at h; cases h
      · rw [hJ9]
        dsimp only
        rw [hm]
        refine IFB.mk (fun _ => ?_) (fun h => (by cases h))
        rw [hJ5]
        dsimp only
        rw [decide_eq_true (by omega : (0 : Int) ≤ (k : Int))]
        refine hp _ ⟨fun h => (by cases h), fun h => ?_⟩
        obtain ⟨y, hy, hl⟩ := h _ (ix_mem (l := lb) (i := (k : Int)) (by omega) (by omega))
        obtain ⟨j, hj, rfl⟩ := List.getElem_of_mem hy
        have := hall2 j hj
        rw [ix_lt hj] at this
        exact absurd hl this
    · rw [hJ5]
      dsimp only
      rw [hm]
      refine hp _ ⟨fun _ x hx => ?_, fun _ => rfl⟩
      obtain ⟨j, hj, rfl⟩ := List.getElem_of_mem hx
      have := hall j hj
      rwa [ix_lt hj] at this
  refine IFB.mk (fun _ _ => ?_) (fun h => ?_)
  · rw [hb20]; exact main
  · exact main

end RE
end Go.Proofs.YtfbfknmnkcddpaaGreat
set_option maxRecDepth 100000
set_option linter.unusedVariables false
namespace Go.Proofs.YtfbfknmnkcddpaaGreat
open Go.RowKit
namespace RE
open PL

def pclr_P (l : List (api_Rect)) (post : List (api_Rect) → Prop) : Prop := (l.length ≤ 4000000) ∧ post (l)
def pclr_sp : Spec := ⟨139, false, true, [.sl (.st .api_Rect)], .dat (.sl (.st .api_Rect)), fun x post => pclr_P (x.1 : List (api_Rect)) (fun y0 => post (y0, ()))⟩
def pclr_C : CtxR := ⟨tau, [], lookJ []⟩
def pclr_W (l : List (api_Rect)) (post : List (api_Rect) → Prop) : Prop := ∀ (v1 : Bool), (v1 = true → l = []) → IFB v1 (post []) (((0 : Nat) + l.length) * (32 : Nat) ≤ (140737488355328 : Nat) ∧ post ([] ++ l))
theorem pclr_w (l : List (api_Rect)) (post : dens (shT pclr_sp.rs []) → Prop) : pclr_W l (fun y0 => post (y0, ())) = walkG (callR Tryz.prog pclr_C (drawR Tryz.prog tau) 6 0) 139 false [tv (.sl (.st .api_Rect)) l] pclr_sp.rs post := by kernel_rfl
theorem pclr_of (h : ∀ (l : List (api_Rect)) (post : List (api_Rect) → Prop), pclr_P l post → pclr_W l post) : SpecOK Tryz.prog pclr_sp := SpecOK.of_rules (C := pclr_C) (dr := drawR Tryz.prog tau) (n := 6) (fk := 0) .nil (drawR_ok tau) fun x post hp => HoldW.of (pclr_w x.1 post) (h x.1 (fun y0 => post (y0, ())) hp)
theorem pclr_ok : SpecOK Tryz.prog pclr_sp := pclr_of fun l post hp => by
  obtain ⟨hl, hp⟩ := hp
  unfold pclr_W
  refine fun v hv => IFB.mk (fun h => ?_) (fun _ => ⟨by omega, ?_⟩)
  · rw [hv h] at hp; exact hp
  · rw [List.nil_append]; exact hp

def pcll_P (l : List (api_Line)) (post : List (api_Line) → Prop) : Prop := (l.length ≤ 4000000) ∧ post (l)
def pcll_sp : Spec := ⟨138, false, true, [.sl (.st .api_Line)], .own 46 (.st .api_Line), fun x post => pcll_P (x.1 : List (api_Line)) (fun y0 => post (y0, ()))⟩
def pcll_C : CtxR := ⟨tau, [], lookJ []⟩
def pcll_W (l : List (api_Line)) (post : List (api_Line) → Prop) : Prop := ∀ (v1 : Bool), (v1 = true → l = []) → IFB v1 (post []) (((0 : Nat) + l.length) * (48 : Nat) ≤ (140737488355328 : Nat) ∧ post ([] ++ l))
theorem pcll_w (l : List (api_Line)) (post : dens (shT pcll_sp.rs []) → Prop) : pcll_W l (fun y0 => post (y0, ())) = walkG (callR Tryz.prog pcll_C (drawR Tryz.prog tau) 6 0) 138 false [tv (.sl (.st .api_Line)) l] pcll_sp.rs post := by kernel_rfl
theorem pcll_of (h : ∀ (l : List (api_Line)) (post : List (api_Line) → Prop), pcll_P l post → pcll_W l post) : SpecOK Tryz.prog pcll_sp := SpecOK.of_rules (C := pcll_C) (dr := drawR Tryz.prog tau) (n := 6) (fk := 0) .nil (drawR_ok tau) fun x post hp => HoldW.of (pcll_w x.1 post) (h x.1 (fun y0 => post (y0, ())) hp)
theorem pcll_ok : SpecOK Tryz.prog pcll_sp := pcll_of fun l post hp => by
  obtain ⟨hl, hp⟩ := hp
  unfold pcll_W
  refine fun v hv => IFB.mk (fun h => ?_) (fun _ => ⟨by omega, ?_⟩)
  · rw [hv h] at hp; exact hp
  · rw [List.nil_append]; exact hp

def pcopied_P (a : api_Version) (post : api_Version → Prop) : Prop := (a.2.length ≤ 2000000 ∧ ∀ x ∈ a.2, x.2.1.length ≤ 2000000) ∧ post (a)
def pcopied_sp : Spec := ⟨77, false, true, [.st .api_Version], .dat (.st .api_Version), fun x post => pcopied_P (x.1 : api_Version) (fun y0 => post (y0, ()))⟩
def pcopied_C : CtxR := ⟨tau, [rule1 pclr_sp, rule1 pcll_sp], lookJ [(0, 7, ⟨[(12, .dat (.int .i64))], [], [13, 14, 15, 16, 4, 3, 17, 18, 19, 20, 21, 22, 23, 24, 25, 26, 27], [], [(2, 46, (.st .api_Line))]⟩)]⟩
def pcopied_W (a : api_Version) (post : api_Version → Prop) : Prop := a.2.length ≤ (4000000 : Nat) ∧ ((↑a.2.length : Int) ≤ (9223372036854775807 : Int) → LOOP [Ty.int IntKind.i64, (Ty.st Sn.api_Line).sl] (fun (rec1 : Int → List api_Line → Prop) (z2 : Int) (z3 : List api_Line) ↦ IFB (decide (z2 < (↑a.2.length : Int))) (((0 : Int) ≤ z2 ∧ z2 < (↑z3.length : Int)) ∧ (ix z3 z2).2.1.length ≤ (4000000 : Nat) ∧ ((0 : Int) ≤ z2 ∧ z2 < (↑z3.length : Int)) ∧ rec1 (IntKind.i64.wrap (z2 + (1 : Int))) (z3.set z2.toNat { Parcel := (ix z3 z2).1, Region := { Rects := (ix z3 z2).2.1 : api_Region }, Crop := (ix z3 z2).3, Schemes := (ix z3 z2).4 : api_Line })) (post { Day := a.1, Lines := z3 : api_Version })) ((0 : Int), a.2, PUnit.unit))
theorem pcopied_w (a : api_Version) (post : dens (shT pcopied_sp.rs []) → Prop) : pcopied_W a (fun y0 => post (y0, ())) = walkG (callR Tryz.prog pcopied_C (drawR Tryz.prog tau) 6 0) 77 false [tv (.st .api_Version) a] pcopied_sp.rs post := by kernel_rfl
theorem pcopied_of (h : ∀ (a : api_Version) (post : api_Version → Prop), pcopied_P a post → pcopied_W a post) : SpecOK Tryz.prog pcopied_sp := SpecOK.of_rules (C := pcopied_C) (dr := drawR Tryz.prog tau) (n := 6) (fk := 0) (.cons (rule1_ok pclr_ok) (.cons (rule1_ok pcll_ok) .nil)) (drawR_ok tau) fun x post hp => HoldW.of (pcopied_w x.1 post) (h x.1 (fun y0 => post (y0, ())) hp)
def sameI {α : Type} (l : List α) (z : Int) (m : List α) : Prop := ∃ k : Nat, z = (k : Int) ∧ k ≤ l.length ∧ m = l
theorem set_self {α : Type} [Inhabited α] {l : List α} {k : Nat} (h : k < l.length) : l.set k (ix l (k : Int)) = l := by
  rw [ix_lt h]; exact List.set_getElem_self h
theorem pcopied_ok : SpecOK Tryz.prog pcopied_sp := pcopied_of fun a post hp => by
  obtain ⟨⟨h1, h2⟩, hp⟩ := hp
  obtain ⟨d, l⟩ := a
  dsimp only at h1 h2
  unfold pcopied_W
  dsimp only
  refine ⟨by omega, fun _ => ?_⟩
  refine LOOP.fuel (fun u => sameI l u.1 u.2.1) (fun u => l.length - Int.toNat u.1) ⟨0, rfl, Nat.zero_le _, rfl⟩ ?_
  rintro rec ⟨(z : Int), (m : List api_Line), ⟨⟩⟩ ⟨k, i1, i2, i3⟩ hrec
  have i1 : z = (k : Int) := i1
  have i3 : m = l := i3
  subst i1 i3
  refine IFB.mk (fun hb => ?_) (fun hb => hp)
  have hb : (k : Int) < m.length := of_decide_eq_true hb
  have hx := h2 _ (ix_mem (l := m) (i := (k : Int)) (by omega) hb)
  dsimp only
  refine ⟨by omega, by omega, by omega, ?_⟩
  rw [wrapS (by omega)]
  refine hrec (((k + 1 : Nat) : Int), _, ()) ⟨k + 1, rfl, by show k + 1 ≤ m.length; omega, ?_⟩ (by show m.length - ((k + 1 : Nat) : Int).toNat < m.length - (k : Int).toNat; omega)
  exact set_self (by omega)

def pclv_P (l : List (api_Version)) (post : List (api_Version) → Prop) : Prop := (l.length ≤ 4000000) ∧ post (l)
def pclv_sp : Spec := ⟨140, false, true, [.sl (.st .api_Version)], .own 31 (.st .api_Version), fun x post => pclv_P (x.1 : List (api_Version)) (fun y0 => post (y0, ()))⟩
def pclv_C : CtxR := ⟨tau, [], lookJ []⟩
def pclv_W (l : List (api_Version)) (post : List (api_Version) → Prop) : Prop := ∀ (v1 : Bool), (v1 = true → l = []) → IFB v1 (post []) (((0 : Nat) + l.length) * (32 : Nat) ≤ (140737488355328 : Nat) ∧ post ([] ++ l))
theorem pclv_w (l : List (api_Version)) (post : dens (shT pclv_sp.rs []) → Prop) : pclv_W l (fun y0 => post (y0, ())) = walkG (callR Tryz.prog pclv_C (drawR Tryz.prog tau) 6 0) 140 false [tv (.sl (.st .api_Version)) l] pclv_sp.rs post := by kernel_rfl
theorem pclv_of (h : ∀ (l : List (api_Version)) (post : List (api_Version) → Prop), pclv_P l post → pclv_W l post) : SpecOK Tryz.prog pclv_sp := SpecOK.of_rules (C := pclv_C) (dr := drawR Tryz.prog tau) (n := 6) (fk := 0) .nil (drawR_ok tau) fun x post hp => HoldW.of (pclv_w x.1 post) (h x.1 (fun y0 => post (y0, ())) hp)
theorem pclv_ok : SpecOK Tryz.prog pclv_sp := pclv_of fun l post hp => by
  obtain ⟨hl, hp⟩ := hp
  unfold pclv_W
  refine fun v hv => IFB.mk (fun h => ?_) (fun _ => ⟨by omega, ?_⟩)
  · rw [hv h] at hp; exact hp
  · rw [List.nil_append]; exact hp

def pwhole_P (a : api_Application) (post : api_Application → Prop) : Prop := (a.3.length ≤ 2000000 ∧ ∀ v ∈ a.3, v.2.length ≤ 2000000 ∧ ∀ x ∈ v.2, x.2.1.length ≤ 2000000) ∧ post (a)
def pwhole_sp : Spec := ⟨79, false, true, [.st .api_Application], .dat (.st .api_Application), fun x post => pwhole_P (x.1 : api_Application) (fun y0 => post (y0, ()))⟩
def pwhole_C : CtxR := ⟨tau, [rule1 pcopied_sp, rule1 pclv_sp], lookJ [(0, 7, ⟨[(12, .dat (.int .i64))], [], [13, 14, 15, 16, 4, 3, 17, 18, 19, 20, 21, 22, 23], [], [(2, 31, (.st .api_Version))]⟩)]⟩
def pwhole_W (a : api_Application) (post : api_Application → Prop) : Prop := a.3.length ≤ (4000000 : Nat) ∧ ((↑a.3.length : Int) ≤ (9223372036854775807 : Int) → LOOP [Ty.int IntKind.i64, (Ty.st Sn.api_Version).sl] (fun (rec1 : Int → List api_Version → Prop) (z2 : Int) (z3 : List api_Version) ↦ IFB (decide (z2 < (↑a.3.length : Int))) (((0 : Int) ≤ z2 ∧ z2 < (↑z3.length : Int)) ∧ ((ix z3 z2).2.length ≤ (2000000 : Nat) ∧ ∀ (v4 : api_Line), v4 ∈ (ix z3 z2).2 → v4.2.1.length ≤ (2000000 : Nat)) ∧ ((0 : Int) ≤ z2 ∧ z2 < (↑z3.length : Int)) ∧ rec1 (IntKind.i64.wrap (z2 + (1 : Int))) (z3.set z2.toNat { Day := (ix z3 z2).1, Lines := (ix z3 z2).2 : api_Version })) (post { Farm := a.1, Year := a.2, Versions := z3 : api_Application })) ((0 : Int), a.3, PUnit.unit))
theorem pwhole_w (a : api_Application) (post : dens (shT pwhole_sp.rs []) → Prop) : pwhole_W a (fun y0 => post (y0, ())) = walkG (callR Tryz.prog pwhole_C (drawR Tryz.prog tau) 6 0) 79 false [tv (.st .api_Application) a] pwhole_sp.rs post := by kernel_rfl
theorem pwhole_of (h : ∀ (a : api_Application) (post : api_Application → Prop), pwhole_P a post → pwhole_W a post) : SpecOK Tryz.prog pwhole_sp := SpecOK.of_rules (C := pwhole_C) (dr := drawR Tryz.prog tau) (n := 6) (fk := 0) (.cons (rule1_ok pcopied_ok) (.cons (rule1_ok pclv_ok) .nil)) (drawR_ok tau) fun x post hp => HoldW.of (pwhole_w x.1 post) (h x.1 (fun y0 => post (y0, ())) hp)
theorem pwhole_ok : SpecOK Tryz.prog pwhole_sp := pwhole_of fun a post hp => by
  obtain ⟨⟨h1, h2⟩, hp⟩ := hp
  obtain ⟨f, y, l⟩ := a
  dsimp only at h1 h2
  unfold pwhole_W
  dsimp only
  refine ⟨by omega, fun _ => ?_⟩
  refine LOOP.fuel (fun u => sameI l u.1 u.2.1) (fun u => l.length - Int.toNat u.1) ⟨0, rfl, Nat.zero_le _, rfl⟩ ?_
  rintro rec ⟨(z : Int), (m : List api_Version), ⟨⟩⟩ ⟨k, i1, i2, i3⟩ hrec
  have i1 : z = (k : Int) := i1
  have i3 : m = l := i3
  subst i1 i3
  refine IFB.mk (fun hb => ?_) (fun hb => hp)
  have hb : (k : Int) < m.length := of_decide_eq_true hb
  have hx := h2 _ (ix_mem (l := m) (i := (k : Int)) (by omega) hb)
  dsimp only
  refine ⟨by omega, hx, by omega, ?_⟩
  rw [wrapS (by omega)]
  refine hrec (((k + 1 : Nat) : Int), _, ()) ⟨k + 1, rfl, by show k + 1 ≤ m.length; omega, ?_⟩ (by show m.length - ((k + 1 : Nat) : Int).toNat < m.length - (k : Int).toNat; omega)
  exact set_self (by omega)

def pwholeO_P (a : api_Application) (post : Int → Int → List (api_Version) → Prop) : Prop := (a.3.length ≤ 2000000 ∧ ∀ v ∈ a.3, v.2.length ≤ 2000000 ∧ ∀ x ∈ v.2, x.2.1.length ≤ 2000000) ∧ post (a.1) (a.2) (a.3)
def pwholeO_sp : Spec := ⟨79, false, true, [.st .api_Application], .agg [.dat (.int .i64), .dat (.int .i64), .own 31 (.st .api_Version)], fun x post => pwholeO_P (x.1 : api_Application) (fun y0 y1 y2 => post (y0, y1, y2, ()))⟩
def pwholeO_C : CtxR := ⟨tau, [rule1 pcopied_sp, rule1 pclv_sp], lookJ [(0, 7, ⟨[(12, .dat (.int .i64))], [], [13, 14, 15, 16, 4, 3, 17, 18, 19, 20, 21, 22, 23], [], [(2, 31, (.st .api_Version))]⟩)]⟩
def pwholeO_W (a : api_Application) (post : Int → Int → List (api_Version) → Prop) : Prop := a.3.length ≤ (4000000 : Nat) ∧ ((↑a.3.length : Int) ≤ (9223372036854775807 : Int) → LOOP [Ty.int IntKind.i64, (Ty.st Sn.api_Version).sl] (fun (rec1 : Int → List api_Version → Prop) (z2 : Int) (z3 : List api_Version) ↦ IFB (decide (z2 < (↑a.3.length : Int))) (((0 : Int) ≤ z2 ∧ z2 < (↑z3.length : Int)) ∧ ((ix z3 z2).2.length ≤ (2000000 : Nat) ∧ ∀ (v4 : api_Line), v4 ∈ (ix z3 z2).2 → v4.2.1.length ≤ (2000000 : Nat)) ∧ ((0 : Int) ≤ z2 ∧ z2 < (↑z3.length : Int)) ∧ rec1 (IntKind.i64.wrap (z2 + (1 : Int))) (z3.set z2.toNat { Day := (ix z3 z2).1, Lines := (ix z3 z2).2 : api_Version })) (post a.1 a.2 z3)) ((0 : Int), a.3, PUnit.unit))
theorem pwholeO_w (a : api_Application) (post : dens (shT pwholeO_sp.rs []) → Prop) : pwholeO_W a (fun y0 y1 y2 => post (y0, y1, y2, ())) = walkG (callR Tryz.prog pwholeO_C (drawR Tryz.prog tau) 6 0) 79 false [tv (.st .api_Application) a] pwholeO_sp.rs post := by kernel_rfl
theorem pwholeO_of (h : ∀ (a : api_Application) (post : Int → Int → List (api_Version) → Prop), pwholeO_P a post → pwholeO_W a post) : SpecOK Tryz.prog pwholeO_sp := SpecOK.of_rules (C := pwholeO_C) (dr := drawR Tryz.prog tau) (n := 6) (fk := 0) (.cons (rule1_ok pcopied_ok) (.cons (rule1_ok pclv_ok) .nil)) (drawR_ok tau) fun x post hp => HoldW.of (pwholeO_w x.1 post) (h x.1 (fun y0 y1 y2 => post (y0, y1, y2, ())) hp)
theorem pwholeO_ok : SpecOK Tryz.prog pwholeO_sp := pwholeO_of fun a post hp => by
  obtain ⟨⟨h1, h2⟩, hp⟩ := hp
  obtain ⟨f, y, l⟩ := a
  dsimp only at h1 h2
  unfold pwholeO_W
  dsimp only
  refine ⟨by omega, fun _ => ?_⟩
  refine LOOP.fuel (fun u => sameI l u.1 u.2.1) (fun u => l.length - Int.toNat u.1) ⟨0, rfl, Nat.zero_le _, rfl⟩ ?_
  rintro rec ⟨(z : Int), (m : List api_Version), ⟨⟩⟩ ⟨k, i1, i2, i3⟩ hrec
  have i1 : z = (k : Int) := i1
  have i3 : m = l := i3
  subst i1 i3
  refine IFB.mk (fun hb => ?_) (fun hb => hp)
  have hb : (k : Int) < m.length := of_decide_eq_true hb
  have hx := h2 _ (ix_mem (l := m) (i := (k : Int)) (by omega) hb)
  dsimp only
  refine ⟨by omega, hx, by omega, ?_⟩
  rw [wrapS (by omega)]
  refine hrec (((k + 1 : Nat) : Int), _, ()) ⟨k + 1, rfl, by show k + 1 ≤ m.length; omega, ?_⟩ (by show m.length - ((k + 1 : Nat) : Int).toNat < m.length - (k : Int).toNat; omega)
  exact set_self (by omega)

end RE
end Go.Proofs.YtfbfknmnkcddpaaGreat
set_option maxRecDepth 100000
set_option linter.unusedVariables false
namespace Go.Proofs.YtfbfknmnkcddpaaGreat
open Go.RowKit
namespace RE
open PL

namespace PL
def linesV (l : List api_Line) : Prop := ∀ x ∈ l, validP x.2.1
open Classical in
noncomputable def chk1 (o la e : Int) (p : Option api_Version) (v : api_Version) : Int :=
  if v.Day < o ∨ (∃ q, p = some q ∧ v.Day < q.Day) then 9 else if e < v.Day then 21 else if ¬ linesV v.Lines then 7 else if (∃ q, p = some q ∧ la < v.Day ∧ ¬ reducesP q v) then 22 else 0
def prevV (l : List api_Version) (k : Nat) : Option api_Version := if k = 0 then none else some (ix l ((k - 1 : Nat) : Int))
noncomputable def chkAt (o la e : Int) (l : List api_Version) (k : Nat) : Int := chk1 o la e (prevV l k) (ix l (k : Int))
def firstE (f : Nat → Int) : Nat → Int
  | 0 => 0
  | n + 1 => if firstE f n ≠ 0 then firstE f n else f n
open Classical in
noncomputable def chkS (a : api_Application) (o la e : Int) : Int :=
  if ¬ (0 ≤ o ∧ o ≤ la ∧ la ≤ e ∧ e ≤ 36864) then 9 else if a.Farm < 1 ∨ 60 < a.Farm then 2 else if a.Year < 0 ∨ 100 < a.Year then 18 else if a.Versions.length < 1 ∨ 40 < a.Versions.length ∨ (∃ v ∈ a.Versions, 20 < v.Lines.length) then 1 else firstE (chkAt o la e a.Versions) a.Versions.length
end PL

def pvals_P (l : List (api_Line)) (post : Bool → Prop) : Prop := (l.length ≤ 1000000000) ∧ ∀ q : Bool, (q = true ↔ linesV l) → post q
def pvals_sp : Spec := ⟨87, false, false, [.sl (.st .api_Line)], .dat (.bool), fun x post => pvals_P (x.1 : List (api_Line)) (fun y0 => post (y0, ()))⟩
def pvals_C : CtxR := ⟨tau, [rule1 pval_sp], lookJ [(1066418167, 0, ⟨[(0, .dat (.int .i64))], [], [], [], []⟩), (1066418167, 5, ⟨[(8, .dat (.int .i64))], [], [9, 10, 5, 11, 12, 13, 14, 15, 16, 18], [], []⟩)]⟩
def pvals_W (l : List (api_Line)) (post : Bool → Prop) : Prop := JOIN [Ty.int IntKind.i64] (fun (y1 : Int) ↦ post !decide ((0 : Int) ≤ y1)) fun (J2 : Int → Prop) ↦ (↑l.length : Int) ≤ (9223372036854775807 : Int) → LOOP [Ty.int IntKind.i64] (fun (rec3 : Int → Prop) (z4 : Int) ↦ IFB (decide (z4 < (↑l.length : Int))) (((0 : Int) ≤ z4 ∧ z4 < (↑l.length : Int)) ∧ ∀ (v5 : Bool), (v5 = true ↔ validP (ix l z4).2.1) → IFB (!v5) (J2 z4) (rec3 (IntKind.i64.wrap (z4 + (1 : Int))))) (J2 (-1 : Int))) ((0 : Int), PUnit.unit)
theorem pvals_w (l : List (api_Line)) (post : dens (shT pvals_sp.rs []) → Prop) : pvals_W l (fun y0 => post (y0, ())) = walkG (callR Tryz.prog pvals_C (drawR Tryz.prog tau) 8 0) 87 false [tv (.sl (.st .api_Line)) l] pvals_sp.rs post := by kernel_rfl
theorem pvals_of (h : ∀ (l : List (api_Line)) (post : Bool → Prop), pvals_P l post → pvals_W l post) : SpecOK Tryz.prog pvals_sp := SpecOK.of_rules (C := pvals_C) (dr := drawR Tryz.prog tau) (n := 8) (fk := 0) (.cons (rule1_ok pval_ok) .nil) (drawR_ok tau) fun x post hp => HoldW.of (pvals_w x.1 post) (h x.1 (fun y0 => post (y0, ())) hp)
theorem pvals_ok : SpecOK Tryz.prog pvals_sp := pvals_of fun l post hp => by
  obtain ⟨hl, hp⟩ := hp
  unfold pvals_W
  have hm : decide (0 ≤ (-1 : Int)) = false := rfl
  refine JOIN.opq fun (J21 : Int → Prop) hJ21 => ?_
  intro _
  refine loopCmp (n := l.length) (by omega) (p := fun j => validP (ix l (j : Int)).2.1) (fun rec k hk hpre hrec => ⟨by omega, fun v hv => IFB.mk (fun h => ?_) (fun h => hrec (hv.1 (by simpa using h)))⟩) fun hall => ?_
  · rw [hJ21]
    dsimp only
    rw [decide_eq_true (by omega : (0 : Int) ≤ (k : Int))]
    refine hp _ ⟨fun h => (by cases h), fun h2 => ?_⟩
    have := hv.2 (h2 _ (ix_mem (l := l) (i := (k : Int)) (by omega) (by omega)))
    rw [this] at h; cases h
  · rw [hJ21]
    dsimp only
    rw [hm]
    refine hp _ ⟨fun _ x hx => ?_, fun _ => rfl⟩
    obtain ⟨j, hj, rfl⟩ := List.getElem_of_mem hx
    have := hall j hj
    rwa [ix_lt hj] at this

theorem red_loop {la lb : List api_Line} {J3 : Bool → Prop} (hla : la.length ≤ 1000000) (hlb : lb.length ≤ 1000000) (hp : ∀ q : Bool, (q = true ↔ ∀ x ∈ lb, ∃ y ∈ la, lessL x y) → J3 (!q)) : JOIN [Ty.int IntKind.i64] (fun (y4 : Int) ↦ J3 !!decide ((0 : Int) ≤ y4)) fun (J5 : Int → Prop) ↦ (↑lb.length : Int) ≤ (9223372036854775807 : Int) → LOOP [Ty.int IntKind.i64] (fun (rec6 : Int → Prop) (z7 : Int) ↦ IFB (decide (z7 < (↑lb.length : Int))) (((0 : Int) ≤ z7 ∧ z7 < (↑lb.length : Int)) ∧ JOIN [Ty.int IntKind.i64] (fun (y8 : Int) ↦ IFB (!decide ((0 : Int) ≤ y8)) (J5 z7) (rec6 (IntKind.i64.wrap (z7 + (1 : Int))))) fun (J9 : Int → Prop) ↦ (↑la.length : Int) ≤ (9223372036854775807 : Int) → LOOP [Ty.int IntKind.i64] (fun (rec10 : Int → Prop) (z11 : Int) ↦ IFB (decide (z11 < (↑la.length : Int))) (((0 : Int) ≤ z11 ∧ z11 < (↑la.length : Int)) ∧ JOIN [Ty.bool] (fun (y12 : Bool) ↦ IFB (decide ((ix lb z7).1 = (ix la z11).1) && decide ((ix lb z7).3 = (ix la z11).3) && decide (IntKind.i64.wrap (↑(Nat.instAndOp.1 ((ix lb z7).4 % (18446744073709551616 : Int)).toNat (Nat.instXorOp.1 ((18446744073709551615 : Nat)) ((ix la z11).4 % (18446744073709551616 : Int)).toNat)) : Int) = (0 : Int)) && y12) (J9 z11) (rec10 (IntKind.i64.wrap (z11 + (1 : Int))))) fun (J13 : Bool → Prop) ↦ IFB (gx true (decide ((ix lb z7).1 = (ix la z11).1) && decide ((ix lb z7).3 = (ix la z11).3) && decide (IntKind.i64.wrap (↑(Nat.instAndOp.1 ((ix lb z7).4 % (18446744073709551616 : Int)).toNat (Nat.instXorOp.1 ((18446744073709551615 : Nat)) ((ix la z11).4 % (18446744073709551616 : Int)).toNat)) : Int) = (0 : Int)))) (∀ (v14 : Bool), (v14 = true ↔ withinP (ix lb z7).2.1 (ix la z11).2.1) → J13 v14) (J13 false)) (J9 (-1 : Int))) ((0 : Int), PUnit.unit)) (J5 (-1 : Int))) ((0 : Int), PUnit.unit) := by
  have hm : decide (0 ≤ (-1 : Int)) = false := rfl
  refine JOIN.opq fun (J5 : Int → Prop) hJ5 => ?_
  intro _
  refine loopCmp (n := lb.length) (by omega) (p := fun j => ∃ y ∈ la, lessL (ix lb (j : Int)) y) (fun rec k hk hpre hrec => ⟨by omega, ?_⟩) fun hall => ?_
  · refine JOIN.opq fun (J9 : Int → Prop) hJ9 => ?_
    intro _
    refine loopCmp (n := la.length) (by omega) (p := fun j => ¬ lessL (ix lb (k : Int)) (ix la (j : Int))) (fun rec2 m hm2 hpre2 hrec2 => ⟨by omega, ?_⟩) fun hall2 => ?_
    · refine JOIN.opq fun (J13 : Bool → Prop) hJ13 => ?_
      have hx : ix la (m : Int) ∈ la := ix_mem (by omega) (by omega)
      have hJ13 : ∀ y : Bool, ((lessB (ix lb (k : Int)) (ix la (m : Int)) && y) = true → lessL (ix lb (k : Int)) (ix la (m : Int))) → ((lessB (ix lb (k : Int)) (ix la (m : Int)) && y) = false → ¬ lessL (ix lb (k : Int)) (ix la (m : Int))) → J13 y := fun y q1 q2 => by
        rw [hJ13]
        refine IFB.mk (fun h => ?_) (fun h => hrec2 (q2 h))
        rw [hJ9]
        dsimp only
        rw [decide_eq_true (by omega : (0 : Int) ≤ (m : Int))]
        exact IFB.mk (fun h => (by cases h)) (fun _ => hrec ⟨_, hx, q1 h⟩)
      refine IFB.mk (fun h v hv => hJ13 v (fun q => ?_) (fun q => ?_)) (fun h => hJ13 false (fun q => ?_) (fun _ q => ?_))
      · rw [Bool.and_eq_true] at q
        exact ⟨q.1, hv.1 q.2⟩
      · intro hl
        have : lessB (ix lb (k : Int)) (ix la (m : Int)) = true := hl.1
        rw [this, hv.2 hl.2] at q
        cases q
      · rw [Bool.and_false] at q; cases q
      · have h : lessB (ix lb (k : Int)) (ix la (m : Int)) = false := h
        rw [q.1] at h; cases h
    · rw [hJ9]
      dsimp only
      rw [hm]
      refine IFB.mk (fun _ => ?_) (fun h => (by cases h))
      rw [hJ5]
      dsimp only
      rw [decide_eq_true (by omega : (0 : Int) ≤ (k : Int))]
      refine hp false ⟨fun h => (by cases h), fun h => ?_⟩
      obtain ⟨y, hy, hl⟩ := h _ (ix_mem (l := lb) (i := (k : Int)) (by omega) (by omega))
      obtain ⟨j, hj, rfl⟩ := List.getElem_of_mem hy
      have := hall2 j hj
      rw [ix_lt hj] at this
      exact absurd hl this
  · rw [hJ5]
    dsimp only
    rw [hm]
    refine hp true ⟨fun _ x hx => ?_, fun _ => rfl⟩
    obtain ⟨j, hj, rfl⟩ := List.getElem_of_mem hx
    have := hall j hj
    rwa [ix_lt hj] at this

def pchk_P (d : application_days) (l : List (api_Version)) (i : Int) (post : Int → Prop) : Prop := ((0 ≤ i ∧ i < l.length) ∧ l.length ≤ 1000000 ∧ ∀ v ∈ l, v.2.length ≤ 1000000) ∧ post (chkAt d.1 d.2 d.3 l i.toNat)
def pchk_sp : Spec := ⟨84, false, false, [.st .application_days, .sl (.st .api_Version), .int .i64], .dat (.int .i64), fun x post => pchk_P (x.1 : application_days) (x.2.1 : List (api_Version)) (x.2.2.1 : Int) (fun y0 => post (y0, ()))⟩
def pchk_C : CtxR := ⟨tau, [rule1 pvals_sp, rule1 pwit_sp], lookJ [(0, 1000008, ⟨[(44, .dat .bool)], [], [45, 46, 47, 53, 54, 58, 66, 69, 48, 49, 50, 51, 52, 55, 56, 57, 59, 60, 61, 62, 63, 64, 65, 67, 68], [], []⟩), (8901023476985802, 0, ⟨[(0, .dat (.int .i64))], [], [], [], []⟩), (8901023476985802, 5, ⟨[(8, .dat (.int .i64))], [], [9, 10, 5, 11, 12, 13, 14, 15, 16, 18], [], []⟩), (10083107538033363418895507559601263, 0, ⟨[(0, .dat (.int .i64))], [], [], [], []⟩), (10083107538033363418895507559601263, 5, ⟨[(8, .dat (.int .i64))], [], [9, 10, 5, 11, 12, 13, 14, 15, 16, 18], [], []⟩)]⟩
def pchk_W (d : application_days) (l : List (api_Version)) (i : Int) (post : Int → Prop) : Prop := ((0 : Int) ≤ i ∧ i < (↑l.length : Int)) ∧ ((gx false (decide ((ix l i).1 < d.1)) && gx true (decide ((0 : Int) < i))) = true → (0 : Int) ≤ IntKind.i64.wrap (i - (1 : Int)) ∧ IntKind.i64.wrap (i - (1 : Int)) < (↑l.length : Int)) ∧ IFB (decide ((ix l i).1 < d.1) || decide ((0 : Int) < i) && decide ((ix l i).1 < (ix l (IntKind.i64.wrap (i - (1 : Int)))).1)) (post (9 : Int)) (IFB (decide (d.3 < (ix l i).1)) (post (21 : Int)) ((ix l i).2.length ≤ (1000000000 : Nat) ∧ ∀ (v1 : Bool), (v1 = true ↔ linesV (ix l i).2) → IFB (!v1) (post (7 : Int)) (JOIN [Ty.bool] (fun (y2 : Bool) ↦ IFB y2 (post (22 : Int)) (post (0 : Int))) fun (J3 : Bool → Prop) ↦ (gx true (decide ((0 : Int) < i) && decide (d.2 < (ix l i).1)) = true → (0 : Int) ≤ IntKind.i64.wrap (i - (1 : Int)) ∧ IntKind.i64.wrap (i - (1 : Int)) < (↑l.length : Int)) ∧ IFB (decide ((0 : Int) < i) && decide (d.2 < (ix l i).1)) ((JOIN [Ty.int IntKind.i64] (fun (y4 : Int) ↦ J3 !!decide ((0 : Int) ≤ y4)) fun (J5 : Int → Prop) ↦ (↑(ix l i).2.length : Int) ≤ (9223372036854775807 : Int) → LOOP [Ty.int IntKind.i64] (fun (rec6 : Int → Prop) (z7 : Int) ↦ IFB (decide (z7 < (↑(ix l i).2.length : Int))) (((0 : Int) ≤ z7 ∧ z7 < (↑(ix l i).2.length : Int)) ∧ JOIN [Ty.int IntKind.i64] (fun (y8 : Int) ↦ IFB (!decide ((0 : Int) ≤ y8)) (J5 z7) (rec6 (IntKind.i64.wrap (z7 + (1 : Int))))) fun (J9 : Int → Prop) ↦ (↑(ix l (IntKind.i64.wrap (i - (1 : Int)))).2.length : Int) ≤ (9223372036854775807 : Int) → LOOP [Ty.int IntKind.i64] (fun (rec10 : Int → Prop) (z11 : Int) ↦ IFB (decide (z11 < (↑(ix l (IntKind.i64.wrap (i - (1 : Int)))).2.length : Int))) (((0 : Int) ≤ z11 ∧ z11 < (↑(ix l (IntKind.i64.wrap (i - (1 : Int)))).2.length : Int)) ∧ JOIN [Ty.bool] (fun (y12 : Bool) ↦ IFB (decide ((ix (ix l i).2 z7).1 = (ix (ix l (IntKind.i64.wrap (i - (1 : Int)))).2 z11).1) && decide ((ix (ix l i).2 z7).3 = (ix (ix l (IntKind.i64.wrap (i - (1 : Int)))).2 z11).3) && decide (IntKind.i64.wrap (↑(Nat.instAndOp.1 ((ix (ix l i).2 z7).4 % (18446744073709551616 : Int)).toNat (Nat.instXorOp.1 ((18446744073709551615 : Nat)) ((ix (ix l (IntKind.i64.wrap (i - (1 : Int)))).2 z11).4 % (18446744073709551616 : Int)).toNat)) : Int) = (0 : Int)) && y12) (J9 z11) (rec10 (IntKind.i64.wrap (z11 + (1 : Int))))) fun (J13 : Bool → Prop) ↦ IFB (gx true (decide ((ix (ix l i).2 z7).1 = (ix (ix l (IntKind.i64.wrap (i - (1 : Int)))).2 z11).1) && decide ((ix (ix l i).2 z7).3 = (ix (ix l (IntKind.i64.wrap (i - (1 : Int)))).2 z11).3) && decide (IntKind.i64.wrap (↑(Nat.instAndOp.1 ((ix (ix l i).2 z7).4 % (18446744073709551616 : Int)).toNat (Nat.instXorOp.1 ((18446744073709551615 : Nat)) ((ix (ix l (IntKind.i64.wrap (i - (1 : Int)))).2 z11).4 % (18446744073709551616 : Int)).toNat)) : Int) = (0 : Int)))) (∀ (v14 : Bool), (v14 = true ↔ withinP (ix (ix l i).2 z7).2.1 (ix (ix l (IntKind.i64.wrap (i - (1 : Int)))).2 z11).2.1) → J13 v14) (J13 false)) (J9 (-1 : Int))) ((0 : Int), PUnit.unit)) (J5 (-1 : Int))) ((0 : Int), PUnit.unit)) ∧ (JOIN [Ty.int IntKind.i64] (fun (y15 : Int) ↦ J3 !!decide ((0 : Int) ≤ y15)) fun (J16 : Int → Prop) ↦ (↑(ix l i).2.length : Int) ≤ (9223372036854775807 : Int) → LOOP [Ty.int IntKind.i64] (fun (rec17 : Int → Prop) (z18 : Int) ↦ IFB (decide (z18 < (↑(ix l i).2.length : Int))) (((0 : Int) ≤ z18 ∧ z18 < (↑(ix l i).2.length : Int)) ∧ JOIN [Ty.int IntKind.i64] (fun (y19 : Int) ↦ IFB (!decide ((0 : Int) ≤ y19)) (J16 z18) (rec17 (IntKind.i64.wrap (z18 + (1 : Int))))) fun (J20 : Int → Prop) ↦ (↑(ix l (IntKind.i64.wrap (i - (1 : Int)))).2.length : Int) ≤ (9223372036854775807 : Int) → LOOP [Ty.int IntKind.i64] (fun (rec21 : Int → Prop) (z22 : Int) ↦ IFB (decide (z22 < (↑(ix l (IntKind.i64.wrap (i - (1 : Int)))).2.length : Int))) (((0 : Int) ≤ z22 ∧ z22 < (↑(ix l (IntKind.i64.wrap (i - (1 : Int)))).2.length : Int)) ∧ JOIN [Ty.bool] (fun (y23 : Bool) ↦ IFB (decide ((ix (ix l i).2 z18).1 = (ix (ix l (IntKind.i64.wrap (i - (1 : Int)))).2 z22).1) && decide ((ix (ix l i).2 z18).3 = (ix (ix l (IntKind.i64.wrap (i - (1 : Int)))).2 z22).3) && decide (IntKind.i64.wrap (↑(Nat.instAndOp.1 ((ix (ix l i).2 z18).4 % (18446744073709551616 : Int)).toNat (Nat.instXorOp.1 ((18446744073709551615 : Nat)) ((ix (ix l (IntKind.i64.wrap (i - (1 : Int)))).2 z22).4 % (18446744073709551616 : Int)).toNat)) : Int) = (0 : Int)) && y23) (J20 z22) (rec21 (IntKind.i64.wrap (z22 + (1 : Int))))) fun (J24 : Bool → Prop) ↦ IFB (gx true (decide ((ix (ix l i).2 z18).1 = (ix (ix l (IntKind.i64.wrap (i - (1 : Int)))).2 z22).1) && decide ((ix (ix l i).2 z18).3 = (ix (ix l (IntKind.i64.wrap (i - (1 : Int)))).2 z22).3) && decide (IntKind.i64.wrap (↑(Nat.instAndOp.1 ((ix (ix l i).2 z18).4 % (18446744073709551616 : Int)).toNat (Nat.instXorOp.1 ((18446744073709551615 : Nat)) ((ix (ix l (IntKind.i64.wrap (i - (1 : Int)))).2 z22).4 % (18446744073709551616 : Int)).toNat)) : Int) = (0 : Int)))) (∀ (v25 : Bool), (v25 = true ↔ withinP (ix (ix l i).2 z18).2.1 (ix (ix l (IntKind.i64.wrap (i - (1 : Int)))).2 z22).2.1) → J24 v25) (J24 false)) (J20 (-1 : Int))) ((0 : Int), PUnit.unit)) (J16 (-1 : Int))) ((0 : Int), PUnit.unit)) ∧ JOIN [Ty.int IntKind.i64] (fun (y26 : Int) ↦ J3 !!decide ((0 : Int) ≤ y26)) fun (J27 : Int → Prop) ↦ (↑(ix l i).2.length : Int) ≤ (9223372036854775807 : Int) → LOOP [Ty.int IntKind.i64] (fun (rec28 : Int → Prop) (z29 : Int) ↦ IFB (decide (z29 < (↑(ix l i).2.length : Int))) (((0 : Int) ≤ z29 ∧ z29 < (↑(ix l i).2.length : Int)) ∧ JOIN [Ty.int IntKind.i64] (fun (y30 : Int) ↦ IFB (!decide ((0 : Int) ≤ y30)) (J27 z29) (rec28 (IntKind.i64.wrap (z29 + (1 : Int))))) fun (J31 : Int → Prop) ↦ (↑(ix l (IntKind.i64.wrap (i - (1 : Int)))).2.length : Int) ≤ (9223372036854775807 : Int) → LOOP [Ty.int IntKind.i64] (fun (rec32 : Int → Prop) (z33 : Int) ↦ IFB (decide (z33 < (↑(ix l (IntKind.i64.wrap (i - (1 : Int)))).2.length : Int))) (((0 : Int) ≤ z33 ∧ z33 < (↑(ix l (IntKind.i64.wrap (i - (1 : Int)))).2.length : Int)) ∧ JOIN [Ty.bool] (fun (y34 : Bool) ↦ IFB (decide ((ix (ix l i).2 z29).1 = (ix (ix l (IntKind.i64.wrap (i - (1 : Int)))).2 z33).1) && decide ((ix (ix l i).2 z29).3 = (ix (ix l (IntKind.i64.wrap (i - (1 : Int)))).2 z33).3) && decide (IntKind.i64.wrap (↑(Nat.instAndOp.1 ((ix (ix l i).2 z29).4 % (18446744073709551616 : Int)).toNat (Nat.instXorOp.1 ((18446744073709551615 : Nat)) ((ix (ix l (IntKind.i64.wrap (i - (1 : Int)))).2 z33).4 % (18446744073709551616 : Int)).toNat)) : Int) = (0 : Int)) && y34) (J31 z33) (rec32 (IntKind.i64.wrap (z33 + (1 : Int))))) fun (J35 : Bool → Prop) ↦ IFB (gx true (decide ((ix (ix l i).2 z29).1 = (ix (ix l (IntKind.i64.wrap (i - (1 : Int)))).2 z33).1) && decide ((ix (ix l i).2 z29).3 = (ix (ix l (IntKind.i64.wrap (i - (1 : Int)))).2 z33).3) && decide (IntKind.i64.wrap (↑(Nat.instAndOp.1 ((ix (ix l i).2 z29).4 % (18446744073709551616 : Int)).toNat (Nat.instXorOp.1 ((18446744073709551615 : Nat)) ((ix (ix l (IntKind.i64.wrap (i - (1 : Int)))).2 z33).4 % (18446744073709551616 : Int)).toNat)) : Int) = (0 : Int)))) (∀ (v36 : Bool), (v36 = true ↔ withinP (ix (ix l i).2 z29).2.1 (ix (ix l (IntKind.i64.wrap (i - (1 : Int)))).2 z33).2.1) → J35 v36) (J35 false)) (J31 (-1 : Int))) ((0 : Int), PUnit.unit)) (J27 (-1 : Int))) ((0 : Int), PUnit.unit)) (J3 false ∧ J3 false ∧ J3 false) ∧ IFB (decide ((0 : Int) < i) && decide (d.2 < (ix l i).1)) (((JOIN [Ty.int IntKind.i64] (fun (y37 : Int) ↦ J3 !!decide ((0 : Int) ≤ y37)) fun (J38 : Int → Prop) ↦ (↑(ix l i).2.length : Int) ≤ (9223372036854775807 : Int) → LOOP [Ty.int IntKind.i64] (fun (rec39 : Int → Prop) (z40 : Int) ↦ IFB (decide (z40 < (↑(ix l i).2.length : Int))) (((0 : Int) ≤ z40 ∧ z40 < (↑(ix l i).2.length : Int)) ∧ JOIN [Ty.int IntKind.i64] (fun (y41 : Int) ↦ IFB (!decide ((0 : Int) ≤ y41)) (J38 z40) (rec39 (IntKind.i64.wrap (z40 + (1 : Int))))) fun (J42 : Int → Prop) ↦ (↑(ix l (IntKind.i64.wrap (i - (1 : Int)))).2.length : Int) ≤ (9223372036854775807 : Int) → LOOP [Ty.int IntKind.i64] (fun (rec43 : Int → Prop) (z44 : Int) ↦ IFB (decide (z44 < (↑(ix l (IntKind.i64.wrap (i - (1 : Int)))).2.length : Int))) (((0 : Int) ≤ z44 ∧ z44 < (↑(ix l (IntKind.i64.wrap (i - (1 : Int)))).2.length : Int)) ∧ JOIN [Ty.bool] (fun (y45 : Bool) ↦ IFB (decide ((ix (ix l i).2 z40).1 = (ix (ix l (IntKind.i64.wrap (i - (1 : Int)))).2 z44).1) && decide ((ix (ix l i).2 z40).3 = (ix (ix l (IntKind.i64.wrap (i - (1 : Int)))).2 z44).3) && decide (IntKind.i64.wrap (↑(Nat.instAndOp.1 ((ix (ix l i).2 z40).4 % (18446744073709551616 : Int)).toNat (Nat.instXorOp.1 ((18446744073709551615 : Nat)) ((ix (ix l (IntKind.i64.wrap (i - (1 : Int)))).2 z44).4 % (18446744073709551616 : Int)).toNat)) : Int) = (0 : Int)) && y45) (J42 z44) (rec43 (IntKind.i64.wrap (z44 + (1 : Int))))) fun (J46 : Bool → Prop) ↦ IFB (gx true (decide ((ix (ix l i).2 z40).1 = (ix (ix l (IntKind.i64.wrap (i - (1 : Int)))).2 z44).1) && decide ((ix (ix l i).2 z40).3 = (ix (ix l (IntKind.i64.wrap (i - (1 : Int)))).2 z44).3) && decide (IntKind.i64.wrap (↑(Nat.instAndOp.1 ((ix (ix l i).2 z40).4 % (18446744073709551616 : Int)).toNat (Nat.instXorOp.1 ((18446744073709551615 : Nat)) ((ix (ix l (IntKind.i64.wrap (i - (1 : Int)))).2 z44).4 % (18446744073709551616 : Int)).toNat)) : Int) = (0 : Int)))) (∀ (v47 : Bool), (v47 = true ↔ withinP (ix (ix l i).2 z40).2.1 (ix (ix l (IntKind.i64.wrap (i - (1 : Int)))).2 z44).2.1) → J46 v47) (J46 false)) (J42 (-1 : Int))) ((0 : Int), PUnit.unit)) (J38 (-1 : Int))) ((0 : Int), PUnit.unit)) ∧ JOIN [Ty.int IntKind.i64] (fun (y48 : Int) ↦ J3 !!decide ((0 : Int) ≤ y48)) fun (J49 : Int → Prop) ↦ (↑(ix l i).2.length : Int) ≤ (9223372036854775807 : Int) → LOOP [Ty.int IntKind.i64] (fun (rec50 : Int → Prop) (z51 : Int) ↦ IFB (decide (z51 < (↑(ix l i).2.length : Int))) (((0 : Int) ≤ z51 ∧ z51 < (↑(ix l i).2.length : Int)) ∧ JOIN [Ty.int IntKind.i64] (fun (y52 : Int) ↦ IFB (!decide ((0 : Int) ≤ y52)) (J49 z51) (rec50 (IntKind.i64.wrap (z51 + (1 : Int))))) fun (J53 : Int → Prop) ↦ (↑(ix l (IntKind.i64.wrap (i - (1 : Int)))).2.length : Int) ≤ (9223372036854775807 : Int) → LOOP [Ty.int IntKind.i64] (fun (rec54 : Int → Prop) (z55 : Int) ↦ IFB (decide (z55 < (↑(ix l (IntKind.i64.wrap (i - (1 : Int)))).2.length : Int))) (((0 : Int) ≤ z55 ∧ z55 < (↑(ix l (IntKind.i64.wrap (i - (1 : Int)))).2.length : Int)) ∧ JOIN [Ty.bool] (fun (y56 : Bool) ↦ IFB (decide ((ix (ix l i).2 z51).1 = (ix (ix l (IntKind.i64.wrap (i - (1 : Int)))).2 z55).1) && decide ((ix (ix l i).2 z51).3 = (ix (ix l (IntKind.i64.wrap (i - (1 : Int)))).2 z55).3) && decide (IntKind.i64.wrap (↑(Nat.instAndOp.1 ((ix (ix l i).2 z51).4 % (18446744073709551616 : Int)).toNat (Nat.instXorOp.1 ((18446744073709551615 : Nat)) ((ix (ix l (IntKind.i64.wrap (i - (1 : Int)))).2 z55).4 % (18446744073709551616 : Int)).toNat)) : Int) = (0 : Int)) && y56) (J53 z55) (rec54 (IntKind.i64.wrap (z55 + (1 : Int))))) fun (J57 : Bool → Prop) ↦ IFB (gx true (decide ((ix (ix l i).2 z51).1 = (ix (ix l (IntKind.i64.wrap (i - (1 : Int)))).2 z55).1) && decide ((ix (ix l i).2 z51).3 = (ix (ix l (IntKind.i64.wrap (i - (1 : Int)))).2 z55).3) && decide (IntKind.i64.wrap (↑(Nat.instAndOp.1 ((ix (ix l i).2 z51).4 % (18446744073709551616 : Int)).toNat (Nat.instXorOp.1 ((18446744073709551615 : Nat)) ((ix (ix l (IntKind.i64.wrap (i - (1 : Int)))).2 z55).4 % (18446744073709551616 : Int)).toNat)) : Int) = (0 : Int)))) (∀ (v58 : Bool), (v58 = true ↔ withinP (ix (ix l i).2 z51).2.1 (ix (ix l (IntKind.i64.wrap (i - (1 : Int)))).2 z55).2.1) → J57 v58) (J57 false)) (J53 (-1 : Int))) ((0 : Int), PUnit.unit)) (J49 (-1 : Int))) ((0 : Int), PUnit.unit)) ∧ JOIN [Ty.int IntKind.i64] (fun (y59 : Int) ↦ J3 !!decide ((0 : Int) ≤ y59)) fun (J60 : Int → Prop) ↦ (↑(ix l i).2.length : Int) ≤ (9223372036854775807 : Int) → LOOP [Ty.int IntKind.i64] (fun (rec61 : Int → Prop) (z62 : Int) ↦ IFB (decide (z62 < (↑(ix l i).2.length : Int))) (((0 : Int) ≤ z62 ∧ z62 < (↑(ix l i).2.length : Int)) ∧ JOIN [Ty.int IntKind.i64] (fun (y63 : Int) ↦ IFB (!decide ((0 : Int) ≤ y63)) (J60 z62) (rec61 (IntKind.i64.wrap (z62 + (1 : Int))))) fun (J64 : Int → Prop) ↦ (↑(ix l (IntKind.i64.wrap (i - (1 : Int)))).2.length : Int) ≤ (9223372036854775807 : Int) → LOOP [Ty.int IntKind.i64] (fun (rec65 : Int → Prop) (z66 : Int) ↦ IFB (decide (z66 < (↑(ix l (IntKind.i64.wrap (i - (1 : Int)))).2.length : Int))) (((0 : Int) ≤ z66 ∧ z66 < (↑(ix l (IntKind.i64.wrap (i - (1 : Int)))).2.length : Int)) ∧ JOIN [Ty.bool] (fun (y67 : Bool) ↦ IFB (decide ((ix (ix l i).2 z62).1 = (ix (ix l (IntKind.i64.wrap (i - (1 : Int)))).2 z66).1) && decide ((ix (ix l i).2 z62).3 = (ix (ix l (IntKind.i64.wrap (i - (1 : Int)))).2 z66).3) && decide (IntKind.i64.wrap (↑(Nat.instAndOp.1 ((ix (ix l i).2 z62).4 % (18446744073709551616 : Int)).toNat (Nat.instXorOp.1 ((18446744073709551615 : Nat)) ((ix (ix l (IntKind.i64.wrap (i - (1 : Int)))).2 z66).4 % (18446744073709551616 : Int)).toNat)) : Int) = (0 : Int)) && y67) (J64 z66) (rec65 (IntKind.i64.wrap (z66 + (1 : Int))))) fun (J68 : Bool → Prop) ↦ IFB (gx true (decide ((ix (ix l i).2 z62).1 = (ix (ix l (IntKind.i64.wrap (i - (1 : Int)))).2 z66).1) && decide ((ix (ix l i).2 z62).3 = (ix (ix l (IntKind.i64.wrap (i - (1 : Int)))).2 z66).3) && decide (IntKind.i64.wrap (↑(Nat.instAndOp.1 ((ix (ix l i).2 z62).4 % (18446744073709551616 : Int)).toNat (Nat.instXorOp.1 ((18446744073709551615 : Nat)) ((ix (ix l (IntKind.i64.wrap (i - (1 : Int)))).2 z66).4 % (18446744073709551616 : Int)).toNat)) : Int) = (0 : Int)))) (∀ (v69 : Bool), (v69 = true ↔ withinP (ix (ix l i).2 z62).2.1 (ix (ix l (IntKind.i64.wrap (i - (1 : Int)))).2 z66).2.1) → J68 v69) (J68 false)) (J64 (-1 : Int))) ((0 : Int), PUnit.unit)) (J60 (-1 : Int))) ((0 : Int), PUnit.unit)) ((J3 false ∧ J3 false) ∧ J3 false))))
theorem pchk_w (d : application_days) (l : List (api_Version)) (i : Int) (post : dens (shT pchk_sp.rs []) → Prop) : pchk_W d l i (fun y0 => post (y0, ())) = walkG (callR Tryz.prog pchk_C (drawS Tryz.prog tau) 12 0) 84 false [tv (.st .application_days) d, tv (.sl (.st .api_Version)) l, tv (.int .i64) i] pchk_sp.rs post := by kernel_rfl
theorem pchk_of (h : ∀ (d : application_days) (l : List (api_Version)) (i : Int) (post : Int → Prop), pchk_P d l i post → pchk_W d l i post) : SpecOK Tryz.prog pchk_sp := SpecOK.of_rules (C := pchk_C) (dr := drawS Tryz.prog tau) (n := 12) (fk := 0) (.cons (rule1_ok pvals_ok) (.cons (rule1_ok pwit_ok) .nil)) (drawS_ok tau) fun x post hp => HoldW.of (pchk_w x.1 x.2.1 x.2.2.1 post) (h x.1 x.2.1 x.2.2.1 (fun y0 => post (y0, ())) hp)
theorem pchk_ok : SpecOK Tryz.prog pchk_sp := pchk_of fun d l i post hp => by
  obtain ⟨⟨⟨hi0, hi1⟩, hl, hv⟩, hp⟩ := hp
  obtain ⟨k, rfl⟩ : ∃ k : Nat, i = (k : Int) := ⟨i.toNat, by omega⟩
  obtain ⟨o, la, e⟩ := d
  have hk : k < l.length := by omega
  unfold chkAt at hp
  dsimp only at hp
  rw [show (k : Int).toNat = k by omega] at hp
  unfold pchk_W
  dsimp only
  have hx : ix l (k : Int) ∈ l := ix_mem (by omega) (by omega)
  have hw : 0 < k → IntKind.i64.wrap ((k : Int) - 1) = ((k - 1 : Nat) : Int) := fun h => by rw [wrap_in (by omega) (by omega)]; omega
  have hy : 0 < k → ix l ((k - 1 : Nat) : Int) ∈ l := fun h => ix_mem (by omega) (by omega)
  have hpv : ∀ {P : api_Version → Prop}, (∃ q, prevV l k = some q ∧ P q) ↔ 0 < k ∧ P (ix l ((k - 1 : Nat) : Int)) := fun {P} => by
    unfold prevV
    split
    · rename_i h; constructor
      · rintro ⟨q, hq, _⟩; cases hq
      · intro h2; omega
    · rename_i h; constructor
      · rintro ⟨q, hq, h2⟩; injection hq with hq; subst hq; exact ⟨by omega, h2⟩
      · intro h2; exact ⟨_, rfl, h2.2⟩
  unfold chk1 at hp
  simp only [hpv] at hp
  refine ⟨by omega, fun h => ?_, IFB.mk (fun hb => ?_) (fun hb => IFB.mk (fun hb2 => ?_) (fun hb2 => ⟨by have := hv _ hx; omega, fun v1 hv1 => IFB.mk (fun hb3 => ?_) (fun hb3 => ?_)⟩))⟩
  · have : 0 < (k : Int) := by
      simp only [gx, Bool.and_eq_true, decide_eq_true_eq, cond_true] at h
      exact h.2
    rw [hw (by omega)]
    omega
  · rw [if_pos] at hp
    · exact hp
    · simp only [Bool.or_eq_true, Bool.and_eq_true, decide_eq_true_eq] at hb
      rcases hb with hb | ⟨hb, hb'⟩
      · exact .inl hb
      · have h0 : 0 < k := by omega
        rw [hw h0] at hb'
        exact .inr ⟨h0, hb'⟩
  all_goals
    rw [if_neg] at hp
    rotate_left
    · rintro (h | ⟨h0, h⟩)
      · have h : (ix l (k : Int)).1 < o := h
        simp only [Bool.or_eq_false_iff, decide_eq_false_iff_not] at hb
        exact hb.1 h
      · have h : (ix l (k : Int)).1 < (ix l ((k - 1 : Nat) : Int)).1 := h
        rw [hw h0, decide_eq_true h, decide_eq_true (by omega : (0 : Int) < (k : Int))] at hb
        simp at hb
  · rw [if_pos (of_decide_eq_true hb2)] at hp; exact hp
  all_goals rw [if_neg (of_decide_eq_false hb2)] at hp
  · have hb3 : v1 = false := by simpa using hb3
    rw [if_pos] at hp
    · exact hp
    · intro h; rw [hv1.2 h] at hb3; cases hb3
  · have hb3 : v1 = true := by simpa using hb3
    rw [if_neg (fun h => h (hv1.1 hb3))] at hp
    have hpv4 := hpv (P := fun q => la < (ix l (k : Int)).1 ∧ ¬ reducesP q (ix l (k : Int)))
    refine JOIN.opq fun (J3 : Bool → Prop) hJ3 => ?_
    refine ⟨fun h => ?_, ?_⟩
    · have : 0 < (k : Int) := by
        simp only [gx, Bool.and_eq_true, decide_eq_true_eq, cond_true] at h
        exact h.1
      rw [hw (by omega)]
      omega
    have h1 : ∀ {X : Prop}, (0 < k → la < (ix l (k : Int)).1 → X) → (decide ((0 : Int) < (k : Int)) && decide (la < (ix l (k : Int)).1)) = true → X := fun hX hb4 => by
      simp only [Bool.and_eq_true, decide_eq_true_eq] at hb4
      exact hX (by omega) hb4.2
    have h2 : (decide ((0 : Int) < (k : Int)) && decide (la < (ix l (k : Int)).1)) = false → J3 false := fun hb4 => by
      rw [hJ3]
      refine IFB.mk (fun h => (by cases h)) (fun _ => ?_)
      rw [if_neg] at hp
      · exact hp
      · intro h
        obtain ⟨h0, h1, _⟩ := hpv4.1 h
        have h1 : la < (ix l (k : Int)).1 := h1
        rw [decide_eq_true h1, decide_eq_true (by omega : (0 : Int) < (k : Int))] at hb4
        cases hb4
    have key : 0 < k → la < (ix l (k : Int)).1 → ∀ q : Bool, (q = true ↔ ∀ x ∈ (ix l (k : Int)).2, ∃ y ∈ (ix l ((k - 1 : Nat) : Int)).2, lessL x y) → J3 (!q) := fun h0 hla q hq => by
      rw [hJ3]
      dsimp only
      refine IFB.mk (fun h => ?_) (fun h => ?_)
      · rw [if_pos] at hp
        · exact hp
        · refine hpv4.2 ⟨h0, hla, fun hr => ?_⟩
          rw [hq.2 hr] at h; cases h
      · rw [if_neg] at hp
        · exact hp
        · intro h2
          obtain ⟨_, _, hr⟩ := hpv4.1 h2
          exact hr (hq.1 (by simpa using h))
    have r := fun h0 hla => red_loop (J3 := J3) (hv _ (hy h0)) (hv _ hx) (key h0 hla)
    refine ⟨IFB.mk (h1 fun h0 hla => ?_) (fun hb4 => ⟨h2 hb4, h2 hb4, h2 hb4⟩), IFB.mk (h1 fun h0 hla => ?_) (fun hb4 => ⟨⟨h2 hb4, h2 hb4⟩, h2 hb4⟩)⟩
    all_goals
      have r := r h0 hla
      rw [hw h0]
      first | exact ⟨r, r, r⟩ | exact ⟨⟨r, r⟩, r⟩

end RE
end Go.Proofs.YtfbfknmnkcddpaaGreat
set_option maxRecDepth 100000
set_option linter.unusedVariables false
namespace Go.Proofs.YtfbfknmnkcddpaaGreat
open Go.RowKit
namespace RE
open PL

def pcheck_P (a : api_Application) (o : Int) (la : Int) (e : Int) (post : Int → Prop) : Prop := (True) ∧ post (chkS a o la e)
def pcheck_sp : Spec := ⟨23, false, false, [.st .api_Application, .int .i64, .int .i64, .int .i64], .dat (.int .i64), fun x post => pcheck_P (x.1 : api_Application) (x.2.1 : Int) (x.2.2.1 : Int) (x.2.2.2.1 : Int) (fun y0 => post (y0, ()))⟩
def pcheck_C : CtxR := ⟨tau, [rule1 pchk_sp], lookJ [(0, 23, ⟨[(57, .dat (.int .i64))], [], [58, 59, 10, 60, 61, 62, 63, 64, 11, 65, 66, 68], [], []⟩), (8529253286, 0, ⟨[(0, .dat (.int .i64))], [], [], [], []⟩), (8529253286, 5, ⟨[(8, .dat (.int .i64))], [], [9, 10, 5, 11, 12, 13, 14, 15, 16, 18], [], []⟩)]⟩
def pcheck_W (a : api_Application) (o : Int) (la : Int) (e : Int) (post : Int → Prop) : Prop := IFB (!(decide ((0 : Int) ≤ o) && decide (o ≤ la) && decide (la ≤ e) && decide (e ≤ (36864 : Int)))) (post (9 : Int)) (IFB (decide (a.1 < (1 : Int)) || decide ((60 : Int) < a.1)) (post (2 : Int)) (IFB (decide (a.2 < (0 : Int)) || decide ((100 : Int) < a.2)) (post (18 : Int)) ((↑a.3.length : Int) ≤ (9223372036854775807 : Int) → (gx false (decide ((↑a.3.length : Int) < (1 : Int))) = true → (↑a.3.length : Int) ≤ (9223372036854775807 : Int)) → JOIN [Ty.bool] (fun (y1 : Bool) ↦ IFB (decide ((↑a.3.length : Int) < (1 : Int)) || decide ((40 : Int) < (↑a.3.length : Int)) || y1) (post (1 : Int)) ((↑a.3.length : Int) ≤ (9223372036854775807 : Int) → LOOP [Ty.int IntKind.i64] (fun (rec2 : Int → Prop) (z3 : Int) ↦ IFB (decide (z3 < (↑a.3.length : Int))) ((((0 : Int) ≤ z3 ∧ z3 < (↑a.3.length : Int)) ∧ a.3.length ≤ (1000000 : Nat) ∧ ∀ (v4 : api_Version), v4 ∈ a.3 → v4.2.length ≤ (1000000 : Nat)) ∧ IFB (!decide (chkAt o la e a.3 z3.toNat = (0 : Int))) (post (chkAt o la e a.3 z3.toNat)) (rec2 (IntKind.i64.wrap (z3 + (1 : Int))))) (post (0 : Int))) ((0 : Int), PUnit.unit))) fun (J5 : Bool → Prop) ↦ IFB (gx false (decide ((↑a.3.length : Int) < (1 : Int)) || decide ((40 : Int) < (↑a.3.length : Int)))) (JOIN [Ty.int IntKind.i64] (fun (y6 : Int) ↦ J5 (decide ((0 : Int) ≤ y6))) fun (J7 : Int → Prop) ↦ (↑a.3.length : Int) ≤ (9223372036854775807 : Int) → LOOP [Ty.int IntKind.i64] (fun (rec8 : Int → Prop) (z9 : Int) ↦ IFB (decide (z9 < (↑a.3.length : Int))) (((0 : Int) ≤ z9 ∧ z9 < (↑a.3.length : Int)) ∧ ((↑(ix a.3 z9).2.length : Int) ≤ (9223372036854775807 : Int) → IFB (decide ((20 : Int) < (↑(ix a.3 z9).2.length : Int))) (J7 z9) (rec8 (IntKind.i64.wrap (z9 + (1 : Int)))))) (J7 (-1 : Int))) ((0 : Int), PUnit.unit)) (J5 false))))
theorem pcheck_w (a : api_Application) (o : Int) (la : Int) (e : Int) (post : dens (shT pcheck_sp.rs []) → Prop) : pcheck_W a o la e (fun y0 => post (y0, ())) = walkG (callR Tryz.prog pcheck_C (drawR Tryz.prog tau) 8 0) 23 false [tv (.st .api_Application) a, tv (.int .i64) o, tv (.int .i64) la, tv (.int .i64) e] pcheck_sp.rs post := by kernel_rfl
theorem pcheck_of (h : ∀ (a : api_Application) (o : Int) (la : Int) (e : Int) (post : Int → Prop), pcheck_P a o la e post → pcheck_W a o la e post) : SpecOK Tryz.prog pcheck_sp := SpecOK.of_rules (C := pcheck_C) (dr := drawR Tryz.prog tau) (n := 8) (fk := 0) (.cons (rule1_ok pchk_ok) .nil) (drawR_ok tau) fun x post hp => HoldW.of (pcheck_w x.1 x.2.1 x.2.2.1 x.2.2.2.1 post) (h x.1 x.2.1 x.2.2.1 x.2.2.2.1 (fun y0 => post (y0, ())) hp)
theorem firstE_zero {f : Nat → Int} : ∀ {n : Nat}, firstE f n = 0 ↔ ∀ j, j < n → f j = 0
  | 0 => by simp [firstE]
  | n + 1 => by
    have ih := firstE_zero (f := f) (n := n)
    unfold firstE
    constructor
    · intro h j hj
      split at h
      · exact absurd h ‹_›
      · rename_i h0
        have h0 : firstE f n = 0 := by simpa using h0
        by_cases e : j = n
        · rw [e]; exact h
        · exact ih.1 h0 j (by omega)
    · intro h
      have h0 := ih.2 fun j hj => h j (by omega)
      rw [if_neg (by simp [h0])]
      exact h n (by omega)
theorem firstE_at {f : Nat → Int} {k : Nat} (h0 : ∀ j, j < k → f j = 0) (hk : f k ≠ 0) : ∀ {n : Nat}, k < n → firstE f n = f k
  | 0, h => by omega
  | n + 1, h => by
    unfold firstE
    by_cases e : k = n
    · subst e
      rw [if_neg (by simp [firstE_zero.2 h0])]
    · rw [firstE_at h0 hk (n := n) (by omega), if_pos hk]
theorem not4 {A B C D : Prop} [Decidable A] [Decidable B] [Decidable C] [Decidable D] : (!(decide A && decide B && decide C && decide D)) = true ↔ ¬ (A ∧ B ∧ C ∧ D) := by
  rw [Bool.not_eq_true', ← Bool.not_eq_true]
  simp only [Bool.and_eq_true, decide_eq_true_eq, and_assoc]
theorem pcheck_ok : SpecOK Tryz.prog pcheck_sp := pcheck_of fun a o la e post hp => by
  obtain ⟨_, hp⟩ := hp
  obtain ⟨f, y, l⟩ := a
  unfold chkS at hp
  unfold pcheck_W
  dsimp only at hp ⊢
  refine IFB.mk (fun hb => ?_) (fun hb => IFB.mk (fun hb2 => ?_) (fun hb2 => IFB.mk (fun hb3 => ?_) (fun hb3 => ?_)))
  · rw [if_pos (not4.1 hb)] at hp
    exact hp
  all_goals rw [if_neg (fun h => by rw [not4.2 h] at hb; cases hb)] at hp
  · rw [if_pos (by simpa using hb2)] at hp; exact hp
  all_goals rw [if_neg (by simpa using hb2)] at hp
  · rw [if_pos (by simpa using hb3)] at hp; exact hp
  rw [if_neg (by simpa using hb3)] at hp
  intro hlen _
  refine JOIN.opq fun (J5 : Bool → Prop) hJ5 => ?_
  have hJ : ∀ y : Bool, ((decide ((l.length : Int) < 1) || decide ((40 : Int) < l.length) || y) = true ↔ (l.length < 1 ∨ 40 < l.length ∨ ∃ v ∈ l, 20 < v.2.length)) → J5 y := fun y hy => by
    rw [hJ5]
    dsimp only
    refine IFB.mk (fun hb => ?_) (fun hb _ => ?_)
    · rw [if_pos (hy.1 hb)] at hp; exact hp
    · have hn : ¬ (l.length < 1 ∨ 40 < l.length ∨ ∃ v ∈ l, 20 < v.2.length) := fun h => by rw [hy.2 h] at hb; cases hb
      rw [if_neg hn] at hp
      have hn1 : l.length ≤ 40 := Nat.le_of_not_lt fun h => hn (.inr (.inl h))
      have hn2 : ∀ v ∈ l, v.2.length ≤ 20 := fun v hv => Nat.le_of_not_lt fun h => hn (.inr (.inr ⟨v, hv, h⟩))
      refine loopCmp (n := l.length) (by omega) (p := fun j => chkAt o la e l j = 0) (fun rec k hk hpre hrec => ⟨⟨by omega, by omega, fun v hv => by have := hn2 v hv; omega⟩, ?_⟩) fun hall => ?_
      · rw [show (k : Int).toNat = k by omega]
        refine IFB.mk (fun h => ?_) (fun h => hrec (by simpa using h))
        have h : chkAt o la e l k ≠ 0 := by simpa using h
        rw [firstE_at hpre h hk] at hp
        exact hp
      · rw [firstE_zero.2 hall] at hp
        exact hp
  refine IFB.mk (fun hb => ?_) (fun hb => ?_)
  · refine JOIN.opq fun (J7 : Int → Prop) hJ7 => ?_
    intro _
    have hb : (decide ((l.length : Int) < 1) || decide ((40 : Int) < l.length)) = false := by simpa [gx] using hb
    have hl40 : l.length ≤ 40 := by simp only [Bool.or_eq_false_iff, decide_eq_false_iff_not] at hb; omega
    refine loopCmp (n := l.length) (by omega) (p := fun j => ¬ 20 < (ix l (j : Int)).2.length) (fun rec k hk hpre hrec => ⟨by omega, fun _ => IFB.mk (fun h => ?_) (fun h => hrec (by have := of_decide_eq_false h; omega))⟩) fun hall => ?_
    · rw [hJ7]
      refine hJ _ ⟨fun _ => .inr (.inr ⟨_, ix_mem (l := l) (i := (k : Int)) (by omega) (by omega), by have := of_decide_eq_true h; omega⟩), fun _ => ?_⟩
      rw [decide_eq_true (by omega : (0 : Int) ≤ (k : Int)), Bool.or_true]
    · rw [hJ7]
      refine hJ _ ⟨fun h => ?_, fun h => ?_⟩
      · rw [hb] at h; cases h
      · simp only [Bool.or_eq_false_iff, decide_eq_false_iff_not] at hb
        rcases h with h | h | ⟨v, hv, h⟩
        · omega
        · omega
        · obtain ⟨j, hj, rfl⟩ := List.getElem_of_mem hv
          have := hall j hj
          rw [ix_lt hj] at this
          omega
  · have hb : (decide ((l.length : Int) < 1) || decide ((40 : Int) < l.length)) = true := by
      cases hq : (decide ((l.length : Int) < 1) || decide ((40 : Int) < l.length)) with
      | true => rfl
      | false => rw [hq] at hb; cases hb
    refine hJ false ⟨fun _ => ?_, fun _ => ?_⟩
    · simp only [Bool.or_eq_true, decide_eq_true_eq] at hb
      rcases hb with hb | hb
      · exact .inl (by omega)
      · exact .inr (.inl (by omega))
    · rw [hb, Bool.or_false]

end RE
end Go.Proofs.YtfbfknmnkcddpaaGreat
set_option maxRecDepth 100000
set_option linter.unusedVariables false
namespace Go.Proofs.YtfbfknmnkcddpaaGreat
open Go.RowKit
namespace RE
open PL

namespace PL
def moreV (a : api_Application) (v : api_Version) : api_Application := ⟨a.Farm, a.Year, a.Versions ++ [v]⟩
open Classical in
noncomputable def amendS (a : api_Application) (v : api_Version) (o la e : Int) : api_Application × Int :=
  if chkS a o la e ≠ 0 then (a, chkS a o la e) else if chkS (moreV a v) o la e ≠ 0 then (a, chkS (moreV a v) o la e) else (moreV a v, 0)
def bigV (v : api_Version) : Prop := v.Lines.length ≤ 2000000 ∧ ∀ x ∈ v.Lines, x.Region.1.length ≤ 2000000
def bigA (a : api_Application) : Prop := a.Versions.length ≤ 1999999 ∧ ∀ v ∈ a.Versions, bigV v
end PL

def pamend_P (a : api_Application) (v : api_Version) (o : Int) (la : Int) (e : Int) (post : api_Application → Int → Prop) : Prop := (bigA a ∧ bigV v) ∧ post ((amendS a v o la e).1) ((amendS a v o la e).2)
def pamend_sp : Spec := ⟨18, false, true, [.st .api_Application, .st .api_Version, .int .i64, .int .i64, .int .i64], .tup [.dat (.st .api_Application), .dat (.int .i64)], fun x post => pamend_P (x.1 : api_Application) (x.2.1 : api_Version) (x.2.2.1 : Int) (x.2.2.2.1 : Int) (x.2.2.2.2.1 : Int) (fun y0 y1 => post (y0, y1, ()))⟩
def pamend_C : CtxR := ⟨tau, [rule1 pcheck_sp, rule1 pwholeO_sp, rule1 pcopied_sp], lookJ [(0, 1000005, ⟨[], [(4, [.dat (.int .i64), .dat (.int .i64), .own 31 (.st .api_Version)])], [27, 28, 29, 30, 31, 32, 33], [3], []⟩)]⟩
def pamend_W (a : api_Application) (v : api_Version) (o : Int) (la : Int) (e : Int) (post : api_Application → Int → Prop) : Prop := True ∧ IFB (!decide (chkS { Farm := a.1, Year := a.2, Versions := a.3 : api_Application } o la e = (0 : Int))) ((a.3.length ≤ (2000000 : Nat) ∧ ∀ (v1 : api_Version), v1 ∈ a.3 → v1.2.length ≤ (2000000 : Nat) ∧ ∀ (v2 : api_Line), v2 ∈ v1.2 → v2.2.1.length ≤ (2000000 : Nat)) ∧ post { Farm := a.1, Year := a.2, Versions := a.3 : api_Application } (chkS { Farm := a.1, Year := a.2, Versions := a.3 : api_Application } o la e)) ((a.3.length ≤ (2000000 : Nat) ∧ ∀ (v3 : api_Version), v3 ∈ a.3 → v3.2.length ≤ (2000000 : Nat) ∧ ∀ (v4 : api_Line), v4 ∈ v3.2 → v4.2.1.length ≤ (2000000 : Nat)) ∧ JOIN [Ty.int IntKind.i64, Ty.int IntKind.i64, (Ty.st Sn.api_Version).sl] (fun (y5 y6 : Int) (y7 : List api_Version) ↦ True ∧ IFB (!decide (chkS { Farm := y5, Year := y6, Versions := y7 : api_Application } o la e = (0 : Int))) ((a.3.length ≤ (2000000 : Nat) ∧ ∀ (v8 : api_Version), v8 ∈ a.3 → v8.2.length ≤ (2000000 : Nat) ∧ ∀ (v9 : api_Line), v9 ∈ v8.2 → v9.2.1.length ≤ (2000000 : Nat)) ∧ post { Farm := a.1, Year := a.2, Versions := a.3 : api_Application } (chkS { Farm := y5, Year := y6, Versions := y7 : api_Application } o la e)) (post { Farm := y5, Year := y6, Versions := y7 : api_Application } (0 : Int))) fun (J10 : Int → Int → List api_Version → Prop) ↦ (v.2.length ≤ (2000000 : Nat) ∧ ∀ (v11 : api_Line), v11 ∈ v.2 → v11.2.1.length ≤ (2000000 : Nat)) ∧ (a.3.length + [{ Day := v.1, Lines := v.2 : api_Version }].length) * (32 : Nat) ≤ (140737488355328 : Nat) ∧ J10 a.1 a.2 (a.3 ++ [{ Day := v.1, Lines := v.2 : api_Version }]))
theorem pamend_w (a : api_Application) (v : api_Version) (o : Int) (la : Int) (e : Int) (post : dens (shT pamend_sp.rs []) → Prop) : pamend_W a v o la e (fun y0 y1 => post (y0, y1, ())) = walkG (callR Tryz.prog pamend_C (drawR Tryz.prog tau) 8 0) 18 false [tv (.st .api_Application) a, tv (.st .api_Version) v, tv (.int .i64) o, tv (.int .i64) la, tv (.int .i64) e] pamend_sp.rs post := by kernel_rfl
theorem pamend_of (h : ∀ (a : api_Application) (v : api_Version) (o : Int) (la : Int) (e : Int) (post : api_Application → Int → Prop), pamend_P a v o la e post → pamend_W a v o la e post) : SpecOK Tryz.prog pamend_sp := SpecOK.of_rules (C := pamend_C) (dr := drawR Tryz.prog tau) (n := 8) (fk := 0) (.cons (rule1_ok pcheck_ok) (.cons (rule1_ok pwholeO_ok) (.cons (rule1_ok pcopied_ok) .nil))) (drawR_ok tau) fun x post hp => HoldW.of (pamend_w x.1 x.2.1 x.2.2.1 x.2.2.2.1 x.2.2.2.2.1 post) (h x.1 x.2.1 x.2.2.1 x.2.2.2.1 x.2.2.2.2.1 (fun y0 y1 => post (y0, y1, ())) hp)
theorem pamend_ok : SpecOK Tryz.prog pamend_sp := pamend_of fun a v o la e post hp => by
  obtain ⟨⟨⟨ha1, ha2⟩, hv1, hv2⟩, hp⟩ := hp
  obtain ⟨f, y, l⟩ := a
  obtain ⟨d, m⟩ := v
  unfold amendS moreV at hp
  unfold pamend_W
  dsimp only at hp ha1 ha2 hv1 hv2 ⊢
  have hA : l.length ≤ 2000000 ∧ ∀ v ∈ l, v.2.length ≤ 2000000 ∧ ∀ x ∈ v.2, x.2.1.length ≤ 2000000 := ⟨by omega, fun v hv => ha2 v hv⟩
  refine ⟨trivial, IFB.mk (fun hb => ⟨hA, ?_⟩) (fun hb => ⟨hA, ?_⟩)⟩
  · have hb : chkS ⟨f, y, l⟩ o la e ≠ 0 := by simpa using hb
    rw [if_pos hb] at hp
    exact hp
  · have hb : ¬ (chkS ⟨f, y, l⟩ o la e ≠ 0) := by simpa using hb
    rw [if_neg hb] at hp
    refine JOIN.opq fun (J10 : Int → Int → List api_Version → Prop) hJ10 => ⟨⟨hv1, hv2⟩, by simp only [List.length_cons, List.length_nil]; omega, ?_⟩
    rw [hJ10]
    dsimp only
    refine ⟨trivial, IFB.mk (fun hb => ⟨hA, ?_⟩) (fun hb => ?_)⟩
    · have hb : chkS ⟨f, y, l ++ [⟨d, m⟩]⟩ o la e ≠ 0 := by simpa using hb
      rw [if_pos hb] at hp
      exact hp
    · have hb : ¬ (chkS ⟨f, y, l ++ [⟨d, m⟩]⟩ o la e ≠ 0) := by simpa using hb
      rw [if_neg hb] at hp
      exact hp

def pcheckV_P (a : api_Application) (o : Int) (la : Int) (e : Int) (post : Int → Prop) : Prop := ∀ q : Int, q = chkS a o la e → post q
def pcheckV_sp : Spec := ⟨23, false, false, [.st .api_Application, .int .i64, .int .i64, .int .i64], .dat (.int .i64), fun x post => pcheckV_P (x.1 : api_Application) (x.2.1 : Int) (x.2.2.1 : Int) (x.2.2.2.1 : Int) (fun y0 => post (y0, ()))⟩
theorem pcheckV_ok : SpecOK Tryz.prog pcheckV_sp := fun x post hp => pcheck_ok x post (by
  exact ⟨trivial, hp _ rfl⟩)
def pamendV_P (a : api_Application) (v : api_Version) (o : Int) (la : Int) (e : Int) (post : api_Application → Int → Prop) : Prop := (bigA a ∧ bigV v) ∧ ∀ (b : api_Application) (q : Int), (b, q) = amendS a v o la e → post b q
def pamendV_sp : Spec := ⟨18, false, true, [.st .api_Application, .st .api_Version, .int .i64, .int .i64, .int .i64], .tup [.dat (.st .api_Application), .dat (.int .i64)], fun x post => pamendV_P (x.1 : api_Application) (x.2.1 : api_Version) (x.2.2.1 : Int) (x.2.2.2.1 : Int) (x.2.2.2.2.1 : Int) (fun y0 y1 => post (y0, y1, ()))⟩
theorem pamendV_ok : SpecOK Tryz.prog pamendV_sp := fun x post hp => pamend_ok x post (by
  exact ⟨hp.1, hp.2 _ _ rfl⟩)
def pawake_P  (post : Bool → Prop) : Prop := (True) ∧ post (true)
def pawake_sp : Spec := ⟨20, false, false, [], .dat (.bool), fun x post => pawake_P  (fun y0 => post (y0, ()))⟩
def pawake_C : CtxR := ⟨tau, [rule1 pamendV_sp, rule1 pcheckV_sp], lookJ []⟩
def pawake_W  (post : Bool → Prop) : Prop := ((Nat.le ((1 : Nat)) ((1999999 : Nat)) ∧ ∀ (v1 : api_Version), v1 ∈ [{ Day := (90 : Int), Lines := [] : api_Version }] → v1.2.length ≤ (2000000 : Nat) ∧ ∀ (v2 : api_Line), v2 ∈ v1.2 → v2.2.1.length ≤ (2000000 : Nat)) ∧ Nat.le ((1 : Nat)) ((2000000 : Nat)) ∧ ∀ (v3 : api_Line), v3 ∈ [{ Parcel := (1 : Int), Region := { Rects := [{ Left := (0 : Int), Low := (0 : Int), Right := (1 : Int), High := (1 : Int) : api_Rect }] : api_Region }, Crop := (0 : Int), Schemes := (1 : Int) : api_Line }] → v3.2.1.length ≤ (2000000 : Nat)) ∧ ∀ (v4 : api_Application) (v5 : Int), (v4, v5) = amendS { Farm := (1 : Int), Year := (0 : Int), Versions := [{ Day := (90 : Int), Lines := [] : api_Version }] : api_Application } { Day := (101 : Int), Lines := [{ Parcel := (1 : Int), Region := { Rects := [{ Left := (0 : Int), Low := (0 : Int), Right := (1 : Int), High := (1 : Int) : api_Rect }] : api_Region }, Crop := (0 : Int), Schemes := (1 : Int) : api_Line }] : api_Version } (0 : Int) (100 : Int) (120 : Int) → ((Nat.le ((1 : Nat)) ((1999999 : Nat)) ∧ ∀ (v6 : api_Version), v6 ∈ [{ Day := (90 : Int), Lines := [] : api_Version }] → v6.2.length ≤ (2000000 : Nat) ∧ ∀ (v7 : api_Line), v7 ∈ v6.2 → v7.2.1.length ≤ (2000000 : Nat)) ∧ Nat.le ((0 : Nat)) ((2000000 : Nat)) ∧ ∀ (v8 : api_Line), v8 ∈ [] → v8.2.1.length ≤ (2000000 : Nat)) ∧ ∀ (v9 : api_Application) (v10 : Int), (v9, v10) = amendS { Farm := (1 : Int), Year := (0 : Int), Versions := [{ Day := (90 : Int), Lines := [] : api_Version }] : api_Application } { Day := (101 : Int), Lines := [] : api_Version } (0 : Int) (100 : Int) (120 : Int) → ∀ (v11 : Int), v11 = chkS { Farm := (1 : Int), Year := (0 : Int), Versions := [{ Day := (90 : Int), Lines := [] : api_Version }] : api_Application } (0 : Int) (100 : Int) (120 : Int) → (gx true (decide (v11 = (0 : Int)) && decide (v5 = (22 : Int)) && decide (v10 = (0 : Int))) = true → (↑v9.3.length : Int) ≤ (9223372036854775807 : Int)) → post (decide (v11 = (0 : Int)) && decide (v5 = (22 : Int)) && decide (v10 = (0 : Int)) && decide ((↑v9.3.length : Int) = (2 : Int)))
theorem pawake_w  (post : dens (shT pawake_sp.rs []) → Prop) : pawake_W  (fun y0 => post (y0, ())) = walkG (callR Tryz.prog pawake_C (drawR Tryz.prog tau) 8 0) 20 false [] pawake_sp.rs post := by kernel_rfl
theorem pawake_of (h : ∀  (post : Bool → Prop), pawake_P  post → pawake_W  post) : SpecOK Tryz.prog pawake_sp := SpecOK.of_rules (C := pawake_C) (dr := drawR Tryz.prog tau) (n := 8) (fk := 0) (.cons (rule1_ok pamendV_ok) (.cons (rule1_ok pcheckV_ok) .nil)) (drawR_ok tau) fun x post hp => HoldW.of (pawake_w  post) (h  (fun y0 => post (y0, ())) hp)
theorem lines_nil : linesV [] := fun x hx => by cases hx
theorem red_nil {p : api_Version} {d : Int} : reducesP p ⟨d, []⟩ := fun x hx => by cases hx
theorem valid_one {r : api_Rect} (h : proper r) : validP [r] := ⟨by simp, fun q hq => by rw [List.mem_singleton] at hq; subst hq; exact h, canon_one h⟩
theorem awake_lit : chkS ⟨1, 0, [⟨90, []⟩]⟩ 0 100 120 = 0 := by
  simp [chkS, firstE, chkAt, chk1, prevV, ix, lines_nil]
theorem awake_lit2 : chkS ⟨1, 0, [⟨90, []⟩] ++ [⟨101, [⟨1, ⟨[⟨0, 0, 1, 1⟩]⟩, 0, 1⟩]⟩]⟩ 0 100 120 = 22 := by
  have h : linesV [⟨1, ⟨[⟨0, 0, 1, 1⟩]⟩, 0, 1⟩] := fun x hx => by
    rw [List.mem_singleton] at hx; subst hx; exact valid_one (by unfold proper; simp)
  have h2 : ¬ reducesP ⟨90, []⟩ ⟨101, [⟨1, ⟨[⟨0, 0, 1, 1⟩]⟩, 0, 1⟩]⟩ := fun h => by
    obtain ⟨y, hy, _⟩ := h _ (List.mem_singleton.2 rfl)
    cases hy
  simp [chkS, firstE, chkAt, chk1, prevV, ix, lines_nil, h, h2]
theorem awake_lit3 : chkS ⟨1, 0, [⟨90, []⟩] ++ [⟨101, []⟩]⟩ 0 100 120 = 0 := by
  simp [chkS, firstE, chkAt, chk1, prevV, ix, lines_nil, red_nil]
theorem amend_no {a : api_Application} {v : api_Version} {o la e c : Int} (h1 : chkS a o la e = 0) (h2 : chkS (moreV a v) o la e = c) (h3 : c ≠ 0) : amendS a v o la e = (a, c) := by
  unfold amendS
  rw [if_neg (by simp [h1]), if_pos (by rw [h2]; exact h3), h2]
theorem amend_yes {a : api_Application} {v : api_Version} {o la e : Int} (h1 : chkS a o la e = 0) (h2 : chkS (moreV a v) o la e = 0) : amendS a v o la e = (moreV a v, 0) := by
  unfold amendS
  rw [if_neg (by simp [h1]), if_neg (by simp [h2])]
theorem pawake_ok : SpecOK Tryz.prog pawake_sp := pawake_of fun post hp => by
  obtain ⟨_, hp⟩ := hp
  unfold pawake_W
  have ha : Nat.le 1 1999999 ∧ ∀ v1 : api_Version, v1 ∈ [(⟨90, []⟩ : api_Version)] → v1.2.length ≤ 2000000 ∧ ∀ v2 : api_Line, v2 ∈ v1.2 → v2.2.1.length ≤ 2000000 := by
    refine ⟨(by omega : 1 ≤ 1999999), fun v hv => ?_⟩
    rw [List.mem_singleton] at hv; subst hv
    exact ⟨by simp, fun x hx => by cases hx⟩
  refine ⟨⟨ha, (by omega : 1 ≤ 2000000), fun x hx => ?_⟩, fun b q h1 => ⟨⟨ha, (by omega : 0 ≤ 2000000), fun x hx => by cases hx⟩, fun b2 q2 h2 q3 h3 _ => ?_⟩⟩
  · rw [List.mem_singleton] at hx; subst hx; simp
  · rw [amend_no (c := 22) awake_lit awake_lit2 (by decide)] at h1
    rw [amend_yes awake_lit awake_lit3] at h2
    rw [awake_lit] at h3
    injection h1 with h1 h1'
    injection h2 with h2 h2'
    subst h1' h2 h2' h3
    exact hp

end RE
end Go.Proofs.YtfbfknmnkcddpaaGreat
set_option linter.unusedVariables false
set_option maxRecDepth 100000
namespace Go.Proofs.YtfbfknmnkcddpaaGreat
open Go.RowKit
namespace RE
open PL
theorem wrap_zero {n : Nat} (h : n < 18446744073709551616) (hw : IntKind.i64.wrap (n : Int) = 0) : n = 0 := by
  have hm : (n : Int) % 18446744073709551616 = n := Int.emod_eq_of_lt (by omega) (by omega)
  unfold IntKind.wrap at hw
  have e : (2 ^ IntKind.i64.bits : Int) = 18446744073709551616 := by decide
  have e2 : (2 ^ (IntKind.i64.bits - 1) : Int) = 9223372036854775808 := by decide
  rw [e, e2, hm] at hw
  dsimp only at hw
  split at hw <;> omega
def sub64 (a b : Nat) : Prop := ∀ i, i < 64 → a.testBit i = true → b.testBit i = true
theorem bits_iff {a b : Nat} (ha : a < 18446744073709551616) (hb : b < 18446744073709551616) : IntKind.i64.wrap ((a &&& (18446744073709551615 ^^^ b) : Nat) : Int) = 0 ↔ sub64 a b := by
  have hlt : a &&& (18446744073709551615 ^^^ b) < 18446744073709551616 := Nat.lt_of_le_of_lt Nat.and_le_left ha
  have key : (a &&& (18446744073709551615 ^^^ b)) = 0 ↔ sub64 a b := by
    constructor
    · intro h i hi hai
      have := congrArg (fun n => n.testBit i) h
      simp only [Nat.testBit_and, Nat.testBit_xor, Nat.zero_testBit] at this
      have hm : Nat.testBit 18446744073709551615 i = true := by
        have : (18446744073709551615 : Nat) = 2 ^ 64 - 1 := by decide
        rw [this, Nat.testBit_two_pow_sub_one]; simpa using hi
      rw [hm, hai] at this
      simpa using this
    · intro h
      apply Nat.eq_of_testBit_eq
      intro i
      simp only [Nat.testBit_and, Nat.testBit_xor, Nat.zero_testBit]
      by_cases hi : i < 64
      · have hm : Nat.testBit 18446744073709551615 i = true := by
          have : (18446744073709551615 : Nat) = 2 ^ 64 - 1 := by decide
          rw [this, Nat.testBit_two_pow_sub_one]; simpa using hi
        rw [hm]
        cases hai : a.testBit i with
        | false => rfl
        | true => rw [h i hi hai]; rfl
      · have : a.testBit i = false := Nat.testBit_lt_two_pow (Nat.lt_of_lt_of_le ha (by
          have : (18446744073709551616 : Nat) = 2 ^ 64 := by decide
          rw [this]; exact Nat.pow_le_pow_right (by decide) (by omega)))
        rw [this]; rfl
  constructor
  · intro h; exact key.1 (wrap_zero hlt h)
  · intro h; rw [key.2 h]; rfl
def bitsOf (z : Int) : Nat := (z % 18446744073709551616).toNat
theorem bitsOf_lt (z : Int) : bitsOf z < 18446744073709551616 := by unfold bitsOf; omega
theorem lessB_iff {x y : api_Line} : lessB x y = true ↔ x.1 = y.1 ∧ x.3 = y.3 ∧ sub64 (bitsOf x.4) (bitsOf y.4) := by
  rw [← bits_iff (bitsOf_lt _) (bitsOf_lt _)]
  unfold lessB
  rw [Bool.and_eq_true, Bool.and_eq_true, decide_eq_true_eq, decide_eq_true_eq, decide_eq_true_eq, and_assoc]
  exact Iff.rfl
theorem lessL_refl {x : api_Line} (h : validP x.Region.1) : lessL x x := ⟨lessB_iff.2 ⟨rfl, rfl, fun i _ h => h⟩, h, h, fun _ _ h => h⟩
theorem lessL_trans {x y z : api_Line} (h : lessL x y) (k : lessL y z) : lessL x z := by
  obtain ⟨h1, h2, h3, h4⟩ := h
  obtain ⟨k1, k2, k3, k4⟩ := k
  obtain ⟨a1, a2, a3⟩ := lessB_iff.1 h1
  obtain ⟨b1, b2, b3⟩ := lessB_iff.1 k1
  exact ⟨lessB_iff.2 ⟨a1.trans b1, a2.trans b2, fun i hi h => b3 i hi (a3 i hi h)⟩, h2, k3, fun p q h => k4 p q (h4 p q h)⟩
theorem reduces_refl {v : api_Version} (h : linesV v.Lines) : reducesP v v := fun x hx => ⟨x, hx, lessL_refl (h x hx)⟩
theorem reduces_trans {u v w : api_Version} (h : reducesP u v) (k : reducesP v w) : reducesP u w := fun x hx => by
  obtain ⟨y, hy, h1⟩ := k x hx
  obtain ⟨z, hz, h2⟩ := h y hy
  exact ⟨z, hz, lessL_trans h1 h2⟩
theorem linesOK_V {l : List api_Line} (h : linesOK l) : linesV l := fun x hx => by
  obtain ⟨p, h0, h1, h2⟩ := h x hx
  exact boxed_valid h0 h1 h2
end RE
end Go.Proofs.YtfbfknmnkcddpaaGreat
