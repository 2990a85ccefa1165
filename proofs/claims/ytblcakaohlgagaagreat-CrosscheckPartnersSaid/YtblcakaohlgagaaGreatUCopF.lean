/-
  Chapter 22: the tape makes versions and yields.
-/
import Derived.Test.YtblcakaohlgagaaGreatUCopE
import Derived.Test.YtblcakaohlgagaaGreatUTape
import Derived.Test.YtblcakaohlgagaaGreatUReg
set_option maxRecDepth 100000
set_option linter.unusedVariables false
namespace Go.Proofs.YtblcakaohlgagaaGreat
open Go.RowKit
namespace RE
open PL

namespace PL
/-- Versions as the tape makes them. -/
def madeV (n : Int) (v : List api_Version) : Prop := 1 ≤ v.length ∧ (v.length : Int) ≤ n ∧ ∀ x ∈ v, linesOK x.Lines ∧ x.Lines.length ≤ 2
end PL

def kvers_P (cs : List (api_Crop)) (n : Int) (post : List (api_Version) → Prop) : Prop := (1 ≤ cs.length ∧ cs.length ≤ 1000 ∧ 1 ≤ n ∧ n ≤ 10) ∧ ∀ v : List api_Version, madeV n v → post v
def kvers_sp : Spec := ⟨11, true, true, [.sl (.st .api_Crop), .int .i64], .dat (.sl (.st .api_Version)), fun x post => kvers_P (x.1 : List (api_Crop)) (x.2.1 : Int) (fun y0 => post (y0, ()))⟩
def kvers_C : CtxR := ⟨tau, [rule1 knext_sp, rule1 krange_sp, rule1 klines_sp], lookJ [(0, 7, ⟨[(8, .dat (.int .i64)), (7, .own 38 (.st .api_Version))], [], [15, 16, 20, 21, 22, 19, 23, 24, 25, 9, 10, 11, 26, 27, 28, 29, 30, 31, 32, 17, 18], [], []⟩)]⟩
def kvers_W (cs : List (api_Crop)) (n : Int) (post : List (api_Version) → Prop) : Prop := ((-1099511627776 : Int) ≤ (1 : Int) ∧ (1 : Int) ≤ (1099511627776 : Int) ∧ (-1099511627776 : Int) ≤ n ∧ n ≤ (1099511627776 : Int)) ∧ ∀ (v1 : Int), (1 : Int) ≤ v1 → v1 ≤ n ∨ v1 = (1 : Int) → LOOP [Ty.int IntKind.i64, (Ty.st Sn.api_Version).sl] (fun (rec2 : Int → List api_Version → Prop) (z3 : Int) (z4 : List api_Version) ↦ IFB (decide ((0 : Int) < z3)) (((1 : Nat) ≤ cs.length ∧ cs.length ≤ (1000 : Nat) ∧ (0 : Int) ≤ (2 : Int) ∧ (2 : Int) ≤ (10 : Int)) ∧ ∀ (v5 : List api_Line) (v6 : List Int) (v7 : List api_Region), linesOK v5 ∧ (↑v5.length : Int) ≤ (2 : Int) → Int.NonNeg (9223372036854775777 : Int) ∧ ∀ (v8 : Int), (0 : Int) ≤ v8 → v8 < (30 : Int) ∨ v8 = (0 : Int) → (z4.length + [{ Day := v8, Lines := v5 : api_Version }].length) * (32 : Nat) ≤ (140737488355328 : Nat) ∧ rec2 (IntKind.i64.wrap (z3 - (1 : Int))) (z4 ++ [{ Day := v8, Lines := v5 : api_Version }])) (post z4)) (v1, [], PUnit.unit)
theorem kvers_w (cs : List (api_Crop)) (n : Int) (post : dens (shT kvers_sp.rs []) → Prop) : kvers_W cs n (fun y0 => post (y0, ())) = walkG (callR Tryz.prog kvers_C (drawR Tryz.prog tau) 8 0) 11 true [tv (.sl (.st .api_Crop)) cs, tv (.int .i64) n] kvers_sp.rs post := by kernel_rfl
theorem kvers_of (h : ∀ (cs : List (api_Crop)) (n : Int) (post : List (api_Version) → Prop), kvers_P cs n post → kvers_W cs n post) : SpecOK Tryz.prog kvers_sp := SpecOK.of_rules (C := kvers_C) (dr := drawR Tryz.prog tau) (n := 8) (fk := 0) (.cons (rule1_ok knext_ok) (.cons (rule1_ok krange_ok) (.cons (rule1_ok klines_ok) .nil))) (drawR_ok tau) fun x post hp => HoldW.of (kvers_w x.1 x.2.1 post) (h x.1 x.2.1 (fun y0 => post (y0, ())) hp)
def kveI (v1 z : Int) (b : List api_Version) : Prop := 0 ≤ z ∧ z + (b.length : Int) = v1 ∧ ∀ x ∈ b, linesOK x.Lines ∧ x.Lines.length ≤ 2
theorem kvers_ok : SpecOK Tryz.prog kvers_sp := kvers_of fun cs n post hp => by
  obtain ⟨⟨h1, h2, h3, h4⟩, hp⟩ := hp
  unfold kvers_W
  refine ⟨⟨by omega, by omega, by omega, by omega⟩, fun v1 a1 b1 => ?_⟩
  refine LOOP.fuel (fun u => kveI v1 u.1 u.2.1) (fun u => Int.toNat u.1) ⟨by show 0 ≤ v1; omega, by show v1 + (([] : List api_Version).length : Int) = v1; simp only [List.length_nil]; omega, fun x hx => (by cases hx)⟩ ?_
  rintro rec ⟨(z : Int), (b : List api_Version), ⟨⟩⟩ ⟨i1, i2, i3⟩ hrec
  have i1 : 0 ≤ z := i1
  have i2 : z + (b.length : Int) = v1 := i2
  have i3 : ∀ x ∈ b, linesOK x.Lines ∧ x.Lines.length ≤ 2 := i3
  refine IFB.mk (fun hb => ?_) (fun hb => ?_)
  · have hb : 0 < z := of_decide_eq_true hb
    refine ⟨⟨h1, h2, by omega, by omega⟩, fun v5 v6 v7 hv => ⟨Int.NonNeg.mk _, fun v8 a8 b8 => ⟨by simp only [List.length_cons, List.length_nil]; omega, ?_⟩⟩⟩
    rw [wrap_in (by omega) (by omega)]
    have hlen : (List.length (b ++ [(⟨v8, v5⟩ : api_Version)]) : Int) = (b.length : Int) + 1 := by simp
    refine hrec (z - 1, _, ()) ⟨by show 0 ≤ z - 1; omega, ?_, fun x hx => ?_⟩ (by show (z - 1).toNat < z.toNat; omega)
    · show z - 1 + (List.length (b ++ [(⟨v8, v5⟩ : api_Version)]) : Int) = v1
      omega
    · have hx : x ∈ b ++ [(⟨v8, v5⟩ : api_Version)] := hx
      rcases List.mem_append.1 hx with hx | hx
      · exact i3 x hx
      · rw [List.mem_singleton] at hx; subst hx
        exact ⟨hv.1, by have := hv.2; show v5.length ≤ 2; omega⟩
  · have hb : ¬ 0 < z := of_decide_eq_false hb
    exact hp b ⟨by omega, by omega, i3⟩

end RE
end Go.Proofs.YtblcakaohlgagaaGreat
set_option maxRecDepth 100000
set_option linter.unusedVariables false
namespace Go.Proofs.YtblcakaohlgagaaGreat
open Go.RowKit
namespace RE
open PL

namespace PL
def meetP (a b : List Rc) : Prop := validP a ∧ validP b ∧ ∃ x y, cov a x y = true ∧ cov b x y = true
end PL

def rmeet_P (a : api_Region) (b : api_Region) (post : Bool → Prop) : Prop := ∀ q : Bool, (q = true ↔ meetP a.1 b.1) → post q
def rmeet_sp : Spec := ⟨15, false, false, [.st .api_Region, .st .api_Region], .dat (.bool), fun x post => rmeet_P (x.1 : api_Region) (x.2.1 : api_Region) (fun y0 => post (y0, ()))⟩
def rmeet_C : CtxR := ⟨tau, [rule1 rval_sp, rule1 rcomb_sp], lookJ []⟩
def rmeet_W (a : api_Region) (b : api_Region) (post : Bool → Prop) : Prop := ∀ (v1 : Bool), (v1 = true ↔ validP a.1) → JOIN [Ty.bool] (fun (y2 : Bool) ↦ JOIN [(Ty.st Sn.api_Rect).sl] (fun (y3 : List api_Rect) ↦ (gx true (v1 && y2) = true → (↑y3.length : Int) ≤ (9223372036854775807 : Int)) → post (v1 && y2 && decide ((0 : Int) < (↑y3.length : Int)))) fun (J4 : List api_Rect → Prop) ↦ IFB (gx true (v1 && y2)) ((a.1.length ≤ (1000 : Nat) ∧ b.1.length ≤ (1000 : Nat)) ∧ J4 (canonF fun (x y : Int) ↦ howS (2 : Int) (cov a.1 x y) (cov b.1 x y))) (J4 [])) fun (J5 : Bool → Prop) ↦ IFB (gx true v1) (∀ (v6 : Bool), (v6 = true ↔ validP b.1) → J5 v6) (J5 false)
theorem rmeet_w (a : api_Region) (b : api_Region) (post : dens (shT rmeet_sp.rs []) → Prop) : rmeet_W a b (fun y0 => post (y0, ())) = walkG (callR Tryz.prog rmeet_C (drawR Tryz.prog tau) 6 0) 15 false [tv (.st .api_Region) a, tv (.st .api_Region) b] rmeet_sp.rs post := by kernel_rfl
theorem rmeet_of (h : ∀ (a : api_Region) (b : api_Region) (post : Bool → Prop), rmeet_P a b post → rmeet_W a b post) : SpecOK Tryz.prog rmeet_sp := SpecOK.of_rules (C := rmeet_C) (dr := drawR Tryz.prog tau) (n := 6) (fk := 0) (.cons (rule1_ok rval_ok) (.cons (rule1_ok rcomb_ok) .nil)) (drawR_ok tau) fun x post hp => HoldW.of (rmeet_w x.1 x.2.1 post) (h x.1 x.2.1 (fun y0 => post (y0, ())) hp)
theorem and_some {a b : List Rc} : (0 : Int) < ((andC a b).length : Int) ↔ ∃ x y, cov a x y = true ∧ cov b x y = true := by
  constructor
  · intro h
    obtain ⟨x, y, hc⟩ := canon_some (can_and a b) (fun e => by rw [e] at h; exact absurd h (by decide))
    exact ⟨x, y, cov_and.1 hc⟩
  · rintro ⟨x, y, hc⟩
    have := cov_and.2 hc
    cases h : andC a b with
    | nil => rw [h, cov_nil] at this; cases this
    | cons r t => simp only [List.length_cons]; omega
theorem rmeet_ok : SpecOK Tryz.prog rmeet_sp := rmeet_of fun a b post hp => by
  obtain ⟨l⟩ := a
  obtain ⟨m⟩ := b
  unfold rmeet_P at hp
  unfold rmeet_W
  dsimp only at hp ⊢
  intro v1 h1
  refine JOIN.opq fun (J : Bool → Prop) hJ => ?_
  have main : ∀ y2 : Bool, ((v1 && y2) = true ↔ validP l ∧ validP m) → J y2 := fun y2 h2 => by
    rw [hJ]
    dsimp only
    refine JOIN.opq fun (K : List Rc → Prop) hK => ?_
    refine IFB.mk (fun hb => ?_) (fun hb => ?_)
    · have hb : (v1 && y2) = true := hb
      have hv := h2.1 hb
      refine ⟨⟨by have := hv.1.1; omega, by have := hv.2.1; omega⟩, ?_⟩
      rw [hK]
      refine fun _ => hp _ ?_
      rw [hb, Bool.true_and, decide_eq_true_iff]
      have := and_some (a := l) (b := m)
      exact ⟨fun h => ⟨hv.1, hv.2, this.1 h⟩, fun h => this.2 h.2.2⟩
    · have hb : (v1 && y2) = false := hb
      rw [hK]
      refine fun _ => hp _ ?_
      rw [hb, Bool.false_and]
      exact ⟨fun h => (by cases h), fun h => (by have := h2.2 ⟨h.1, h.2.1⟩; rw [hb] at this; cases this)⟩
  refine IFB.mk (fun hb v6 h6 => main v6 ?_) (fun hb => main false ?_)
  · have hb : v1 = true := hb
    rw [Bool.and_eq_true, h1, h6]
  · have hb : v1 = false := hb
    rw [Bool.and_false]
    exact ⟨fun h => (by cases h), fun h => (by have := h1.2 h.1; rw [hb] at this; cases this)⟩

end RE
end Go.Proofs.YtblcakaohlgagaaGreat
set_option linter.unusedVariables false
set_option maxRecDepth 100000
namespace Go.Proofs.YtblcakaohlgagaaGreat
open Go.RowKit
namespace RE
open PL
namespace PL
def rcA : Rc := ⟨0, 0, 2, 1⟩
def rcB : Rc := ⟨1, 0, 3, 1⟩
def rcC : Rc := ⟨1, 0, 2, 1⟩
def rcD : Rc := ⟨0, 0, 1, 1⟩
def lnOf (r : Rc) : api_Version := ⟨0, [⟨0, ⟨[r]⟩, 0, 0⟩]⟩
def exV : List api_Version := [lnOf rcA, lnOf rcB]
def exW : List api_Version := [lnOf rcD, lnOf rcB]
def exY : List api_Yield := [⟨⟨0, 0⟩, ⟨[rcC]⟩⟩]
end PL
theorem cov_one (r : Rc) (x y : Int) : cov [r] x y = true ↔ r.Left ≤ x ∧ x < r.Right ∧ r.Low ≤ y ∧ y < r.High := by
  rw [cov_iff]
  constructor
  · rintro ⟨q, hq, h⟩; rw [List.mem_singleton] at hq; subst hq; exact h
  · intro h; exact ⟨r, by simp, h⟩
theorem rcA_p : proper rcA := by unfold proper rcA; decide
theorem rcB_p : proper rcB := by unfold proper rcB; decide
theorem rcC_p : proper rcC := by unfold proper rcC; decide
theorem rcD_p : proper rcD := by unfold proper rcD; decide
theorem one_valid {r : Rc} (h : proper r) : validP [r] := ⟨by simp, fun q hq => by rw [List.mem_singleton] at hq; subst hq; exact h, canon_one h⟩
theorem two_lin (a b : Rc) : linV [lnOf a, lnOf b] = [⟨⟨0, 0⟩, [a]⟩, ⟨⟨1, 0⟩, [b]⟩] := rfl
theorem two_okS {a b : Rc} (ha : proper a) (hb : proper b) (ha2 : a.Right ≤ 30 ∧ a.High ≤ 10) (hb2 : b.Right ≤ 30 ∧ b.High ≤ 10) : okS [lnOf a, lnOf b] := by
  refine ⟨⟨by show 2 ≤ 1000; omega, fun v hv => ?_⟩, fun _ x hx => ?_⟩
  · rcases List.mem_cons.1 hv with rfl | hv
    · show 1 ≤ 1000; omega
    · rw [List.mem_singleton] at hv; subst hv; show 1 ≤ 1000; omega
  · rw [two_lin] at hx
    rcases List.mem_cons.1 hx with rfl | hx
    · intro r hr
      have hr : r ∈ [a] := hr
      rw [List.mem_singleton] at hr; subst hr
      obtain ⟨h1, h2, h3, h4, h5, h6⟩ := ha
      exact ⟨h1, h2, ha2.1, h4, h5, ha2.2⟩
    · rw [List.mem_singleton] at hx; subst hx
      intro r hr
      have hr : r ∈ [b] := hr
      rw [List.mem_singleton] at hr; subst hr
      obtain ⟨h1, h2, h3, h4, h5, h6⟩ := hb
      exact ⟨h1, h2, hb2.1, h4, h5, hb2.2⟩
theorem two_begin {a b : Rc} (ha : proper a) (hb : proper b) : beginF [lnOf a, lnOf b] = 0 := by
  refine begin_ok (by rw [two_lin]; show 2 ≤ 60; omega) fun x hx => ?_
  rw [two_lin] at hx
  rcases List.mem_cons.1 hx with rfl | hx
  · exact one_valid ha
  · rw [List.mem_singleton] at hx; subst hx; exact one_valid hb
theorem two_limit (a b : Rc) : limitF [lnOf a, lnOf b] = 0 := by
  refine limitF_0 fun r hr => ?_
  have e : regN [lnOf a, lnOf b] ([lnOf a, lnOf b] : List api_Version).length = [⟨[a]⟩, ⟨[b]⟩] := rfl
  rw [e] at hr
  rcases List.mem_cons.1 hr with rfl | hr
  · show [a].length ≤ 120; simp
  · rw [List.mem_singleton] at hr; subst hr; show [b].length ≤ 120; simp
theorem exV_ok : okS exV := two_okS rcA_p rcB_p (by decide) (by decide)
theorem who_two (a b : Rc) (x y : Int) : who (linV [lnOf a, lnOf b]) x y = (if cov [a] x y = true then [⟨0, 0⟩] else []) ++ (if cov [b] x y = true then [⟨1, 0⟩] else []) := by
  rw [two_lin]
  unfold who
  rw [List.filter_cons, List.filter_cons]
  by_cases h1 : cov [a] x y = true <;> by_cases h2 : cov [b] x y = true <;> simp [h1, h2]
theorem ex_dbl {ds : List Dbl} {e : Int} (h : dblR exV ds e) : ds = [⟨⟨[rcC]⟩, [⟨0, 0⟩, ⟨1, 0⟩]⟩] ∧ e = 0 := by
  rcases h with ⟨a, _, _⟩ | ⟨_, d0, h1, h2⟩
  · exact absurd (two_begin rcA_p rcB_p) a
  have hC : ∀ x y, cov [rcC] x y = true ↔ cov [rcA] x y = true ∧ cov [rcB] x y = true := fun x y => by
    rw [cov_one, cov_one, cov_one]
    show (1 ≤ x ∧ x < 2 ∧ 0 ≤ y ∧ y < 1) ↔ (0 ≤ x ∧ x < 2 ∧ 0 ≤ y ∧ y < 1) ∧ (1 ≤ x ∧ x < 3 ∧ 0 ≤ y ∧ y < 1)
    omega
  have hw : ∀ x y, 2 ≤ (who (linV exV) x y).length ↔ cov [rcC] x y = true := fun x y => by
    rw [hC, show exV = [lnOf rcA, lnOf rcB] from rfl, who_two]
    by_cases h1 : cov [rcA] x y = true <;> by_cases h2 : cov [rcB] x y = true <;> simp [h1, h2]
  have hw2 : ∀ x y, cov [rcC] x y = true → who (linV exV) x y = [⟨0, 0⟩, ⟨1, 0⟩] := fun x y h => by
    obtain ⟨h1, h2⟩ := (hC x y).1 h
    rw [show exV = [lnOf rcA, lnOf rcB] from rfl, who_two, if_pos h1, if_pos h2]; rfl
  have each : ∀ d ∈ d0, d = ⟨⟨[rcC]⟩, [⟨0, 0⟩, ⟨1, 0⟩]⟩ := fun d hd => by
    obtain ⟨c1, c2, c3, c4⟩ := dbls_each (linV_nodup exV) h1 d hd
    have sub : ∀ x y, cov d.Region.Rects x y = true → cov [rcC] x y = true := fun x y hc => (hw x y).1 (by rw [c4 x y hc]; exact c3)
    obtain ⟨x, y, hc⟩ := canon_some c1 c2
    have hcl : d.Claims = [⟨0, 0⟩, ⟨1, 0⟩] := by rw [← c4 x y hc]; exact hw2 x y (sub x y hc)
    have hre : d.Region.Rects = [rcC] := canon_uniq c1 (canon_one rcC_p) fun u v => by
      refine bool_iff ⟨sub u v, fun h => ?_⟩
      have s := sub x y hc
      rw [cov_one] at s h
      have s : 1 ≤ x ∧ x < 2 ∧ 0 ≤ y ∧ y < 1 := s
      have h : 1 ≤ u ∧ u < 2 ∧ 0 ≤ v ∧ v < 1 := h
      rw [show u = x by omega, show v = y by omega]; exact hc
    obtain ⟨⟨r⟩, c⟩ := d
    have hre : r = [rcC] := hre
    have hcl : c = [⟨0, 0⟩, ⟨1, 0⟩] := hcl
    rw [hre, hcl]
  have e0 : d0 = [⟨⟨[rcC]⟩, [⟨0, 0⟩, ⟨1, 0⟩]⟩] := by
    match d0, h1, each with
    | [], h1, _ =>
      obtain ⟨d, hd, _⟩ := dbls_all (linV_nodup exV) h1 (x := 1) (y := 0) ((hw 1 0).2 (by decide))
      cases hd
    | [d], _, each => rw [each d (by simp)]
    | d :: d' :: t, h1, each =>
      have := (List.pairwise_cons.1 h1.2).1 d' (by simp)
      rw [each d (by simp), each d' (by simp), bef_irr] at this
      cases this
  rcases h2 with ⟨h2, _, _⟩ | ⟨_, rfl, rfl⟩
  · rw [e0] at h2
    rcases h2 with h2 | ⟨d, hd, h2⟩
    · exact absurd h2 (by decide)
    · rw [List.mem_singleton] at hd; subst hd; exact absurd h2 (by decide)
  · exact ⟨e0, rfl⟩
theorem ex_not : canonF (comb (howS 3) [rcA] [rcC]) = [rcD] := canonF_eq (canon_one rcD_p) fun x y => by
  refine bool_iff ?_
  have h : comb (howS 3) [rcA] [rcC] x y = true ↔ cov [rcA] x y = true ∧ cov [rcC] x y = false := by
    unfold comb howS; simp
  rw [h, cov_one, cov_one, ← Bool.not_eq_true, cov_one]
  show (0 ≤ x ∧ x < 1 ∧ 0 ≤ y ∧ y < 1) ↔ (0 ≤ x ∧ x < 2 ∧ 0 ≤ y ∧ y < 1) ∧ ¬ (1 ≤ x ∧ x < 2 ∧ 0 ≤ y ∧ y < 1)
  omega
theorem ex_give : givS exV exY = (exW, 0) := by
  have h1 : beginF exV = 0 := two_begin rcA_p rcB_p
  have h2 : errY exV exY = 0 := by
    unfold exY
    rw [errY, if_neg (not_not_intro ?_), if_neg (not_not_intro ?_), errY]
    · exact one_valid rcC_p
    · exact (there_nat (i := 0) (j := 0)).2 ⟨by decide, by decide⟩
  have h3 : exY.foldl give1 exV = exW := by
    show give1 exV ⟨⟨0, 0⟩, ⟨[rcC]⟩⟩ = exW
    unfold give1 setAt
    have e : (ix (ix exV (0 : Int)).2 (0 : Int)).2.1 = [rcA] := rfl
    dsimp only
    rw [e, ex_not]; rfl
  unfold givS
  rw [if_neg (by simp [h1]), if_neg (by decide), if_neg (by simp [h2]), h3, if_neg (by rw [show limitF exW = 0 from two_limit rcD rcB]; simp)]
theorem ex_set {m : List api_Version} {ds : List Dbl} {e : Int} (h : setR exV exY m ds e) : m = exW ∧ ds = [] ∧ e = 0 := by
  unfold setR at h
  rw [ex_give] at h
  rcases h with ⟨h, _⟩ | ⟨_, d0, e0, h1, h2⟩
  · exact absurd rfl h
  have hw : ∀ x y, (who (linV exW) x y).length ≤ 1 := fun x y => by
    rw [show exW = [lnOf rcD, lnOf rcB] from rfl, who_two]
    have hn : ¬ (cov [rcD] x y = true ∧ cov [rcB] x y = true) := by
      rw [cov_one, cov_one]
      show ¬ ((0 ≤ x ∧ x < 1 ∧ 0 ≤ y ∧ y < 1) ∧ (1 ≤ x ∧ x < 3 ∧ 0 ≤ y ∧ y < 1))
      omega
    by_cases h1 : cov [rcD] x y = true <;> by_cases h2 : cov [rcB] x y = true <;> simp_all
  have h1 : d0 = [] ∧ e0 = 0 := by
    rcases h1 with ⟨a, _, _⟩ | ⟨_, dd, q1, q2⟩
    · exact absurd (two_begin rcD_p rcB_p) a
    have e1 : dd = [] := by
      match dd, q1 with
      | [], _ => rfl
      | d :: t, q1 =>
        obtain ⟨c1, c2, c3, c4⟩ := dbls_each (linV_nodup exW) q1 d (List.mem_cons_self ..)
        obtain ⟨x, y, hc⟩ := canon_some c1 c2
        have := hw x y
        rw [c4 x y hc] at this
        omega
    subst e1
    rcases q2 with ⟨q2, _, _⟩ | ⟨_, rfl, rfl⟩
    · rcases q2 with q2 | ⟨d, hd, _⟩
      · exact absurd q2 (by decide)
      · cases hd
    · exact ⟨rfl, rfl⟩
  obtain ⟨rfl, rfl⟩ := h1
  have e2 : setS exW [] = exW := rfl
  rw [e2] at h2
  rcases h2 with ⟨h, _⟩ | ⟨_, h, _⟩ | ⟨_, _, a, b, c⟩
  · exact absurd rfl h
  · exact absurd (two_limit rcD rcB) h
  · exact ⟨a, b, c⟩
end RE
end Go.Proofs.YtblcakaohlgagaaGreat
set_option maxRecDepth 100000
set_option linter.unusedVariables false
namespace Go.Proofs.YtblcakaohlgagaaGreat
open Go.RowKit
namespace RE
open PL

namespace PL
def sizeW (l : List Rc) : Int := l.foldl (fun n r => IntKind.i64.wrap (n + IntKind.i64.wrap (IntKind.i64.wrap (r.3 - r.1) * IntKind.i64.wrap (r.4 - r.2)))) 0
end PL

def rsize_P (l : List (api_Rect)) (post : Int → Prop) : Prop := l.length ≤ 1000000 ∧ post (sizeW l)
def rsize_sp : Spec := ⟨84, false, false, [.sl (.st .api_Rect)], .dat (.int .i64), fun x post => rsize_P (x.1 : List (api_Rect)) (fun y0 => post (y0, ()))⟩
def rsize_C : CtxR := ⟨tau, [], lookJ [(0, 7, ⟨[(8, .dat (.int .i64)), (3, .dat (.int .i64))], [], [9, 10, 11, 5, 12, 13, 14, 15, 16, 17, 18, 19, 20, 21, 22, 23, 24, 25], [], []⟩)]⟩
def rsize_W (l : List (api_Rect)) (post : Int → Prop) : Prop := (↑l.length : Int) ≤ (9223372036854775807 : Int) → LOOP [Ty.int IntKind.i64, Ty.int IntKind.i64] (fun (rec1 : Int → Int → Prop) (z2 z3 : Int) ↦ IFB (decide (z2 < (↑l.length : Int))) (((0 : Int) ≤ z2 ∧ z2 < (↑l.length : Int)) ∧ rec1 (IntKind.i64.wrap (z2 + (1 : Int))) (IntKind.i64.wrap (z3 + IntKind.i64.wrap (IntKind.i64.wrap ((ix l z2).3 - (ix l z2).1) * IntKind.i64.wrap ((ix l z2).4 - (ix l z2).2))))) (post z3)) ((0 : Int), (0 : Int), PUnit.unit)
theorem rsize_w (l : List (api_Rect)) (post : dens (shT rsize_sp.rs []) → Prop) : rsize_W l (fun y0 => post (y0, ())) = walkG (callR Tryz.prog rsize_C (drawR Tryz.prog tau) 6 0) 84 false [tv (.sl (.st .api_Rect)) l] rsize_sp.rs post := by kernel_rfl
theorem rsize_of (h : ∀ (l : List (api_Rect)) (post : Int → Prop), rsize_P l post → rsize_W l post) : SpecOK Tryz.prog rsize_sp := SpecOK.of_rules (C := rsize_C) (dr := drawR Tryz.prog tau) (n := 6) (fk := 0) .nil (drawR_ok tau) fun x post hp => HoldW.of (rsize_w x.1 post) (h x.1 (fun y0 => post (y0, ())) hp)
def rsiI (l : List Rc) (z n : Int) : Prop := ∃ k : Nat, z = (k : Int) ∧ k ≤ l.length ∧ n = sizeW (l.take k)
theorem rsize_ok : SpecOK Tryz.prog rsize_sp := rsize_of fun l post hp => by
  obtain ⟨h1, hp⟩ := hp
  unfold rsize_W
  refine fun _ => LOOP.fuel (fun u => rsiI l u.1 u.2.1) (fun u => l.length - Int.toNat u.1) ⟨0, rfl, Nat.zero_le _, rfl⟩ ?_
  rintro rec ⟨(z : Int), (n : Int), ⟨⟩⟩ ⟨k, i1, i2, i3⟩ hrec
  have i1 : z = (k : Int) := i1
  have q3 : n = sizeW (l.take k) := i3
  clear i3
  subst i1
  refine IFB.mk (fun hb => ?_) (fun hb => ?_)
  · have hb : (k : Int) < l.length := of_decide_eq_true hb
    have hk : k < l.length := by omega
    refine ⟨⟨by omega, hb⟩, ?_⟩
    rw [wrapS (by omega)]
    refine hrec (((k + 1 : Nat) : Int), _, ()) ⟨k + 1, rfl, hk, ?_⟩ (by show l.length - ((k + 1 : Nat) : Int).toNat < l.length - (k : Int).toNat; omega)
    rw [List.take_succ_eq_append_getElem hk, ← ix_lt hk]
    unfold sizeW at q3 ⊢
    rw [List.foldl_append, ← q3]; rfl
  · have hb : ¬ (k : Int) < l.length := of_decide_eq_false hb
    have hk : k = l.length := by omega
    rw [hk, List.take_length] at q3
    show post n
    rw [q3]; exact hp

def rarea_P (a : api_Region) (post : Int → Prop) : Prop := (a.1.length ≤ 1000000) ∧ ∀ n : Int, (validP a.1 → n = sizeW a.1) → post n
def rarea_sp : Spec := ⟨44, false, false, [.st .api_Region], .dat (.int .i64), fun x post => rarea_P (x.1 : api_Region) (fun y0 => post (y0, ()))⟩
def rarea_C : CtxR := ⟨tau, [rule1 rval_sp, rule1 rsize_sp], lookJ []⟩
def rarea_W (a : api_Region) (post : Int → Prop) : Prop := ∀ (v1 : Bool), (v1 = true ↔ validP a.1) → IFB (!v1) (post (0 : Int)) (a.1.length ≤ (1000000 : Nat) ∧ post (sizeW a.1))
theorem rarea_w (a : api_Region) (post : dens (shT rarea_sp.rs []) → Prop) : rarea_W a (fun y0 => post (y0, ())) = walkG (callR Tryz.prog rarea_C (drawR Tryz.prog tau) 6 0) 44 false [tv (.st .api_Region) a] rarea_sp.rs post := by kernel_rfl
theorem rarea_of (h : ∀ (a : api_Region) (post : Int → Prop), rarea_P a post → rarea_W a post) : SpecOK Tryz.prog rarea_sp := SpecOK.of_rules (C := rarea_C) (dr := drawR Tryz.prog tau) (n := 6) (fk := 0) (.cons (rule1_ok rval_ok) (.cons (rule1_ok rsize_ok) .nil)) (drawR_ok tau) fun x post hp => HoldW.of (rarea_w x.1 post) (h x.1 (fun y0 => post (y0, ())) hp)
theorem rarea_ok : SpecOK Tryz.prog rarea_sp := rarea_of fun a post hp => by
  obtain ⟨h1, hp⟩ := hp
  unfold rarea_W
  intro v hv
  refine IFB.mk (fun hb => hp 0 fun h => ?_) (fun hb => ⟨h1, hp _ fun _ => rfl⟩)
  have := hv.2 h
  rw [this] at hb; cases hb

def pawake_P  (post : Bool → Prop) : Prop := post true
def pawake_sp : Spec := ⟨17, false, false, [], .dat (.bool), fun x post => pawake_P  (fun y0 => post (y0, ()))⟩
def pawake_C : CtxR := ⟨tau, [rule1 pdbl_sp, rule1 pset_sp, rule1 rarea_sp], lookJ []⟩
def pawake_W  (post : Bool → Prop) : Prop := okD exV ∧ ∀ (v1 : List api_Double) (v2 : Int), dblR exV v1 v2 → okS exV ∧ ∀ (v3 : List api_Version) (v4 : List api_Double) (v5 : Int), setR exV exY v3 v4 v5 → (gx true (decide (v2 = (0 : Int))) = true → (↑v1.length : Int) ≤ (9223372036854775807 : Int)) → (gx true (decide (v2 = (0 : Int)) && decide ((↑v1.length : Int) = (1 : Int))) = true → Int.NonNeg (0 : Int) ∧ (0 : Int) < (↑v1.length : Int)) ∧ JOIN [Ty.int IntKind.i64] (fun (y6 : Int) ↦ (gx true (decide (v2 = (0 : Int)) && decide ((↑v1.length : Int) = (1 : Int)) && decide (y6 = (1 : Int))) = true → Int.NonNeg (0 : Int) ∧ (0 : Int) < (↑v1.length : Int)) ∧ ((gx true (decide (v2 = (0 : Int)) && decide ((↑v1.length : Int) = (1 : Int)) && decide (y6 = (1 : Int))) = true → (↑(ix v1 (0 : Int)).2.length : Int) ≤ (9223372036854775807 : Int)) → (gx true (decide (v2 = (0 : Int)) && decide ((↑v1.length : Int) = (1 : Int)) && decide (y6 = (1 : Int)) && decide ((↑(ix v1 (0 : Int)).2.length : Int) = (2 : Int)) && decide (v5 = (0 : Int))) = true → (↑v4.length : Int) ≤ (9223372036854775807 : Int)) → (gx true (decide (v2 = (0 : Int)) && decide ((↑v1.length : Int) = (1 : Int)) && decide (y6 = (1 : Int)) && decide ((↑(ix v1 (0 : Int)).2.length : Int) = (2 : Int)) && decide (v5 = (0 : Int)) && decide ((↑v4.length : Int) = (0 : Int))) = true → (↑v3.length : Int) ≤ (9223372036854775807 : Int)) → (gx true (decide (v2 = (0 : Int)) && decide ((↑v1.length : Int) = (1 : Int)) && decide (y6 = (1 : Int)) && decide ((↑(ix v1 (0 : Int)).2.length : Int) = (2 : Int)) && decide (v5 = (0 : Int)) && decide ((↑v4.length : Int) = (0 : Int)) && decide ((↑v3.length : Int) = (2 : Int))) = true → Int.NonNeg (1 : Int) ∧ (1 : Int) < (↑v3.length : Int)) ∧ ((gx true (decide (v2 = (0 : Int)) && decide ((↑v1.length : Int) = (1 : Int)) && decide (y6 = (1 : Int)) && decide ((↑(ix v1 (0 : Int)).2.length : Int) = (2 : Int)) && decide (v5 = (0 : Int)) && decide ((↑v4.length : Int) = (0 : Int)) && decide ((↑v3.length : Int) = (2 : Int))) = true → (↑(ix v3 (1 : Int)).2.length : Int) ≤ (9223372036854775807 : Int)) → (gx true (decide (v2 = (0 : Int)) && decide ((↑v1.length : Int) = (1 : Int)) && decide (y6 = (1 : Int)) && decide ((↑(ix v1 (0 : Int)).2.length : Int) = (2 : Int)) && decide (v5 = (0 : Int)) && decide ((↑v4.length : Int) = (0 : Int)) && decide ((↑v3.length : Int) = (2 : Int)) && decide ((↑(ix v3 (1 : Int)).2.length : Int) = (1 : Int))) = true → Int.NonNeg (1 : Int) ∧ (1 : Int) < (↑v3.length : Int)) ∧ (gx true (decide (v2 = (0 : Int)) && decide ((↑v1.length : Int) = (1 : Int)) && decide (y6 = (1 : Int)) && decide ((↑(ix v1 (0 : Int)).2.length : Int) = (2 : Int)) && decide (v5 = (0 : Int)) && decide ((↑v4.length : Int) = (0 : Int)) && decide ((↑v3.length : Int) = (2 : Int)) && decide ((↑(ix v3 (1 : Int)).2.length : Int) = (1 : Int))) = true → Int.NonNeg (0 : Int) ∧ (0 : Int) < (↑(ix v3 (1 : Int)).2.length : Int)) ∧ JOIN [Ty.int IntKind.i64] (fun (y7 : Int) ↦ post (decide (v2 = (0 : Int)) && decide ((↑v1.length : Int) = (1 : Int)) && decide (y6 = (1 : Int)) && decide ((↑(ix v1 (0 : Int)).2.length : Int) = (2 : Int)) && decide (v5 = (0 : Int)) && decide ((↑v4.length : Int) = (0 : Int)) && decide ((↑v3.length : Int) = (2 : Int)) && decide ((↑(ix v3 (1 : Int)).2.length : Int) = (1 : Int)) && decide (y7 = (2 : Int)))) fun (J8 : Int → Prop) ↦ IFB (gx true (decide (v2 = (0 : Int)) && decide ((↑v1.length : Int) = (1 : Int)) && decide (y6 = (1 : Int)) && decide ((↑(ix v1 (0 : Int)).2.length : Int) = (2 : Int)) && decide (v5 = (0 : Int)) && decide ((↑v4.length : Int) = (0 : Int)) && decide ((↑v3.length : Int) = (2 : Int)) && decide ((↑(ix v3 (1 : Int)).2.length : Int) = (1 : Int)))) ((ix (ix v3 (1 : Int)).2 (0 : Int)).2.1.length ≤ (1000000 : Nat) ∧ ∀ (v9 : Int), (validP (ix (ix v3 (1 : Int)).2 (0 : Int)).2.1 → v9 = sizeW (ix (ix v3 (1 : Int)).2 (0 : Int)).2.1) → J8 v9) (J8 (0 : Int))))) fun (J10 : Int → Prop) ↦ IFB (gx true (decide (v2 = (0 : Int)) && decide ((↑v1.length : Int) = (1 : Int)))) ((ix v1 (0 : Int)).1.1.length ≤ (1000000 : Nat) ∧ ∀ (v11 : Int), (validP (ix v1 (0 : Int)).1.1 → v11 = sizeW (ix v1 (0 : Int)).1.1) → J10 v11) (J10 (0 : Int))
theorem pawake_w  (post : dens (shT pawake_sp.rs []) → Prop) : pawake_W  (fun y0 => post (y0, ())) = walkG (callR Tryz.prog pawake_C (drawR Tryz.prog tau) 10 0) 17 false [] pawake_sp.rs post := by kernel_rfl
theorem pawake_of (h : ∀  (post : Bool → Prop), pawake_P  post → pawake_W  post) : SpecOK Tryz.prog pawake_sp := SpecOK.of_rules (C := pawake_C) (dr := drawR Tryz.prog tau) (n := 10) (fk := 0) (.cons (rule1_ok pdbl_ok) (.cons (rule1_ok pset_ok) (.cons (rule1_ok rarea_ok) .nil))) (drawR_ok tau) fun x post hp => HoldW.of (pawake_w  post) (h  (fun y0 => post (y0, ())) hp)
theorem pawake_ok : SpecOK Tryz.prog pawake_sp := pawake_of fun post hp => by
  unfold pawake_W
  refine ⟨okS_D exV_ok, fun v1 v2 hd => ⟨exV_ok, fun v3 v4 v5 hs => ?_⟩⟩
  obtain ⟨rfl, rfl⟩ := ex_dbl hd
  obtain ⟨rfl, rfl, rfl⟩ := ex_set hs
  have z0 : Int.NonNeg (0 : Int) := Int.NonNeg.mk _
  have z1 : Int.NonNeg (1 : Int) := Int.NonNeg.mk _
  have a1 : sizeW [rcC] = 1 := by decide
  have a2 : sizeW [rcB] = 2 := by decide
  have fin : ∀ K : Int → Prop, (∀ y, y = 2 → K y) → K 2 := fun K h => h 2 rfl
  have last : ∀ y13 : Int, y13 = 2 → post (decide ((0 : Int) = 0) && decide ((([(⟨⟨[rcC]⟩, [⟨0, 0⟩, ⟨1, 0⟩]⟩ : Dbl)].length : Nat) : Int) = 1) && decide ((1 : Int) = 1) && decide (((2 : Nat) : Int) = 2) && decide ((0 : Int) = 0) && decide (((0 : Nat) : Int) = 0) && decide (((2 : Nat) : Int) = 2) && decide (((1 : Nat) : Int) = 1) && decide (y13 = 2)) := fun y h => by
    rw [h]; exact hp
  intro _
  refine ⟨fun _ => ⟨z0, by decide⟩, JOIN.opq fun (J : Int → Prop) hJ => ?_⟩
  refine IFB.yes rfl ⟨by decide, fun v17 h17 => ?_⟩
  have h17 : v17 = 1 := (h17 (one_valid rcC_p)).trans a1
  subst h17
  rw [hJ]
  dsimp only
  refine ⟨fun _ => ⟨z0, by decide⟩, ?_⟩
  intro _ _ _
  refine ⟨fun _ => ⟨z1, by decide⟩, ?_⟩
  intro _
  refine ⟨fun _ => ⟨z1, by decide⟩, fun _ => ⟨z0, by decide⟩, JOIN.opq fun (K : Int → Prop) hK => ?_⟩
  refine IFB.yes rfl ⟨by decide, fun v15 h15 => ?_⟩
  have h15 : v15 = 2 := (h15 (one_valid rcB_p)).trans a2
  subst h15
  rw [hK]
  exact hp

end RE
end Go.Proofs.YtblcakaohlgagaaGreat
set_option linter.unusedVariables false
set_option maxRecDepth 100000
namespace Go.Proofs.YtblcakaohlgagaaGreat
open Go.RowKit
namespace RE
open PL
namespace PL
/-- At most three farms of two lines. -/
def M3 (v : List api_Version) : Prop := v.length ≤ 3 ∧ ∀ x ∈ v, linesOK x.Lines ∧ x.Lines.length ≤ 2
end PL
theorem made_M3 {n : Int} {v : List api_Version} (h : madeV n v) (hn : n ≤ 3) : M3 v := ⟨by have := h.2.1; omega, h.2.2⟩
theorem rowL_two {l : List api_Version} {c : Nat} (h : ∀ x ∈ l, x.Lines.length ≤ c) : ∀ k, k ≤ l.length → (linN l k).length ≤ c * k
  | 0, _ => by unfold linN; simp
  | k + 1, hk => by
    rw [linN_succ, List.length_append, rowL_len]
    have := rowL_two h k (by omega)
    have := h _ (ix_mem (l := l) (i := (k : Int)) (by omega) (by omega))
    rw [Nat.mul_add, Nat.mul_one]
    omega
theorem gat_boxed {v : List api_Version} (h : ∀ x ∈ v, linesOK x.Lines) {p : api_Place} (hp : thereP v p) : ∃ q : Int, 0 ≤ q ∧ q ≤ 2 ∧ boxed q (gat v p) := by
  obtain ⟨h1, h2, h3, h4⟩ := hp
  exact h _ (ix_mem h1 h2) _ (ix_mem h3 h4)
theorem boxed_inBox {q : Int} (h0 : 0 ≤ q) (h1 : q ≤ 2) {l : List Rc} (h : boxed q l) : inBox l := (can_inBox h.1 fun x y hc => by
  have := h.2 x y hc; omega).1
theorem PL.M3.lin {v : List api_Version} (h : M3 v) : (linV v).length ≤ 6 := by
  have := rowL_two (l := v) (c := 2) (fun x hx => (h.2 x hx).2) v.length (Nat.le_refl _)
  have h1 := h.1
  show (linN v v.length).length ≤ 6
  omega
theorem boxes_begin {v : List api_Version} (h : ∀ x ∈ v, linesOK x.Lines) (hl : (linV v).length ≤ 60) : beginF v = 0 := begin_ok hl fun x hx => by
  obtain ⟨h1, h2⟩ := mem_linV.1 hx
  obtain ⟨q, a, b, c⟩ := gat_boxed h h1
  rw [h2]; exact boxed_valid a b c
theorem boxes_okS {v : List api_Version} (h : ∀ x ∈ v, linesOK x.Lines) (hm : manyV v) : okS v := ⟨hm, fun _ x hx => by
  obtain ⟨h1, h2⟩ := mem_linV.1 hx
  obtain ⟨q, a, b, c⟩ := gat_boxed h h1
  rw [h2]; exact boxed_inBox a b c⟩
theorem PL.M3.begin {v : List api_Version} (h : M3 v) : beginF v = 0 := boxes_begin (fun x hx => (h.2 x hx).1) (by have := h.lin; omega)
theorem PL.M3.many {v : List api_Version} (h : M3 v) : manyV v := ⟨by have := h.1; omega, fun x hx => by have := (h.2 x hx).2; omega⟩
theorem PL.M3.okS {v : List api_Version} (h : M3 v) : okS v := boxes_okS (fun x hx => (h.2 x hx).1) h.many
theorem facesG_len : ∀ {M : List Ln} {F : List Fc} {seen : List Rc}, (facesG F seen M).length + 1 ≤ (F.length + 1) * 2 ^ M.length
  | [], F, seen => by simp [facesG]
  | x :: M, F, seen => by
    have h1 := facesG_len (M := M) (F := faceStep F seen x) (seen := seen ++ x.rects)
    have h2 := step_len (F := F) (seen := seen) (x := x)
    have h3 : ((faceStep F seen x).length + 1) * 2 ^ M.length ≤ (2 * (F.length + 1)) * 2 ^ M.length := Nat.mul_le_mul_right _ (by omega)
    show (facesG (faceStep F seen x) (seen ++ x.rects) M).length + 1 ≤ _
    rw [List.length_cons, Nat.pow_succ, Nat.mul_comm (2 ^ M.length) 2, ← Nat.mul_assoc, Nat.mul_comm (F.length + 1) 2]
    omega
theorem facesS_len {L : List Ln} {n : Nat} (h : L.length ≤ n) : (facesS L).length + 1 ≤ 2 ^ n := by
  have := facesG_len (M := L) (F := []) (seen := [])
  rw [List.length_nil, Nat.zero_add, Nat.one_mul] at this
  exact Nat.le_trans this (Nat.pow_le_pow_right (by omega) h)
/-- Doubles of small versions. -/
theorem dbl_made {g : List api_Version} (hb : beginF g = 0) (hx : ∀ p, thereP g p → ∃ q : Int, 0 ≤ q ∧ q ≤ 2 ∧ boxed q (gat g p)) (hn : (linV g).length ≤ 6) {ds : List Dbl} {e : Int} (h : dblR g ds e) : e = 0 ∧ dblsP (linV g) ds := by
  rcases h with ⟨a, _, _⟩ | ⟨_, d0, h1, ⟨h2, _, _⟩ | ⟨_, rfl, h3⟩⟩
  · exact absurd hb a
  · exfalso
    rcases h2 with h2 | ⟨d, hd, h2⟩
    · have e1 := h1.1.length_eq
      have e2 := List.length_filter_le (fun f : Fc => decide (2 ≤ f.claims.length)) (facesS (linV g))
      have e3 := facesS_len hn
      rw [List.length_map] at e1
      unfold two at e1
      omega
    · obtain ⟨c1, c2, c3, c4⟩ := dbls_each (linV_nodup g) h1 d hd
      obtain ⟨x, y, hc⟩ := canon_some c1 c2
      have hw := c4 x y hc
      obtain ⟨p, hp⟩ := List.exists_mem_of_ne_nil _ (fun e : d.Claims = [] => by rw [e] at c3; exact absurd c3 (by decide))
      obtain ⟨q, q0, q1, q2⟩ := hx p (claims_there h1 hd hp)
      have : boxed q d.Region.Rects := ⟨c1, fun u v huv => q2.2 u v ((mem_who.1 (by rw [c4 u v huv]; exact hp)).2)⟩
      have := boxed_len this
      omega
  · exact ⟨h3, h1⟩
/-- What Settled returns for versions that the tape made. -/
structure SetOK (v : List api_Version) (ys : List api_Yield) (m : List api_Version) (ds : List Dbl) : Prop where
  like : likeV v m
  box : ∀ p, thereP v p → ∃ q : Int, 0 ≤ q ∧ q ≤ 2 ∧ boxed q (gat m p)
  dbl : dblsP (linV (ys.foldl give1 v)) ds
  glike : likeV v (ys.foldl give1 v)
  set : m = setS (ys.foldl give1 v) ds
  covM : ∀ p, thereP v p → ∀ x y, cov (gat m p) x y = true ↔ cov (gat (ys.foldl give1 v) p) x y = true ∧ ∀ q, thereP v q → cov (gat (ys.foldl give1 v) q) x y = true → q = p
  covG : ∀ p, thereP v p → ∀ x y, cov (gat (ys.foldl give1 v) p) x y = true ↔ cov (gat v p) x y = true ∧ ∀ z ∈ ys, z.1 = p → cov z.2.1 x y = false
end RE
end Go.Proofs.YtblcakaohlgagaaGreat
