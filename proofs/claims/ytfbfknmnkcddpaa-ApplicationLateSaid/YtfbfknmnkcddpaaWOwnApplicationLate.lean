/-
  Chapter 14: Late.
-/
import Derived.Test.YtfbfknmnkcddpaaWApp
import Derived.Test.YtfbfknmnkcddpaaWCal
set_option maxRecDepth 100000
set_option linter.unusedVariables false
namespace Go.Proofs.Ytfbfknmnkcddpaa
open Go.RowKit
namespace RE
open PL

namespace PL
/-- What Late says. -/
def lateR (a : api_Application) (la : Int) (l : List Int) (n e : Int) : Prop := (a.3.length = 0 ∧ n = 0 ∧ e = 1) ∨ (0 < a.3.length ∧ (la < 0 ∨ 36864 < la ∨ (ix a.3 0).1 < 0 ∨ 36864 < (ix a.3 0).1) ∧ n = 0 ∧ e = 9) ∨ (0 < a.3.length ∧ ¬ (la < 0 ∨ 36864 < la ∨ (ix a.3 0).1 < 0 ∨ 36864 < (ix a.3 0).1) ∧ workP l (la + 1) (max la (ix a.3 0).1 + 1) n e)
def bestS (l : List api_Application) (f y : Int) : Int × Bool := match l.findIdx? (fun a => decide (a.1 = f) && decide (a.2 = y)) with
  | some k => ((k : Int), true)
  | none => (0, false)
def bigB (v : api_Version) : Prop := v.Lines.length ≤ 2000000 ∧ ∀ x ∈ v.Lines, x.Region.1.length ≤ 2000000
end PL

def plate_P (a : api_Application) (la : Int) (l : List (Int)) (post : Int → Int → Prop) : Prop := ∀ (n e : Int), lateR a la l n e → post n e
def plate_sp : Spec := ⟨4, false, false, [.st .api_Application, .int .i64, .sl (.int .i64)], .tup [.dat (.int .i64), .dat (.int .i64)], fun x post => plate_P (x.1 : api_Application) (x.2.1 : Int) (x.2.2.1 : List (Int)) (fun y0 y1 => post (y0, y1, ()))⟩
def plate_C : CtxR := ⟨tau, [rule1 pwork_sp], lookJ []⟩
def plate_W (a : api_Application) (la : Int) (l : List (Int)) (post : Int → Int → Prop) : Prop := (↑a.3.length : Int) ≤ (9223372036854775807 : Int) → IFB (decide ((↑a.3.length : Int) = (0 : Int))) (post (0 : Int) (1 : Int)) ((Int.NonNeg (0 : Int) ∧ (0 : Int) < (↑a.3.length : Int)) ∧ IFB (decide (la < (0 : Int)) || decide ((36864 : Int) < la) || decide ((ix a.3 (0 : Int)).1 < (0 : Int)) || decide ((36864 : Int) < (ix a.3 (0 : Int)).1)) (post (0 : Int) (9 : Int)) (∀ (v1 v2 : Int), workP l (IntKind.i64.wrap (la + (1 : Int))) (IntKind.i64.wrap (Max.max la (ix a.3 (0 : Int)).1 + (1 : Int))) v1 v2 → post v1 v2))
theorem plate_w (a : api_Application) (la : Int) (l : List (Int)) (post : dens (shT plate_sp.rs []) → Prop) : plate_W a la l (fun y0 y1 => post (y0, y1, ())) = walkG (callR Try.prog plate_C (drawR Try.prog tau) 8 0) 4 false [tv (.st .api_Application) a, tv (.int .i64) la, tv (.sl (.int .i64)) l] plate_sp.rs post := by kernel_rfl
theorem plate_of (h : ∀ (a : api_Application) (la : Int) (l : List (Int)) (post : Int → Int → Prop), plate_P a la l post → plate_W a la l post) : SpecOK Try.prog plate_sp := SpecOK.of_rules (C := plate_C) (dr := drawR Try.prog tau) (n := 8) (fk := 0) (.cons (rule1_ok pwork_ok) .nil) (drawR_ok tau) fun x post hp => HoldW.of (plate_w x.1 x.2.1 x.2.2.1 post) (h x.1 x.2.1 x.2.2.1 (fun y0 y1 => post (y0, y1, ())) hp)

theorem late_mid {la x : Int} (h : ¬ (la < 0 ∨ 36864 < la ∨ x < 0 ∨ 36864 < x)) : IntKind.i64.wrap (la + 1) = la + 1 ∧ IntKind.i64.wrap (max la x + 1) = max la x + 1 := ⟨wrap_in (by omega) (by omega), wrap_in (by omega) (by omega)⟩
theorem late_bad {la x : Int} : (decide (la < 0) || decide (36864 < la) || decide (x < 0) || decide (36864 < x)) = true ↔ (la < 0 ∨ 36864 < la ∨ x < 0 ∨ 36864 < x) := by
  simp only [Bool.or_eq_true, decide_eq_true_eq]; omega
theorem plate_ok : SpecOK Try.prog plate_sp := plate_of fun a la l post hp => by
  obtain ⟨f, y, vs⟩ := a
  unfold plate_W
  unfold plate_P lateR at hp
  dsimp only at hp ⊢
  intro _
  refine IFB.mk (fun h => ?_) (fun h => ⟨⟨Int.NonNeg.mk _, ?_⟩, IFB.mk (fun h2 => ?_) (fun h2 n e hw => ?_)⟩)
  · have h : (vs.length : Int) = 0 := by simpa using h
    exact hp _ _ (.inl ⟨by omega, rfl, rfl⟩)
  all_goals have h : ¬ (vs.length : Int) = 0 := by simpa using h
  · omega
  · exact hp _ _ (.inr (.inl ⟨by omega, late_bad.1 h2, rfl, rfl⟩))
  · have hn : ¬ (la < 0 ∨ 36864 < la ∨ (ix vs 0).1 < 0 ∨ 36864 < (ix vs 0).1) := fun q => by rw [late_bad.2 q] at h2; cases h2
    rw [(late_mid hn).1, (late_mid hn).2] at hw
    exact hp _ _ (.inr (.inr ⟨by omega, hn, hw⟩))

def lLate_C : CtxR := ⟨tau, [rule1 plate_sp, rule1 rwork_sp, rule1 pawake_sp], lookJ [(0, 9, ⟨[(9, .dat (.int .i64)), (8, .own 3 (.int .i64))], [], [20, 21, 22, 23, 24, 27, 25, 26, 30, 31, 32, 33, 34, 35, 36, 37, 38, 39, 40, 28, 29], [], []⟩)]⟩
def lLate_W (la : Int) (mo : Int) (fr : List (Int)) (post : Bool → Prop) : Prop := LOOP [Ty.int IntKind.i64, (Ty.int IntKind.i64).sl] (fun (rec1 : Int → List Int → Prop) (z2 : Int) (z3 : List Int) ↦ (↑fr.length : Int) ≤ (9223372036854775807 : Int) → IFB (decide (z2 < (↑fr.length : Int)) && decide (z2 < (30 : Int))) (((0 : Int) ≤ z2 ∧ z2 < (↑fr.length : Int)) ∧ ((40 : Int) = (0 : Int) → False) ∧ (z3.length + [IntKind.i64.wrap (IntKind.i64.wrap la + (IntKind.i64.wrap (ix fr z2)).tmod (40 : Int))].length) * (8 : Nat) ≤ (140737488355328 : Nat) ∧ rec1 (IntKind.i64.wrap (z2 + (1 : Int))) (z3 ++ [IntKind.i64.wrap (IntKind.i64.wrap la + (IntKind.i64.wrap (ix fr z2)).tmod (40 : Int))])) (((30 : Int) = (0 : Int) → False) ∧ ((30 : Int) = (0 : Int) → False) ∧ ∀ (v4 v5 : Int), lateR { Farm := (1 : Int), Year := (0 : Int), Versions := [{ Day := IntKind.i64.wrap (IntKind.i64.wrap la + (IntKind.i64.wrap mo).tmod (30 : Int)), Lines := [] : api_Version }] : api_Application } (IntKind.i64.wrap la) z3 v4 v5 → ∀ (v6 v7 : Int), lateR { Farm := (1 : Int), Year := (0 : Int), Versions := [{ Day := IntKind.i64.wrap (IntKind.i64.wrap (IntKind.i64.wrap la + (IntKind.i64.wrap mo).tmod (30 : Int)) + (1 : Int)), Lines := [] : api_Version }] : api_Application } (IntKind.i64.wrap la) z3 v6 v7 → ((30 : Int) = (0 : Int) → False) ∧ ((30 : Int) = (0 : Int) → False) ∧ ∀ (v8 v9 : Int), workP z3 (IntKind.i64.wrap (IntKind.i64.wrap (IntKind.i64.wrap la + (IntKind.i64.wrap mo).tmod (30 : Int)) + (1 : Int))) (IntKind.i64.wrap (IntKind.i64.wrap (IntKind.i64.wrap la + (IntKind.i64.wrap mo).tmod (30 : Int)) + (2 : Int))) v8 v9 → (gx true (decide (v5 = (0 : Int)) && decide (v7 = (0 : Int)) && decide (v9 = (0 : Int)) && decide (v6 = IntKind.i64.wrap (v4 + v8))) = true → (30 : Int) = (0 : Int) → False) ∧ JOIN [Ty.bool] (fun (y10 : Bool) ↦ post (decide (v5 = (0 : Int)) && decide (v7 = (0 : Int)) && decide (v9 = (0 : Int)) && decide (v6 = IntKind.i64.wrap (v4 + v8)) && (decide ((0 : Int) < (IntKind.i64.wrap mo).tmod (30 : Int)) || decide (v4 = (0 : Int))) && y10)) fun (J11 : Bool → Prop) ↦ IFB (gx true (decide (v5 = (0 : Int)) && decide (v7 = (0 : Int)) && decide (v9 = (0 : Int)) && decide (v6 = IntKind.i64.wrap (v4 + v8)) && (decide ((0 : Int) < (IntKind.i64.wrap mo).tmod (30 : Int)) || decide (v4 = (0 : Int))))) (True ∧ J11 true) (J11 false))) ((0 : Int), [], PUnit.unit)
theorem lLate_w (la : Int) (mo : Int) (fr : List (Int)) (post : Bool → Prop) : lLate_W la mo fr post = lawG (callR Try.prog lLate_C (drawR Try.prog tau) 10 0) 3 [tv (.int .u8) la, tv (.int .u8) mo, tv (.sl (.int .u8)) fr] post := by kernel_rfl
theorem lLate_calls (la : Int) (mo : Int) (fr : List (Int)) (h : lLate_W la mo fr fun b => b = true) {w : World} {S : Cells} {us : List Value} (h1 : ∀ b o, S b o → b < w.heap.size) (h3 : us.length = 3) (h4 : ∀ (i : Nat) (d : D) (u : Value), [tv (.int .u8) la, tv (.int .u8) mo, tv (.sl (.int .u8)) fr][i]? = some d → us[i]? = some u → Rd S w d u) : Calls Try.prog 3 us.toArray w fun e w' => (∃ b, e = .returned (.bool b) ∧ b = true) ∧ Below w.heap.size w w' := lawG_okH (cp := callR Try.prog lLate_C (drawR Try.prog tau) 10 0) (callR_ok (C := lLate_C) (dr := drawR Try.prog tau) (.cons (rule1_ok plate_ok) (.cons (rule1_ok rwork_ok) (.cons (rule1_ok pawake_ok) .nil))) (drawR_ok tau) 10 0) (HoldW.of (lLate_w la mo fr fun b => b = true) h) h1 h3 h4
def bldF (la : Int) (fr : List Int) (k : Nat) : List Int := (fr.take k).map fun x => IntKind.i64.wrap (IntKind.i64.wrap la + (IntKind.i64.wrap x).tmod 40)
theorem lLate_h (la mo : Int) (fr : List Int) (w1 : (Lit.int .u8 la).wf = true) (w2 : (Lit.int .u8 mo).wf = true) : lLate_W la mo fr fun b => b = true := by
  have hla : 0 ≤ la ∧ la ≤ 255 := by simpa [Lit.wf, IntKind.min, IntKind.max, IntKind.signed, IntKind.bits] using w1
  have hmo : 0 ≤ mo ∧ mo ≤ 255 := by simpa [Lit.wf, IntKind.min, IntKind.max, IntKind.signed, IntKind.bits] using w2
  unfold lLate_W
  have e1 : IntKind.i64.wrap la = la := wrap_in (by omega) (by omega)
  have e2 : IntKind.i64.wrap mo = mo := wrap_in (by omega) (by omega)
  simp only [e1, e2]
  have e3 : mo.tmod 30 = mo % 30 := Int.tmod_eq_emod_of_nonneg hmo.1
  simp only [e3]
  have hq : 0 ≤ mo % 30 ∧ mo % 30 < 30 := ⟨by omega, by omega⟩
  generalize mo % 30 = q at *
  refine LOOP.fuel (fun u => ∃ k : Nat, u.1 = (k : Int) ∧ k ≤ 30 ∧ u.2.1.length = k) (fun u => 30 - Int.toNat u.1) ⟨0, rfl, Nat.zero_le _, rfl⟩ ?_
  rintro rec ⟨(z : Int), (s : List Int), ⟨⟩⟩ ⟨k, hz, hk, hs⟩ hrec
  have hz : z = (k : Int) := hz
  have hs : s.length = k := hs
  subst hz
  intro hfr
  refine IFB.mk (fun hb => ?_) (fun hb => ?_)
  · rw [Bool.and_eq_true, decide_eq_true_eq, decide_eq_true_eq] at hb
    refine ⟨by omega, fun h => (by cases h), by simp only [List.length_cons, List.length_nil]; omega, ?_⟩
    rw [wrapS (by omega)]
    exact hrec (((k + 1 : Nat) : Int), _, ()) ⟨k + 1, rfl, by omega, (by show List.length (s ++ [_] : List Int) = k + 1; rw [List.length_append, List.length_singleton]; exact congrArg (· + 1) hs)⟩ (by show 30 - ((k + 1 : Nat) : Int).toNat < 30 - (k : Int).toNat; omega)
  · clear hrec hb hfr
    have hsl : s.length ≤ 30 := by omega
    clear hs hk
    rw [wrap_in (z := la + q) (by omega) (by omega), wrap_in (z := la + q + 1) (by omega) (by omega), wrap_in (z := la + q + 2) (by omega) (by omega)]
    refine ⟨fun h => (by cases h), fun h => (by cases h), fun n e hn0 m g hm0 => ⟨fun h => (by cases h), fun h => (by cases h), fun w h hw0 => ⟨fun _ h => (by cases h), ?_⟩⟩⟩
    have L : ∀ (x n e : Int), la ≤ x → x ≤ 300 → lateR ⟨1, 0, [⟨x, []⟩]⟩ la s n e → e = 0 ∧ n = Cal.wkV s (la + 1) (x + 1) := fun x n e hx1 hx2 hl => by
      have ew : Cal.wkE (la + 1) (x + 1) s.length = 0 := by
        unfold Cal.wkE
        rw [if_neg (by omega), if_neg (by omega)]
      rcases hl with ⟨h, _⟩ | ⟨_, h, _⟩ | ⟨_, _, h1, h2⟩
      · cases h
      · exfalso
        have h : la < 0 ∨ 36864 < la ∨ x < 0 ∨ 36864 < x := h
        omega
      · have h1 : n = Cal.wkV s (la + 1) (max la x + 1) := h1
        have h2 : e = Cal.wkE (la + 1) (max la x + 1) s.length := h2
        rw [Int.max_eq_right hx1] at h1 h2
        exact ⟨by rw [h2, ew], h1⟩
    obtain ⟨rfl, hn⟩ := L (la + q) n e (by omega) (by omega) hn0
    obtain ⟨rfl, hm⟩ := L (la + q + 1) m g (by omega) (by omega) hm0
    obtain ⟨hw, he⟩ := hw0
    have V : ∀ a b : Int, 0 ≤ a → a ≤ b → b ≤ 600 → Cal.wkE a b s.length = 0 ∧ Cal.wkV s a b = Cal.wks s a (b - a).toNat := fun a b h1 h2 h3 => by
      have ew : Cal.wkE a b s.length = 0 := by
        unfold Cal.wkE
        rw [if_neg (by omega), if_neg (by omega)]
      exact ⟨ew, by unfold Cal.wkV; rw [if_pos ew]⟩
    rw [(V _ _ (by omega) (by omega) (by omega)).2] at hn hm hw
    rw [(V _ _ (by omega) (by omega) (by omega)).1] at he
    subst he
    rw [show la + q + 1 - (la + 1) = q by omega] at hn
    rw [show la + q + 1 + 1 - (la + 1) = q + 1 by omega] at hm
    rw [show la + q + 2 - (la + q + 1) = 1 by omega] at hw
    have hadd : m = n + w := by
      rw [hm, hn, hw, show (q + 1).toNat = q.toNat + 1 by omega, Cal.wks_add, show la + 1 + (q.toNat : Int) = la + q + 1 by omega]; rfl
    have hb : Cal.wks s (la + 1) q.toNat ≤ q.toNat := (Cal.wks_bd _ _ _).2
    have hb0 : 0 ≤ Cal.wks s (la + 1) q.toNat := (Cal.wks_bd _ _ _).1
    have hc : Cal.wks s (la + q + 1) 1 ≤ (1 : Nat) := (Cal.wks_bd _ _ _).2
    have hc0 : 0 ≤ Cal.wks s (la + q + 1) 1 := (Cal.wks_bd _ _ _).1
    have hw1 : 0 ≤ w ∧ w ≤ 1 := by rw [hw]; exact ⟨hc0, hc⟩
    have hn1 : 0 ≤ n ∧ n ≤ 30 := by rw [hn]; omega
    rw [wrap_in (z := n + w) (by omega) (by omega)]
    have hq0 : (decide (0 < q) || decide (n = 0)) = true := by
      by_cases h0 : 0 < q
      · simp [h0]
      · have : q = 0 := by omega
        subst this
        have : n = 0 := by rw [hn]; rfl
        simp [this]
    refine JOIN.opq fun (J11 : Bool → Prop) hJ11 => IFB.mk (fun _ => ⟨trivial, ?_⟩) (fun h => ?_)
    · rw [hJ11]
      rw [← hadd]
      simpa using hq0
    · exfalso
      rw [← hadd, hq0] at h
      simp [gx] at h

end RE
end Go.Proofs.Ytfbfknmnkcddpaa
