/-
  Chapter 14: Late, Best, Copy and Amend of the reference.
-/
import Derived.Test.YtfbfknmnkcddpaaGreatVInF
import Derived.Test.YtfbfknmnkcddpaaGreatVTape
set_option maxRecDepth 100000
set_option linter.unusedVariables false
namespace Go.Proofs.YtfbfknmnkcddpaaGreat
open Go.RowKit
namespace RE
open PL

namespace PL
def bestS (l : List api_Application) (f y : Int) : Int × Bool := match l.findIdx? (fun a => decide (a.1 = f) && decide (a.2 = y)) with
  | some k => ((k : Int), true)
  | none => (0, false)
def modQ (k n : Int) : Int := if n < 1 then 0 else k % n
def bigB (v : api_Version) : Prop := v.Lines.length ≤ 2000000 ∧ ∀ x ∈ v.Lines, x.Region.1.length ≤ 2000000
end PL

def rcopy_P (a : api_Application) (post : Int → Int → List (api_Version) → Prop) : Prop := (a.3.length ≤ 2000000) ∧ post (a.1) (a.2) (a.3)
def rcopy_sp : Spec := ⟨21, false, true, [.st .api_Application], .agg [.dat (.int .i64), .dat (.int .i64), .own 31 (.st .api_Version)], fun x post => rcopy_P (x.1 : api_Application) (fun y0 y1 y2 => post (y0, y1, y2, ()))⟩
def rcopy_C : CtxR := ⟨tau, [], lookJ []⟩
def rcopy_W (a : api_Application) (post : Int → Int → List (api_Version) → Prop) : Prop := ((0 : Nat) + a.3.length) * (32 : Nat) ≤ (140737488355328 : Nat) ∧ post a.1 a.2 ([] ++ a.3)
theorem rcopy_w (a : api_Application) (post : dens (shT rcopy_sp.rs []) → Prop) : rcopy_W a (fun y0 y1 y2 => post (y0, y1, y2, ())) = walkG (callR Tryz.prog rcopy_C (drawR Tryz.prog tau) 8 0) 21 false [tv (.st .api_Application) a] rcopy_sp.rs post := by kernel_rfl
theorem rcopy_of (h : ∀ (a : api_Application) (post : Int → Int → List (api_Version) → Prop), rcopy_P a post → rcopy_W a post) : SpecOK Tryz.prog rcopy_sp := SpecOK.of_rules (C := rcopy_C) (dr := drawR Tryz.prog tau) (n := 8) (fk := 0) .nil (drawR_ok tau) fun x post hp => HoldW.of (rcopy_w x.1 post) (h x.1 (fun y0 y1 y2 => post (y0, y1, y2, ())) hp)

theorem rcopy_ok : SpecOK Tryz.prog rcopy_sp := rcopy_of fun a post hp => by
  obtain ⟨hl, hp⟩ := hp
  unfold rcopy_W
  exact ⟨by omega, hp⟩

def rame_P (a : api_Application) (v : api_Version) (o : Int) (la : Int) (e : Int) (post : api_Application → Int → Prop) : Prop := (a.3.length ≤ 1999999) ∧ ∀ (b : api_Application) (q : Int), (b, q) = amendS a v o la e → post b q
def rame_sp : Spec := ⟨24, false, true, [.st .api_Application, .st .api_Version, .int .i64, .int .i64, .int .i64], .tup [.dat (.st .api_Application), .dat (.int .i64)], fun x post => rame_P (x.1 : api_Application) (x.2.1 : api_Version) (x.2.2.1 : Int) (x.2.2.2.1 : Int) (x.2.2.2.2.1 : Int) (fun y0 y1 => post (y0, y1, ()))⟩
def rame_C : CtxR := ⟨tau, [rule1 rchk_sp, rule1 rcopy_sp], lookJ []⟩
def rame_W (a : api_Application) (v : api_Version) (o : Int) (la : Int) (e : Int) (post : api_Application → Int → Prop) : Prop := ∀ (v1 : Int), v1 = chkS { Farm := a.1, Year := a.2, Versions := a.3 : api_Application } o la e → IFB (!decide (v1 = (0 : Int))) (a.3.length ≤ (2000000 : Nat) ∧ post { Farm := a.1, Year := a.2, Versions := a.3 : api_Application } v1) (a.3.length ≤ (2000000 : Nat) ∧ (a.3.length + [{ Day := v.1, Lines := v.2 : api_Version }].length) * (32 : Nat) ≤ (140737488355328 : Nat) ∧ ∀ (v2 : Int), v2 = chkS { Farm := a.1, Year := a.2, Versions := a.3 ++ [{ Day := v.1, Lines := v.2 : api_Version }] : api_Application } o la e → IFB (!decide (v2 = (0 : Int))) (a.3.length ≤ (2000000 : Nat) ∧ post { Farm := a.1, Year := a.2, Versions := a.3 : api_Application } v2) (post { Farm := a.1, Year := a.2, Versions := a.3 ++ [{ Day := v.1, Lines := v.2 : api_Version }] : api_Application } (0 : Int)))
theorem rame_w (a : api_Application) (v : api_Version) (o : Int) (la : Int) (e : Int) (post : dens (shT rame_sp.rs []) → Prop) : rame_W a v o la e (fun y0 y1 => post (y0, y1, ())) = walkG (callR Tryz.prog rame_C (drawR Tryz.prog tau) 8 0) 24 false [tv (.st .api_Application) a, tv (.st .api_Version) v, tv (.int .i64) o, tv (.int .i64) la, tv (.int .i64) e] rame_sp.rs post := by kernel_rfl
theorem rame_of (h : ∀ (a : api_Application) (v : api_Version) (o : Int) (la : Int) (e : Int) (post : api_Application → Int → Prop), rame_P a v o la e post → rame_W a v o la e post) : SpecOK Tryz.prog rame_sp := SpecOK.of_rules (C := rame_C) (dr := drawR Tryz.prog tau) (n := 8) (fk := 0) (.cons (rule1_ok rchk_ok) (.cons (rule1_ok rcopy_ok) .nil)) (drawR_ok tau) fun x post hp => HoldW.of (rame_w x.1 x.2.1 x.2.2.1 x.2.2.2.1 x.2.2.2.2.1 post) (h x.1 x.2.1 x.2.2.1 x.2.2.2.1 x.2.2.2.2.1 (fun y0 y1 => post (y0, y1, ())) hp)

theorem rame_ok : SpecOK Tryz.prog rame_sp := rame_of fun a v o la e post hp => by
  obtain ⟨hl, hp⟩ := hp
  obtain ⟨f, y, l⟩ := a
  obtain ⟨d, m⟩ := v
  unfold amendS moreV at hp
  unfold rame_W
  dsimp only at hp hl ⊢
  intro q hq
  subst hq
  refine IFB.mk (fun hb => ⟨by omega, ?_⟩) (fun hb => ⟨by omega, by simp only [List.length_cons, List.length_nil]; omega, fun q2 hq2 => ?_⟩)
  · have hb : chkS ⟨f, y, l⟩ o la e ≠ 0 := by simpa using hb
    exact hp _ _ (by rw [if_pos hb])
  · have hb : ¬ (chkS ⟨f, y, l⟩ o la e ≠ 0) := by simpa using hb
    subst hq2
    refine IFB.mk (fun hb2 => ⟨by omega, ?_⟩) (fun hb2 => ?_)
    · have hb2 : chkS ⟨f, y, l ++ [⟨d, m⟩]⟩ o la e ≠ 0 := by simpa using hb2
      exact hp _ _ (by rw [if_neg hb, if_pos hb2])
    · have hb2 : ¬ (chkS ⟨f, y, l ++ [⟨d, m⟩]⟩ o la e ≠ 0) := by simpa using hb2
      exact hp _ _ (by rw [if_neg hb, if_neg hb2])

def kmod_P (k : Int) (n : Int) (post : Int → Prop) : Prop := (n ≤ 9223372036854775807) ∧ ∀ q : Int, q = modQ k n → post q
def kmod_sp : Spec := ⟨22, false, false, [.int .i64, .int .i64], .dat (.int .i64), fun x post => kmod_P (x.1 : Int) (x.2.1 : Int) (fun y0 => post (y0, ()))⟩
def kmod_C : CtxR := ⟨tau, [], lookJ [(0, 12, ⟨[(0, .dat (.int .i64))], [], [10, 11, 12, 13, 14], [], []⟩)]⟩
def kmod_W (k : Int) (n : Int) (post : Int → Prop) : Prop := IFB (decide (n < (1 : Int))) (post (0 : Int)) ((n = (0 : Int) → False) ∧ JOIN [Ty.int IntKind.i64] (fun (y1 : Int) ↦ post y1) fun (J2 : Int → Prop) ↦ IFB (decide (k.tmod n < (0 : Int))) (J2 (IntKind.i64.wrap (k.tmod n + n))) (J2 (k.tmod n)))
theorem kmod_w (k : Int) (n : Int) (post : dens (shT kmod_sp.rs []) → Prop) : kmod_W k n (fun y0 => post (y0, ())) = walkG (callR Tryz.prog kmod_C (drawR Tryz.prog tau) 8 0) 22 false [tv (.int .i64) k, tv (.int .i64) n] kmod_sp.rs post := by kernel_rfl
theorem kmod_of (h : ∀ (k : Int) (n : Int) (post : Int → Prop), kmod_P k n post → kmod_W k n post) : SpecOK Tryz.prog kmod_sp := SpecOK.of_rules (C := kmod_C) (dr := drawR Tryz.prog tau) (n := 8) (fk := 0) .nil (drawR_ok tau) fun x post hp => HoldW.of (kmod_w x.1 x.2.1 post) (h x.1 x.2.1 (fun y0 => post (y0, ())) hp)

theorem kmod_ok : SpecOK Tryz.prog kmod_sp := kmod_of fun k n post hp => by
  obtain ⟨hn, hp⟩ := hp
  have hp := hp _ rfl
  unfold modQ at hp
  unfold kmod_W
  refine IFB.mk (fun h => ?_) (fun h => ⟨fun e => ?_, JOIN.opq fun (J2 : Int → Prop) hJ2 => IFB.mk (fun h2 => ?_) (fun h2 => ?_)⟩)
  · rw [if_pos (by simpa using h)] at hp; exact hp
  · subst e; simp at h
  all_goals
    have h : ¬ n < 1 := by simpa using h
    rw [if_neg h] at hp
    rw [hJ2]
  · have h2 : k.tmod n < 0 := by simpa using h2
    rcases Keep.tmod_cases k n (by omega) with ⟨a, b, c⟩ | ⟨a, b, c⟩
    · omega
    · rw [c] at hp
      rw [wrap_in (by omega) (by omega)]
      exact hp
  · have h2 : ¬ k.tmod n < 0 := by simpa using h2
    rcases Keep.tmod_cases k n (by omega) with ⟨a, b, c⟩ | ⟨a, b, c⟩
    · rw [c] at hp; exact hp
    · omega



end RE
end Go.Proofs.YtfbfknmnkcddpaaGreat
