/-
  'EntitlementLooks' returns true for every input, and leaves its input as it was. No condition.
-/
import Derived.Test.YtpnmiieohdkenaaRows
import Derived.Test.YtpnmiieohdkenaaYEngC
import Derived.Test.YtpnmiieohdkenaaYOwnEntitlementLooks
import Derived.WalkKit
import Derived.ProofKit
import Derived.OpenShut
import Derived.ShutString
import Derived.ChangeOld
import Derived.Below
namespace Go.Proofs.Ytpnmiieohdkenaa.entitlementLooks
open Go.ChangeShapes Go.WideShapes Go.ChangeAt Go.RowKit
open Go.ChangeMaps (open_string shut_string)
open RE
set_option linter.unusedVariables false

theorem own : ownKnob Try.prog.godebug = none := by kernel_rfl
theorem laidOut : laidOutB Try.prog = true := by kernel_rfl

theorem walk (b0 : Option Addr) (len0 cap0 : Nat) (x0 : List (api_Act)) (a1 : Int) (a2 : Int) (a3 : Int) (b4 : Option Addr) (len4 cap4 : Nat) (x4 : List (Int)) (w : World) (ok0 : OkD (tv (.sl (.st .api_Act)) x0)) (w0 : Rd (allS w) w (tv (.sl (.st .api_Act)) x0) (.slice b0 len0 cap0)) (w1 : (Lit.int .i64 a1).wf = true) (w2 : (Lit.int .i64 a2).wf = true) (w3 : (Lit.int .i64 a3).wf = true) (ok4 : OkD (tv (.sl (.int .i64)) x4)) (w4 : Rd (allS w) w (tv (.sl (.int .i64)) x4) (.slice b4 len4 cap4)) :
    Calls Try.prog 10 #[.slice b0 len0 cap0, .int .i64 a1, .int .i64 a2, .int .i64 a3, .slice b4 len4 cap4] w fun e w' => e = .returned (.bool true) ∧ Below w.heap.size w w' := by
  exact (lLooks_calls  x0 a1 a2 a3 x4 (lLooks_h x0 a1 a2 a3 x4 w1 w2 w3) (w := w) (S := allS w) (us := [.slice b0 len0 cap0, .int .i64 a1, .int .i64 a2, .int .i64 a3, .slice b4 len4 cap4]) (fun _ _ h => h) rfl (RdL.get ⟨w0, ⟨.v _, ⟨.v _, ⟨.v _, ⟨w4, trivial⟩⟩⟩⟩⟩)).mono fun e w2 h => ⟨by obtain ⟨⟨b, hb, ht⟩, _⟩ := h; rw [hb, ht], h.2⟩

set_option maxRecDepth 100000 in
theorem lifted (os : Os) (started : os.Started) (H : Type) (enc : TypeId × Value → H) :
    ReturnsInHanded {} Try.checked os 10 .any (Rows.entitlementLooksSpec.pre6 enc Try.prog Try.f10 Rows.entitlementLooksRow.domain false) (Rows.entitlementLooksSpec.post enc Try.prog Try.f10 false true false false) := by
  refine returnsInHanded_of_change (C := Try.checked) own started (by kernel_rfl) Try.func10
    (ChangeSpec.witness6 (enc := enc) (C := Try.checked) false ⟨#[], #[.slice none 0 0, .int .i64 0, .int .i64 0, .int .i64 0, .slice none 0 0], []⟩ 8 (by kernel_rfl) (by kernel_rfl) (by kernel_rfl) (by kernel_rfl)) ?_
  intro W base args ds gs before hval0 hW hcnd _
  have hval : ∀ (j : Nat) t v, Try.f10.params[j]? = some t → args[j]? = some v → Value.okWide Try.prog W .any base t v := hval0
  have hW' := hW
  obtain ⟨p, q, hA0, hV, rfl, hfz, hnd⟩ := hW
  have hA : DataW.TrodAll enc Try.prog W 0 (fun _ => true) true Try.f10.params.toList args.toList ds p := hA0
  rw [Try.params10] at hA hval
  obtain ⟨v0, vs0, d0, ds0, p0, q0, hargs, rfl, rfl, h0, r0⟩ := trodAll_cons hA
  obtain ⟨v1, vs1, d1, ds1, p1, q1, rfl, rfl, rfl, h1, r1⟩ := trodAll_cons r0
  obtain ⟨v2, vs2, d2, ds2, p2, q2, rfl, rfl, rfl, h2, r2⟩ := trodAll_cons r1
  obtain ⟨v3, vs3, d3, ds3, p3, q3, rfl, rfl, rfl, h3, r3⟩ := trodAll_cons r2
  obtain ⟨v4, vs4, d4, ds4, p4, q4, rfl, rfl, rfl, h4, r4⟩ := trodAll_cons r3
  obtain ⟨rfl, rfl, rfl⟩ := trodAll_nil r4
  obtain rfl : args = #[v0, v1, v2, v3, v4] := by cases args; simp_all
  obtain ⟨rfl, rfl⟩ := trodVars_none hV
  obtain ⟨b0, len0, cap0, rfl⟩ := okWide_slice Try.underlying37 (hval 0 37 v0 rfl rfl)
  have k0 := h0
  have lt0 : ∀ x ∈ p0, x.block < W.heap.size := by obtain ⟨m, hm⟩ := k0; exact DataW.trod_lt m _ _ _ hm
  obtain ⟨x0, ok0, w0⟩ := rd_one (opnC_ok (P := Try.prog) (τ := tau) (n := 12) (t := 37) (ts := [.sl (.st .api_Act)]) (by kernel_rfl)) rfl h0
  obtain ⟨a1, rfl, rfl, rfl, w1⟩ := open_int Try.underlying3 (hval 1 3 v1 rfl rfl) h1
  obtain ⟨a2, rfl, rfl, rfl, w2⟩ := open_int Try.underlying3 (hval 2 3 v2 rfl rfl) h2
  obtain ⟨a3, rfl, rfl, rfl, w3⟩ := open_int Try.underlying3 (hval 3 3 v3 rfl rfl) h3
  obtain ⟨b4, len4, cap4, rfl⟩ := okWide_slice Try.underlying27 (hval 4 27 v4 rfl rfl)
  have k4 := h4
  have lt4 : ∀ x ∈ p4, x.block < W.heap.size := by obtain ⟨m, hm⟩ := k4; exact DataW.trod_lt m _ _ _ hm
  obtain ⟨x4, ok4, w4⟩ := rd_one (opnC_ok (P := Try.prog) (τ := tau) (n := 12) (t := 27) (ts := [.sl (.int .i64)]) (by kernel_rfl)) rfl h4
  clear hA0 hval0
  refine (walk b0 len0 cap0 x0 a1 a2 a3 b4 len4 cap4 x4 W ok0 w0 w1 w2 w3 ok4 w4).mono fun e W' ⟨he, bel⟩ => ?_
  subst he
  exact ⟨_, rfl, _, _, _, [], _, [], hW', trodAll_mk1 (shut_bool Try.underlying4 _), (trodAll_cons_mk (Below.trod laidOut (by kernel_rfl) (of_decide_eq_true (by kernel_rfl)) k0 bel lt0) (trodAll_cons_mk (shut_int Try.underlying3 w1) (trodAll_cons_mk (shut_int Try.underlying3 w2) (trodAll_cons_mk (shut_int Try.underlying3 w3) (trodAll_cons_mk (Below.trod laidOut (by kernel_rfl) (of_decide_eq_true (by kernel_rfl)) k4 bel lt4) trodAll_mk0))))), rfl, bel.frame _, fun h => by cases h⟩

theorem over : Rows.entitlementLooksRow.holds Try.pinned (OpenSpec.ofChange Rows.entitlementLooksSpec) :=
  OpenClaim.holds_of_wide 10 Try.f10 rfl rfl rfl rfl rfl rfl rfl ⟨rfl, rfl, rfl, rfl, rfl⟩ rfl rfl rfl rfl rfl (by kernel_rfl) Try.func10 (by kernel_rfl)
    (of_decide_eq_true (by kernel_rfl)) (by unfold Func.isWrapper; first | (rw [if_pos (by decide +kernel)]; kernel_rfl) | (rw [if_neg (by decide +kernel)]; exact ⟨rfl, rfl⟩))
    (fun os started H enc _ => lifted os started H enc)

theorem proved : Rows.EntitlementLooksSaid := over
#print axioms proved
end Go.Proofs.Ytpnmiieohdkenaa.entitlementLooks
