/-
  'ApplicationAnswers' returns true for every input, and leaves its input as it was. No condition.
-/
import Derived.Test.YtfbfknmnkcddpaaGreatRows
import Derived.Test.YtfbfknmnkcddpaaGreatVEngC
import Derived.Test.YtfbfknmnkcddpaaGreatVOwnApplicationAnswers
import Derived.WalkKit
import Derived.ProofKit
import Derived.OpenShut
import Derived.ShutString
import Derived.ChangeOld
import Derived.Below
namespace Go.Proofs.YtfbfknmnkcddpaaGreat.applicationAnswers
open Go.ChangeShapes Go.WideShapes Go.ChangeAt Go.RowKit
open Go.ChangeMaps (open_string shut_string)
open RE
set_option linter.unusedVariables false

theorem own : ownKnob Tryz.prog.godebug = none := by kernel_rfl
theorem laidOut : laidOutB Tryz.prog = true := by kernel_rfl

theorem walk (cs0 : Array Value) (x0 : api_Application) (cs1 : Array Value) (x1 : api_Version) (a2 : Int) (a3 : Int) (a4 : Int) (b5 : Option Addr) (len5 cap5 : Nat) (x5 : List (Int)) (b6 : Option Addr) (len6 cap6 : Nat) (x6 : List (Int)) (w : World) (ok0 : ∀ c ∈ enc (.st .api_Application) x0, OkD c) (w0 : Rd (allS w) w (tv (.st .api_Application) x0) (.agg cs0)) (ok1 : ∀ c ∈ enc (.st .api_Version) x1, OkD c) (w1 : Rd (allS w) w (tv (.st .api_Version) x1) (.agg cs1)) (w2 : (Lit.int .i64 a2).wf = true) (w3 : (Lit.int .i64 a3).wf = true) (w4 : (Lit.int .i64 a4).wf = true) (ok5 : OkD (tv (.sl (.int .i64)) x5)) (w5 : Rd (allS w) w (tv (.sl (.int .i64)) x5) (.slice b5 len5 cap5)) (ok6 : OkD (tv (.sl (.int .i64)) x6)) (w6 : Rd (allS w) w (tv (.sl (.int .i64)) x6) (.slice b6 len6 cap6)) :
    Calls Tryz.prog 4 #[.agg cs0, .agg cs1, .int .i64 a2, .int .i64 a3, .int .i64 a4, .slice b5 len5 cap5, .slice b6 len6 cap6] w fun e w' => e = .returned (.bool true) ∧ Below w.heap.size w w' := by
  exact (lAns_calls  x0 x1 a2 a3 a4 x5 x6 (lAns_h x0 x1 a2 a3 a4 x5 x6 w2 w3 w4) (w := w) (S := allS w) (us := [.agg cs0, .agg cs1, .int .i64 a2, .int .i64 a3, .int .i64 a4, .slice b5 len5 cap5, .slice b6 len6 cap6]) (fun _ _ h => h) rfl (RdL.get ⟨w0, ⟨w1, ⟨.v _, ⟨.v _, ⟨.v _, ⟨w5, ⟨w6, trivial⟩⟩⟩⟩⟩⟩⟩)).mono fun e w2 h => ⟨by obtain ⟨⟨b, hb, ht⟩, _⟩ := h; rw [hb, ht], h.2⟩

set_option maxRecDepth 100000 in
theorem lifted (os : Os) (started : os.Started) (H : Type) (enc : TypeId × Value → H) :
    ReturnsInHanded {} Tryz.checked os 4 .any (Rows.applicationAnswersSpec.pre6 enc Tryz.prog Tryz.f4 Rows.applicationAnswersRow.domain false) (Rows.applicationAnswersSpec.post enc Tryz.prog Tryz.f4 false true false false) := by
  refine returnsInHanded_of_change (C := Tryz.checked) own started (by kernel_rfl) Tryz.func4
    (ChangeSpec.witness6 (enc := enc) (C := Tryz.checked) false ⟨#[], #[.agg #[.int .i64 0, .int .i64 0, .slice none 0 0], .agg #[.int .i64 0, .slice none 0 0], .int .i64 0, .int .i64 0, .int .i64 0, .slice none 0 0, .slice none 0 0], []⟩ 8 (by kernel_rfl) (by kernel_rfl) (by kernel_rfl) (by kernel_rfl)) ?_
  intro W base args ds gs before hval0 hW hcnd _
  have hval : ∀ (j : Nat) t v, Tryz.f4.params[j]? = some t → args[j]? = some v → Value.okWide Tryz.prog W .any base t v := hval0
  have hW' := hW
  obtain ⟨p, q, hA0, hV, rfl, hfz, hnd⟩ := hW
  have hA : DataW.TrodAll enc Tryz.prog W 0 (fun _ => true) true Tryz.f4.params.toList args.toList ds p := hA0
  rw [Tryz.params4] at hA hval
  obtain ⟨v0, vs0, d0, ds0, p0, q0, hargs, rfl, rfl, h0, r0⟩ := trodAll_cons hA
  obtain ⟨v1, vs1, d1, ds1, p1, q1, rfl, rfl, rfl, h1, r1⟩ := trodAll_cons r0
  obtain ⟨v2, vs2, d2, ds2, p2, q2, rfl, rfl, rfl, h2, r2⟩ := trodAll_cons r1
  obtain ⟨v3, vs3, d3, ds3, p3, q3, rfl, rfl, rfl, h3, r3⟩ := trodAll_cons r2
  obtain ⟨v4, vs4, d4, ds4, p4, q4, rfl, rfl, rfl, h4, r4⟩ := trodAll_cons r3
  obtain ⟨v5, vs5, d5, ds5, p5, q5, rfl, rfl, rfl, h5, r5⟩ := trodAll_cons r4
  obtain ⟨v6, vs6, d6, ds6, p6, q6, rfl, rfl, rfl, h6, r6⟩ := trodAll_cons r5
  obtain ⟨rfl, rfl, rfl⟩ := trodAll_nil r6
  obtain rfl : args = #[v0, v1, v2, v3, v4, v5, v6] := by cases args; simp_all
  obtain ⟨rfl, rfl⟩ := trodVars_none hV
  obtain ⟨cs0, rfl, _⟩ := okWide_struct Tryz.underlying27 (hval 0 27 v0 rfl rfl)
  have k0 := h0
  have lt0 : ∀ x ∈ p0, x.block < W.heap.size := by obtain ⟨m, hm⟩ := k0; exact DataW.trod_lt m _ _ _ hm
  obtain ⟨x0, ok0, w0⟩ := rd_st (s := .api_Application) (opnC_ok (P := Tryz.prog) (τ := tau) (n := 12) (t := 27) (ts := flds .api_Application) (by kernel_rfl)) h0
  obtain ⟨cs1, rfl, _⟩ := okWide_struct Tryz.underlying31 (hval 1 31 v1 rfl rfl)
  have k1 := h1
  have lt1 : ∀ x ∈ p1, x.block < W.heap.size := by obtain ⟨m, hm⟩ := k1; exact DataW.trod_lt m _ _ _ hm
  obtain ⟨x1, ok1, w1⟩ := rd_st (s := .api_Version) (opnC_ok (P := Tryz.prog) (τ := tau) (n := 12) (t := 31) (ts := flds .api_Version) (by kernel_rfl)) h1
  obtain ⟨a2, rfl, rfl, rfl, w2⟩ := open_int Tryz.underlying3 (hval 2 3 v2 rfl rfl) h2
  obtain ⟨a3, rfl, rfl, rfl, w3⟩ := open_int Tryz.underlying3 (hval 3 3 v3 rfl rfl) h3
  obtain ⟨a4, rfl, rfl, rfl, w4⟩ := open_int Tryz.underlying3 (hval 4 3 v4 rfl rfl) h4
  obtain ⟨b5, len5, cap5, rfl⟩ := okWide_slice Tryz.underlying22 (hval 5 22 v5 rfl rfl)
  have k5 := h5
  have lt5 : ∀ x ∈ p5, x.block < W.heap.size := by obtain ⟨m, hm⟩ := k5; exact DataW.trod_lt m _ _ _ hm
  obtain ⟨x5, ok5, w5⟩ := rd_one (opnC_ok (P := Tryz.prog) (τ := tau) (n := 12) (t := 22) (ts := [.sl (.int .i64)]) (by kernel_rfl)) rfl h5
  obtain ⟨b6, len6, cap6, rfl⟩ := okWide_slice Tryz.underlying22 (hval 6 22 v6 rfl rfl)
  have k6 := h6
  have lt6 : ∀ x ∈ p6, x.block < W.heap.size := by obtain ⟨m, hm⟩ := k6; exact DataW.trod_lt m _ _ _ hm
  obtain ⟨x6, ok6, w6⟩ := rd_one (opnC_ok (P := Tryz.prog) (τ := tau) (n := 12) (t := 22) (ts := [.sl (.int .i64)]) (by kernel_rfl)) rfl h6
  clear hA0 hval0
  refine (walk cs0 x0 cs1 x1 a2 a3 a4 b5 len5 cap5 x5 b6 len6 cap6 x6 W ok0 w0 ok1 w1 w2 w3 w4 ok5 w5 ok6 w6).mono fun e W' ⟨he, bel⟩ => ?_
  subst he
  exact ⟨_, rfl, _, _, _, [], _, [], hW', trodAll_mk1 (shut_bool Tryz.underlying4 _), (trodAll_cons_mk (Below.trod laidOut (by kernel_rfl) (of_decide_eq_true (by kernel_rfl)) k0 bel lt0) (trodAll_cons_mk (Below.trod laidOut (by kernel_rfl) (of_decide_eq_true (by kernel_rfl)) k1 bel lt1) (trodAll_cons_mk (shut_int Tryz.underlying3 w2) (trodAll_cons_mk (shut_int Tryz.underlying3 w3) (trodAll_cons_mk (shut_int Tryz.underlying3 w4) (trodAll_cons_mk (Below.trod laidOut (by kernel_rfl) (of_decide_eq_true (by kernel_rfl)) k5 bel lt5) (trodAll_cons_mk (Below.trod laidOut (by kernel_rfl) (of_decide_eq_true (by kernel_rfl)) k6 bel lt6) trodAll_mk0))))))), rfl, bel.frame _, fun h => by cases h⟩

end Go.Proofs.YtfbfknmnkcddpaaGreat.applicationAnswers
