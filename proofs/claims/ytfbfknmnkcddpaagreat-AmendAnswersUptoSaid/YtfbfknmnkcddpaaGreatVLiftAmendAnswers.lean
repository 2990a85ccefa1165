/-
  'AmendAnswers' returns true for every input of bulk at most 1048576, and leaves its input as it was.
-/
import Derived.Test.YtfbfknmnkcddpaaGreatRows
import Derived.Test.YtfbfknmnkcddpaaGreatVUp
import Derived.Test.YtfbfknmnkcddpaaGreatVOwnAmendAnswers
import Derived.WalkKit
import Derived.ProofKit
import Derived.OpenShut
import Derived.ShutString
import Derived.ChangeOld
import Derived.Below
import Derived.JoinedCond
namespace Go.Proofs.YtfbfknmnkcddpaaGreat.amendAnswers
open Go.ChangeShapes Go.WideShapes Go.ChangeAt Go.RowKit
open Go.ChangeMaps (open_string shut_string)
open RE
set_option linter.unusedVariables false

theorem own : ownKnob Tryz.prog.godebug = none := by kernel_rfl
theorem laidOut : laidOutB Tryz.prog = true := by kernel_rfl

theorem walk (b0 : Option Addr) (len0 cap0 : Nat) (x0 : List (Int)) (cs1 : Array Value) (x1 : api_Application) (cs2 : Array Value) (x2 : api_Version) (b3 : Option Addr) (len3 cap3 : Nat) (x3 : List (api_Notice)) (a4 : Int) (a5 : Int) (a6 : Int) (w : World) (ok0 : Up.OkN 1048576 (tv (.sl (.int .i64)) x0)) (w0 : Rd (allS w) w (tv (.sl (.int .i64)) x0) (.slice b0 len0 cap0)) (ok1 : ∀ c ∈ enc (.st .api_Application) x1, Up.OkN 1048576 c) (w1 : Rd (allS w) w (tv (.st .api_Application) x1) (.agg cs1)) (ok2 : ∀ c ∈ enc (.st .api_Version) x2, Up.OkN 1048576 c) (w2 : Rd (allS w) w (tv (.st .api_Version) x2) (.agg cs2)) (ok3 : Up.OkN 1048576 (tv (.sl (.st .api_Notice)) x3)) (w3 : Rd (allS w) w (tv (.sl (.st .api_Notice)) x3) (.slice b3 len3 cap3)) (w4 : (Lit.int .i64 a4).wf = true) (w5 : (Lit.int .i64 a5).wf = true) (w6 : (Lit.int .i64 a6).wf = true) :
    Calls Tryz.prog 5 #[.slice b0 len0 cap0, .agg cs1, .agg cs2, .slice b3 len3 cap3, .int .i64 a4, .int .i64 a5, .int .i64 a6] w fun e w' => e = .returned (.bool true) ∧ Below w.heap.size w w' := by
  exact (lAmd_calls  x0 x1 x2 x3 a4 a5 a6 (lAmd_h x0 x1 x2 x3 a4 a5 a6 (bigA_ok ok1) (bigV_ok ok2)) (w := w) (S := allS w) (us := [.slice b0 len0 cap0, .agg cs1, .agg cs2, .slice b3 len3 cap3, .int .i64 a4, .int .i64 a5, .int .i64 a6]) (fun _ _ h => h) rfl (RdL.get ⟨w0, ⟨w1, ⟨w2, ⟨w3, ⟨.v _, ⟨.v _, ⟨.v _, trivial⟩⟩⟩⟩⟩⟩⟩)).mono fun e w2 h => ⟨by obtain ⟨⟨b, hb, ht⟩, _⟩ := h; rw [hb, ht], h.2⟩

set_option maxRecDepth 100000 in
theorem lifted (os : Os) (started : os.Started) (H : Type) (enc : TypeId × Value → H) (F : Stop.Interp) :
    ReturnsInHanded {} Tryz.checked os 5 .any ((Rows.OpenSpec.upto Rows.amendAnswersSpec).pre6 enc Tryz.prog Tryz.f5 Rows.amendAnswersUptoRow.domain false) (((Rows.OpenSpec.upto Rows.amendAnswersSpec).at F).post enc Tryz.prog Tryz.f5 false true false false) := by
  refine returnsInHanded_of_cond (C := Tryz.checked) (s := Rows.OpenSpec.upto Rows.amendAnswersSpec) (k := Rows.uptoSmall) rfl own started (by kernel_rfl) Tryz.func5
    (OpenSpec.witness (enc := enc) (C := Tryz.checked) (s := Rows.OpenSpec.upto Rows.amendAnswersSpec) (k := Rows.uptoSmall) rfl false ⟨#[], #[.slice none 0 0, .agg #[.int .i64 0, .int .i64 0, .slice none 0 0], .agg #[.int .i64 0, .slice none 0 0], .slice none 0 0, .int .i64 0, .int .i64 0, .int .i64 0], []⟩ 8 (by kernel_rfl) (by kernel_rfl) (by kernel_rfl)
      (x := ([.nil, .agg [.lit (.int .i64 0), .lit (.int .i64 0), .nil], .agg [.lit (.int .i64 0), .nil], .nil, .lit (.int .i64 0), .lit (.int .i64 0), .lit (.int .i64 0)], [], [])) (by kernel_rfl) rfl (by kernel_rfl)) ?_
  intro W base args ds gs before hval0 hW _ hk _
  have hval : ∀ (j : Nat) t v, Tryz.f5.params[j]? = some t → args[j]? = some v → Value.okWide Tryz.prog W .any base t v := hval0
  have hW' := hW
  obtain ⟨p, q, hA0, hV, rfl, hfz, hnd⟩ := hW
  have hA : DataW.TrodAll enc Tryz.prog W 0 (fun _ => true) true Tryz.f5.params.toList args.toList ds p := hA0
  rw [Tryz.params5] at hA hval
  obtain ⟨v0, vs0, d0, ds0, p0, q0, hargs, rfl, rfl, h0, r0⟩ := trodAll_cons hA
  obtain ⟨v1, vs1, d1, ds1, p1, q1, rfl, rfl, rfl, h1, r1⟩ := trodAll_cons r0
  obtain ⟨v2, vs2, d2, ds2, p2, q2, rfl, rfl, rfl, h2, r2⟩ := trodAll_cons r1
  obtain ⟨v3, vs3, d3, ds3, p3, q3, rfl, rfl, rfl, h3, r3⟩ := trodAll_cons r2
  obtain ⟨v4, vs4, d4, ds4, p4, q4, rfl, rfl, rfl, h4, r4⟩ := trodAll_cons r3
  obtain ⟨v5, vs5, d5, ds5, p5, q5, rfl, rfl, rfl, h5, r5⟩ := trodAll_cons r4
  obtain ⟨v6, vs6, d6, ds6, p6, q6, rfl, rfl, rfl, h6, r6⟩ := trodAll_cons r5
  obtain ⟨rfl, rfl, rfl⟩ := trodAll_nil r6
  obtain rfl : args = #[v0, v1, v2, v3, v4, v5, v6] := by cases args; simp_all
  obtain ⟨rfl, rfl⟩ := trodVars_none hV
  have hbulk := of_decide_eq_true hk
  simp only [List.append_nil, Rows.uptoBulkAll] at hbulk
  obtain ⟨b0, len0, cap0, rfl⟩ := okWide_slice Tryz.underlying22 (hval 0 22 v0 rfl rfl)
  have k0 := h0
  have lt0 : ∀ x ∈ p0, x.block < W.heap.size := by obtain ⟨m, hm⟩ := k0; exact DataW.trod_lt m _ _ _ hm
  obtain ⟨x0, ok0, w0⟩ := Up.rd_one (N := 1048576) (Up.opnC_ok (P := Tryz.prog) (τ := tau) (n := 12) (t := 22) (ts := [.sl (.int .i64)]) (by kernel_rfl)) rfl h0 (by omega)
  obtain ⟨cs1, rfl, _⟩ := okWide_struct Tryz.underlying27 (hval 1 27 v1 rfl rfl)
  have k1 := h1
  have lt1 : ∀ x ∈ p1, x.block < W.heap.size := by obtain ⟨m, hm⟩ := k1; exact DataW.trod_lt m _ _ _ hm
  obtain ⟨x1, ok1, w1⟩ := Up.rd_st (N := 1048576) (s := .api_Application) (Up.opnC_ok (P := Tryz.prog) (τ := tau) (n := 12) (t := 27) (ts := flds .api_Application) (by kernel_rfl)) h1 (by omega)
  obtain ⟨cs2, rfl, _⟩ := okWide_struct Tryz.underlying31 (hval 2 31 v2 rfl rfl)
  have k2 := h2
  have lt2 : ∀ x ∈ p2, x.block < W.heap.size := by obtain ⟨m, hm⟩ := k2; exact DataW.trod_lt m _ _ _ hm
  obtain ⟨x2, ok2, w2⟩ := Up.rd_st (N := 1048576) (s := .api_Version) (Up.opnC_ok (P := Tryz.prog) (τ := tau) (n := 12) (t := 31) (ts := flds .api_Version) (by kernel_rfl)) h2 (by omega)
  obtain ⟨b3, len3, cap3, rfl⟩ := okWide_slice Tryz.underlying62 (hval 3 62 v3 rfl rfl)
  have k3 := h3
  have lt3 : ∀ x ∈ p3, x.block < W.heap.size := by obtain ⟨m, hm⟩ := k3; exact DataW.trod_lt m _ _ _ hm
  obtain ⟨x3, ok3, w3⟩ := Up.rd_one (N := 1048576) (Up.opnC_ok (P := Tryz.prog) (τ := tau) (n := 12) (t := 62) (ts := [.sl (.st .api_Notice)]) (by kernel_rfl)) rfl h3 (by omega)
  obtain ⟨a4, rfl, rfl, rfl, w4⟩ := open_int Tryz.underlying3 (hval 4 3 v4 rfl rfl) h4
  obtain ⟨a5, rfl, rfl, rfl, w5⟩ := open_int Tryz.underlying3 (hval 5 3 v5 rfl rfl) h5
  obtain ⟨a6, rfl, rfl, rfl, w6⟩ := open_int Tryz.underlying3 (hval 6 3 v6 rfl rfl) h6
  clear hA0 hval0
  refine (walk b0 len0 cap0 x0 cs1 x1 cs2 x2 b3 len3 cap3 x3 a4 a5 a6 W ok0 w0 ok1 w1 ok2 w2 ok3 w3 w4 w5 w6).mono fun e W' ⟨he, bel⟩ => ?_
  subst he
  exact ⟨_, rfl, _, _, _, [], _, [], hW', trodAll_mk1 (shut_bool Tryz.underlying4 _), (trodAll_cons_mk (Below.trod laidOut (by kernel_rfl) (of_decide_eq_true (by kernel_rfl)) k0 bel lt0) (trodAll_cons_mk (Below.trod laidOut (by kernel_rfl) (of_decide_eq_true (by kernel_rfl)) k1 bel lt1) (trodAll_cons_mk (Below.trod laidOut (by kernel_rfl) (of_decide_eq_true (by kernel_rfl)) k2 bel lt2) (trodAll_cons_mk (Below.trod laidOut (by kernel_rfl) (of_decide_eq_true (by kernel_rfl)) k3 bel lt3) (trodAll_cons_mk (shut_int Tryz.underlying3 w4) (trodAll_cons_mk (shut_int Tryz.underlying3 w5) (trodAll_cons_mk (shut_int Tryz.underlying3 w6) trodAll_mk0))))))), rfl, bel.frame _, fun h => by cases h⟩

end Go.Proofs.YtfbfknmnkcddpaaGreat.amendAnswers
