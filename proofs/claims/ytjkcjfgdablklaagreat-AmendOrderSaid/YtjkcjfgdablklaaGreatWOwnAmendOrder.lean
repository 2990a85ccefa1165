/-
  Chapter 36: the order of notices does not matter.
-/
import Derived.Test.YtjkcjfgdablklaaGreatWAmd
import Derived.Test.YtjkcjfgdablklaaGreatWPlain
set_option maxRecDepth 100000
set_option linter.unusedVariables false
namespace Go.Proofs.YtjkcjfgdablklaaGreat
open Go.RowKit
namespace RE
open PL

def nlockT_P (a : api_Application) (v : api_Version) (l : List (api_Notice)) (post : Int → Bool → Prop) : Prop := (bigA a ∧ bigV v) ∧ ∀ (p : Int) (q : Bool), (p, q) = lockS a v l → post p q
def nlockT_sp : Spec := ⟨43, false, true, [.st .api_Application, .st .api_Version, .sl (.st .api_Notice)], .tup [.dat (.int .i64), .dat (.bool)], fun x post => nlockT_P (x.1 : api_Application) (x.2.1 : api_Version) (x.2.2.1 : List (api_Notice)) (fun y0 y1 => post (y0, y1, ()))⟩
theorem nlockT_ok : SpecOK Tryz.prog nlockT_sp := fun x post hp => nlock_ok x post (by
  exact ⟨hp.1, hp.2 _ _ rfl⟩)
def lOrd_C : CtxR := ⟨tau, [ruleN 13, rule1 kapp_sp, rule1 knot_sp, rule1 knxt_sp, rule1 nlockT_sp, rule1 nannV_sp, rule1 rhas_sp, rule1 rints_sp, rule1 nawake_sp], lookJ [(0, 31, ⟨[(81, .dat (.int .i64))], [], [82, 83, 84, 22, 85, 86, 87, 88, 89], [], []⟩), (0, 1000013, ⟨[(20, .dat (.sl (.int .i64))), (19, .dat (.sl (.int .i64)))], [], [68, 69, 70, 71, 72, 73, 74, 75, 76, 77, 78], [], []⟩), (0, 15, ⟨[(13, .dat (.int .i64)), (12, .own 71 (.st .api_Notice))], [], [40, 41, 44, 45, 46, 47, 48, 49, 50, 42, 43], [], []⟩)]⟩
def lOrd_W (l : List (Int)) (dd : Int) (post : Bool → Prop) : Prop := ∀ (v1 : api_Application) (v2 v3 : Int), appliedOK v1 v2 v3 → ∀ (v4 : List api_Notice), noticesOK v4 → (((1 : Nat) ≤ v1.3.length ∧ v1.3.length ≤ (1000000 : Nat)) ∧ ((-1000000000 : Int) ≤ (ix v1.3 (↑(v1.3.length - (1 : Nat)) : Int)).1 ∧ (ix v1.3 (↑(v1.3.length - (1 : Nat)) : Int)).1 ≤ (1000000000 : Int)) ∧ (ix v1.3 (↑(v1.3.length - (1 : Nat)) : Int)).2.length ≤ (1000000 : Nat)) ∧ ∀ (v5 : api_Version), nextOK { Farm := v1.1, Year := v1.2, Versions := v1.3 : api_Application } v5 → (↑v4.length : Int) ≤ (9223372036854775807 : Int) → LOOP [Ty.int IntKind.i64, (Ty.st Sn.api_Notice).sl] (fun (rec6 : Int → List api_Notice → Prop) (z7 : Int) (z8 : List api_Notice) ↦ IFB (decide ((0 : Int) ≤ z7)) (((0 : Int) ≤ z7 ∧ z7 < (↑v4.length : Int)) ∧ (z8.length + [{ Farm := (ix v4 z7).1, Parcel := (ix v4 z7).2, Day := (ix v4 z7).3 : api_Notice }].length) * (24 : Nat) ≤ (140737488355328 : Nat) ∧ rec6 (IntKind.i64.wrap (z7 - (1 : Int))) (z8 ++ [{ Farm := (ix v4 z7).1, Parcel := (ix v4 z7).2, Day := (ix v4 z7).3 : api_Notice }])) (((30 : Int) = (0 : Int) → False) ∧ ((v1.3.length ≤ (1999999 : Nat) ∧ ∀ (v9 : api_Version), v9 ∈ v1.3 → v9.2.length ≤ (2000000 : Nat) ∧ ∀ (v10 : api_Line), v10 ∈ v9.2 → v10.2.1.length ≤ (2000000 : Nat)) ∧ v5.2.length ≤ (2000000 : Nat) ∧ ∀ (v11 : api_Line), v11 ∈ v5.2 → v11.2.1.length ≤ (2000000 : Nat)) ∧ ∀ (v12 : Int) (v13 : Bool), (v12, v13) = lockS { Farm := v1.1, Year := v1.2, Versions := v1.3 : api_Application } { Day := v5.1, Lines := v5.2 : api_Version } v4 → ((v1.3.length ≤ (1999999 : Nat) ∧ ∀ (v14 : api_Version), v14 ∈ v1.3 → v14.2.length ≤ (2000000 : Nat) ∧ ∀ (v15 : api_Line), v15 ∈ v14.2 → v15.2.1.length ≤ (2000000 : Nat)) ∧ v5.2.length ≤ (2000000 : Nat) ∧ ∀ (v16 : api_Line), v16 ∈ v5.2 → v16.2.1.length ≤ (2000000 : Nat)) ∧ ∀ (v17 : Int) (v18 : Bool), (v17, v18) = lockS { Farm := v1.1, Year := v1.2, Versions := v1.3 : api_Application } { Day := v5.1, Lines := v5.2 : api_Version } z8 → JOIN [(Ty.int IntKind.i64).sl, (Ty.int IntKind.i64).sl] (fun (y19 y20 : List Int) ↦ (↑y20.length : Int) ≤ (9223372036854775807 : Int) → LOOP [Ty.int IntKind.i64] (fun (rec21 : Int → Prop) (z22 : Int) ↦ IFB (decide (z22 < (↑y20.length : Int))) (((0 : Int) ≤ z22 ∧ z22 < (↑y20.length : Int)) ∧ y19.length ≤ (1000000000 : Nat) ∧ ∀ (v23 : Bool), (v23 = true ↔ ix y20 z22 ∈ y19) → IFB (!v23) (post false) (rec21 (IntKind.i64.wrap (z22 + (1 : Int))))) (JOIN [(Ty.int IntKind.i64).sl] (fun (y24 : List Int) ↦ JOIN [Ty.bool] (fun (y25 : Bool) ↦ JOIN [Ty.bool] (fun (y26 : Bool) ↦ post (decide (v12 = v17) && v13 == v18 && y25 && y26)) fun (J27 : Bool → Prop) ↦ IFB (gx true (decide (v12 = v17) && v13 == v18 && y25)) (True ∧ J27 true) (J27 false)) fun (J28 : Bool → Prop) ↦ IFB (gx true (decide (v12 = v17) && v13 == v18)) (y20.length ≤ (1000000000 : Nat) ∧ ∀ (v29 : Bool), (v29 = true ↔ y20 = y24) → J28 v29) (J28 false)) fun (J30 : List Int → Prop) ↦ IFB (gx true (decide (v12 = v17) && v13 == v18)) (∀ (v31 : List Int), v31 = annS z8 v1.1 ((IntKind.i64.wrap dd).tmod (30 : Int)) → J30 v31) (J30 []))) ((0 : Int), PUnit.unit)) fun (J32 : List Int → List Int → Prop) ↦ ∀ (v33 : List Int), v33 = annS v4 v1.1 ((IntKind.i64.wrap dd).tmod (30 : Int)) → ∀ (v34 : List Int), v34 = annS v4 v1.1 (IntKind.i64.wrap ((IntKind.i64.wrap dd).tmod (30 : Int) + (5 : Int))) → J32 v34 v33)) (IntKind.i64.wrap ((↑v4.length : Int) - (1 : Int)), [], PUnit.unit)
theorem lOrd_w (l : List (Int)) (dd : Int) (post : Bool → Prop) : lOrd_W l dd post = lawG (callR Tryz.prog lOrd_C (drawR Tryz.prog tau) 10 0) 11 [tv (.sl (.int .i64)) l, tv (.int .u8) dd] post := by kernel_rfl
theorem lOrd_calls (l : List (Int)) (dd : Int) (h : lOrd_W l dd fun b => b = true) {w : World} {S : Cells} {us : List Value} (h1 : ∀ b o, S b o → b < w.heap.size) (h3 : us.length = 2) (h4 : ∀ (i : Nat) (d : D) (u : Value), [tv (.sl (.int .i64)) l, tv (.int .u8) dd][i]? = some d → us[i]? = some u → Rd S w d u) : Calls Tryz.prog 11 us.toArray w fun e w' => (∃ b, e = .returned (.bool b) ∧ b = true) ∧ Below w.heap.size w w' := lawG_okH (cp := callR Tryz.prog lOrd_C (drawR Tryz.prog tau) 10 0) (callR_ok (C := lOrd_C) (dr := drawR Tryz.prog tau) (.cons (ruleN_ok knew_ok) (.cons (rule1_ok kapp_ok) (.cons (rule1_ok knot_ok) (.cons (rule1_ok knxt_ok) (.cons (rule1_ok nlockT_ok) (.cons (rule1_ok nannV_ok) (.cons (rule1_ok rhas_ok) (.cons (rule1_ok rints_ok) (.cons (rule1_ok nawake_ok) .nil))))))))) (drawR_ok tau) 10 0) (HoldW.of (lOrd_w l dd fun b => b = true) h) h1 h3 h4
theorem boxed_short {p : Int} {l : List Rc} (h : boxed p l) : l.length ≤ 81 := boxed_len h
theorem applied_big {a : api_Application} {l e : Int} (h : appliedOK a l e) : bigA a := by
  obtain ⟨⟨h1, h2⟩, h3, _⟩ := h
  refine ⟨by omega, fun v hv => ?_⟩
  obtain ⟨⟨q1, q2⟩, _⟩ := h3 v hv
  refine ⟨by omega, fun x hx => ?_⟩
  obtain ⟨p, _, _, hb⟩ := q1 x hx
  have := boxed_short hb
  omega
theorem applied_last {a : api_Application} {l e : Int} (h : appliedOK a l e) : ix a.Versions ((a.Versions.length - 1 : Nat) : Int) ∈ a.Versions := by
  obtain ⟨⟨h1, h2⟩, _⟩ := h
  exact ix_mem (by omega) (by omega)
theorem applied_pre {a : api_Application} {l e : Int} (h : appliedOK a l e) : (1 ≤ a.3.length ∧ a.3.length ≤ 1000000) ∧ (-1000000000 ≤ (ix a.3 ((a.3.length - 1 : Nat) : Int)).1 ∧ (ix a.3 ((a.3.length - 1 : Nat) : Int)).1 ≤ 1000000000) ∧ (ix a.3 ((a.3.length - 1 : Nat) : Int)).2.length ≤ 1000000 := by
  have hm := applied_last h
  obtain ⟨⟨h1, h2⟩, h3, _, _, _, _, h4, h5⟩ := h
  obtain ⟨⟨q1, q2⟩, q3, q4⟩ := h3 _ hm
  have h1 : 1 ≤ a.3.length := h1
  have h2 : a.3.length ≤ 2 := h2
  have q3 : 2 ≤ (ix a.3 ((a.3.length - 1 : Nat) : Int)).1 := q3
  have q4 : (ix a.3 ((a.3.length - 1 : Nat) : Int)).1 ≤ l := q4
  have q2 : (ix a.3 ((a.3.length - 1 : Nat) : Int)).2.length ≤ 3 := q2
  refine ⟨⟨h1, by omega⟩, ⟨by omega, by omega⟩, by omega⟩
theorem next_big {a : api_Application} {l e : Int} (h : appliedOK a l e) {v : api_Version} (hv : nextOK a v) : bigV v := by
  have hm := (applied_big h).2 _ (applied_last h)
  obtain ⟨h1, _, h2⟩ := hv
  refine ⟨Nat.le_trans h1 hm.1, fun x hx => ?_⟩
  obtain ⟨y, hy, e⟩ := h2 x hx
  rw [e]; exact hm.2 y hy
def revI (l : List api_Notice) (z : Int) (m : List api_Notice) : Prop := ∃ k : Nat, z = (k : Int) - 1 ∧ k ≤ l.length ∧ m.length + k = l.length ∧ ∀ n, n ∈ m ↔ n ∈ l.drop k
def upI (z : Int) : Nat := (z + 1).toNat
theorem lOrd_h (l : List Int) (dd : Int) (w1 : (Lit.int .u8 dd).wf = true) : lOrd_W l dd fun b => b = true := by
  unfold lOrd_W
  refine fun v1 v2 v3 h1 v4 h4 => ⟨applied_pre h1, fun v5 h5 _ => ?_⟩
  have hA := applied_big h1
  have hB : bigV v5 := next_big h1 h5
  obtain ⟨h41, h42⟩ := h4
  rw [wrap_in (z := (v4.length : Int) - 1) (by omega) (by omega)]
  refine LOOP.fuel (fun u => revI v4 u.1 u.2.1) (fun u => upI u.1) ⟨v4.length, rfl, Nat.le_refl _, by show 0 + v4.length = v4.length; omega, fun n => by show n ∈ ([] : List api_Notice) ↔ _; rw [List.drop_length]⟩ ?_
  rintro rec ⟨(z7 : Int), (z8 : List api_Notice), ⟨⟩⟩ ⟨k, i1, i2, i3, i4⟩ hrec
  have i1 : z7 = (k : Int) - 1 := i1
  have i3 : z8.length + k = v4.length := i3
  have i4 : ∀ n, n ∈ z8 ↔ n ∈ v4.drop k := i4
  subst i1
  refine IFB.mk (fun hb => ?_) (fun hb => ?_)
  · have hb : (0 : Int) ≤ (k : Int) - 1 := of_decide_eq_true hb
    refine ⟨by omega, by simp only [List.length_cons, List.length_nil]; omega, ?_⟩
    have e : ((k : Int) - 1) = ((k - 1 : Nat) : Int) := by omega
    rw [wrap_in (z := (k : Int) - 1 - 1) (by omega) (by omega)]
    refine hrec ((k : Int) - 1 - 1, z8 ++ [ix v4 ((k : Int) - 1)], ()) ⟨k - 1, by show (k : Int) - 1 - 1 = ((k - 1 : Nat) : Int) - 1; omega, by omega, ?_, fun n => ?_⟩ (by show ((k : Int) - 1 - 1 + 1).toNat < ((k : Int) - 1 + 1).toNat; omega)
    · show (z8 ++ [ix v4 ((k : Int) - 1)]).length + (k - 1) = v4.length
      simp only [List.length_append, List.length_cons, List.length_nil]; omega
    · show n ∈ z8 ++ [ix v4 ((k : Int) - 1)] ↔ _
      rw [e, ix_lt (by omega : k - 1 < v4.length), List.drop_eq_getElem_cons (by omega : k - 1 < v4.length), List.mem_append, List.mem_singleton, List.mem_cons, i4, show k - 1 + 1 = k by omega]
      exact Or.comm
  · have hb : ¬ (0 : Int) ≤ (k : Int) - 1 := of_decide_eq_false hb
    have hk : k = 0 := by omega
    subst hk
    rw [List.drop_zero] at i4
    have n4 : nchkS v4 = 0 := nchk_notices ⟨h41, h42⟩
    have n8 : nchkS z8 = 0 := nchk_notices ⟨by omega, fun n hn => h42 n ((i4 n).1 hn)⟩
    have same : ∀ f d, annS z8 f d = annS v4 f d := fun f d => annS_same n8 n4 fun x => by simp only [i4]
    have hlock : ∀ a v, lockS a v z8 = lockS a v v4 := fun a v => by unfold lockS; rw [same]
    refine ⟨fun h => (by cases h), ⟨hA, hB⟩, fun v12 v13 h12 => ⟨⟨hA, hB⟩, fun v17 v18 h17 => JOIN.opq fun (J32 : List Int → List Int → Prop) hJ32 v33 h33 v34 h34 => ?_⟩⟩
    rw [hlock, ← h12] at h17
    injection h17 with e1 e2
    subst e1 e2
    generalize hm : (IntKind.i64.wrap dd).tmod 30 = m at h33 h34 hJ32
    have m1 : m < 30 := by rw [← hm]; exact Int.tmod_lt_of_pos _ (by decide)
    have m2 : -30 < m := by rw [← hm]; exact Int.lt_tmod_of_pos _ (by decide)
    rw [wrap_in (z := m + 5) (by omega) (by omega)] at h34
    rw [hJ32]
    dsimp only
    intro _
    have l33 : v33.length ≤ 100 := by rw [h33]; exact annS_len
    have l34 : v34.length ≤ 100 := by rw [h34]; exact annS_len
    refine loopCmp (n := v33.length) (by omega) (p := fun _ => True) (fun rec2 j hj _ hrec2 => ⟨by omega, by omega, fun v23 h23 => IFB.mk (fun h => ?_) (fun _ => hrec2 trivial)⟩) fun _ => ?_
    · exfalso
      have hx : ix v33 (j : Int) ∈ v33 := ix_mem (by omega) (by omega)
      have : ix v33 (j : Int) ∈ v34 := by
        generalize ix v33 (j : Int) = x at hx
        rw [h33, annS_mem n4] at hx
        rw [h34, annS_mem n4]
        obtain ⟨n, q1, q2, q3, q4⟩ := hx
        exact ⟨n, q1, q2, by omega, q4⟩
      rw [h23.2 this] at h; cases h
    · refine JOIN.opq fun (J30 : List Int → Prop) hJ30 => IFB.mk (fun _ v31 h31 => ?_) (fun h => ?_)
      rotate_left
      · simp [gx] at h
      rw [same] at h31
      have e : v31 = v33 := h31.trans h33.symm
      subst e
      rw [hJ30]
      dsimp only
      refine JOIN.opq fun (J28 : Bool → Prop) hJ28 => IFB.mk (fun _ => ⟨by omega, fun v29 h29 => ?_⟩) (fun h => ?_)
      rotate_left
      · simp [gx] at h
      have h29 : v29 = true := h29.2 rfl
      subst h29
      rw [hJ28]
      dsimp only
      refine JOIN.opq fun (J27 : Bool → Prop) hJ27 => IFB.mk (fun _ => ⟨trivial, ?_⟩) (fun h => ?_)
      rotate_left
      · simp [gx] at h
      rw [hJ27]
      simp

end RE
end Go.Proofs.YtjkcjfgdablklaaGreat
