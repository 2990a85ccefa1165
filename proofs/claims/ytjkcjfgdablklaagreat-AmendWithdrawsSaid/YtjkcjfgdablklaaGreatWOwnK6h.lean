/-
  Chapter 36: the order of notices does not matter.
-/
import Derived.Test.YtjkcjfgdablklaaGreatWAmd
import Derived.Test.YtjkcjfgdablklaaGreatWPlain
set_option maxRecDepth 100000
set_option linter.unusedVariables false
namespace Go.Proofs.YtjkcjfgdablklaaGreat
open Go.RowKit
namespace RE
open PL

def nlockT_P (a : api_Application) (v : api_Version) (l : List (api_Notice)) (post : Int → Bool → Prop) : Prop := (bigA a ∧ bigV v) ∧ ∀ (p : Int) (q : Bool), (p, q) = lockS a v l → post p q
def nlockT_sp : Spec := ⟨43, false, true, [.st .api_Application, .st .api_Version, .sl (.st .api_Notice)], .tup [.dat (.int .i64), .dat (.bool)], fun x post => nlockT_P (x.1 : api_Application) (x.2.1 : api_Version) (x.2.2.1 : List (api_Notice)) (fun y0 y1 => post (y0, y1, ()))⟩
theorem nlockT_ok : SpecOK Tryz.prog nlockT_sp := fun x post hp => nlock_ok x post (by
  exact ⟨hp.1, hp.2 _ _ rfl⟩)
def lOrd_C : CtxR := ⟨tau, [ruleN 13, rule1 kapp_sp, rule1 knot_sp, rule1 knxt_sp, rule1 nlockT_sp, rule1 nannV_sp, rule1 rhas_sp, rule1 rints_sp, rule1 nawake_sp], lookJ [(0, 31, ⟨[(81, .dat (.int .i64))], [], [82, 83, 84, 22, 85, 86, 87, 88, 89], [], []⟩), (0, 1000013, ⟨[(20, .dat (.sl (.int .i64))), (19, .dat (.sl (.int .i64)))], [], [68, 69, 70, 71, 72, 73, 74, 75, 76, 77, 78], [], []⟩), (0, 15, ⟨[(13, .dat (.int .i64)), (12, .own 71 (.st .api_Notice))], [], [40, 41, 44, 45, 46, 47, 48, 49, 50, 42, 43], [], []⟩)]⟩
def lOrd_W (l : List (Int)) (dd : Int) (post : Bool → Prop) : Prop := ∀ (v1 : api_Application) (v2 v3 : Int), appliedOK v1 v2 v3 → ∀ (v4 : List api_Notice), noticesOK v4 → (((1 : Nat) ≤ v1.3.length ∧ v1.3.length ≤ (1000000 : Nat)) ∧ ((-1000000000 : Int) ≤ (ix v1.3 (↑(v1.3.length - (1 : Nat)) : Int)).1 ∧ (ix v1.3 (↑(v1.3.length - (1 : Nat)) : Int)).1 ≤ (1000000000 : Int)) ∧ (ix v1.3 (↑(v1.3.length - (1 : Nat)) : Int)).2.length ≤ (1000000 : Nat)) ∧ ∀ (v5 : api_Version), nextOK { Farm := v1.1, Year := v1.2, Versions := v1.3 : api_Application } v5 → (↑v4.length : Int) ≤ (9223372036854775807 : Int) → LOOP [Ty.int IntKind.i64, (Ty.st Sn.api_Notice).sl] (fun (rec6 : Int → List api_Notice → Prop) (z7 : Int) (z8 : List api_Notice) ↦ IFB (decide ((0 : Int) ≤ z7)) (((0 : Int) ≤ z7 ∧ z7 < (↑v4.length : Int)) ∧ (z8.length + [{ Farm := (ix v4 z7).1, Parcel := (ix v4 z7).2, Day := (ix v4 z7).3 : api_Notice }].length) * (24 : Nat) ≤ (140737488355328 : Nat) ∧ rec6 (IntKind.i64.wrap (z7 - (1 : Int))) (z8 ++ [{ Farm := (ix v4 z7).1, Parcel := (ix v4 z7).2, Day := (ix v4 z7).3 : api_Notice }])) (((30 : Int) = (0 : Int) → False) ∧ ((v1.3.length ≤ (1999999 : Nat) ∧ ∀ (v9 : api_Version), v9 ∈ v1.3 → v9.2.length ≤ (2000000 : Nat) ∧ ∀ (v10 : api_Line), v10 ∈ v9.2 → v10.2.1.length ≤ (2000000 : Nat)) ∧ v5.2.length ≤ (2000000 : Nat) ∧ ∀ (v11 : api_Line), v11 ∈ v5.2 → v11.2.1.length ≤ (2000000 : Nat)) ∧ ∀ (v12 : Int) (v13 : Bool), (v12, v13) = lockS { Farm := v1.1, Year := v1.2, Versions := v1.3 : api_Application } { Day := v5.1, Lines := v5.2 : api_Version } v4 → ((v1.3.length ≤ (1999999 : Nat) ∧ ∀ (v14 : api_Version), v14 ∈ v1.3 → v14.2.length ≤ (2000000 : Nat) ∧ ∀ (v15 : api_Line), v15 ∈ v14.2 → v15.2.1.length ≤ (2000000 : Nat)) ∧ v5.2.length ≤ (2000000 : Nat) ∧ ∀ (v16 : api_Line), v16 ∈ v5.2 → v16.2.1.length ≤ (2000000 : Nat)) ∧ ∀ (v17 : Int) (v18 : Bool), (v17, v18) = lockS { Farm := v1.1, Year := v1.2, Versions := v1.3 : api_Application } { Day := v5.1, Lines := v5.2 : api_Version } z8 → JOIN [(Ty.int IntKind.i64).sl, (Ty.int IntKind.i64).sl] (fun (y19 y20 : List Int) ↦ (↑y20.length : Int) ≤ (9223372036854775807 : Int) → LOOP [Ty.int IntKind.i64] (fun (rec21 : Int → Prop) (z22 : Int) ↦ IFB (decide (z22 < (↑y20.length : Int))) (((0 : Int) ≤ z22 ∧ z22 < (↑y20.length : Int)) ∧ y19.length ≤ (1000000000 : Nat) ∧ ∀ (v23 : Bool), (v23 = true ↔ ix y20 z22 ∈ y19) → IFB (!v23) (post false) (rec21 (IntKind.i64.wrap (z22 + (1 : Int))))) (JOIN [(Ty.int IntKind.i64).sl] (fun (y24 : List Int) ↦ JOIN [Ty.bool] (fun (y25 : Bool) ↦ JOIN [Ty.bool] (fun (y26 : Bool) ↦ post (decide (v12 = v17) && v13 == v18 && y25 && y26)) fun (J27 : Bool → Prop) ↦ IFB (gx true (decide (v12 = v17) && v13 == v18 && y25)) (True ∧ J27 true) (J27 false)) fun (J28 : Bool → Prop) ↦ IFB (gx true (decide (v12 = v17) && v13 == v18)) (y20.length ≤ (1000000000 : Nat) ∧ ∀ (v29 : Bool), (v29 = true ↔ y20 = y24) → J28 v29) (J28 false)) fun (J30 : List Int → Prop) ↦ IFB (gx true (decide (v12 = v17) && v13 == v18)) (∀ (v31 : List Int), v31 = annS z8 v1.1 ((IntKind.i64.wrap dd).tmod (30 : Int)) → J30 v31) (J30 []))) ((0 : Int), PUnit.unit)) fun (J32 : List Int → List Int → Prop) ↦ ∀ (v33 : List Int), v33 = annS v4 v1.1 ((IntKind.i64.wrap dd).tmod (30 : Int)) → ∀ (v34 : List Int), v34 = annS v4 v1.1 (IntKind.i64.wrap ((IntKind.i64.wrap dd).tmod (30 : Int) + (5 : Int))) → J32 v34 v33)) (IntKind.i64.wrap ((↑v4.length : Int) - (1 : Int)), [], PUnit.unit)
theorem lOrd_w (l : List (Int)) (dd : Int) (post : Bool → Prop) : lOrd_W l dd post = lawG (callR Tryz.prog lOrd_C (drawR Tryz.prog tau) 10 0) 11 [tv (.sl (.int .i64)) l, tv (.int .u8) dd] post := by kernel_rfl
theorem lOrd_calls (l : List (Int)) (dd : Int) (h : lOrd_W l dd fun b => b = true) {w : World} {S : Cells} {us : List Value} (h1 : ∀ b o, S b o → b < w.heap.size) (h3 : us.length = 2) (h4 : ∀ (i : Nat) (d : D) (u : Value), [tv (.sl (.int .i64)) l, tv (.int .u8) dd][i]? = some d → us[i]? = some u → Rd S w d u) : Calls Tryz.prog 11 us.toArray w fun e w' => (∃ b, e = .returned (.bool b) ∧ b = true) ∧ Below w.heap.size w w' := lawG_okH (cp := callR Tryz.prog lOrd_C (drawR Tryz.prog tau) 10 0) (callR_ok (C := lOrd_C) (dr := drawR Tryz.prog tau) (.cons (ruleN_ok knew_ok) (.cons (rule1_ok kapp_ok) (.cons (rule1_ok knot_ok) (.cons (rule1_ok knxt_ok) (.cons (rule1_ok nlockT_ok) (.cons (rule1_ok nannV_ok) (.cons (rule1_ok rhas_ok) (.cons (rule1_ok rints_ok) (.cons (rule1_ok nawake_ok) .nil))))))))) (drawR_ok tau) 10 0) (HoldW.of (lOrd_w l dd fun b => b = true) h) h1 h3 h4
theorem boxed_short {p : Int} {l : List Rc} (h : boxed p l) : l.length ≤ 81 := boxed_len h
theorem applied_big {a : api_Application} {l e : Int} (h : appliedOK a l e) : bigA a := by
  obtain ⟨⟨h1, h2⟩, h3, _⟩ := h
  refine ⟨by omega, fun v hv => ?_⟩
  obtain ⟨⟨q1, q2⟩, _⟩ := h3 v hv
  refine ⟨by omega, fun x hx => ?_⟩
  obtain ⟨p, _, _, hb⟩ := q1 x hx
  have := boxed_short hb
  omega
theorem applied_last {a : api_Application} {l e : Int} (h : appliedOK a l e) : ix a.Versions ((a.Versions.length - 1 : Nat) : Int) ∈ a.Versions := by
  obtain ⟨⟨h1, h2⟩, _⟩ := h
  exact ix_mem (by omega) (by omega)
theorem applied_pre {a : api_Application} {l e : Int} (h : appliedOK a l e) : (1 ≤ a.3.length ∧ a.3.length ≤ 1000000) ∧ (-1000000000 ≤ (ix a.3 ((a.3.length - 1 : Nat) : Int)).1 ∧ (ix a.3 ((a.3.length - 1 : Nat) : Int)).1 ≤ 1000000000) ∧ (ix a.3 ((a.3.length - 1 : Nat) : Int)).2.length ≤ 1000000 := by
  have hm := applied_last h
  obtain ⟨⟨h1, h2⟩, h3, _, _, _, _, h4, h5⟩ := h
  obtain ⟨⟨q1, q2⟩, q3, q4⟩ := h3 _ hm
  have h1 : 1 ≤ a.3.length := h1
  have h2 : a.3.length ≤ 2 := h2
  have q3 : 2 ≤ (ix a.3 ((a.3.length - 1 : Nat) : Int)).1 := q3
  have q4 : (ix a.3 ((a.3.length - 1 : Nat) : Int)).1 ≤ l := q4
  have q2 : (ix a.3 ((a.3.length - 1 : Nat) : Int)).2.length ≤ 3 := q2
  refine ⟨⟨h1, by omega⟩, ⟨by omega, by omega⟩, by omega⟩
theorem next_big {a : api_Application} {l e : Int} (h : appliedOK a l e) {v : api_Version} (hv : nextOK a v) : bigV v := by
  have hm := (applied_big h).2 _ (applied_last h)
  obtain ⟨h1, _, h2⟩ := hv
  refine ⟨Nat.le_trans h1 hm.1, fun x hx => ?_⟩
  obtain ⟨y, hy, e⟩ := h2 x hx
  rw [e]; exact hm.2 y hy
def revI (l : List api_Notice) (z : Int) (m : List api_Notice) : Prop := ∃ k : Nat, z = (k : Int) - 1 ∧ k ≤ l.length ∧ m.length + k = l.length ∧ ∀ n, n ∈ m ↔ n ∈ l.drop k
def upI (z : Int) : Nat := (z + 1).toNat
theorem lOrd_h (l : List Int) (dd : Int) (w1 : (Lit.int .u8 dd).wf = true) : lOrd_W l dd fun b => b = true := by
  unfold lOrd_W
  refine fun v1 v2 v3 h1 v4 h4 => ⟨applied_pre h1, fun v5 h5 _ => ?_⟩
  have hA := applied_big h1
  have hB : bigV v5 := next_big h1 h5
  obtain ⟨h41, h42⟩ := h4
  rw [wrap_in (z := (v4.length : Int) - 1) (by omega) (by omega)]
  refine LOOP.fuel (fun u => revI v4 u.1 u.2.1) (fun u => upI u.1) ⟨v4.length, rfl, Nat.le_refl _, by show 0 + v4.length = v4.length; omega, fun n => by show n ∈ ([] : List api_Notice) ↔ _; rw [List.drop_length]⟩ ?_
  rintro rec ⟨(z7 : Int), (z8 : List api_Notice), ⟨⟩⟩ ⟨k, i1, i2, i3, i4⟩ hrec
  have i1 : z7 = (k : Int) - 1 := i1
  have i3 : z8.length + k = v4.length := i3
  have i4 : ∀ n, n ∈ z8 ↔ n ∈ v4.drop k := i4
  subst i1
  refine IFB.mk (fun hb => ?_) (fun hb => ?_)
  · have hb : (0 : Int) ≤ (k : Int) - 1 := of_decide_eq_true hb
    refine ⟨by omega, by simp only [List.length_cons, List.length_nil]; omega, ?_⟩
    have e : ((k : Int) - 1) = ((k - 1 : Nat) : Int) := by omega
    rw [wrap_in (z := (k : Int) - 1 - 1) (by omega) (by omega)]
    refine hrec ((k : Int) - 1 - 1, z8 ++ [ix v4 ((k : Int) - 1)], ()) ⟨k - 1, by show (k : Int) - 1 - 1 = ((k - 1 : Nat) : Int) - 1; omega, by omega, ?_, fun n => ?_⟩ (by show ((k : Int) - 1 - 1 + 1).toNat < ((k : Int) - 1 + 1).toNat; omega)
    · show (z8 ++ [ix v4 ((k : Int) - 1)]).length + (k - 1) = v4.length
      simp only [List.length_append, List.length_cons, List.length_nil]; omega
    · show n ∈ z8 ++ [ix v4 ((k : Int) - 1)] ↔ _
      rw [e, ix_lt (by omega : k - 1 < v4.length), List.drop_eq_getElem_cons (by omega : k - 1 < v4.length), List.mem_append, List.mem_singleton, List.mem_cons, i4, show k - 1 + 1 = k by omega]
      exact Or.comm
  · have hb : ¬ (0 : Int) ≤ (k : Int) - 1 := of_decide_eq_false hb
    have hk : k = 0 := by omega
    subst hk
    rw [List.drop_zero] at i4
    have n4 : nchkS v4 = 0 := nchk_notices ⟨h41, h42⟩
    have n8 : nchkS z8 = 0 := nchk_notices ⟨by omega, fun n hn => h42 n ((i4 n).1 hn)⟩
    have same : ∀ f d, annS z8 f d = annS v4 f d := fun f d => annS_same n8 n4 fun x => by simp only [i4]
    have hlock : ∀ a v, lockS a v z8 = lockS a v v4 := fun a v => by unfold lockS; rw [same]
    refine ⟨fun h => (by cases h), ⟨hA, hB⟩, fun v12 v13 h12 => ⟨⟨hA, hB⟩, fun v17 v18 h17 => JOIN.opq fun (J32 : List Int → List Int → Prop) hJ32 v33 h33 v34 h34 => ?_⟩⟩
    rw [hlock, ← h12] at h17
    injection h17 with e1 e2
    subst e1 e2
    generalize hm : (IntKind.i64.wrap dd).tmod 30 = m at h33 h34 hJ32
    have m1 : m < 30 := by rw [← hm]; exact Int.tmod_lt_of_pos _ (by decide)
    have m2 : -30 < m := by rw [← hm]; exact Int.lt_tmod_of_pos _ (by decide)
    rw [wrap_in (z := m + 5) (by omega) (by omega)] at h34
    rw [hJ32]
    dsimp only
    intro _
    have l33 : v33.length ≤ 100 := by rw [h33]; exact annS_len
    have l34 : v34.length ≤ 100 := by rw [h34]; exact annS_len
    refine loopCmp (n := v33.length) (by omega) (p := fun _ => True) (fun rec2 j hj _ hrec2 => ⟨by omega, by omega, fun v23 h23 => IFB.mk (fun h => ?_) (fun _ => hrec2 trivial)⟩) fun _ => ?_
    · exfalso
      have hx : ix v33 (j : Int) ∈ v33 := ix_mem (by omega) (by omega)
      have : ix v33 (j : Int) ∈ v34 := by
        generalize ix v33 (j : Int) = x at hx
        rw [h33, annS_mem n4] at hx
        rw [h34, annS_mem n4]
        obtain ⟨n, q1, q2, q3, q4⟩ := hx
        exact ⟨n, q1, q2, by omega, q4⟩
      rw [h23.2 this] at h; cases h
    · refine JOIN.opq fun (J30 : List Int → Prop) hJ30 => IFB.mk (fun _ v31 h31 => ?_) (fun h => ?_)
      rotate_left
      · simp [gx] at h
      rw [same] at h31
      have e : v31 = v33 := h31.trans h33.symm
      subst e
      rw [hJ30]
      dsimp only
      refine JOIN.opq fun (J28 : Bool → Prop) hJ28 => IFB.mk (fun _ => ⟨by omega, fun v29 h29 => ?_⟩) (fun h => ?_)
      rotate_left
      · simp [gx] at h
      have h29 : v29 = true := h29.2 rfl
      subst h29
      rw [hJ28]
      dsimp only
      refine JOIN.opq fun (J27 : Bool → Prop) hJ27 => IFB.mk (fun _ => ⟨trivial, ?_⟩) (fun h => ?_)
      rotate_left
      · simp [gx] at h
      rw [hJ27]
      simp

end RE
end Go.Proofs.YtjkcjfgdablklaaGreat
set_option maxRecDepth 100000
set_option linter.unusedVariables false
namespace Go.Proofs.YtjkcjfgdablklaaGreat
open Go.RowKit
namespace RE
open PL

def lLocks_C : CtxR := ⟨tau, [ruleN 13, rule1 kapp_sp, rule1 knot_sp, rule1 knxt_sp, rule1 namdV_sp, rule1 rsma_sp, rule1 lof_sp, rule1 rsml_sp, rule1 nawake_sp], lookJ [(0, 25, ⟨[(76, .dat (.int .i64))], [], [77, 78, 79, 15, 102, 101, 100, 99, 98, 97, 96, 95, 94, 93, 90, 89, 88, 87, 86, 92, 91, 85, 84, 83, 82, 81, 80, 103, 104], [], []⟩), (0, 1000014, ⟨[(103, .dat .bool)], [], [80, 81, 82, 83, 84, 85, 91, 92, 86, 87, 88, 89, 90, 93, 94, 95, 96, 97, 98, 99, 100, 101, 102], [], []⟩)]⟩
def lLocks_W (l : List (Int)) (post : Bool → Prop) : Prop := ∀ (v1 : api_Application) (v2 v3 : Int), appliedOK v1 v2 v3 → ∀ (v4 : List api_Notice), noticesOK v4 → (((1 : Nat) ≤ v1.3.length ∧ v1.3.length ≤ (1000000 : Nat)) ∧ ((-1000000000 : Int) ≤ (ix v1.3 (↑(v1.3.length - (1 : Nat)) : Int)).1 ∧ (ix v1.3 (↑(v1.3.length - (1 : Nat)) : Int)).1 ≤ (1000000000 : Int)) ∧ (ix v1.3 (↑(v1.3.length - (1 : Nat)) : Int)).2.length ≤ (1000000 : Nat)) ∧ ∀ (v5 : api_Version), nextOK { Farm := v1.1, Year := v1.2, Versions := v1.3 : api_Application } v5 → ((v1.3.length ≤ (1999999 : Nat) ∧ ∀ (v6 : api_Version), v6 ∈ v1.3 → v6.2.length ≤ (2000000 : Nat) ∧ ∀ (v7 : api_Line), v7 ∈ v6.2 → v7.2.1.length ≤ (2000000 : Nat)) ∧ v5.2.length ≤ (2000000 : Nat) ∧ ∀ (v8 : api_Line), v8 ∈ v5.2 → v8.2.1.length ≤ (2000000 : Nat)) ∧ ∀ (v9 : api_Application) (v10 : Int), (v9, v10) = namdS { Farm := v1.1, Year := v1.2, Versions := v1.3 : api_Application } { Day := v5.1, Lines := v5.2 : api_Version } (2 : Int) v2 v3 v4 → IFB (!decide (v10 = (0 : Int))) ((v1.3.length ≤ (1000000000 : Nat) ∧ ∀ (v11 : api_Version), v11 ∈ v1.3 → v11.2.length ≤ (1000000000 : Nat) ∧ ∀ (v12 : api_Line), v12 ∈ v11.2 → v12.2.1.length ≤ (1000000000 : Nat)) ∧ ∀ (v13 : Bool), (v13 = true ↔ { Farm := v1.1, Year := v1.2, Versions := v1.3 : api_Application } = { Farm := v9.1, Year := v9.2, Versions := v9.3 : api_Application }) → JOIN [Ty.bool] (fun (y14 : Bool) ↦ post (v13 && y14)) fun (J15 : Bool → Prop) ↦ IFB (gx true v13) (True ∧ J15 true) (J15 false)) ((↑v9.3.length : Int) ≤ (9223372036854775807 : Int) → (↑v1.3.length : Int) ≤ (9223372036854775807 : Int) → IFB (!decide ((↑v9.3.length : Int) = IntKind.i64.wrap ((↑v1.3.length : Int) + (1 : Int)))) (post false) (((↑v1.3.length : Int) ≤ (9223372036854775807 : Int) → ((0 : Int) ≤ IntKind.i64.wrap ((↑v1.3.length : Int) - (1 : Int)) ∧ IntKind.i64.wrap ((↑v1.3.length : Int) - (1 : Int)) < (↑v1.3.length : Int)) ∧ ((↑v9.3.length : Int) ≤ (9223372036854775807 : Int) → ((0 : Int) ≤ IntKind.i64.wrap ((↑v9.3.length : Int) - (1 : Int)) ∧ IntKind.i64.wrap ((↑v9.3.length : Int) - (1 : Int)) < (↑v9.3.length : Int)) ∧ ((↑v4.length : Int) ≤ (9223372036854775807 : Int) → LOOP [Ty.int IntKind.i64] (fun (rec16 : Int → Prop) (z17 : Int) ↦ IFB (decide (z17 < (↑v4.length : Int))) (((0 : Int) ≤ z17 ∧ z17 < (↑v4.length : Int)) ∧ JOIN [Ty.bool] (fun (y18 : Bool) ↦ IFB y18 (post false) (rec16 (IntKind.i64.wrap (z17 + (1 : Int))))) fun (J19 : Bool → Prop) ↦ IFB (decide ((ix v4 z17).1 = v1.1) && decide ((ix v4 z17).3 ≤ v5.1)) ((ix v1.3 (IntKind.i64.wrap ((↑v1.3.length : Int) - (1 : Int)))).2.length ≤ (2000000 : Nat) ∧ (ix v9.3 (IntKind.i64.wrap ((↑v9.3.length : Int) - (1 : Int)))).2.length ≤ (2000000 : Nat) ∧ ((ofL (ix v1.3 (IntKind.i64.wrap ((↑v1.3.length : Int) - (1 : Int)))).2 (ix v4 z17).2).length ≤ (1000000000 : Nat) ∧ ∀ (v20 : api_Line), v20 ∈ ofL (ix v1.3 (IntKind.i64.wrap ((↑v1.3.length : Int) - (1 : Int)))).2 (ix v4 z17).2 → v20.2.1.length ≤ (1000000000 : Nat)) ∧ ∀ (v21 : Bool), (v21 = true ↔ ofL (ix v1.3 (IntKind.i64.wrap ((↑v1.3.length : Int) - (1 : Int)))).2 (ix v4 z17).2 = ofL (ix v9.3 (IntKind.i64.wrap ((↑v9.3.length : Int) - (1 : Int)))).2 (ix v4 z17).2) → J19 !v21) (J19 false)) (True ∧ post true)) ((0 : Int), PUnit.unit))) ∧ ((↑v9.3.length : Int) ≤ (9223372036854775807 : Int) → ((0 : Int) ≤ IntKind.i64.wrap ((↑v9.3.length : Int) - (1 : Int)) ∧ IntKind.i64.wrap ((↑v9.3.length : Int) - (1 : Int)) < (↑v9.3.length : Int)) ∧ ((↑v4.length : Int) ≤ (9223372036854775807 : Int) → LOOP [Ty.int IntKind.i64] (fun (rec22 : Int → Prop) (z23 : Int) ↦ IFB (decide (z23 < (↑v4.length : Int))) (((0 : Int) ≤ z23 ∧ z23 < (↑v4.length : Int)) ∧ JOIN [Ty.bool] (fun (y24 : Bool) ↦ IFB y24 (post false) (rec22 (IntKind.i64.wrap (z23 + (1 : Int))))) fun (J25 : Bool → Prop) ↦ IFB (decide ((ix v4 z23).1 = v1.1) && decide ((ix v4 z23).3 ≤ v5.1)) ((ix v1.3 (IntKind.i64.wrap ((↑v1.3.length : Int) - (1 : Int)))).2.length ≤ (2000000 : Nat) ∧ (ix v9.3 (IntKind.i64.wrap ((↑v9.3.length : Int) - (1 : Int)))).2.length ≤ (2000000 : Nat) ∧ ((ofL (ix v1.3 (IntKind.i64.wrap ((↑v1.3.length : Int) - (1 : Int)))).2 (ix v4 z23).2).length ≤ (1000000000 : Nat) ∧ ∀ (v26 : api_Line), v26 ∈ ofL (ix v1.3 (IntKind.i64.wrap ((↑v1.3.length : Int) - (1 : Int)))).2 (ix v4 z23).2 → v26.2.1.length ≤ (1000000000 : Nat)) ∧ ∀ (v27 : Bool), (v27 = true ↔ ofL (ix v1.3 (IntKind.i64.wrap ((↑v1.3.length : Int) - (1 : Int)))).2 (ix v4 z23).2 = ofL (ix v9.3 (IntKind.i64.wrap ((↑v9.3.length : Int) - (1 : Int)))).2 (ix v4 z23).2) → J25 !v27) (J25 false)) (True ∧ post true)) ((0 : Int), PUnit.unit)) ∧ ((↑v4.length : Int) ≤ (9223372036854775807 : Int) → LOOP [Ty.int IntKind.i64] (fun (rec28 : Int → Prop) (z29 : Int) ↦ IFB (decide (z29 < (↑v4.length : Int))) (((0 : Int) ≤ z29 ∧ z29 < (↑v4.length : Int)) ∧ JOIN [Ty.bool] (fun (y30 : Bool) ↦ IFB y30 (post false) (rec28 (IntKind.i64.wrap (z29 + (1 : Int))))) fun (J31 : Bool → Prop) ↦ IFB (decide ((ix v4 z29).1 = v1.1) && decide ((ix v4 z29).3 ≤ v5.1)) ((ix v1.3 (IntKind.i64.wrap ((↑v1.3.length : Int) - (1 : Int)))).2.length ≤ (2000000 : Nat) ∧ (ix v9.3 (IntKind.i64.wrap ((↑v9.3.length : Int) - (1 : Int)))).2.length ≤ (2000000 : Nat) ∧ ((ofL (ix v1.3 (IntKind.i64.wrap ((↑v1.3.length : Int) - (1 : Int)))).2 (ix v4 z29).2).length ≤ (1000000000 : Nat) ∧ ∀ (v32 : api_Line), v32 ∈ ofL (ix v1.3 (IntKind.i64.wrap ((↑v1.3.length : Int) - (1 : Int)))).2 (ix v4 z29).2 → v32.2.1.length ≤ (1000000000 : Nat)) ∧ ∀ (v33 : Bool), (v33 = true ↔ ofL (ix v1.3 (IntKind.i64.wrap ((↑v1.3.length : Int) - (1 : Int)))).2 (ix v4 z29).2 = ofL (ix v9.3 (IntKind.i64.wrap ((↑v9.3.length : Int) - (1 : Int)))).2 (ix v4 z29).2) → J31 !v33) (J31 false)) (True ∧ post true)) ((0 : Int), PUnit.unit)))) ∧ ((↑v9.3.length : Int) ≤ (9223372036854775807 : Int) → ((0 : Int) ≤ IntKind.i64.wrap ((↑v9.3.length : Int) - (1 : Int)) ∧ IntKind.i64.wrap ((↑v9.3.length : Int) - (1 : Int)) < (↑v9.3.length : Int)) ∧ ((↑v1.3.length : Int) ≤ (9223372036854775807 : Int) → ((0 : Int) ≤ IntKind.i64.wrap ((↑v1.3.length : Int) - (1 : Int)) ∧ IntKind.i64.wrap ((↑v1.3.length : Int) - (1 : Int)) < (↑v1.3.length : Int)) ∧ ((↑v4.length : Int) ≤ (9223372036854775807 : Int) → LOOP [Ty.int IntKind.i64] (fun (rec34 : Int → Prop) (z35 : Int) ↦ IFB (decide (z35 < (↑v4.length : Int))) (((0 : Int) ≤ z35 ∧ z35 < (↑v4.length : Int)) ∧ JOIN [Ty.bool] (fun (y36 : Bool) ↦ IFB y36 (post false) (rec34 (IntKind.i64.wrap (z35 + (1 : Int))))) fun (J37 : Bool → Prop) ↦ IFB (decide ((ix v4 z35).1 = v1.1) && decide ((ix v4 z35).3 ≤ v5.1)) ((ix v1.3 (IntKind.i64.wrap ((↑v1.3.length : Int) - (1 : Int)))).2.length ≤ (2000000 : Nat) ∧ (ix v9.3 (IntKind.i64.wrap ((↑v9.3.length : Int) - (1 : Int)))).2.length ≤ (2000000 : Nat) ∧ ((ofL (ix v1.3 (IntKind.i64.wrap ((↑v1.3.length : Int) - (1 : Int)))).2 (ix v4 z35).2).length ≤ (1000000000 : Nat) ∧ ∀ (v38 : api_Line), v38 ∈ ofL (ix v1.3 (IntKind.i64.wrap ((↑v1.3.length : Int) - (1 : Int)))).2 (ix v4 z35).2 → v38.2.1.length ≤ (1000000000 : Nat)) ∧ ∀ (v39 : Bool), (v39 = true ↔ ofL (ix v1.3 (IntKind.i64.wrap ((↑v1.3.length : Int) - (1 : Int)))).2 (ix v4 z35).2 = ofL (ix v9.3 (IntKind.i64.wrap ((↑v9.3.length : Int) - (1 : Int)))).2 (ix v4 z35).2) → J37 !v39) (J37 false)) (True ∧ post true)) ((0 : Int), PUnit.unit)) ∧ ((↑v4.length : Int) ≤ (9223372036854775807 : Int) → LOOP [Ty.int IntKind.i64] (fun (rec40 : Int → Prop) (z41 : Int) ↦ IFB (decide (z41 < (↑v4.length : Int))) (((0 : Int) ≤ z41 ∧ z41 < (↑v4.length : Int)) ∧ JOIN [Ty.bool] (fun (y42 : Bool) ↦ IFB y42 (post false) (rec40 (IntKind.i64.wrap (z41 + (1 : Int))))) fun (J43 : Bool → Prop) ↦ IFB (decide ((ix v4 z41).1 = v1.1) && decide ((ix v4 z41).3 ≤ v5.1)) ((ix v1.3 (IntKind.i64.wrap ((↑v1.3.length : Int) - (1 : Int)))).2.length ≤ (2000000 : Nat) ∧ (ix v9.3 (IntKind.i64.wrap ((↑v9.3.length : Int) - (1 : Int)))).2.length ≤ (2000000 : Nat) ∧ ((ofL (ix v1.3 (IntKind.i64.wrap ((↑v1.3.length : Int) - (1 : Int)))).2 (ix v4 z41).2).length ≤ (1000000000 : Nat) ∧ ∀ (v44 : api_Line), v44 ∈ ofL (ix v1.3 (IntKind.i64.wrap ((↑v1.3.length : Int) - (1 : Int)))).2 (ix v4 z41).2 → v44.2.1.length ≤ (1000000000 : Nat)) ∧ ∀ (v45 : Bool), (v45 = true ↔ ofL (ix v1.3 (IntKind.i64.wrap ((↑v1.3.length : Int) - (1 : Int)))).2 (ix v4 z41).2 = ofL (ix v9.3 (IntKind.i64.wrap ((↑v9.3.length : Int) - (1 : Int)))).2 (ix v4 z41).2) → J43 !v45) (J43 false)) (True ∧ post true)) ((0 : Int), PUnit.unit))) ∧ ((↑v1.3.length : Int) ≤ (9223372036854775807 : Int) → ((0 : Int) ≤ IntKind.i64.wrap ((↑v1.3.length : Int) - (1 : Int)) ∧ IntKind.i64.wrap ((↑v1.3.length : Int) - (1 : Int)) < (↑v1.3.length : Int)) ∧ ((↑v4.length : Int) ≤ (9223372036854775807 : Int) → LOOP [Ty.int IntKind.i64] (fun (rec46 : Int → Prop) (z47 : Int) ↦ IFB (decide (z47 < (↑v4.length : Int))) (((0 : Int) ≤ z47 ∧ z47 < (↑v4.length : Int)) ∧ JOIN [Ty.bool] (fun (y48 : Bool) ↦ IFB y48 (post false) (rec46 (IntKind.i64.wrap (z47 + (1 : Int))))) fun (J49 : Bool → Prop) ↦ IFB (decide ((ix v4 z47).1 = v1.1) && decide ((ix v4 z47).3 ≤ v5.1)) ((ix v1.3 (IntKind.i64.wrap ((↑v1.3.length : Int) - (1 : Int)))).2.length ≤ (2000000 : Nat) ∧ (ix v9.3 (IntKind.i64.wrap ((↑v9.3.length : Int) - (1 : Int)))).2.length ≤ (2000000 : Nat) ∧ ((ofL (ix v1.3 (IntKind.i64.wrap ((↑v1.3.length : Int) - (1 : Int)))).2 (ix v4 z47).2).length ≤ (1000000000 : Nat) ∧ ∀ (v50 : api_Line), v50 ∈ ofL (ix v1.3 (IntKind.i64.wrap ((↑v1.3.length : Int) - (1 : Int)))).2 (ix v4 z47).2 → v50.2.1.length ≤ (1000000000 : Nat)) ∧ ∀ (v51 : Bool), (v51 = true ↔ ofL (ix v1.3 (IntKind.i64.wrap ((↑v1.3.length : Int) - (1 : Int)))).2 (ix v4 z47).2 = ofL (ix v9.3 (IntKind.i64.wrap ((↑v9.3.length : Int) - (1 : Int)))).2 (ix v4 z47).2) → J49 !v51) (J49 false)) (True ∧ post true)) ((0 : Int), PUnit.unit))))))
theorem lLocks_w (l : List (Int)) (post : Bool → Prop) : lLocks_W l post = lawG (callR Tryz.prog lLocks_C (drawS Tryz.prog tau) 10 0) 8 [tv (.sl (.int .i64)) l] post := by kernel_rfl
theorem lLocks_calls (l : List (Int)) (h : lLocks_W l fun b => b = true) {w : World} {S : Cells} {us : List Value} (h1 : ∀ b o, S b o → b < w.heap.size) (h3 : us.length = 1) (h4 : ∀ (i : Nat) (d : D) (u : Value), [tv (.sl (.int .i64)) l][i]? = some d → us[i]? = some u → Rd S w d u) : Calls Tryz.prog 8 us.toArray w fun e w' => (∃ b, e = .returned (.bool b) ∧ b = true) ∧ Below w.heap.size w w' := lawG_okH (cp := callR Tryz.prog lLocks_C (drawS Tryz.prog tau) 10 0) (callR_ok (C := lLocks_C) (dr := drawS Tryz.prog tau) (.cons (ruleN_ok knew_ok) (.cons (rule1_ok kapp_ok) (.cons (rule1_ok knot_ok) (.cons (rule1_ok knxt_ok) (.cons (rule1_ok namdV_ok) (.cons (rule1_ok rsma_ok) (.cons (rule1_ok lof_ok) (.cons (rule1_ok rsml_ok) (.cons (rule1_ok nawake_ok) .nil))))))))) (drawS_ok tau) 10 0) (HoldW.of (lLocks_w l fun b => b = true) h) h1 h3 h4
def lFree_C : CtxR := ⟨tau, [ruleN 13, rule1 kapp_sp, rule1 knot_sp, rule1 knxt_sp, rule1 pamendV_sp, rule1 namdV_sp, rule1 rsma_sp, rule1 nawake_sp], lookJ [(0, 13, ⟨[(33, .dat (.int .i64)), (9, .own 71 (.st .api_Notice))], [], [34, 45, 44, 43, 42, 41, 40, 39, 38, 37, 11, 36, 35, 46], [], []⟩), (0, 20, ⟨[(9, .own 71 (.st .api_Notice))], [], [35, 36, 11, 37, 38, 39, 40, 41, 42, 43, 44, 45], [2], []⟩)]⟩
def lFree_W (l : List (Int)) (post : Bool → Prop) : Prop := ∀ (v1 : api_Application) (v2 v3 : Int), appliedOK v1 v2 v3 → (((1 : Nat) ≤ v1.3.length ∧ v1.3.length ≤ (1000000 : Nat)) ∧ ((-1000000000 : Int) ≤ (ix v1.3 (↑(v1.3.length - (1 : Nat)) : Int)).1 ∧ (ix v1.3 (↑(v1.3.length - (1 : Nat)) : Int)).1 ≤ (1000000000 : Int)) ∧ (ix v1.3 (↑(v1.3.length - (1 : Nat)) : Int)).2.length ≤ (1000000 : Nat)) ∧ ∀ (v4 : api_Version), nextOK { Farm := v1.1, Year := v1.2, Versions := v1.3 : api_Application } v4 → ∀ (v5 : List api_Notice), noticesOK v5 → (↑v5.length : Int) ≤ (9223372036854775807 : Int) → LOOP [Ty.int IntKind.i64, (Ty.st Sn.api_Notice).sl] (fun (rec6 : Int → List api_Notice → Prop) (z7 : Int) (z8 : List api_Notice) ↦ IFB (decide (z7 < (↑v5.length : Int))) (JOIN [(Ty.st Sn.api_Notice).sl] (fun (y9 : List api_Notice) ↦ rec6 (IntKind.i64.wrap (z7 + (1 : Int))) y9) fun (J10 : List api_Notice → Prop) ↦ ((0 : Int) ≤ z7 ∧ z7 < (↑v5.length : Int)) ∧ IFB (!decide ((ix v5 z7).1 = v1.1)) ((z8.length + [{ Farm := (ix v5 z7).1, Parcel := (ix v5 z7).2, Day := (ix v5 z7).3 : api_Notice }].length) * (24 : Nat) ≤ (140737488355328 : Nat) ∧ J10 (z8 ++ [{ Farm := (ix v5 z7).1, Parcel := (ix v5 z7).2, Day := (ix v5 z7).3 : api_Notice }])) (J10 z8)) (((v1.3.length ≤ (1999999 : Nat) ∧ ∀ (v11 : api_Version), v11 ∈ v1.3 → v11.2.length ≤ (2000000 : Nat) ∧ ∀ (v12 : api_Line), v12 ∈ v11.2 → v12.2.1.length ≤ (2000000 : Nat)) ∧ v4.2.length ≤ (2000000 : Nat) ∧ ∀ (v13 : api_Line), v13 ∈ v4.2 → v13.2.1.length ≤ (2000000 : Nat)) ∧ ∀ (v14 : api_Application) (v15 : Int), (v14, v15) = amendS { Farm := v1.1, Year := v1.2, Versions := v1.3 : api_Application } { Day := v4.1, Lines := v4.2 : api_Version } (2 : Int) v2 v3 → ((v1.3.length ≤ (1999999 : Nat) ∧ ∀ (v16 : api_Version), v16 ∈ v1.3 → v16.2.length ≤ (2000000 : Nat) ∧ ∀ (v17 : api_Line), v17 ∈ v16.2 → v17.2.1.length ≤ (2000000 : Nat)) ∧ v4.2.length ≤ (2000000 : Nat) ∧ ∀ (v18 : api_Line), v18 ∈ v4.2 → v18.2.1.length ≤ (2000000 : Nat)) ∧ ∀ (v19 : api_Application) (v20 : Int), (v19, v20) = namdS { Farm := v1.1, Year := v1.2, Versions := v1.3 : api_Application } { Day := v4.1, Lines := v4.2 : api_Version } (2 : Int) v2 v3 [] → ((v1.3.length ≤ (1999999 : Nat) ∧ ∀ (v21 : api_Version), v21 ∈ v1.3 → v21.2.length ≤ (2000000 : Nat) ∧ ∀ (v22 : api_Line), v22 ∈ v21.2 → v22.2.1.length ≤ (2000000 : Nat)) ∧ v4.2.length ≤ (2000000 : Nat) ∧ ∀ (v23 : api_Line), v23 ∈ v4.2 → v23.2.1.length ≤ (2000000 : Nat)) ∧ ∀ (v24 : api_Application) (v25 : Int), (v24, v25) = namdS { Farm := v1.1, Year := v1.2, Versions := v1.3 : api_Application } { Day := v4.1, Lines := v4.2 : api_Version } (2 : Int) v2 v3 z8 → JOIN [Ty.bool] (fun (y26 : Bool) ↦ JOIN [Ty.bool] (fun (y27 : Bool) ↦ JOIN [Ty.bool] (fun (y28 : Bool) ↦ post (decide (v15 = v20) && decide (v15 = v25) && y26 && y27 && y28)) fun (J29 : Bool → Prop) ↦ IFB (gx true (decide (v15 = v20) && decide (v15 = v25) && y26 && y27)) (True ∧ J29 true) (J29 false)) fun (J30 : Bool → Prop) ↦ IFB (gx true (decide (v15 = v20) && decide (v15 = v25) && y26)) ((v14.3.length ≤ (1000000000 : Nat) ∧ ∀ (v31 : api_Version), v31 ∈ v14.3 → v31.2.length ≤ (1000000000 : Nat) ∧ ∀ (v32 : api_Line), v32 ∈ v31.2 → v32.2.1.length ≤ (1000000000 : Nat)) ∧ ∀ (v33 : Bool), (v33 = true ↔ { Farm := v14.1, Year := v14.2, Versions := v14.3 : api_Application } = { Farm := v24.1, Year := v24.2, Versions := v24.3 : api_Application }) → J30 v33) (J30 false)) fun (J34 : Bool → Prop) ↦ IFB (gx true (decide (v15 = v20) && decide (v15 = v25))) ((v14.3.length ≤ (1000000000 : Nat) ∧ ∀ (v35 : api_Version), v35 ∈ v14.3 → v35.2.length ≤ (1000000000 : Nat) ∧ ∀ (v36 : api_Line), v36 ∈ v35.2 → v36.2.1.length ≤ (1000000000 : Nat)) ∧ ∀ (v37 : Bool), (v37 = true ↔ { Farm := v14.1, Year := v14.2, Versions := v14.3 : api_Application } = { Farm := v19.1, Year := v19.2, Versions := v19.3 : api_Application }) → J34 v37) (J34 false))) ((0 : Int), [], PUnit.unit)
theorem lFree_w (l : List (Int)) (post : Bool → Prop) : lFree_W l post = lawG (callR Tryz.prog lFree_C (drawR Tryz.prog tau) 10 0) 9 [tv (.sl (.int .i64)) l] post := by kernel_rfl
theorem lFree_calls (l : List (Int)) (h : lFree_W l fun b => b = true) {w : World} {S : Cells} {us : List Value} (h1 : ∀ b o, S b o → b < w.heap.size) (h3 : us.length = 1) (h4 : ∀ (i : Nat) (d : D) (u : Value), [tv (.sl (.int .i64)) l][i]? = some d → us[i]? = some u → Rd S w d u) : Calls Tryz.prog 9 us.toArray w fun e w' => (∃ b, e = .returned (.bool b) ∧ b = true) ∧ Below w.heap.size w w' := lawG_okH (cp := callR Tryz.prog lFree_C (drawR Tryz.prog tau) 10 0) (callR_ok (C := lFree_C) (dr := drawR Tryz.prog tau) (.cons (ruleN_ok knew_ok) (.cons (rule1_ok kapp_ok) (.cons (rule1_ok knot_ok) (.cons (rule1_ok knxt_ok) (.cons (rule1_ok pamendV_ok) (.cons (rule1_ok namdV_ok) (.cons (rule1_ok rsma_ok) (.cons (rule1_ok nawake_ok) .nil)))))))) (drawR_ok tau) 10 0) (HoldW.of (lFree_w l fun b => b = true) h) h1 h3 h4
def lWdr_C : CtxR := ⟨tau, [ruleN 13, rule1 kapp_sp, rule1 krange_sp, rule1 nwdV_sp, rule1 lof_sp, rule1 rsml_sp, rule1 rarea_sp, rule1 nawake_sp], lookJ [(0, 45, ⟨[(109, .dat (.int .i64)), (16, .dat (.int .i64))], [], [110, 111, 112, 18, 113, 114, 115, 116, 117, 118], [], []⟩), (0, 27, ⟨[(14, .dat (.int .i64))], [], [91, 92, 95, 96, 97, 100, 99, 98, 15, 101, 102, 103, 104, 105, 106, 93, 94], [], []⟩), (0, 36, ⟨[(15, .dat (.sl (.st .api_Line)))], [], [98, 99, 100], [], []⟩)]⟩
def lWdr_W (l : List (Int)) (post : Bool → Prop) : Prop := ∀ (v1 : api_Application) (v2 v3 : Int), appliedOK v1 v2 v3 → (↑v1.3.length : Int) ≤ (9223372036854775807 : Int) → ((0 : Int) ≤ IntKind.i64.wrap ((↑v1.3.length : Int) - (1 : Int)) ∧ IntKind.i64.wrap ((↑v1.3.length : Int) - (1 : Int)) < (↑v1.3.length : Int)) ∧ (Int.NonNeg (1099511627777 : Int) ∧ Int.NonNeg (1099511627775 : Int) ∧ Int.NonNeg (1099511627779 : Int) ∧ (3 : Int) ≤ (1099511627776 : Int)) ∧ ∀ (v4 : Int), (1 : Int) ≤ v4 → v4 ≤ (3 : Int) ∨ v4 = (1 : Int) → (↑v1.3.length : Int) ≤ (9223372036854775807 : Int) → ((0 : Int) ≤ IntKind.i64.wrap ((↑v1.3.length : Int) - (1 : Int)) ∧ IntKind.i64.wrap ((↑v1.3.length : Int) - (1 : Int)) < (↑v1.3.length : Int)) ∧ (v1.3.length ≤ (1999999 : Nat) ∧ ∀ (v5 : api_Version), v5 ∈ v1.3 → v5.2.length ≤ (2000000 : Nat) ∧ ∀ (v6 : api_Line), v6 ∈ v5.2 → v6.2.1.length ≤ (2000000 : Nat)) ∧ ∀ (v7 : api_Application) (v8 : Int), (v7, v8) = nwdS { Farm := v1.1, Year := v1.2, Versions := v1.3 : api_Application } v4 (ix v1.3 (IntKind.i64.wrap ((↑v1.3.length : Int) - (1 : Int)))).1 (2 : Int) v2 v3 [] → (ix v1.3 (IntKind.i64.wrap ((↑v1.3.length : Int) - (1 : Int)))).2.length ≤ (2000000 : Nat) ∧ ((↑(ofL (ix v1.3 (IntKind.i64.wrap ((↑v1.3.length : Int) - (1 : Int)))).2 v4).length : Int) ≤ (9223372036854775807 : Int) → IFB (decide ((↑(ofL (ix v1.3 (IntKind.i64.wrap ((↑v1.3.length : Int) - (1 : Int)))).2 v4).length : Int) = (0 : Int))) (JOIN [Ty.bool] (fun (y9 : Bool) ↦ post (decide (v8 = (15 : Int)) && y9)) fun (J10 : Bool → Prop) ↦ IFB (gx true (decide (v8 = (15 : Int)))) (True ∧ J10 true) (J10 false)) (((gx false !decide (v8 = (0 : Int))) = true → (↑v7.3.length : Int) ≤ (9223372036854775807 : Int)) → ((gx false !decide (v8 = (0 : Int))) = true → (↑v1.3.length : Int) ≤ (9223372036854775807 : Int)) → IFB (!decide (v8 = (0 : Int)) || !decide ((↑v7.3.length : Int) = IntKind.i64.wrap ((↑v1.3.length : Int) + (1 : Int)))) (post false) ((↑v7.3.length : Int) ≤ (9223372036854775807 : Int) → ((0 : Int) ≤ IntKind.i64.wrap ((↑v7.3.length : Int) - (1 : Int)) ∧ IntKind.i64.wrap ((↑v7.3.length : Int) - (1 : Int)) < (↑v7.3.length : Int)) ∧ LOOP [Ty.int IntKind.i64] (fun (rec11 : Int → Prop) (z12 : Int) ↦ IFB (decide (z12 ≤ (3 : Int))) ((ix v1.3 (IntKind.i64.wrap ((↑v1.3.length : Int) - (1 : Int)))).2.length ≤ (2000000 : Nat) ∧ JOIN [(Ty.st Sn.api_Line).sl] (fun (y13 : List api_Line) ↦ (ix v7.3 (IntKind.i64.wrap ((↑v7.3.length : Int) - (1 : Int)))).2.length ≤ (2000000 : Nat) ∧ ((ofL (ix v7.3 (IntKind.i64.wrap ((↑v7.3.length : Int) - (1 : Int)))).2 z12).length ≤ (1000000000 : Nat) ∧ ∀ (v14 : api_Line), v14 ∈ ofL (ix v7.3 (IntKind.i64.wrap ((↑v7.3.length : Int) - (1 : Int)))).2 z12 → v14.2.1.length ≤ (1000000000 : Nat)) ∧ ∀ (v15 : Bool), (v15 = true ↔ ofL (ix v7.3 (IntKind.i64.wrap ((↑v7.3.length : Int) - (1 : Int)))).2 z12 = y13) → IFB (!v15) (post false) (rec11 (IntKind.i64.wrap (z12 + (1 : Int))))) fun (J16 : List api_Line → Prop) ↦ IFB (decide (z12 = v4)) (J16 []) (J16 (ofL (ix v1.3 (IntKind.i64.wrap ((↑v1.3.length : Int) - (1 : Int)))).2 z12))) ((↑(ix v7.3 (IntKind.i64.wrap ((↑v7.3.length : Int) - (1 : Int)))).2.length : Int) ≤ (9223372036854775807 : Int) → LOOP [Ty.int IntKind.i64, Ty.int IntKind.i64] (fun (rec17 : Int → Int → Prop) (z18 z19 : Int) ↦ IFB (decide (z18 < (↑(ix v7.3 (IntKind.i64.wrap ((↑v7.3.length : Int) - (1 : Int)))).2.length : Int))) (((0 : Int) ≤ z18 ∧ z18 < (↑(ix v7.3 (IntKind.i64.wrap ((↑v7.3.length : Int) - (1 : Int)))).2.length : Int)) ∧ ∀ (v20 : Int), (0 : Int) ≤ v20 ∧ v20 ≤ (40000000000 : Int) → rec17 (IntKind.i64.wrap (z18 + (1 : Int))) (IntKind.i64.wrap (z19 + v20))) ((v7.3.length ≤ (1999999 : Nat) ∧ ∀ (v21 : api_Version), v21 ∈ v7.3 → v21.2.length ≤ (2000000 : Nat) ∧ ∀ (v22 : api_Line), v22 ∈ v21.2 → v22.2.1.length ≤ (2000000 : Nat)) ∧ ∀ (v23 : api_Application) (v24 : Int), (v23, v24) = nwdS { Farm := v7.1, Year := v7.2, Versions := v7.3 : api_Application } v4 (ix v1.3 (IntKind.i64.wrap ((↑v1.3.length : Int) - (1 : Int)))).1 (2 : Int) v2 v3 [] → JOIN [Ty.bool] (fun (y25 : Bool) ↦ post (decide ((0 : Int) ≤ z19) && decide (v24 = (15 : Int)) && y25)) fun (J26 : Bool → Prop) ↦ IFB (gx true (decide ((0 : Int) ≤ z19) && decide (v24 = (15 : Int)))) (True ∧ J26 true) (J26 false))) ((0 : Int), (0 : Int), PUnit.unit))) ((1 : Int), PUnit.unit))))
theorem lWdr_w (l : List (Int)) (post : Bool → Prop) : lWdr_W l post = lawG (callR Tryz.prog lWdr_C (drawR Tryz.prog tau) 10 0) 10 [tv (.sl (.int .i64)) l] post := by kernel_rfl
theorem lWdr_calls (l : List (Int)) (h : lWdr_W l fun b => b = true) {w : World} {S : Cells} {us : List Value} (h1 : ∀ b o, S b o → b < w.heap.size) (h3 : us.length = 1) (h4 : ∀ (i : Nat) (d : D) (u : Value), [tv (.sl (.int .i64)) l][i]? = some d → us[i]? = some u → Rd S w d u) : Calls Tryz.prog 10 us.toArray w fun e w' => (∃ b, e = .returned (.bool b) ∧ b = true) ∧ Below w.heap.size w w' := lawG_okH (cp := callR Tryz.prog lWdr_C (drawR Tryz.prog tau) 10 0) (callR_ok (C := lWdr_C) (dr := drawR Tryz.prog tau) (.cons (ruleN_ok knew_ok) (.cons (rule1_ok kapp_ok) (.cons (rule1_ok krange_ok) (.cons (rule1_ok nwdV_ok) (.cons (rule1_ok lof_ok) (.cons (rule1_ok rsml_ok) (.cons (rule1_ok rarea_ok) (.cons (rule1_ok nawake_ok) .nil)))))))) (drawR_ok tau) 10 0) (HoldW.of (lWdr_w l fun b => b = true) h) h1 h3 h4
theorem amendS_cases {a b : api_Application} {v : api_Version} {o la e q : Int} (h : (b, q) = amendS a v o la e) : (q ≠ 0 ∧ b = a) ∨ (q = 0 ∧ b = moreV a v) := by
  unfold amendS at h
  split at h
  · rename_i h1; injection h with e1 e2; exact .inl ⟨by rw [e2]; exact h1, e1⟩
  · split at h
    · rename_i h1; injection h with e1 e2; exact .inl ⟨by rw [e2]; exact h1, e1⟩
    · injection h with e1 e2; exact .inr ⟨e2, e1⟩
theorem namdS_cases {a b : api_Application} {v : api_Version} {o la e q : Int} {l : List api_Notice} (h : (b, q) = namdS a v o la e l) : (q ≠ 0 ∧ b = a) ∨ (q = 0 ∧ b = moreV a v ∧ nchkS l = 0 ∧ (lockS a v l).2 = false) := by
  unfold namdS at h
  split at h
  · rename_i h1; injection h with e1 e2; exact .inl ⟨by rw [e2]; exact h1, e1⟩
  · rename_i h0
    split at h
    · injection h with e1 e2; exact .inl ⟨by rw [e2]; decide, e1⟩
    · rename_i h1
      rcases amendS_cases h with h | h
      · exact .inl h
      · exact .inr ⟨h.1, h.2, by simpa using h0, by simpa using h1⟩
theorem lock_false {a : api_Application} {v : api_Version} {l : List api_Notice} (h : (lockS a v l).2 = false) (h0 : a.Versions ≠ []) {p : Int} (hp : p ∈ annS l a.Farm v.Day) : ofL (ix a.Versions ((a.Versions.length - 1 : Nat) : Int)).Lines p = ofL v.Lines p := by
  unfold lockS at h
  rw [if_neg h0] at h
  split at h
  · cases h
  · rename_i hn
    have := List.find?_eq_none.1 hn p hp
    simpa using this
theorem big_same {a : api_Application} (h : bigA a) : a.3.length ≤ 1000000000 ∧ ∀ v ∈ a.3, v.2.length ≤ 1000000000 ∧ ∀ x ∈ v.2, x.2.1.length ≤ 1000000000 := by
  obtain ⟨h1, h2⟩ := h
  refine ⟨Nat.le_trans h1 (by omega), fun v hv => ?_⟩
  obtain ⟨h3, h4⟩ := h2 v hv
  exact ⟨Nat.le_trans h3 (by omega), fun x hx => Nat.le_trans (h4 x hx) (by omega)⟩
theorem more_big {a : api_Application} {v : api_Version} (h : bigA a) (h2 : a.Versions.length ≤ 1000) (hv : bigV v) : bigA (moreV a v) := by
  refine ⟨?_, fun w hw => ?_⟩
  · show (a.Versions ++ [v]).length ≤ 1999999
    simp only [List.length_append, List.length_cons, List.length_nil]; omega
  · have hw : w ∈ a.Versions ++ [v] := hw
    rcases List.mem_append.1 hw with hw | hw
    · exact h.2 w hw
    · rw [List.mem_singleton] at hw; subst hw; exact hv
theorem more_last {a : api_Application} {v : api_Version} : ix (moreV a v).Versions ((a.Versions.length : Nat) : Int) = v := by
  show ix (a.Versions ++ [v]) _ = v
  exact ix_app rfl
theorem more_len {a : api_Application} {v : api_Version} : (moreV a v).Versions.length = a.Versions.length + 1 := by
  show (a.Versions ++ [v]).length = _
  simp
theorem lLocks_h (l : List Int) : lLocks_W l fun b => b = true := by
  unfold lLocks_W
  refine fun v1 v2 v3 h1 v4 h4 => ⟨applied_pre h1, fun v5 h5 => ⟨⟨applied_big h1, next_big h1 h5⟩, fun v9 v10 h9 => ?_⟩⟩
  have hlen : 1 ≤ v1.3.length ∧ v1.3.length ≤ 2 := h1.1
  have hB := applied_big h1
  have hV := next_big h1 h5
  have hc := namdS_cases (a := v1) h9
  refine IFB.mk (fun hb => ?_) (fun hb _ _ => ?_)
  · have hb : ¬ v10 = 0 := by simpa using hb
    rcases hc with ⟨_, e⟩ | ⟨e, _⟩
    · refine ⟨big_same hB, fun v13 h13 => JOIN.opq fun (J15 : Bool → Prop) hJ15 => ?_⟩
      have : v13 = true := h13.2 (by rw [e])
      subst this
      refine IFB.mk (fun _ => ⟨trivial, ?_⟩) (fun h => by cases h)
      rw [hJ15]; rfl
    · exact absurd e hb
  · have hb : v10 = 0 := by simpa using hb
    rcases hc with ⟨e, _⟩ | ⟨_, e, hn, hlk⟩
    · exact absurd hb e
    have hl9 : v9.3.length = v1.3.length + 1 := by rw [e]; exact more_len
    rw [wrap_in (z := (v1.3.length : Int) + 1) (by omega) (by omega), wrap_in (z := (v1.3.length : Int) - 1) (by omega) (by omega), wrap_in (z := (v9.3.length : Int) - 1) (by omega) (by omega)]
    rw [show (v9.3.length : Int) - 1 = ((v1.Versions.length : Nat) : Int) by rw [hl9]; show ((v1.Versions.length + 1 : Nat) : Int) - 1 = _; omega]
    rw [show (v1.3.length : Int) - 1 = ((v1.Versions.length - 1 : Nat) : Int) by show (v1.Versions.length : Int) - 1 = _; have : 1 ≤ v1.Versions.length := hlen.1; omega]
    have e9 : ix v9.3 ((v1.Versions.length : Nat) : Int) = v5 := by rw [e]; exact more_last
    rw [e9]
    refine IFB.mk (fun h => ?_) (fun _ => ?_)
    · rw [hl9] at h; simp at h
    have b1 : (0 : Int) ≤ ((v1.Versions.length - 1 : Nat) : Int) ∧ ((v1.Versions.length - 1 : Nat) : Int) < (v1.3.length : Int) := by
      have e : v1.3.length = v1.Versions.length := rfl
      omega
    have b2 : (0 : Int) ≤ ((v1.Versions.length : Nat) : Int) ∧ ((v1.Versions.length : Nat) : Int) < (v9.3.length : Int) := by
      rw [hl9]
      have e : v1.3.length = v1.Versions.length := rfl
      omega
    have hne : v1.Versions ≠ [] := fun e => by
      have : v1.3.length = 0 := by show v1.Versions.length = 0; rw [e]; rfl
      omega
    have hLb := hB.2 _ (applied_last h1)
    have key := fun p => lock_false (p := p) hlk hne
    obtain ⟨h41, h42⟩ := h4
    repeat' first
      | exact b1
      | exact b2
      | with_reducible apply And.intro
      | intro (_ : (_ : Int) ≤ 9223372036854775807)
    all_goals
      refine loopCmp (n := v4.length) (by omega) (p := fun _ => True) (fun rec k hk _ hrec => ⟨by omega, JOIN.opq fun (J19 : Bool → Prop) hJ19 => ?_⟩) fun _ => ⟨trivial, rfl⟩
      have hJ : J19 false := by
        rw [hJ19]
        exact IFB.mk (fun h => by cases h) (fun _ => hrec trivial)
      refine IFB.mk (fun h => ⟨hLb.1, hV.1, ⟨?_, fun x hx => ?_⟩, fun v21 h21 => ?_⟩) (fun _ => hJ)
      · exact Nat.le_trans ofL_len (Nat.le_trans hLb.1 (by omega))
      · exact Nat.le_trans (hLb.2 x (ofL_mem.1 hx).1) (by omega)
      · rw [Bool.and_eq_true, decide_eq_true_eq, decide_eq_true_eq] at h
        have : v21 = true := h21.2 (key _ ((annS_mem hn).2 ⟨_, ix_mem (l := v4) (i := (k : Int)) (by omega) (by omega), h.1, h.2, rfl⟩))
        rw [this]; exact hJ
theorem namd_free {a : api_Application} {v : api_Version} {o la e : Int} {l : List api_Notice} (h : nchkS l = 0) (h2 : annS l a.Farm v.Day = []) : namdS a v o la e l = amendS a v o la e := by
  unfold namdS
  rw [if_neg (by simp [h]), lock_none h2, if_neg (by simp)]
theorem nchk_nil : nchkS [] = 0 := nchk_notices ⟨by simp, fun n hn => by cases hn⟩
theorem annS_nil {f d : Int} : annS [] f d = [] := annS_none fun n hn => by cases hn
theorem lFree_h (l : List Int) : lFree_W l fun b => b = true := by
  unfold lFree_W
  refine fun v1 v2 v3 h1 => ⟨applied_pre h1, fun v4 h4 v5 h5 _ => ?_⟩
  have hB := applied_big h1
  have hV := next_big h1 h4
  obtain ⟨h51, h52⟩ := h5
  refine loopF (t := .sl (.st .api_Notice)) (n := v5.length) (by omega) (fun k => filtK (α := api_Notice) (fun x => !decide (x.Farm = v1.Farm)) v5 k) (fun (rec : Int → List api_Notice → Prop) k hk hrec => ?_) ?_
  · refine JOIN.opq fun (J5 : List api_Notice → Prop) hJ5 => ⟨by omega, ?_⟩
    have hrec : rec (IntKind.i64.wrap ((k : Int) + 1)) (filtK (α := api_Notice) (fun x => !decide (x.Farm = v1.Farm)) v5 (k + 1)) := hrec
    rw [filtK_succ hk] at hrec
    have hlen : (filtK (fun x : api_Notice => !decide (x.Farm = v1.Farm)) v5 k).length ≤ k := filtK_len
    refine IFB.mk (fun h => ⟨by simp only [List.length_cons, List.length_nil]; omega, ?_⟩) (fun h => ?_)
    · rw [if_pos h] at hrec
      rw [hJ5]; exact hrec
    · rw [if_neg (by show ¬ (!decide ((ix v5 (k : Int)).1 = v1.1)) = true; rw [h]; simp)] at hrec
      rw [hJ5]; exact hrec
  · show _ ∧ _
    rw [filtK_all]
    have hn : nchkS (v5.filter fun x => !decide (x.Farm = v1.Farm)) = 0 := nchk_notices ⟨Nat.le_trans (List.length_filter_le _ _) h51, fun n hn => h52 n (List.mem_filter.1 hn).1⟩
    have ha : annS (v5.filter fun x => !decide (x.Farm = v1.Farm)) v1.Farm v4.Day = [] := annS_none fun n hn hf _ => by
      have := (List.mem_filter.1 hn).2
      rw [hf] at this; simp at this
    refine ⟨⟨hB, hV⟩, fun v14 v15 e14 => ⟨⟨hB, hV⟩, fun v19 v20 e19 => ⟨⟨hB, hV⟩, fun v24 v25 e24 => ?_⟩⟩⟩
    rw [namd_free nchk_nil annS_nil] at e19
    have e24 : (v24, v25) = namdS v1 v4 2 v2 v3 (v5.filter fun x => !decide (x.Farm = v1.Farm)) := e24
    rw [namd_free hn ha] at e24
    have e24 : (v24, v25) = (v14, v15) := e24.trans e14.symm
    have e19 : (v19, v20) = (v14, v15) := e19.trans e14.symm
    injection e24 with q1 q2
    injection e19 with q3 q4
    subst q1 q2 q3 q4
    have hbig : bigA v19 := by
      rcases amendS_cases (a := v1) e14 with ⟨_, e⟩ | ⟨_, e⟩
      · rw [e]; exact hB
      · rw [e]; exact more_big hB (by have := h1.1.2; omega) hV
    refine JOIN.opq fun (J34 : Bool → Prop) hJ34 => IFB.mk (fun _ => ⟨big_same hbig, fun v37 h37 => ?_⟩) (fun h => by simp [gx] at h)
    have : v37 = true := h37.2 rfl
    subst this
    rw [hJ34]
    dsimp only
    refine JOIN.opq fun (J30 : Bool → Prop) hJ30 => IFB.mk (fun _ => ⟨big_same hbig, fun v33 h33 => ?_⟩) (fun h => by simp [gx] at h)
    have : v33 = true := h33.2 rfl
    subst this
    rw [hJ30]
    dsimp only
    refine JOIN.opq fun (J29 : Bool → Prop) hJ29 => IFB.mk (fun _ => ⟨trivial, ?_⟩) (fun h => by simp [gx] at h)
    rw [hJ29]; simp
theorem chk_all {a : api_Application} {o la e : Int} (h0 : 0 ≤ o ∧ o ≤ la ∧ la ≤ e ∧ e ≤ 36864) (h1 : 1 ≤ a.Farm ∧ a.Farm ≤ 60) (h2 : 0 ≤ a.Year ∧ a.Year ≤ 100) (h3 : 1 ≤ a.Versions.length ∧ a.Versions.length ≤ 40) (h4 : ∀ v ∈ a.Versions, v.Lines.length ≤ 20 ∧ linesV v.Lines ∧ o ≤ v.Day ∧ v.Day ≤ la) (h5 : a.Versions.Pairwise (fun v w => v.Day ≤ w.Day)) : chkS a o la e = 0 := by
  unfold chkS
  rw [if_neg (fun h => h h0), if_neg (by omega), if_neg (by omega), if_neg, firstE_zero]
  · intro j hj
    have hm : ix a.Versions (j : Int) ∈ a.Versions := ix_mem (by omega) (by omega)
    obtain ⟨q1, q2, q3, q4⟩ := h4 _ hm
    unfold chkAt chk1
    rw [if_neg, if_neg (by omega), if_neg (fun h => h q2), if_neg]
    · rintro ⟨q, _, hq, _⟩; omega
    · rintro (h | ⟨q, hq, hlt⟩)
      · omega
      · unfold prevV at hq
        split at hq
        · cases hq
        · rename_i hj0
          injection hq with hq
          subst hq
          rw [ix_lt (by omega), ix_lt (by omega)] at hlt
          have := List.pairwise_iff_getElem.1 h5 (j - 1) j (by omega) hj (by omega)
          omega
  · rintro (h | h | ⟨v, hv, h⟩)
    · omega
    · omega
    · have := (h4 v hv).1; omega
def wdI (n : Nat) (z s : Int) : Prop := ∃ k : Nat, z = (k : Int) ∧ k ≤ n ∧ 0 ≤ s ∧ s ≤ 40000000000 * (k : Int)
def oneI (z : Int) : Prop := 1 ≤ z ∧ z ≤ 4
def downI (z : Int) : Nat := (4 - z).toNat
def lowI (n : Nat) (z : Int) : Nat := n - z.toNat
theorem lWdr_h (l : List Int) : lWdr_W l fun b => b = true := by
  unfold lWdr_W
  intro v1 v2 v3 h1 _
  have hB := applied_big h1
  have hm := applied_last h1
  have hLb := hB.2 _ hm
  obtain ⟨⟨p1, p2⟩, p3, p4, ⟨p5, p6⟩, p7, p8, p9, p10⟩ := h1
  obtain ⟨⟨q1, q2⟩, q3, q4⟩ := p3 _ hm
  have el : v1.3.length = v1.Versions.length := rfl
  rw [wrap_in (z := (v1.3.length : Int) - 1) (by omega) (by omega), show (v1.3.length : Int) - 1 = ((v1.Versions.length - 1 : Nat) : Int) by omega]
  have bL : ∀ w : api_Version, w ∈ v1.Versions → w.Lines.length ≤ 20 ∧ linesV w.Lines ∧ 2 ≤ w.Day ∧ w.Day ≤ v2 := fun w hw => by
    obtain ⟨⟨r1, r2⟩, r3, r4⟩ := p3 w hw
    exact ⟨by omega, linesOK_V r1, r3, r4⟩
  have lastMax : ∀ w ∈ v1.Versions, w.Day ≤ (ix v1.Versions ((v1.Versions.length - 1 : Nat) : Int)).Day := fun w hw => by
    obtain ⟨j, hj, rfl⟩ := List.getElem_of_mem hw
    rw [ix_lt (by omega)]
    by_cases e : j = v1.Versions.length - 1
    · subst e; exact Int.le_refl _
    · exact List.pairwise_iff_getElem.1 p4 j (v1.Versions.length - 1) hj (by omega) (by omega)
  refine ⟨by omega, ⟨Int.NonNeg.mk _, Int.NonNeg.mk _, Int.NonNeg.mk _, by omega⟩, fun v4 a4 b4 _ => ⟨by omega, hB, fun v7 v8 h7 => ⟨hLb.1, fun _ => ?_⟩⟩⟩
  have e0 : ix v1.3 ((v1.Versions.length - 1 : Nat) : Int) = ix v1.Versions ((v1.Versions.length - 1 : Nat) : Int) := rfl
  rw [e0] at *
  generalize hL : ix v1.Versions ((v1.Versions.length - 1 : Nat) : Int) = L at *
  have h7 : (v7, v8) = nwdS v1 v4 L.Day 2 v2 v3 [] := h7
  have hne : v1.Versions ≠ [] := fun e => by rw [e] at p1; simp at p1
  unfold nwdS at h7
  rw [if_neg (by simp [nchk_nil]), hL] at h7
  refine IFB.mk (fun hb => ?_) (fun hb _ _ => ?_)
  · have hb : ofL L.Lines v4 = [] := List.eq_nil_of_length_eq_zero (by have := of_decide_eq_true hb; exact Int.ofNat.inj this)
    rw [if_pos (.inr hb)] at h7
    injection h7 with e1 e2
    subst e1 e2
    refine JOIN.opq fun (J10 : Bool → Prop) hJ10 => IFB.mk (fun _ => ⟨trivial, ?_⟩) (fun h => by cases h)
    rw [hJ10]; rfl
  · have hb : ¬ ofL L.Lines v4 = [] := fun e => by
      have := of_decide_eq_false hb
      exact this (by show ((ofL L.Lines v4).length : Int) = 0; rw [e]; rfl)
    rw [if_neg (fun h => h.elim hne hb), namd_free nchk_nil annS_nil] at h7
    generalize hF : (L.Lines.filter fun x => !decide (x.Parcel = v4)) = F at h7
    have hFm : ∀ x ∈ F, x ∈ L.Lines := fun x hx => by rw [← hF] at hx; exact (List.mem_filter.1 hx).1
    have hFl : F.length ≤ 3 := by rw [← hF]; exact Nat.le_trans (List.length_filter_le _ _) q2
    have hbF : bigV ⟨L.Day, F⟩ := ⟨by show F.length ≤ 2000000; omega, fun x hx => hLb.2 x (hFm x hx)⟩
    have c1 : chkS v1 2 v2 v3 = 0 := chk_all ⟨by omega, by omega, by omega, by omega⟩ ⟨by omega, by omega⟩ ⟨by omega, by omega⟩ ⟨by omega, by omega⟩ bL p4
    have c2 : chkS (moreV v1 ⟨L.Day, F⟩) 2 v2 v3 = 0 := by
      refine chk_all ⟨by omega, by omega, by omega, by omega⟩ ⟨p5, by show v1.Farm ≤ 60; omega⟩ ⟨by show 0 ≤ v1.Year; omega, by show v1.Year ≤ 100; omega⟩ (by rw [more_len]; omega) (fun w hw => ?_) ?_
      · have hw : w ∈ v1.Versions ++ [⟨L.Day, F⟩] := hw
        rcases List.mem_append.1 hw with hw | hw
        · exact bL w hw
        · rw [List.mem_singleton] at hw
          subst hw
          exact ⟨by show F.length ≤ 20; omega, fun x hx => linesOK_V q1 x (hFm x hx), q3, q4⟩
      · show (v1.Versions ++ ([⟨L.Day, F⟩] : List api_Version)).Pairwise _
        rw [List.pairwise_append]
        refine ⟨p4, List.pairwise_singleton _ _, fun x hx y hy => ?_⟩
        rw [List.mem_singleton] at hy
        subst hy
        exact lastMax x hx
    rw [amend_yes c1 c2] at h7
    injection h7 with e1 e2
    subst e1 e2
    have l7 : (moreV v1 ⟨L.Day, F⟩).3.length = v1.Versions.length + 1 := more_len
    rw [l7, wrap_in (z := (v1.3.length : Int) + 1) (by omega) (by omega), wrap_in (z := ((v1.Versions.length + 1 : Nat) : Int) - 1) (by omega) (by omega), show ((v1.Versions.length + 1 : Nat) : Int) - 1 = ((v1.Versions.length : Nat) : Int) by omega]
    have e9 : ix (moreV v1 ⟨L.Day, F⟩).3 ((v1.Versions.length : Nat) : Int) = ⟨L.Day, F⟩ := more_last
    rw [e9]
    refine IFB.mk (fun h => ?_) (fun _ _ => ⟨by omega, ?_⟩)
    · rw [el] at h; simp at h
    have big7 : bigA (moreV v1 ⟨L.Day, F⟩) := more_big hB (by omega) hbF
    have ofF : ∀ p, p ≠ v4 → ofL F p = ofL L.Lines p := fun p hp => by
      rw [← hF]
      unfold ofL
      rw [List.filter_filter]
      refine List.filter_congr fun x _ => ?_
      by_cases hx : x.Parcel = p
      · rw [hx]; simp [hp]
      · simp [hx]
    have ofF4 : ofL F v4 = [] := by
      rw [← hF]
      unfold ofL
      rw [List.filter_filter, List.filter_eq_nil_iff]
      intro x _ hx
      simp at hx
    refine LOOP.fuel (fun u => oneI u.1) (fun u => downI u.1) ⟨by show (1 : Int) ≤ 1; omega, by show (1 : Int) ≤ 4; omega⟩ ?_
    rintro rec ⟨(z12 : Int), ⟨⟩⟩ ⟨i1, i2⟩ hrec
    have i1 : 1 ≤ z12 := i1
    have i2 : z12 ≤ 4 := i2
    refine IFB.mk (fun hb => ⟨hLb.1, JOIN.opq fun (J16 : List api_Line → Prop) hJ16 => ?_⟩) (fun _ _ => ?_)
    · have hb : z12 ≤ 3 := of_decide_eq_true hb
      have hJ : ∀ y, ofL F z12 = y → J16 y := fun y hy => by
        rw [hJ16]
        refine ⟨by show F.length ≤ 2000000; omega, ⟨?_, fun x hx => ?_⟩, fun v15 h15 => ?_⟩
        · exact Nat.le_trans ofL_len (by show F.length ≤ 1000000000; omega)
        · exact Nat.le_trans (hbF.2 x (ofL_mem.1 hx).1) (by omega)
        · have : v15 = true := h15.2 hy
          subst this
          refine IFB.mk (fun h => by cases h) (fun _ => ?_)
          rw [wrap_in (z := z12 + 1) (by omega) (by omega)]
          exact hrec (z12 + 1, ()) ⟨by show 1 ≤ z12 + 1; omega, by show z12 + 1 ≤ 4; omega⟩ (by show (4 - (z12 + 1)).toNat < (4 - z12).toNat; omega)
      refine IFB.mk (fun h => hJ _ ?_) (fun h => hJ _ (ofF _ (of_decide_eq_false h)))
      have hz : z12 = v4 := of_decide_eq_true h
      show ofL F z12 = []
      rw [hz]; exact ofF4
    · refine LOOP.fuel (fun u => wdI F.length u.1 u.2.1) (fun u => lowI F.length u.1) ⟨0, rfl, Nat.zero_le _, Int.le_refl _, Int.le_refl _⟩ ?_
      rintro rec2 ⟨(z18 : Int), (z19 : Int), ⟨⟩⟩ ⟨k, j1, j2, j3, j4⟩ hrec2
      have j1 : z18 = (k : Int) := j1
      have j3 : 0 ≤ z19 := j3
      have j4 : z19 ≤ 40000000000 * (k : Int) := j4
      subst j1
      refine IFB.mk (fun hb => ⟨by have := of_decide_eq_true hb; omega, fun v20 h20 => ?_⟩) (fun _ => ⟨⟨by have := big7.1; rw [more_len] at this; exact this, big7.2⟩, fun v23 v24 h23 => ?_⟩)
      · have hb : (k : Int) < F.length := of_decide_eq_true hb
        rw [wrap_in (z := z19 + v20) (by omega) (by omega), wrapS (by omega)]
        exact hrec2 (((k + 1 : Nat) : Int), z19 + v20, ()) ⟨k + 1, rfl, by omega, by show 0 ≤ z19 + v20; omega, by show z19 + v20 ≤ 40000000000 * ((k + 1 : Nat) : Int); omega⟩ (by show F.length - ((k + 1 : Nat) : Int).toNat < F.length - (k : Int).toNat; omega)
      · have h23 : (v23, v24) = nwdS (moreV v1 ⟨L.Day, F⟩) v4 L.Day 2 v2 v3 [] := h23
        unfold nwdS at h23
        rw [if_neg (by simp [nchk_nil]), if_pos] at h23
        rotate_left
        · right
          rw [more_len, show v1.Versions.length + 1 - 1 = v1.Versions.length by omega, more_last]
          exact ofF4
        injection h23 with e1 e2
        subst e1 e2
        refine JOIN.opq fun (J26 : Bool → Prop) hJ26 => IFB.mk (fun _ => ⟨trivial, ?_⟩) (fun h => ?_)
        · rw [hJ26]
          simp [j3]
        · simp [gx, j3] at h

end RE
end Go.Proofs.YtjkcjfgdablklaaGreat
