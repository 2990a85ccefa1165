/-
  Chapter 22, in plain words: the order of yields, and yields said twice, change nothing.
-/
import Derived.Test.YtblcakaohlgagaaGreatWCopF
import Derived.Test.YtblcakaohlgagaaGreatWPlain
import Derived.Test.YtblcakaohlgagaaGreatWEngC
set_option linter.unusedVariables false
set_option maxRecDepth 100000
namespace Go.Proofs.YtblcakaohlgagaaGreat
open Go.RowKit
namespace RE
open PL
theorem gives_same {v : List api_Version} (hM : M3 v) {ys zs : List api_Yield} (hy : ∀ z ∈ ys, thereP v z.1) (hm : ∀ z, z ∈ zs ↔ z ∈ ys) : zs.foldl give1 v = ys.foldl give1 v := by
  have hz : ∀ z ∈ zs, thereP v z.1 := fun z h => hy z ((hm z).1 h)
  obtain ⟨a1, a2⟩ := gives_ok hz
  obtain ⟨b1, b2⟩ := gives_ok hy
  refine vers_ext a1 b1 fun p hp => ?_
  obtain ⟨q, _, _, hq⟩ := gat_boxed (fun x hx => (hM.2 x hx).1) hp
  refine canon_uniq ((a2 p hp).1 hq.1) ((b2 p hp).1 hq.1) fun x y => ?_
  have : cov (gat (zs.foldl give1 v) p) x y = true ↔ cov (gat (ys.foldl give1 v) p) x y = true := by
    rw [(a2 p hp).2, (b2 p hp).2]
    exact ⟨fun h => ⟨h.1, fun z k => h.2 z ((hm z).2 k)⟩, fun h => ⟨h.1, fun z k => h.2 z ((hm z).1 k)⟩⟩
  cases e : cov (gat (zs.foldl give1 v) p) x y <;> cases e2 : cov (gat (ys.foldl give1 v) p) x y <;> simp_all
theorem giv_same {v : List api_Version} (hM : M3 v) {ys zs : List api_Yield} (hy : ∀ z ∈ ys, thereP v z.1 ∧ validP z.2.1) (hm : ∀ z, z ∈ zs ↔ z ∈ ys) (h1 : ys.length ≤ 200) (h2 : zs.length ≤ 200) : givS v ys = (ys.foldl give1 v, 0) ∧ givS v zs = (ys.foldl give1 v, 0) := by
  refine ⟨give_made (fun x hx => (hM.2 x hx).1) hM.begin hy h1, ?_⟩
  rw [give_made (fun x hx => (hM.2 x hx).1) hM.begin (fun z hz => hy z ((hm z).1 hz)) h2, gives_same hM (fun z hz => (hy z hz).1) hm]
theorem like_small {v m : List api_Version} (hM : M3 v) (hl : likeV v m) (hb : ∀ p, thereP v p → (gat m p).length ≤ 300) : m.length ≤ 1000000000 ∧ ∀ x ∈ m, x.2.length ≤ 1000000000 ∧ ∀ l ∈ x.2, l.2.1.length ≤ 1000000000 := by
  have h := many_like hl hM.many
  refine ⟨by have := h.1; omega, fun x hx => ⟨by have := h.2 x hx; exact Nat.le_trans this (by decide), fun l hll => ?_⟩⟩
  obtain ⟨p, hp, e⟩ := line_place hx hll
  have := hb p (hl.there.1 hp)
  rw [e] at this
  exact Nat.le_trans this (by decide)
theorem gave_small {v : List api_Version} (hM : M3 v) {ys : List api_Yield} (hy : ∀ z ∈ ys, thereP v z.1) : (ys.foldl give1 v).length ≤ 1000000000 ∧ ∀ x ∈ ys.foldl give1 v, x.2.length ≤ 1000000000 ∧ ∀ l ∈ x.2, l.2.1.length ≤ 1000000000 :=
  like_small hM (gives_ok hy).1 fun p hp => (gave_box hM.begin hM.okS hy hp).2.1
theorem SetOK.small {v : List api_Version} (hM : M3 v) {ys : List api_Yield} {m : List api_Version} {ds : List Dbl} (h : SetOK v ys m ds) : m.length ≤ 1000000000 ∧ ∀ x ∈ m, x.2.length ≤ 1000000000 ∧ ∀ l ∈ x.2, l.2.1.length ≤ 1000000000 :=
  like_small hM h.like fun p hp => by
    obtain ⟨q, q0, q1, q2⟩ := h.box p hp
    obtain ⟨b, b0, b1, b2⟩ := gat_boxed (fun x hx => (hM.2 x hx).1) hp
    exact (can_inBox q2.1 fun x y hc => box_cov2 (boxed_inBox b0 b1 b2) ((h.covG p hp x y).1 ((h.covM p hp x y).1 hc).1).1).2
theorem SetOK.dsmall {v : List api_Version} (hM : M3 v) {ys : List api_Yield} (hy : ∀ z ∈ ys, thereP v z.1 ∧ validP z.2.1) (hl : ys.length ≤ 200) {m : List api_Version} {ds : List Dbl} (h : SetOK v ys m ds) : ds.length ≤ 1000000000 ∧ ∀ d ∈ ds, d.1.1.length ≤ 1000000000 ∧ d.2.length ≤ 1000000000 := by
  have hyt : ∀ z ∈ ys, thereP v z.1 := fun z hz => (hy z hz).1
  have hln : (linV (ys.foldl give1 v)).length ≤ 6 := by rw [linV_like_len h.glike]; exact hM.lin
  have hgb : beginF (ys.foldl give1 v) = 0 := begin_ok (by omega) fun x hx => by
    obtain ⟨h1, h2⟩ := mem_linV.1 hx
    obtain ⟨q, a, b, c⟩ := gave_boxed (fun x hx => (hM.2 x hx).1) hyt (h.glike.there.1 h1)
    rw [h2]; exact boxed_valid a b c
  have hgk : okS (ys.foldl give1 v) := by
    have e := give_made (fun x hx => (hM.2 x hx).1) hM.begin hy hl
    have := (okS_give hM.okS (ys := ys) (by rw [e])).1
    rwa [e] at this
  have := facesS_len (L := linV (ys.foldl give1 v)) (n := 6) hln
  have e3 := h.dbl.1.length_eq
  rw [List.length_map] at e3
  unfold two at e3
  have e4 := List.length_filter_le (fun f : Fc => decide (2 ≤ f.claims.length)) (facesS (linV (ys.foldl give1 v)))
  refine ⟨by omega, fun d hd => ?_⟩
  obtain ⟨_, d2, d3, _⟩ := dbl_small hgk hgb h.dbl hd
  exact ⟨Nat.le_trans d2 (by decide), Nat.le_trans d3 (by decide)⟩
theorem set_same {v : List api_Version} {ys zs : List api_Yield} (hg : zs.foldl give1 v = ys.foldl give1 v) {m n : List api_Version} {ds es : List Dbl} (h : SetOK v ys m ds) (k : SetOK v zs n es) : m = n ∧ ds = es := by
  have hd := k.dbl
  rw [hg] at hd
  have e := dbls_uniq h.dbl hd
  refine ⟨?_, e⟩
  rw [h.set, k.set, hg, e]
end RE
end Go.Proofs.YtblcakaohlgagaaGreat
set_option maxRecDepth 100000
set_option linter.unusedVariables false
namespace Go.Proofs.YtblcakaohlgagaaGreat
open Go.RowKit
namespace RE
open PL

def lTurns_C : CtxR := ⟨tau, [ruleN 10, rule1 kcrops_sp, rule1 kvers_sp, rule1 kyie_sp, rule1 pgive_sp, rule1 pset_sp, rule1 rallE_sp, rule1 rdsame_sp, rule1 pawake_sp], lookJ [(0, 13, ⟨[(7, .dat (.int .i64)), (6, .own 55 (.st .api_Yield))], [], [30, 31, 34, 35, 36, 37, 38, 39, 40, 32, 33], [], []⟩)]⟩
def lTurns_W (l : List (Int)) (post : Bool → Prop) : Prop := ∀ (v1 : List api_Crop), (3 : Nat) ≤ v1.length ∧ v1.length ≤ (8 : Nat) → ((1 : Nat) ≤ v1.length ∧ v1.length ≤ (1000 : Nat) ∧ (1 : Int) ≤ (3 : Int) ∧ (3 : Int) ≤ (10 : Int)) ∧ ∀ (v2 : List api_Version), madeV (3 : Int) v2 → ((1 : Nat) ≤ v2.length ∧ v2.length ≤ (1000 : Nat) ∧ ∀ (v3 : api_Version), v3 ∈ v2 → v3.2.length ≤ (1000 : Nat)) ∧ ∀ (v4 : List api_Yield), madeY v2 v4 → (↑v4.length : Int) ≤ (9223372036854775807 : Int) → LOOP [Ty.int IntKind.i64, (Ty.st Sn.api_Yield).sl] (fun (rec5 : Int → List api_Yield → Prop) (z6 : Int) (z7 : List api_Yield) ↦ IFB (decide ((0 : Int) ≤ z6)) (((0 : Int) ≤ z6 ∧ z6 < (↑v4.length : Int)) ∧ (z7.length + [{ Place := { Application := (ix v4 z6).1.1, Line := (ix v4 z6).1.2 : api_Place }, Region := { Rects := (ix v4 z6).2.1 : api_Region } : api_Yield }].length) * (40 : Nat) ≤ (140737488355328 : Nat) ∧ rec5 (IntKind.i64.wrap (z6 - (1 : Int))) (z7 ++ [{ Place := { Application := (ix v4 z6).1.1, Line := (ix v4 z6).1.2 : api_Place }, Region := { Rects := (ix v4 z6).2.1 : api_Region } : api_Yield }])) (((v2.length ≤ (1000 : Nat) ∧ ∀ (v8 : api_Version), v8 ∈ v2 → v8.2.length ≤ (1000 : Nat)) ∧ (beginF v2 = (0 : Int) → ∀ (v9 : Nat), v9 ≤ v4.length → errY v2 (List.take v9 v4) = (0 : Int) → ∀ (v10 : api_Version), v10 ∈ List.foldl give1 v2 (List.take v9 v4) → ∀ (v11 : api_Line), v11 ∈ v10.2 → v11.2.1.length ≤ (1000 : Nat))) ∧ (z7.length + v4.length) * (40 : Nat) ≤ (140737488355328 : Nat) ∧ ((v2.length ≤ (1000 : Nat) ∧ ∀ (v12 : api_Version), v12 ∈ v2 → v12.2.length ≤ (1000 : Nat)) ∧ (beginF v2 = (0 : Int) → ∀ (v13 : Nat), v13 ≤ (z7 ++ v4).length → errY v2 (List.take v13 (z7 ++ v4)) = (0 : Int) → ∀ (v14 : api_Version), v14 ∈ List.foldl give1 v2 (List.take v13 (z7 ++ v4)) → ∀ (v15 : api_Line), v15 ∈ v14.2 → v15.2.1.length ≤ (1000 : Nat))) ∧ okS v2 ∧ ∀ (v16 : List api_Version) (v17 : List api_Double) (v18 : Int), setR v2 v4 v16 v17 v18 → okS v2 ∧ ∀ (v19 : List api_Version) (v20 : List api_Double) (v21 : Int), setR v2 z7 v19 v20 v21 → JOIN [Ty.bool] (fun (y22 : Bool) ↦ JOIN [Ty.bool] (fun (y23 : Bool) ↦ JOIN [Ty.bool] (fun (y24 : Bool) ↦ JOIN [Ty.bool] (fun (y25 : Bool) ↦ post (decide ((givS v2 v4).2 = (0 : Int)) && decide ((givS v2 (z7 ++ v4)).2 = (0 : Int)) && decide (v18 = (0 : Int)) && decide (v21 = (0 : Int)) && y22 && y23 && y24 && y25)) fun (J26 : Bool → Prop) ↦ IFB (gx true (decide ((givS v2 v4).2 = (0 : Int)) && decide ((givS v2 (z7 ++ v4)).2 = (0 : Int)) && decide (v18 = (0 : Int)) && decide (v21 = (0 : Int)) && y22 && y23 && y24)) (J26 true) (J26 false)) fun (J27 : Bool → Prop) ↦ IFB (gx true (decide ((givS v2 v4).2 = (0 : Int)) && decide ((givS v2 (z7 ++ v4)).2 = (0 : Int)) && decide (v18 = (0 : Int)) && decide (v21 = (0 : Int)) && y22 && y23)) ((v17.length ≤ (1000000000 : Nat) ∧ ∀ (v28 : api_Double), v28 ∈ v17 → v28.1.1.length ≤ (1000000000 : Nat) ∧ v28.2.length ≤ (1000000000 : Nat)) ∧ ∀ (v29 : Bool), (v29 = true ↔ v17 = v20) → J27 v29) (J27 false)) fun (J30 : Bool → Prop) ↦ IFB (gx true (decide ((givS v2 v4).2 = (0 : Int)) && decide ((givS v2 (z7 ++ v4)).2 = (0 : Int)) && decide (v18 = (0 : Int)) && decide (v21 = (0 : Int)) && y22)) ((v16.length ≤ (1000000000 : Nat) ∧ ∀ (v31 : api_Version), v31 ∈ v16 → v31.2.length ≤ (1000000000 : Nat) ∧ ∀ (v32 : api_Line), v32 ∈ v31.2 → v32.2.1.length ≤ (1000000000 : Nat)) ∧ ∀ (v33 : Bool), (v33 = true ↔ v16 = v19) → J30 v33) (J30 false)) fun (J34 : Bool → Prop) ↦ IFB (gx true (decide ((givS v2 v4).2 = (0 : Int)) && decide ((givS v2 (z7 ++ v4)).2 = (0 : Int)) && decide (v18 = (0 : Int)) && decide (v21 = (0 : Int)))) (((givS v2 v4).1.length ≤ (1000000000 : Nat) ∧ ∀ (v35 : api_Version), v35 ∈ (givS v2 v4).1 → v35.2.length ≤ (1000000000 : Nat) ∧ ∀ (v36 : api_Line), v36 ∈ v35.2 → v36.2.1.length ≤ (1000000000 : Nat)) ∧ ∀ (v37 : Bool), (v37 = true ↔ (givS v2 v4).1 = (givS v2 (z7 ++ v4)).1) → J34 v37) (J34 false))) (IntKind.i64.wrap ((↑v4.length : Int) - (1 : Int)), [], PUnit.unit)
theorem lTurns_w (l : List (Int)) (post : Bool → Prop) : lTurns_W l post = lawG (callR Tryz.prog lTurns_C (drawR Tryz.prog tau) 11 0) 5 [tv (.sl (.int .i64)) l] post := by kernel_rfl
theorem lTurns_calls (l : List (Int)) (h : lTurns_W l fun b => b = true) {w : World} {S : Cells} {us : List Value} (h1 : ∀ b o, S b o → b < w.heap.size) (h3 : us.length = 1) (h4 : ∀ (i : Nat) (d : D) (u : Value), [tv (.sl (.int .i64)) l][i]? = some d → us[i]? = some u → Rd S w d u) : Calls Tryz.prog 5 us.toArray w fun e w' => (∃ b, e = .returned (.bool b) ∧ b = true) ∧ Below w.heap.size w w' := lawG_okH (cp := callR Tryz.prog lTurns_C (drawR Tryz.prog tau) 11 0) (callR_ok (C := lTurns_C) (dr := drawR Tryz.prog tau) (.cons (ruleN_ok knew_ok) (.cons (rule1_ok kcrops_ok) (.cons (rule1_ok kvers_ok) (.cons (rule1_ok kyie_ok) (.cons (rule1_ok pgive_ok) (.cons (rule1_ok pset_ok) (.cons (rule1_ok rallE_ok) (.cons (rule1_ok rdsame_ok) (.cons (rule1_ok pawake_ok) .nil))))))))) (drawR_ok tau) 11 0) (HoldW.of (lTurns_w l fun b => b = true) h) h1 h3 h4
def turI (ys : List api_Yield) (z : Int) (b : List api_Yield) : Prop := ∃ k : Nat, z = (k : Int) - 1 ∧ k ≤ ys.length ∧ b = (ys.drop k).reverse
set_option maxHeartbeats 2000000 in
theorem lTurns_h (l : List Int) : lTurns_W l fun b => b = true := by
  unfold lTurns_W
  intro v1 h1
  refine ⟨⟨by omega, by omega, by omega, by omega⟩, fun v hv => ?_⟩
  have hM := made_M3 hv (by omega)
  refine ⟨⟨hv.1, by have := hM.1; omega, fun x hx => by have := (hM.2 x hx).2; show x.Lines.length ≤ 1000; omega⟩, fun ys hys hlen => ?_⟩
  have hy3 : ys.length ≤ 3 := hys.1
  have hok := hM.okS
  have hmany := hM.many
  refine LOOP.fuel (fun u => turI ys u.1 u.2.1) (fun u => Int.toNat (Int.add u.1 1)) ⟨ys.length, ?_, Nat.le_refl _, by rw [List.drop_length]; rfl⟩ ?_
  · show IntKind.i64.wrap ((ys.length : Int) - 1) = (ys.length : Int) - 1
    exact wrap_in (by omega) (by omega)
  rintro rec ⟨(z : Int), (b : List api_Yield), ⟨⟩⟩ ⟨k, i1, i2, i3⟩ hrec
  have i1 : z = (k : Int) - 1 := i1
  have q3 : b = (ys.drop k).reverse := i3
  clear i3
  subst i1
  refine IFB.mk (fun hb => ?_) (fun hb => ?_)
  · have hb : 0 ≤ (k : Int) - 1 := of_decide_eq_true hb
    obtain ⟨j, rfl⟩ : ∃ j, k = j + 1 := ⟨k - 1, by omega⟩
    have ej : ((j + 1 : Nat) : Int) - 1 = (j : Int) := by omega
    rw [ej] at hrec ⊢
    have hj : j < ys.length := by omega
    have hbl : b.length ≤ 3 := by rw [q3, List.length_reverse, List.length_drop]; omega
    refine ⟨⟨by omega, by omega⟩, by simp only [List.length_cons, List.length_nil]; omega, ?_⟩
    rw [show IntKind.i64.wrap ((j : Int) - 1) = (j : Int) - 1 from wrap_in (by omega) (by omega)]
    refine hrec ((j : Int) - 1, _, ()) ⟨j, rfl, by omega, ?_⟩ (by show ((j : Int) - 1 + 1).toNat < ((j : Int) + 1).toNat; omega)
    show b ++ [ix ys (j : Int)] = (ys.drop j).reverse
    rw [q3, List.drop_eq_getElem_cons hj, List.reverse_cons, ix_lt hj]
  · have hb : ¬ 0 ≤ (k : Int) - 1 := of_decide_eq_false hb
    have hk : k = 0 := by omega
    subst hk
    rw [List.drop_zero] at q3
    have hbl : b.length = ys.length := by rw [q3, List.length_reverse]
    have hbm : ∀ z, z ∈ b ↔ z ∈ ys := fun z => by rw [q3, List.mem_reverse]
    have ham : ∀ z, z ∈ b ++ ys ↔ z ∈ ys := fun z => by rw [List.mem_append, hbm]; exact or_self_iff
    have hal : (b ++ ys).length ≤ 200 := by rw [List.length_append]; omega
    obtain ⟨g1, g2⟩ := giv_same hM hys.2 ham (by omega) hal
    have hby : ∀ z ∈ b, thereP v z.1 ∧ validP z.2.1 := fun z hz => hys.2 z ((hbm z).1 hz)
    refine ⟨⟨hmany, okS_G hok ys⟩, by show (b.length + ys.length) * 40 ≤ 140737488355328; omega, ⟨hmany, okS_G hok (b ++ ys)⟩, hok, fun m ds e hs => ⟨hok, fun n es f ht => ?_⟩⟩
    obtain ⟨rfl, hS⟩ := set_made hM hys.2 (by omega) hs
    obtain ⟨rfl, hT⟩ := set_made hM hby (by omega) ht
    obtain ⟨rfl, rfl⟩ := set_same (gives_same hM (fun z hz => (hys.2 z hz).1) hbm) hS hT
    have s1 := gave_small hM (fun z hz => (hys.2 z hz).1)
    have s2 := hS.small hM
    have s3 := hS.dsmall hM hys.2 (by omega)
    clear hs ht hrec
    rw [g1, g2]
    refine JOIN.opq fun (J1 : Bool → Prop) hJ1 => IFB.yes rfl ⟨s1, fun c1 k1 => ?_⟩
    have k1 : c1 = true := k1.2 rfl
    rw [k1, hJ1]
    refine JOIN.opq fun (J2 : Bool → Prop) hJ2 => IFB.yes rfl ⟨s2, fun c2 k2 => ?_⟩
    have k2 : c2 = true := k2.2 rfl
    rw [k2, hJ2]
    refine JOIN.opq fun (J3 : Bool → Prop) hJ3 => IFB.yes rfl ⟨s3, fun c3 k3 => ?_⟩
    have k3 : c3 = true := k3.2 rfl
    rw [k3, hJ3]
    refine JOIN.opq fun (J4 : Bool → Prop) hJ4 => IFB.yes rfl ?_
    rw [hJ4]; rfl

end RE
end Go.Proofs.YtblcakaohlgagaaGreat
