/-
  Chapter 21, in plain words: registers of entitlements.
-/
import Derived.Test.YtpnmiieohdkenaaXEngC
import Derived.Test.YtpnmiieohdkenaaProg
import Derived.KernelRfl
set_option maxRecDepth 20000
namespace Go.Proofs.Ytpnmiieohdkenaa
open Go.RowKit
namespace RE
namespace PL
theorem here : True := trivial
end PL
open PL
theorem IFB_iff {b : Bool} {x y : Prop} : IFB b x y ↔ (b = true → x) ∧ (b = false → y) := ⟨fun h => ⟨h.t, h.f⟩, fun h => ⟨h.1, h.2⟩⟩
theorem JOIN_iff {ts : List Ty} {J : Cur ts} {B : Cur ts → Prop} : JOIN ts J B ↔ B J := ⟨fun h => h.h, fun h => ⟨h⟩⟩
/-- A loop over a list, from the front: what is said of the rest that is still to come. -/
theorem LOOP.list {ts : List Ty} {F : Cur ts → Cur ts} {v : dens ts} {α σ : Type} (l : List α) (st : Nat → σ → dens ts) (idx : dens ts → Nat) (G : Nat → List α → σ → Prop) (s0 : σ) (h0 : v = st 0 s0) (hG : G 0 l s0)
    (hidx : ∀ k s, k ≤ l.length → idx (st k s) = k)
    (hs : ∀ (rec : Cur ts) (k : Nat) (x : α) (r : List α) (s : σ), l.drop k = x :: r → l[k]? = some x → k < l.length → G k (x :: r) s → (∀ s', G (k + 1) r s' → app ts rec (st (k + 1) s')) → app ts (F rec) (st k s))
    (he : ∀ (rec : Cur ts) (s : σ), G l.length [] s → app ts (F rec) (st l.length s)) : LOOP ts F v := by
  refine ⟨fun u => ∃ k s, k ≤ l.length ∧ u = st k s ∧ G k (l.drop k) s, fun u => l.length - idx u, ⟨0, s0, Nat.zero_le _, h0, hG⟩, ?_⟩
  rintro x ⟨k, s, hk, rfl, hg⟩
  by_cases hlt : k < l.length
  · have hd : l.drop k = l[k] :: l.drop (k + 1) := List.drop_eq_getElem_cons hlt
    refine hs _ k l[k] (l.drop (k + 1)) s hd (List.getElem?_eq_getElem hlt) hlt (hd ▸ hg) fun s' hg' => ?_
    rw [app_lam]
    refine ⟨⟨k + 1, s', hlt, rfl, hg'⟩, ?_⟩
    show l.length - idx (st (k + 1) s') < l.length - idx (st k s)
    rw [hidx k s hk, hidx (k + 1) s' hlt]
    omega
  · have hk' : k = l.length := by omega
    subst hk'
    rw [List.drop_length] at hg
    exact he _ s hg
/-- A loop that counts down a number. -/
theorem LOOP.fuel {ts : List Ty} {F : Cur ts → Cur ts} {v : dens ts} (I : dens ts → Prop) (μ : dens ts → Nat) (h0 : I v)
    (hs : ∀ (rec : Cur ts) x, I x → (∀ y, I y → μ y < μ x → app ts rec y) → app ts (F rec) x) : LOOP ts F v :=
  ⟨I, μ, h0, fun x hx => hs _ x hx fun y hy hm => by rw [app_lam]; exact ⟨hy, hm⟩⟩
theorem ix_of {α : Type} [Inhabited α] {l : List α} {k : Nat} {x : α} (h : l[k]? = some x) : ix l (k : Int) = x := by
  unfold ix
  rw [Int.toNat_natCast, List.getD_eq_getElem?_getD, h]; rfl
theorem wrap_in {z : Int} (h1 : -9223372036854775808 ≤ z) (h2 : z ≤ 9223372036854775807) : IntKind.i64.wrap z = z := w64_eq h1 h2
theorem SpecOK.of_walkH {P : Program} {C : Ctx} {dr : DR} (hsp : SpecsOK P C.sp) (hdr : DrOK P dr) {n fk : Nat} {s : Spec} (h : ∀ x post, s.pt x post → HoldW (walk P C dr n fk s.f s.tp (tvs s.ts x) s.rs post)) : SpecOK P s :=
  SpecOK.of_walk hsp hdr fun x post hp => (h x post hp).h
theorem gx_t (b : Bool) : gx true b = b := rfl
theorem gx_f (b : Bool) : gx false b = !b := rfl
end RE
end Go.Proofs.Ytpnmiieohdkenaa
set_option linter.unusedVariables false
namespace Go.Proofs.Ytpnmiieohdkenaa
open Go.RowKit
namespace RE
namespace PL
def lotE (nx last : Int) (l : api_Lot) : Int :=
  if l.Number ≤ last ∨ nx ≤ l.Number then 19
  else if ¬(1 ≤ l.Owner ∧ l.Owner ≤ 60) ∨ ¬(1 ≤ l.User ∧ l.User ≤ 60) then 20
  else if l.Squares < 1 ∨ 268435456 < l.Squares ∨ l.Value < 0 ∨ 1048576 < l.Value then 2
  else if l.Used < -1 ∨ 100 < l.Used then 18 else 0
def lotsE (nx : Int) : Int → List api_Lot → Int
  | _, [] => 0
  | last, l :: r => if lotE nx last l = 0 then lotsE nx l.Number r else lotE nx last l
def sumL : List api_Lot → Int
  | [] => 0
  | l :: r => l.Squares + sumL r
def chkE (x : api_Entitlements) : Int :=
  if 80 < (x.Lots.length : Int) then 1
  else if x.Next < 1 ∨ 1073741824 < x.Next ∨ x.Reserve < 0 ∨ 1099511627776 < x.Reserve then 2
  else if lotsE x.Next 0 x.Lots = 0 then (if 1099511627776 < sumL x.Lots + x.Reserve then 1 else 0) else lotsE x.Next 0 x.Lots
def ownS (n : Int) : List api_Lot → Int
  | [] => 0
  | l :: r => (if l.Owner = n then l.Squares else 0) + ownS n r
def useS (n : Int) : List api_Lot → Int
  | [] => 0
  | l :: r => (if l.User = n then l.Squares else 0) + useS n r
def heldS (x : api_Entitlements) (n : Int) : Int × Int := if chkE x = 0 then (ownS n x.Lots, useS n x.Lots) else (0, 0)
def wholeS (x : api_Entitlements) : Int := if chkE x = 0 then sumL x.Lots + x.Reserve else 0
/-- An index among indices, behind those of values that are not less, from the back. -/
def insR (v : Int → Int) (i : Int) : List Int → List Int
  | [] => [i]
  | y :: r => if v y < v i then y :: insR v i r else i :: y :: r
def lotV (l : List api_Lot) (i : Int) : Int := (ix l i).Value
def idxS (n : Int) : Int → List api_Lot → List Int
  | _, [] => []
  | k, l :: r => if l.User = n then k :: idxS n (k + 1) r else idxS n (k + 1) r
def sortS (v : Int → Int) : List Int → List Int → List Int
  | out, [] => out
  | out, i :: r => sortS v (insR v i out.reverse).reverse r
def usableS (l : List api_Lot) (n : Int) : List Int := sortS (lotV l) [] (idxS n 0 l)
def seekS (n : Int) : Int → List api_Lot → Int
  | _, [] => -1
  | k, l :: r => if l.Number = n then k else seekS n (k + 1) r
/-- Squares taken out of lot i, which goes if nothing is left. -/
def takeS (l : List api_Lot) (i : Nat) (n : Int) : List api_Lot := match l, i with
  | [], _ => []
  | x :: r, 0 => if x.Squares - n = 0 then r else { x with Squares := x.Squares - n } :: r
  | x :: r, i + 1 => x :: takeS r i n
def downS (a b : Int) : Int := if 0 ≤ a ∧ 1 ≤ b then a / b else 0
/-- A lot that is right. -/
def LotOK (l : api_Lot) : Prop := 1 ≤ l.Owner ∧ l.Owner ≤ 60 ∧ 1 ≤ l.User ∧ l.User ≤ 60 ∧ 1 ≤ l.Squares ∧ l.Squares ≤ 268435456 ∧ 0 ≤ l.Value ∧ l.Value ≤ 1048576 ∧ -1 ≤ l.Used ∧ l.Used ≤ 100
end PL
open PL
theorem lotE_ok {nx last : Int} {l : api_Lot} (h : lotE nx last l = 0) : LotOK l ∧ last < l.Number ∧ l.Number < nx := by
  unfold lotE at h
  unfold LotOK
  grind (splits := 30)
theorem lotsE_ok {nx : Int} : ∀ {r : List api_Lot} {last : Int}, lotsE nx last r = 0 → ∀ l ∈ r, LotOK l
  | [], _, _, l, h => by cases h
  | x :: r, last, h, l, hl => by
    unfold lotsE at h
    have hx : lotE nx last x = 0 := by grind
    rcases List.mem_cons.1 hl with rfl | hl
    · exact (lotE_ok hx).1
    · exact lotsE_ok (nx := nx) (r := r) (last := x.Number) (by grind) l hl
theorem lot_ext {z y : api_Lot} (h1 : z.Number = y.Number) (h2 : z.Owner = y.Owner) (h3 : z.User = y.User) (h4 : z.Squares = y.Squares) (h5 : z.Value = y.Value) (h6 : z.Used = y.Used) : y = z := by
  cases z; cases y; simp_all
theorem chkE_lots {x : api_Entitlements} (h : chkE x = 0) : x.Lots.length ≤ 80 ∧ ∀ l ∈ x.Lots, LotOK l := by
  unfold chkE at h
  exact ⟨by grind, lotsE_ok (nx := x.Next) (last := 0) (by grind)⟩
theorem chkE_res {x : api_Entitlements} (h : chkE x = 0) : 1 ≤ x.Next ∧ x.Next ≤ 1073741824 ∧ 0 ≤ x.Reserve ∧ x.Reserve ≤ 1099511627776 ∧ sumL x.Lots + x.Reserve ≤ 1099511627776 := by
  unfold chkE at h
  grind
end RE
end Go.Proofs.Ytpnmiieohdkenaa
set_option linter.unusedVariables false
set_option maxRecDepth 100000
namespace Go.Proofs.Ytpnmiieohdkenaa
open Go.RowKit
namespace RE
open PL
theorem insR_app {v : Int → Int} {i : Int} : ∀ {B A : List Int}, (∀ y ∈ B, v y < v i) → (∀ p r, A = p :: r → ¬ v p < v i) → insR v i (B ++ A) = B ++ i :: A
  | [], [], _, _ => rfl
  | [], p :: r, _, h => by
    have := h p r rfl
    simp [insR, this]
  | b :: B, A, hB, h => by
    have hb := hB b (by simp)
    simp [insR, hb, insR_app (B := B) (A := A) (fun y hy => hB y (by simp [hy])) h]
/-- Where an index goes, told by the parts of the list. -/
theorem insR_parts {v : Int → Int} {i : Int} {A B : List Int} (hB : ∀ y ∈ B, v y < v i) (hA : ∀ A' p, A = A' ++ [p] → ¬ v p < v i) : (insR v i (A ++ B).reverse).reverse = A ++ i :: B := by
  rw [List.reverse_append, insR_app (fun y hy => hB y (by simpa using hy)) (fun p r e => ?_)]
  · simp
  · have : A = r.reverse ++ [p] := by have := congrArg List.reverse e; simpa using this
    exact hA _ _ this
theorem insR_len {v : Int → Int} {i : Int} : ∀ {l : List Int}, (insR v i l).length = l.length + 1
  | [] => rfl
  | y :: r => by
    unfold insR
    split
    · simp [insR_len (l := r)]
    · simp
theorem insR_mem {v : Int → Int} {i j : Int} : ∀ {l : List Int}, j ∈ insR v i l → j = i ∨ j ∈ l
  | [], h => by simpa [insR] using h
  | y :: r, h => by
    unfold insR at h
    split at h
    · rcases List.mem_cons.1 h with rfl | h
      · simp
      · rcases insR_mem (l := r) h with h | h
        · exact .inl h
        · exact .inr (by simp [h])
    · rcases List.mem_cons.1 h with rfl | h
      · simp
      · exact .inr h
theorem sortS_app {v : Int → Int} : ∀ {l m out : List Int}, sortS v out (l ++ m) = sortS v (sortS v out l) m
  | [], m, out => rfl
  | i :: r, m, out => by
    show sortS v _ (r ++ m) = _
    rw [sortS_app (l := r)]; rfl
theorem sortS_mem {v : Int → Int} {j : Int} : ∀ {l out : List Int}, j ∈ sortS v out l → j ∈ out ∨ j ∈ l
  | [], out, h => .inl h
  | i :: r, out, h => by
    rcases sortS_mem (l := r) h with h | h
    · rcases insR_mem (by simpa using h) with h | h
      · exact .inr (by simp [h])
      · exact .inl (by simpa using h)
    · exact .inr (by simp [h])
theorem sortS_len {v : Int → Int} : ∀ {l out : List Int}, (sortS v out l).length = out.length + l.length
  | [], out => rfl
  | i :: r, out => by
    show (sortS v _ r).length = _
    rw [sortS_len (l := r), List.length_reverse, insR_len]
    simp; omega
theorem idxS_mem {n j : Int} : ∀ {l : List api_Lot} {k : Int}, j ∈ idxS n k l → k ≤ j ∧ j < k + l.length
  | [], k, h => by cases h
  | x :: r, k, h => by
    unfold idxS at h
    have hr : j ∈ idxS n (k + 1) r → k ≤ j ∧ j < k + (x :: r).length := fun h => by
      have := idxS_mem (l := r) h
      simp; omega
    split at h
    · rcases List.mem_cons.1 h with rfl | h
      · simp; omega
      · exact hr h
    · exact hr h
theorem idxS_len {n : Int} : ∀ {l : List api_Lot} {k : Int}, (idxS n k l).length ≤ l.length
  | [], k => Nat.le_refl _
  | x :: r, k => by
    unfold idxS
    have := idxS_len (n := n) (l := r) (k := k + 1)
    split <;> simp <;> omega
theorem usableS_mem {l : List api_Lot} {n j : Int} (h : j ∈ usableS l n) : 0 ≤ j ∧ j < l.length := by
  unfold usableS at h
  rcases sortS_mem h with h | h
  · cases h
  · have := idxS_mem h; omega
theorem usableS_len {l : List api_Lot} {n : Int} : (usableS l n).length ≤ l.length := by
  unfold usableS
  rw [sortS_len]
  have := idxS_len (n := n) (l := l) (k := 0)
  simpa using this
theorem ix_app {α : Type} [Inhabited α] {A B : List α} {x : α} {k : Int} (hk : k = A.length) : ix (A ++ x :: B) k = x := by
  subst hk
  exact ix_of (by simp)
theorem set_app {α : Type} {A B : List α} {x y : α} {k : Nat} (hk : k = A.length) : (A ++ x :: B).set k y = A ++ y :: B := by
  subst hk; simp
/-- A sort by insertion, as the library does it (from the front on, up to b). -/
def isF (lots : List api_Lot) (a b : Int) (K : List Int → Prop) (D : List Int) : Prop :=
  LOOP [Ty.int IntKind.i64, (Ty.int IntKind.i64).sl] (fun (rec10 : Int → List Int → Prop) (z11 : Int) (z12 : List Int) ↦ IFB (decide (z11 < b)) (LOOP [Ty.int IntKind.i64, (Ty.int IntKind.i64).sl] (fun (rec13 : Int → List Int → Prop) (z14 : Int) (z15 : List Int) ↦ (gx true (decide (a < z14)) = true → (0 : Int) ≤ z14 ∧ z14 < (↑z15.length : Int)) ∧ (gx true (decide (a < z14)) = true → (0 : Int) ≤ IntKind.i64.wrap (z14 - (1 : Int)) ∧ IntKind.i64.wrap (z14 - (1 : Int)) < (↑z15.length : Int)) ∧ JOIN [Ty.int IntKind.i64] (fun (y16 : Int) ↦ IFB (decide (a < z14) && decide (y16 < (0 : Int))) (((0 : Int) ≤ IntKind.i64.wrap (z14 - (1 : Int)) ∧ IntKind.i64.wrap (z14 - (1 : Int)) < (↑z15.length : Int)) ∧ ((0 : Int) ≤ z14 ∧ z14 < (↑z15.length : Int)) ∧ ((0 : Int) ≤ z14 ∧ z14 < (↑z15.length : Int)) ∧ ((0 : Int) ≤ IntKind.i64.wrap (z14 - (1 : Int)) ∧ IntKind.i64.wrap (z14 - (1 : Int)) < (↑(z15.set z14.toNat (ix z15 (IntKind.i64.wrap (z14 - (1 : Int))))).length : Int)) ∧ rec13 (IntKind.i64.wrap (z14 - (1 : Int))) ((z15.set z14.toNat (ix z15 (IntKind.i64.wrap (z14 - (1 : Int))))).set (IntKind.i64.wrap (z14 - (1 : Int))).toNat (ix z15 z14))) (rec10 (IntKind.i64.wrap (z11 + (1 : Int))) z15)) fun (J17 : Int → Prop) ↦ IFB (gx true (decide (a < z14))) (((0 : Int) ≤ ix z15 (IntKind.i64.wrap (z14 - (1 : Int))) ∧ ix z15 (IntKind.i64.wrap (z14 - (1 : Int))) < (↑lots.length : Int)) ∧ ((0 : Int) ≤ ix z15 z14 ∧ ix z15 z14 < (↑lots.length : Int)) ∧ JOIN [Ty.int IntKind.i64] (fun (y18 : Int) ↦ J17 y18) fun (J19 : Int → Prop) ↦ IFB (!decide ((ix lots (ix z15 (IntKind.i64.wrap (z14 - (1 : Int))))).5 = (ix lots (ix z15 (IntKind.i64.wrap (z14 - (1 : Int))))).5)) (IFB (!decide ((ix lots (ix z15 z14)).5 = (ix lots (ix z15 z14)).5)) (J19 (0 : Int)) (J19 (-1 : Int))) (IFB (!decide ((ix lots (ix z15 z14)).5 = (ix lots (ix z15 z14)).5)) (J19 (1 : Int)) (IFB (decide ((ix lots (ix z15 (IntKind.i64.wrap (z14 - (1 : Int))))).5 < (ix lots (ix z15 z14)).5)) (J19 (-1 : Int)) (IFB (decide ((ix lots (ix z15 z14)).5 < (ix lots (ix z15 (IntKind.i64.wrap (z14 - (1 : Int))))).5)) (J19 (1 : Int)) (J19 (0 : Int)))))) (J17 (0 : Int))) (z11, z12, PUnit.unit)) (K z12)) (IntKind.i64.wrap (a + (1 : Int)), D, PUnit.unit)
theorem isF_ok {lots : List api_Lot} {K : List Int → Prop} {D : List Int} (hD : ∀ d ∈ D, 0 ≤ d ∧ d < lots.length) (hlen : D.length ≤ 1000000) (hK : K (sortS (lotV lots) [] D)) : isF lots 0 D.length K D := by
  unfold isF
  refine LOOP.fuel (fun u => ∃ k : Nat, 1 ≤ k ∧ u.1 = (k : Int) ∧ (k : Int) ≤ D.length + 1 ∧ (u.2.1 : List Int) = sortS (lotV lots) [] (D.take k) ++ D.drop k) (fun u => D.length + 2 - u.1.toNat) ?_ ?_
  · refine ⟨1, Nat.le_refl _, ?_, by omega, ?_⟩
    · show IntKind.i64.wrap (0 + 1) = _
      rw [wrap_in (by omega) (by omega)]; rfl
    · cases D with
      | nil => rfl
      | cons d D => rfl
  · rintro rec ⟨z11, z12, ⟨⟩⟩ ⟨k, hk1, hz, hk2, hd⟩ hrec
    have hz : z11 = (k : Int) := hz
    have hd : z12 = sortS (lotV lots) [] (D.take k) ++ D.drop k := hd
    subst hz
    show IFB _ _ _
    refine ⟨fun hlt => ?_, fun hge => ?_⟩
    · have hlt : (k : Int) < D.length := by simpa using hlt
      have hkl : k < D.length := by omega
      have hdrop : D.drop k = D[k] :: D.drop (k + 1) := List.drop_eq_getElem_cons hkl
      have htake : D.take (k + 1) = D.take k ++ [D[k]] := by simp
      obtain ⟨x, hx⟩ : ∃ x, x = D[k] := ⟨_, rfl⟩
      obtain ⟨pre, hpre⟩ : ∃ pre, pre = sortS (lotV lots) [] (D.take k) := ⟨_, rfl⟩
      have hpl : pre.length = k := by rw [hpre, sortS_len]; simp; omega
      have hpm : ∀ y ∈ pre, 0 ≤ y ∧ y < lots.length := fun y hy => by
        rw [hpre] at hy
        rcases sortS_mem hy with h | h
        · cases h
        · exact hD y (List.mem_of_mem_take h)
      have hxm : 0 ≤ x ∧ x < lots.length := by rw [hx]; exact hD _ (List.getElem_mem hkl)
      rw [hdrop, ← hx, ← hpre] at hd
      have hfin : ∀ A B : List Int, A ++ B = pre → (∀ y ∈ B, lotV lots y < lotV lots x) → (∀ A' p, A = A' ++ [p] → ¬ lotV lots p < lotV lots x) → rec ((k : Int) + 1) (A ++ x :: (B ++ D.drop (k + 1))) := fun A B hAB hB hA => by
        have e : sortS (lotV lots) [] (D.take (k + 1)) = A ++ x :: B := by
          rw [htake, sortS_app, ← hpre, ← hx]
          show (insR (lotV lots) x pre.reverse).reverse = _
          rw [← hAB]; exact insR_parts hB hA
        have := hrec (((k : Int) + 1 : Int), (A ++ x :: (B ++ D.drop (k + 1)) : List Int), ()) ⟨k + 1, by omega, rfl, by omega, by
          show _ = sortS (lotV lots) [] (D.take (k + 1)) ++ D.drop (k + 1)
          rw [e]; simp⟩ (by show D.length + 2 - ((k : Int) + 1).toNat < D.length + 2 - (k : Int).toNat; omega)
        exact this
      have wk : IntKind.i64.wrap ((k : Int) + 1) = k + 1 := wrap_in (by omega) (by omega)
      refine LOOP.fuel (fun u => ∃ A B : List Int, A ++ B = pre ∧ u.1 = (A.length : Int) ∧ (u.2.1 : List Int) = A ++ x :: (B ++ D.drop (k + 1)) ∧ ∀ y ∈ B, lotV lots y < lotV lots x) (fun u => u.1.toNat) ?_ ?_
      · exact ⟨pre, [], by simp, by show (k : Int) = _; rw [hpl], hd, fun y hy => by cases hy⟩
      · rintro rec2 ⟨z14, z15, ⟨⟩⟩ ⟨A, B, hAB, h1, h2, hB⟩ hrec2
        have h1 : z14 = (A.length : Int) := h1
        have h2 : z15 = A ++ x :: (B ++ D.drop (k + 1)) := h2
        have hAl : A.length ≤ k := by rw [← hpl, ← hAB]; simp
        subst h1 h2
        have wj : IntKind.i64.wrap ((A.length : Int) - 1) = A.length - 1 := wrap_in (by omega) (by omega)
        have hix : ix (A ++ x :: (B ++ D.drop (k + 1))) (A.length : Int) = x := ix_app rfl
        have hL : (A ++ x :: (B ++ D.drop (k + 1))).length = D.length := by
          have : A.length + B.length = k := by rw [← hpl, ← hAB]; simp
          simp; omega
        show _ ∧ _ ∧ _
        simp only [wk, wj, hix, hL, List.length_set]
        rcases List.eq_nil_or_concat A with hA0 | ⟨A', p, hA0⟩
        · have hf := hfin A B hAB hB (fun A' p e => by rw [hA0] at e; have := congrArg List.length e; simp at this)
          have hz : (A.length : Int) = 0 := by rw [hA0]; rfl
          repeat' (first | (refine JOIN.mk ?_) | (refine IFB.mk (fun hb => ?_) (fun hb => ?_)) | (with_reducible refine And.intro ?_ ?_) | intro hh)
          all_goals (try simp only [gx_t, hz] at *)
          all_goals first | exact hf | (simp at *; done) | grind
        · have hA1 : A = A' ++ [p] := by simpa using hA0
          have hAl' : A.length = A'.length + 1 := by rw [hA1]; simp
          have hj : (A.length : Int) - 1 = (A'.length : Int) := by omega
          have hixp : ix (A ++ x :: (B ++ D.drop (k + 1))) ((A.length : Int) - 1) = p := by
            rw [hj, hA1, List.append_assoc]; exact ix_app rfl
          have hp := hpm p (by rw [← hAB, hA1]; simp)
          have hset : ((A ++ x :: (B ++ D.drop (k + 1))).set (A.length : Int).toNat p).set ((A.length : Int) - 1).toNat x = A' ++ x :: ((p :: B) ++ D.drop (k + 1)) := by
            rw [Int.toNat_natCast, set_app rfl, hj, Int.toNat_natCast, hA1, List.append_assoc]
            exact set_app rfl
          have hgo : lotV lots p < lotV lots x → rec2 ((A.length : Int) - 1) (A' ++ x :: ((p :: B) ++ D.drop (k + 1))) := fun hv => by
            have := hrec2 (((A.length : Int) - 1 : Int), (A' ++ x :: ((p :: B) ++ D.drop (k + 1)) : List Int), ()) ⟨A', p :: B, by rw [← hAB, hA1]; simp, hj, rfl, fun y hy => by
              rcases List.mem_cons.1 hy with rfl | hy
              · exact hv
              · exact hB y hy⟩ (by show ((A.length : Int) - 1).toNat < (A.length : Int).toNat; omega)
            exact this
          have hst : ¬ lotV lots p < lotV lots x → rec ((k : Int) + 1) (A ++ x :: (B ++ D.drop (k + 1))) := fun hv => hfin A B hAB hB (fun A2 p2 e => by
            rw [hA1] at e
            have := List.append_inj' e rfl
            have e2 : p = p2 := by simpa using this.2
            rw [← e2]; exact hv)
          simp only [hixp, hset]
          unfold lotV at hgo hst
          have hpos : (0 : Int) < A.length := by omega
          repeat' (first | (refine JOIN.mk ?_) | (refine IFB.mk (fun hb => ?_) (fun hb => ?_)) | (with_reducible refine And.intro ?_ ?_) | intro hh)
          all_goals (try simp only [gx_t, decide_eq_true_eq, decide_eq_false_iff_not, Bool.and_eq_true, Bool.and_eq_false_iff, Bool.not_eq_true', Bool.not_eq_false'] at *)
          all_goals first | omega | grind
    · have hge : (D.length : Int) ≤ k := by simpa using hge
      have hd' : (z12 : List Int) = sortS (lotV lots) [] (D.take k) ++ D.drop k := hd
      rw [List.take_of_length_le (by omega), List.drop_of_length_le (by omega), List.append_nil] at hd'
      rw [← hd'] at hK
      exact hK
end RE
end Go.Proofs.Ytpnmiieohdkenaa
set_option linter.unusedVariables false
set_option maxRecDepth 100000
namespace Go.Proofs.Ytpnmiieohdkenaa
open Go.RowKit
namespace RE
open PL
namespace PL
abbrev R4 := List api_Lot × Int × Int × Int
def addS (ls : List api_Lot) (re nx : Int) (l : api_Lot) : R4 :=
  if 80 ≤ ls.length ∨ 1073741824 ≤ nx then (ls, re, nx, 1) else (ls ++ [{ l with Number := nx }], re, nx + 1, 0)
def farmP (n : Int) : Prop := 1 ≤ n ∧ n ≤ 60
instance (n : Int) : Decidable (farmP n) := inferInstanceAs (Decidable (_ ∧ _))
def keptS (a : api_Act) : Int := if a.Kind = 2 then a.Squares * a.Keep / 1000000 else 0
def moveS (ls : List api_Lot) (re nx : Int) (a : api_Act) : R4 :=
  let i := seekS a.Lot 0 ls
  let l := ix ls i
  if i < 0 then (ls, re, nx, 19)
  else if ¬ farmP a.To then (ls, re, nx, 20)
  else if l.Owner ≠ l.User ∨ l.Owner = a.To then (ls, re, nx, 22)
  else if a.Squares < 1 ∨ l.Squares < a.Squares ∨ (a.Kind = 2 ∧ (a.Keep < 0 ∨ 1000000 < a.Keep)) then (ls, re, nx, 2)
  else if a.Squares - keptS a = 0 then (takeS ls i.toNat a.Squares, re + keptS a, nx, 0)
  else addS (takeS ls i.toNat a.Squares) (re + keptS a) nx ⟨l.Number, if a.Kind = 2 then a.To else l.Owner, a.To, a.Squares - keptS a, l.Value, l.Used⟩
/-- Squares used, lot by lot; the last one may be divided. -/
def useL (yr : Int) : List api_Lot → Int → List Int → List api_Lot × Option api_Lot
  | ls, _, [] => (ls, none)
  | ls, left, i :: r =>
    if left = 0 then (ls, none)
    else if (ix ls i).Squares ≤ left then useL yr (ls.set i.toNat { ix ls i with Used := yr }) (left - (ix ls i).Squares) r
    else (ls.set i.toNat { ix ls i with Squares := (ix ls i).Squares - left }, some { ix ls i with Squares := left, Used := yr })
def useAct (ls : List api_Lot) (re nx : Int) (a : api_Act) : R4 :=
  if ¬ farmP a.Farm then (ls, re, nx, 20)
  else if a.Year < 0 ∨ 100 < a.Year ∨ ∃ i ∈ usableS ls a.Farm, a.Year < (ix ls i).Used then (ls, re, nx, 18)
  else if a.Squares < 1 ∨ 268435456 < a.Squares then (ls, re, nx, 2)
  else if useS a.Farm ls < a.Squares then (ls, re, nx, 22)
  else match useL a.Year ls a.Squares (usableS ls a.Farm) with
    | (ls', none) => (ls', re, nx, 0)
    | (ls', some l) => addS ls' re nx l
def heirS (f t : Int) (l : api_Lot) : api_Lot := { l with Owner := if l.Owner = f then t else l.Owner, User := if l.User = f then t else l.User }
def lapseS (y : Int) : List api_Lot → List api_Lot
  | [] => []
  | l :: r => if l.Used ≤ y - 2 then lapseS y r else l :: lapseS y r
def lapseN (y : Int) : List api_Lot → Int
  | [] => 0
  | l :: r => if l.Used ≤ y - 2 then l.Squares + lapseN y r else lapseN y r
def actS (ls : List api_Lot) (re nx : Int) (a : api_Act) : R4 :=
  let i := seekS a.Lot 0 ls
  let l := ix ls i
  if a.Kind = 1 then
    if ¬ farmP a.To then (ls, re, nx, 20)
    else if a.Squares < 1 ∨ 268435456 < a.Squares ∨ a.Value < 0 ∨ 1048576 < a.Value then (ls, re, nx, 2)
    else if re < a.Squares then (ls, re, nx, 22)
    else addS ls (re - a.Squares) nx ⟨0, a.To, a.To, a.Squares, a.Value, -1⟩
  else if a.Kind = 2 ∨ a.Kind = 3 then moveS ls re nx a
  else if a.Kind = 4 then
    if i < 0 then (ls, re, nx, 19) else if l.Owner = l.User then (ls, re, nx, 22) else (ls.set i.toNat { l with User := l.Owner }, re, nx, 0)
  else if a.Kind = 5 then
    if ¬ farmP a.Farm ∨ ¬ farmP a.To ∨ a.Farm = a.To then (ls, re, nx, 20) else (ls.map (heirS a.Farm a.To), re, nx, 0)
  else if a.Kind = 6 then useAct ls re nx a
  else if a.Kind = 7 then
    if a.Year < 0 ∨ 100 < a.Year then (ls, re, nx, 18) else (lapseS a.Year ls, re + lapseN a.Year ls, nx, 0)
  else if a.Kind = 8 then
    if i < 0 then (ls, re, nx, 19) else if a.Squares < 1 ∨ l.Squares < a.Squares then (ls, re, nx, 2) else if l.Owner ≠ l.User then (ls, re, nx, 22)
    else (takeS ls i.toNat a.Squares, re + a.Squares, nx, 0)
  else (ls, re, nx, 14)
def applyS (x : api_Entitlements) (a : api_Act) : api_Entitlements × Int :=
  if chkE x ≠ 0 then (x, chkE x)
  else if (actS x.Lots x.Reserve x.Next a).2.2.2 ≠ 0 then (x, (actS x.Lots x.Reserve x.Next a).2.2.2)
  else (⟨(actS x.Lots x.Reserve x.Next a).1, (actS x.Lots x.Reserve x.Next a).2.1, (actS x.Lots x.Reserve x.Next a).2.2.1⟩, 0)
end PL
theorem seekS_spec {n : Int} : ∀ {l : List api_Lot} {k : Int}, 0 ≤ k → seekS n k l = -1 ∨ (k ≤ seekS n k l ∧ seekS n k l < k + l.length)
  | [], k, _ => .inl rfl
  | x :: r, k, hk => by
    unfold seekS
    split
    · right; simp; omega
    · rcases seekS_spec (n := n) (l := r) (k := k + 1) (by omega) with h | h
      · exact .inl h
      · right; simp; omega
theorem takeS_len {n : Int} : ∀ {l : List api_Lot} {i : Nat}, (takeS l i n).length ≤ l.length
  | [], _ => Nat.le_refl _
  | x :: r, 0 => by
    unfold takeS
    split <;> simp
  | x :: r, i + 1 => by
    have := takeS_len (n := n) (l := r) (i := i)
    simp [takeS]; exact this
theorem ix_set {α : Type} [Inhabited α] {l : List α} {i : Int} {v : α} (h1 : 0 ≤ i) (h2 : i < l.length) : ix (l.set i.toNat v) i = v := by
  unfold ix
  rw [List.getD_eq_getElem?_getD, List.getElem?_set, if_pos rfl, if_pos (by omega)]; rfl
theorem ix_set_ne {α : Type} [Inhabited α] {l : List α} {i j : Int} {v : α} (h1 : 0 ≤ i) (h2 : 0 ≤ j) (h : i ≠ j) : ix (l.set i.toNat v) j = ix l j := by
  unfold ix
  rw [List.getD_eq_getElem?_getD, List.getD_eq_getElem?_getD, List.getElem?_set, if_neg (by omega)]
/-- A list that is changed in place, element by element. -/
theorem map_step {α : Type} {l : List α} {f : α → α} {k : Nat} {x : α} (hk : l[k]? = some x) : ((l.take k).map f ++ l.drop k).set k (f x) = (l.take (k + 1)).map f ++ l.drop (k + 1) := by
  have hlt := (List.getElem?_eq_some_iff.1 hk).1
  have hx := (List.getElem?_eq_some_iff.1 hk).2
  have hd : l.drop k = x :: l.drop (k + 1) := by rw [← hx]; exact List.drop_eq_getElem_cons hlt
  have ht : l.take (k + 1) = l.take k ++ [x] := by rw [← hx]; simp
  rw [hd, set_app (by simp; omega), ht]; simp
theorem map_at {α : Type} [Inhabited α] {l : List α} {f : α → α} {k : Nat} {x : α} (hk : l[k]? = some x) : ix ((l.take k).map f ++ l.drop k) (k : Int) = x := by
  have hlt := (List.getElem?_eq_some_iff.1 hk).1
  have hx := (List.getElem?_eq_some_iff.1 hk).2
  have hd : l.drop k = x :: l.drop (k + 1) := by rw [← hx]; exact List.drop_eq_getElem_cons hlt
  rw [hd]; exact ix_app (by simp; omega)
theorem map_len {α : Type} {l : List α} {f : α → α} {k : Nat} : ((l.take k).map f ++ l.drop k).length = l.length := by
  simp; omega
theorem lapseN_le {y : Int} : ∀ {l : List api_Lot}, (∀ x ∈ l, 1 ≤ x.4 ∧ x.4 ≤ 268435456) → 0 ≤ lapseN y l ∧ lapseN y l ≤ 268435456 * l.length
  | [], _ => ⟨by simp [lapseN], by simp [lapseN]⟩
  | x :: r, h => by
    have h1 := lapseN_le (y := y) (l := r) (fun z hz => h z (by simp [hz]))
    have h2 := h x (by simp)
    unfold lapseN
    split <;> simp <;> omega
/-- Sums and products that are met in the acts. -/
theorem prod_in {a b : Int} (h1 : 1 ≤ a) (h2 : a ≤ 268435456) (h3 : 0 ≤ b) (h4 : b ≤ 1000000) : IntKind.i64.wrap (a * b) = a * b ∧ 0 ≤ a * b ∧ a * b ≤ 268435456000000 ∧ 0 ≤ a * b / 1000000 ∧ a * b / 1000000 ≤ a := by
  have e1 : 0 ≤ a * b := Int.mul_nonneg (by omega) h3
  have e2 : a * b ≤ 268435456 * 1000000 := Int.mul_le_mul h2 h4 h3 (by omega)
  have e3 : a * b ≤ a * 1000000 := Int.mul_le_mul_of_nonneg_left h4 (by omega)
  refine ⟨wrap_in (by omega) (by omega), e1, by omega, Int.ediv_nonneg e1 (by omega), ?_⟩
  exact Int.ediv_le_of_le_mul (by omega) e3
theorem get_mem {l : List api_Lot} {i : Int} (h1 : 0 ≤ i) (h2 : i < l.length) : ix l i ∈ l := List.mem_of_getElem? (ix_get (l := l) (i := i) ⟨h1, h2⟩)
end RE
end Go.Proofs.Ytpnmiieohdkenaa
set_option linter.unusedVariables false
set_option maxRecDepth 100000
namespace Go.Proofs.Ytpnmiieohdkenaa
open Go.RowKit
namespace RE
open PL
theorem takeS_cut {l : List api_Lot} {i : Nat} {n : Int} (h : i < l.length) (h0 : (ix l i).Squares - n = 0) : l.take i ++ l.drop (i + 1) = takeS l i n := by
  induction l generalizing i with
  | nil => simp at h
  | cons x r ih =>
    cases i with
    | zero => simp [takeS]; have : x.Squares - n = 0 := h0; simp [this]
    | succ i =>
      have hr : (ix r (i : Int)) = ix (x :: r) ((i + 1 : Nat) : Int) := by simp [ix, List.getD]
      simp only [List.take_succ_cons, List.drop_succ_cons, List.cons_append, takeS]
      rw [ih (by simpa using h) (by rw [hr]; exact h0)]
theorem takeS_set {l : List api_Lot} {i : Nat} {n : Int} (h : i < l.length) (h0 : (ix l i).Squares - n ≠ 0) : l.set i { ix l i with Squares := (ix l i).Squares - n } = takeS l i n := by
  induction l generalizing i with
  | nil => simp at h
  | cons x r ih =>
    cases i with
    | zero =>
      have h0 : ¬ x.Squares - n = 0 := h0
      have e : ix (x :: r) ((0 : Nat) : Int) = x := rfl
      simp only [takeS, List.set_cons_zero, e, if_neg h0]
    | succ i =>
      have hr : ix (x :: r) ((i + 1 : Nat) : Int) = ix r (i : Int) := by simp [ix, List.getD]
      simp only [List.set_cons_succ, takeS, hr]
      rw [ih (by simpa using h) (by rw [← hr]; exact h0)]
theorem sub_all {α : Type} {l : List α} {j : Int} (h1 : 0 ≤ j) : sub l j (l.length : Int) = l.drop j.toNat := by
  unfold sub
  rw [List.take_of_length_le (by simp)]
/-- What slices.Delete leaves. -/
theorem del_list {α : Type} {l r Y : List α} {i j : Int} (h1 : 0 ≤ i) (h2 : i ≤ j) (h3 : j ≤ l.length) :
    List.take (i + ((l.length : Int) - j)).toNat (List.take (i + ((l.length : Int) - j) - 0).toNat (l.take i.toNat ++ (sub l j (l.length : Int) ++ r)) ++ Y) = l.take i.toNat ++ l.drop j.toNat := by
  rw [sub_all (by omega), Int.sub_zero, ← List.append_assoc]
  have e : (i + ((l.length : Int) - j)).toNat = (l.take i.toNat ++ l.drop j.toNat).length := by simp; omega
  rw [e, List.take_left, List.take_left]
namespace PL
/-- The squares of the lots of which the numbers are given. -/
def SI (ls : List api_Lot) : List Int → Int
  | [] => 0
  | i :: r => (ix ls i).4 + SI ls r
end PL
theorem SI_app {ls : List api_Lot} : ∀ {l m : List Int}, SI ls (l ++ m) = SI ls l + SI ls m
  | [], m => by simp [SI]
  | i :: r, m => by
    show (ix ls i).4 + SI ls (r ++ m) = (ix ls i).4 + SI ls r + SI ls m
    rw [SI_app]; omega
theorem SI_rev {ls : List api_Lot} : ∀ {l : List Int}, SI ls l.reverse = SI ls l
  | [] => rfl
  | i :: r => by
    rw [List.reverse_cons, SI_app, SI_rev]
    show SI ls r + ((ix ls i).4 + 0) = (ix ls i).4 + SI ls r
    omega
theorem SI_ins {ls : List api_Lot} {v : Int → Int} {i : Int} : ∀ {l : List Int}, SI ls (insR v i l) = (ix ls i).4 + SI ls l
  | [] => rfl
  | y :: r => by
    unfold insR
    split
    · show (ix ls y).4 + SI ls (insR v i r) = (ix ls i).4 + ((ix ls y).4 + SI ls r)
      rw [SI_ins]; omega
    · rfl
theorem SI_sort {ls : List api_Lot} {v : Int → Int} : ∀ {l out : List Int}, SI ls (sortS v out l) = SI ls out + SI ls l
  | [], out => by show SI ls out = SI ls out + 0; omega
  | i :: r, out => by
    show SI ls (sortS v (insR v i out.reverse).reverse r) = SI ls out + ((ix ls i).4 + SI ls r)
    rw [SI_sort, SI_rev, SI_ins, SI_rev]; omega
theorem SI_idx {ls : List api_Lot} {n : Int} : ∀ {tl pre : List api_Lot}, ls = pre ++ tl → SI ls (idxS n (pre.length : Int) tl) = useS n tl
  | [], pre, h => rfl
  | x :: r, pre, h => by
    have ih := SI_idx (ls := ls) (n := n) (tl := r) (pre := pre ++ [x]) (by rw [h]; simp)
    have e : (((pre ++ [x]).length : Nat) : Int) = (pre.length : Int) + 1 := by simp
    rw [e] at ih
    have hx : ix ls (pre.length : Int) = x := by rw [h]; exact ix_app (by simp)
    unfold idxS useS
    split
    · show (ix ls _).4 + SI ls _ = _
      rw [ih, hx]
    · rw [ih]; omega
theorem SI_us {ls : List api_Lot} {n : Int} : SI ls (usableS ls n) = useS n ls := by
  unfold usableS
  rw [SI_sort]
  have := SI_idx (ls := ls) (n := n) (tl := ls) (pre := []) rfl
  show 0 + SI ls (idxS n 0 ls) = _
  rw [Int.zero_add]; exact this
namespace PL
/-- What is left of the squares, and their value so far, lot by lot. -/
def valL (ls : List api_Lot) : List Int → Int → Int → Int × Int
  | [], left, t => (left, t)
  | i :: r, left, t => valL ls r (left - min left (ix ls i).4) (t + min left (ix ls i).4 * (ix ls i).5)
def valueS (x : api_Entitlements) (n sq : Int) : Int × Int :=
  if chkE x ≠ 0 then (0, chkE x)
  else if ¬ farmP n then (0, 20)
  else if sq < 0 ∨ 268435456 < sq then (0, 2)
  else if useS n x.Lots < sq then (0, 22)
  else ((valL x.Lots (usableS x.Lots n) sq 0).2 / 100, 0)
def modS (a b : Int) : Int := if b < 1 then 0 else a % b
end PL
theorem valL_left {ls : List api_Lot} : ∀ {us : List Int} {left t : Int}, 0 ≤ left → (∀ j ∈ us, 1 ≤ (ix ls j).4) → (0 < (valL ls us left t).1 ↔ SI ls us < left)
  | [], left, t, h, _ => Iff.rfl
  | i :: r, left, t, h, hu => by
    have h1 := hu i (by simp)
    have hm : min left (ix ls i).4 ≤ left := Int.min_le_left _ _
    have ih := valL_left (ls := ls) (us := r) (left := left - min left (ix ls i).4) (t := t + min left (ix ls i).4 * (ix ls i).5) (by omega) (fun j hj => hu j (by simp [hj]))
    show 0 < (valL ls r (left - min left (ix ls i).4) (t + min left (ix ls i).4 * (ix ls i).5)).1 ↔ (ix ls i).4 + SI ls r < left
    rw [ih]
    have hs : 0 ≤ SI ls r := by
      have : ∀ {r : List Int}, (∀ j ∈ r, 1 ≤ (ix ls j).4) → 0 ≤ SI ls r := by
        intro r
        induction r with
        | nil => intro _; exact Int.le_refl _
        | cons a b ih => intro h; have := ih (fun j hj => h j (by simp [hj])); have := h a (by simp); show 0 ≤ (ix ls a).4 + SI ls b; omega
      exact this (fun j hj => hu j (by simp [hj]))
    rcases Int.le_total left (ix ls i).4 with h2 | h2
    · rw [Int.min_eq_left h2]; omega
    · rw [Int.min_eq_right h2]; omega
theorem tmod_of {a b : Int} (hb : 1 ≤ b) : (a.tmod b < 0 → a.tmod b + b = a % b) ∧ (¬ a.tmod b < 0 → a.tmod b = a % b) := by
  have h := Int.tmod_eq_emod (a := a) (b := b)
  have h1 := Int.emod_nonneg a (show b ≠ 0 by omega)
  have h2 := Int.emod_lt_of_pos a (show 0 < b by omega)
  have h3 : (b.natAbs : Int) = b := by omega
  split at h <;> constructor <;> intro h4 <;> omega
end RE
end Go.Proofs.Ytpnmiieohdkenaa
set_option linter.unusedVariables false
set_option maxRecDepth 100000
namespace Go.Proofs.Ytpnmiieohdkenaa
open Go.RowKit
namespace RE
open PL
namespace PL
def EInv (k : Int) (x : api_Entitlements) : Prop := chkE x = 0 ∧ x.Next ≤ k ∧ x.Lots.length < k ∧ ∀ l ∈ x.Lots, l.Used ≤ 5
/-- The squares of the lots of a kind. -/
def sqS (p : api_Lot → Bool) : List api_Lot → Int
  | [] => 0
  | l :: r => (if p l = true then l.Squares else 0) + sqS p r
def Vld (nx : Int) (ls : List api_Lot) : Prop := (∀ l ∈ ls, LotOK l ∧ 0 < l.Number ∧ l.Number < nx) ∧ ls.Pairwise (fun a b => a.Number < b.Number)
end PL
theorem sumL_sq : ∀ {ls : List api_Lot}, sumL ls = sqS (fun _ => true) ls
  | [] => rfl
  | l :: r => by simp [sumL, sqS, sumL_sq (ls := r)]
theorem ownS_sq {n : Int} : ∀ {ls : List api_Lot}, ownS n ls = sqS (fun l => decide (l.Owner = n)) ls
  | [] => rfl
  | l :: r => by simp [ownS, sqS, ownS_sq (ls := r)]
theorem useS_sq {n : Int} : ∀ {ls : List api_Lot}, useS n ls = sqS (fun l => decide (l.User = n)) ls
  | [] => rfl
  | l :: r => by simp [useS, sqS, useS_sq (ls := r)]
theorem lotE_iff {nx last : Int} {l : api_Lot} : lotE nx last l = 0 ↔ LotOK l ∧ last < l.Number ∧ l.Number < nx := by
  unfold lotE LotOK
  grind (splits := 30)
theorem lotsE_iff {nx : Int} : ∀ {ls : List api_Lot} {last : Int}, lotsE nx last ls = 0 ↔ (∀ l ∈ ls, LotOK l ∧ last < l.Number ∧ l.Number < nx) ∧ ls.Pairwise (fun a b => a.Number < b.Number)
  | [], last => by simp [lotsE]
  | x :: r, last => by
    have ih := lotsE_iff (nx := nx) (ls := r) (last := x.Number)
    have hx := lotE_iff (nx := nx) (last := last) (l := x)
    unfold lotsE
    rw [List.pairwise_cons]
    constructor
    · intro h
      have h1 : lotE nx last x = 0 := by grind
      rw [if_pos h1] at h
      obtain ⟨h2, h3⟩ := ih.1 h
      obtain ⟨k1, k2, k3⟩ := hx.1 h1
      refine ⟨fun l hl => ?_, fun l hl => (h2 l hl).2.1, h3⟩
      rcases List.mem_cons.1 hl with rfl | hl
      · exact ⟨k1, k2, k3⟩
      · obtain ⟨q1, q2, q3⟩ := h2 l hl
        exact ⟨q1, by omega, q3⟩
    · rintro ⟨h1, h2, h3⟩
      rw [if_pos (hx.2 (h1 x (by simp)))]
      exact ih.2 ⟨fun l hl => ⟨(h1 l (by simp [hl])).1, h2 l hl, (h1 l (by simp [hl])).2.2⟩, h3⟩
theorem chkE_iff {x : api_Entitlements} : chkE x = 0 ↔ x.Lots.length ≤ 80 ∧ 1 ≤ x.Next ∧ x.Next ≤ 1073741824 ∧ 0 ≤ x.Reserve ∧ x.Reserve ≤ 1099511627776 ∧ Vld x.Next x.Lots ∧ sumL x.Lots + x.Reserve ≤ 1099511627776 := by
  have h := lotsE_iff (nx := x.Next) (ls := x.Lots) (last := 0)
  unfold chkE Vld
  rw [← h]
  grind (splits := 30)
/-- Numbers that grow are fewer than the next one. -/
theorem inc_len {nx : Int} : ∀ {ls : List api_Lot} {last : Int}, last < nx → (∀ l ∈ ls, last < l.Number ∧ l.Number < nx) → ls.Pairwise (fun a b => a.Number < b.Number) → (ls.length : Int) < nx - last
  | [], last, h0, _, _ => by simp; omega
  | x :: r, last, h0, h1, h2 => by
    rw [List.pairwise_cons] at h2
    have hx := h1 x (by simp)
    have := inc_len (nx := nx) (ls := r) (last := x.Number) hx.2 (fun l hl => ⟨h2.1 l hl, (h1 l (by simp [hl])).2⟩) h2.2
    simp; omega
theorem chkE_len {x : api_Entitlements} (h : chkE x = 0) : (x.Lots.length : Int) < x.Next := by
  obtain ⟨_, h1, _, _, _, ⟨h2, h3⟩, _⟩ := chkE_iff.1 h
  have := inc_len (nx := x.Next) (ls := x.Lots) (last := 0) (by omega) (fun l hl => (h2 l hl).2) h3
  omega
theorem sqS_nonneg {p : api_Lot → Bool} : ∀ {ls : List api_Lot}, (∀ l ∈ ls, LotOK l) → 0 ≤ sqS p ls
  | [], _ => Int.le_refl _
  | x :: r, h => by
    have := sqS_nonneg (p := p) (ls := r) (fun l hl => h l (by simp [hl]))
    have hx := h x (by simp)
    unfold LotOK at hx
    unfold sqS
    split <;> omega
theorem sqS_app {p : api_Lot → Bool} : ∀ {l m : List api_Lot}, sqS p (l ++ m) = sqS p l + sqS p m
  | [], m => by simp [sqS]
  | x :: r, m => by
    show _ + sqS p (r ++ m) = _ + sqS p r + sqS p m
    rw [sqS_app]; omega
/-- A number of squares, or none. -/
theorem sqS_set {p : api_Lot → Bool} : ∀ {ls : List api_Lot} {i : Nat} {v : api_Lot}, i < ls.length → sqS p (ls.set i v) = sqS p ls - (if p (ix ls i) = true then (ix ls i).Squares else 0) + (if p v = true then v.Squares else 0)
  | [], i, v, h => by simp at h
  | x :: r, 0, v, h => by
    have e : ix (x :: r) ((0 : Nat) : Int) = x := rfl
    simp only [List.set_cons_zero, sqS, e]; omega
  | x :: r, i + 1, v, h => by
    have hr : ix (x :: r) ((i + 1 : Nat) : Int) = ix r (i : Int) := by simp [ix, List.getD]
    have := sqS_set (p := p) (ls := r) (i := i) (v := v) (by simpa using h)
    simp only [List.set_cons_succ, sqS, hr]; omega
theorem sqS_take {p : api_Lot → Bool} {n : Int} (hp : ∀ l : api_Lot, ∀ s, p { l with Squares := s } = p l) : ∀ {ls : List api_Lot} {i : Nat}, i < ls.length → sqS p (takeS ls i n) = sqS p ls - (if p (ix ls i) = true then n else 0)
  | [], i, h => by simp at h
  | x :: r, 0, h => by
    have e : ix (x :: r) ((0 : Nat) : Int) = x := rfl
    simp only [takeS, sqS, e]
    split
    · split <;> omega
    · simp only [sqS, hp]
      split <;> omega
  | x :: r, i + 1, h => by
    have hr : ix (x :: r) ((i + 1 : Nat) : Int) = ix r (i : Int) := by simp [ix, List.getD]
    have := sqS_take (p := p) hp (n := n) (ls := r) (i := i) (by simpa using h)
    simp only [takeS, sqS, hr]; omega
theorem takeS_num {n : Int} : ∀ {ls : List api_Lot} {i : Nat}, ((takeS ls i n).map (·.Number)).Sublist (ls.map (·.Number))
  | [], i => by simp [takeS]
  | x :: r, 0 => by
    unfold takeS
    split
    · simp
    · simp
  | x :: r, i + 1 => by
    have := takeS_num (n := n) (ls := r) (i := i)
    simp only [takeS, List.map_cons]
    exact this.cons_cons _
theorem takeS_mem {n : Int} {y : api_Lot} : ∀ {ls : List api_Lot} {i : Nat}, y ∈ takeS ls i n → y ∈ ls ∨ (i < ls.length ∧ (ix ls i).Squares - n ≠ 0 ∧ y = { ix ls i with Squares := (ix ls i).Squares - n })
  | [], i, h => by simp [takeS] at h
  | x :: r, 0, h => by
    have e : ix (x :: r) ((0 : Nat) : Int) = x := rfl
    unfold takeS at h
    split at h
    · exact .inl (by simp [h])
    · rename_i hn
      rcases List.mem_cons.1 h with h | h
      · exact .inr ⟨by simp, by rw [e]; exact hn, by rw [e]; exact h⟩
      · exact .inl (by simp [h])
  | x :: r, i + 1, h => by
    have hr : ix (x :: r) ((i + 1 : Nat) : Int) = ix r (i : Int) := by simp [ix, List.getD]
    simp only [takeS] at h
    rcases List.mem_cons.1 h with h | h
    · exact .inl (by simp [h])
    · rcases takeS_mem (ls := r) h with h | ⟨h1, h2, h3⟩
      · exact .inl (by simp [h])
      · exact .inr ⟨by simpa using h1, by rw [hr]; exact h2, by rw [hr]; exact h3⟩
/-- Lots that are right, of numbers out of a valid list, in order. -/
theorem PL.Vld.sub {nx : Int} {ls ls' : List api_Lot} (h : Vld nx ls) (h1 : ∀ l ∈ ls', LotOK l) (h2 : (ls'.map (·.Number)).Sublist (ls.map (·.Number))) : Vld nx ls' := by
  refine ⟨fun l hl => ?_, ?_⟩
  · have : l.Number ∈ ls.map (·.Number) := h2.subset (List.mem_map_of_mem hl)
    obtain ⟨q, hq, e⟩ := List.mem_map.1 this
    obtain ⟨_, k1, k2⟩ := h.1 q hq
    exact ⟨h1 l hl, by omega, by omega⟩
  · have := (List.pairwise_map.2 h.2).sublist h2
    exact List.pairwise_map.1 this
theorem PL.Vld.set {nx : Int} {ls : List api_Lot} (h : Vld nx ls) {i : Nat} {v : api_Lot} (hi : i < ls.length) (hv : LotOK v) (hn : v.Number = (ix ls i).Number) : Vld nx (ls.set i v) := by
  refine h.sub (fun l hl => ?_) ?_
  · rcases List.mem_or_eq_of_mem_set hl with h' | rfl
    · exact (h.1 l h').1
    · exact hv
  · have e : (ls.set i v).map (·.Number) = ls.map (·.Number) := by
      rw [List.map_set]
      refine List.ext_getElem? fun j => ?_
      rw [List.getElem?_set]
      split
      · rename_i e
        subst e
        rw [if_pos (by simpa using hi), List.getElem?_map, List.getElem?_eq_getElem hi, hn]
        simp [ix, List.getD, List.getElem?_eq_getElem hi]
      · rfl
    rw [e]
    exact List.Sublist.refl _
theorem PL.Vld.take {nx n : Int} {ls : List api_Lot} (h : Vld nx ls) {i : Nat} (hi : i < ls.length) (h1 : 0 ≤ n) (h2 : n ≤ (ix ls i).Squares) : Vld nx (takeS ls i n) := by
  refine h.sub (fun l hl => ?_) takeS_num
  rcases takeS_mem hl with hl | ⟨k1, k2, rfl⟩
  · exact (h.1 l hl).1
  · have hm := (h.1 _ (get_mem (l := ls) (i := (i : Int)) (by omega) (by omega))).1
    unfold LotOK at hm ⊢
    dsimp only
    omega
theorem PL.Vld.app {nx : Int} {ls : List api_Lot} (h : Vld nx ls) {v : api_Lot} (hv : LotOK v) (hn : v.Number = nx) (h1 : 1 ≤ nx) : Vld (nx + 1) (ls ++ [v]) := by
  refine ⟨fun l hl => ?_, ?_⟩
  · rcases List.mem_append.1 hl with hl | hl
    · obtain ⟨k1, k2, k3⟩ := h.1 l hl
      exact ⟨k1, k2, by omega⟩
    · rw [List.mem_singleton.1 hl]
      exact ⟨hv, by omega, by omega⟩
  · rw [List.pairwise_append]
    refine ⟨h.2, List.pairwise_singleton _ _, fun a ha b hb => ?_⟩
    rw [List.mem_singleton.1 hb]
    have := (h.1 a ha).2.2
    omega
/-- What an act leaves: a list of lots, what is in the reserve, the next number. -/
structure Kept (P : api_Lot → Prop) (x : api_Entitlements) (r : R4) : Prop where
  v : Vld r.2.2.1 r.1
  len : r.1.length ≤ 80
  re : 0 ≤ r.2.1
  nx1 : x.Next ≤ r.2.2.1
  nx2 : r.2.2.1 ≤ x.Next + 1
  nx3 : r.2.2.1 ≤ 1073741824
  sum : sumL r.1 + r.2.1 = sumL x.Lots + x.Reserve
  p : ∀ l ∈ r.1, P l
theorem Kept.add {P : api_Lot → Prop} {x : api_Entitlements} {ls : List api_Lot} {re nx : Int} {l : api_Lot} (hnx : nx = x.Next) (h1 : 1 ≤ nx) (h2 : nx ≤ 1073741824) (hv : Vld nx ls) (hl : ls.length ≤ 80) (hre : 0 ≤ re) (hlo : LotOK l) (hs : sumL ls + l.Squares + re = sumL x.Lots + x.Reserve) (hp : ∀ l ∈ ls, P l) (hpl : P { l with Number := nx })
    (he : (addS ls re nx l).2.2.2 = 0) : Kept P x (addS ls re nx l) := by
  unfold addS at he ⊢
  split at he
  · cases he
  · rename_i hc
    rw [if_neg hc]
    rw [sumL_sq] at hs
    refine ⟨hv.app (v := { l with Number := nx }) hlo rfl h1, ?_, hre, ?_, ?_, ?_, ?_, ?_⟩
    · simp; omega
    · show x.Next ≤ nx + 1; omega
    · show nx + 1 ≤ x.Next + 1; omega
    · show nx + 1 ≤ 1073741824; omega
    · show sumL (ls ++ _) + re = _
      rw [sumL_sq, sqS_app]
      simp [sqS]; omega
    · intro q hq
      rcases List.mem_append.1 hq with hq | hq
      · exact hp q hq
      · rw [List.mem_singleton.1 hq]; exact hpl
theorem lapse_sum {y : Int} : ∀ {ls : List api_Lot}, sumL (lapseS y ls) + lapseN y ls = sumL ls
  | [] => rfl
  | x :: r => by
    have := lapse_sum (y := y) (ls := r)
    unfold lapseS lapseN
    split
    · simp only [sumL]; omega
    · simp only [sumL]; omega
theorem lapse_sub {y : Int} : ∀ {ls : List api_Lot}, (lapseS y ls).Sublist ls
  | [] => List.Sublist.refl _
  | x :: r => by
    unfold lapseS
    split
    · exact (lapse_sub (ls := r)).cons _
    · exact (lapse_sub (ls := r)).cons_cons _
theorem lapseN_nonneg {y : Int} {ls : List api_Lot} (h : ∀ l ∈ ls, LotOK l) : 0 ≤ lapseN y ls :=
  (lapseN_le (y := y) (l := ls) fun x hx => by have := h x hx; unfold LotOK at this; omega).1
theorem heir_sum {f t : Int} : ∀ {ls : List api_Lot}, sumL (ls.map (heirS f t)) = sumL ls
  | [] => rfl
  | x :: r => by
    have := heir_sum (f := f) (t := t) (ls := r)
    simp only [List.map_cons, sumL, heirS]
    rw [← this]
/-- Squares used, lot by lot. -/
theorem useL_kept {yr nx : Int} (hy : 0 ≤ yr ∧ yr ≤ 100) : ∀ {us : List Int} {ls : List api_Lot} {left : Int}, Vld nx ls → (∀ j ∈ us, 0 ≤ j ∧ j < ls.length) → 0 ≤ left → left ≤ 268435456 →
    Vld nx (useL yr ls left us).1 ∧ (useL yr ls left us).1.length = ls.length ∧ (∀ l ∈ (useL yr ls left us).1, l.Used = yr ∨ ∃ q ∈ ls, l.Used = q.Used) ∧ ((useL yr ls left us).2 = none → sumL (useL yr ls left us).1 = sumL ls) ∧
    ∀ v, (useL yr ls left us).2 = some v → LotOK v ∧ v.Used = yr ∧ sumL (useL yr ls left us).1 + v.Squares = sumL ls
  | [], ls, left, hv, hu, h0, h1 => by
    refine ⟨hv, rfl, fun l hl => .inr ⟨l, hl, rfl⟩, fun _ => rfl, fun v h => ?_⟩
    cases h
  | i :: r, ls, left, hv, hu, h0, h1 => by
    obtain ⟨i1, i2⟩ := hu i (by simp)
    obtain ⟨k, rfl⟩ : ∃ k : Nat, i = (k : Int) := ⟨i.toNat, by omega⟩
    have hk : k < ls.length := by omega
    have hm := hv.1 _ (get_mem (l := ls) (i := (k : Int)) (by omega) (by omega))
    have hmo := hm.1
    unfold LotOK at hmo
    unfold useL
    simp only [Int.toNat_natCast]
    split
    · refine ⟨hv, rfl, fun l hl => .inr ⟨l, hl, rfl⟩, fun _ => rfl, fun v h => ?_⟩
      cases h
    · split
      · rename_i hle
        have hv' : Vld nx (ls.set k { ix ls (k : Int) with Used := yr }) := hv.set hk (by unfold LotOK; dsimp only; omega) rfl
        have hs : sumL (ls.set k { ix ls (k : Int) with Used := yr }) = sumL ls := by
          rw [sumL_sq, sumL_sq, sqS_set hk]; simp
        obtain ⟨q1, q2, q3, q4, q5⟩ := useL_kept (nx := nx) hy (us := r) (ls := ls.set k { ix ls (k : Int) with Used := yr }) (left := left - (ix ls (k : Int)).Squares) hv' (fun j hj => by have := hu j (by simp [hj]); rw [List.length_set]; exact this) (by omega) (by omega)
        refine ⟨q1, by rw [q2, List.length_set], fun l hl => ?_, fun h => by rw [q4 h, hs], fun v h => by rw [hs] at q5; exact q5 v h⟩
        rcases q3 l hl with h | ⟨q, hq, h⟩
        · exact .inl h
        · rcases List.mem_or_eq_of_mem_set hq with hq | rfl
          · exact .inr ⟨q, hq, h⟩
          · exact .inl h
      · rename_i hn1 hn2
        refine ⟨hv.set hk (by unfold LotOK; dsimp only; omega) rfl, by rw [List.length_set], fun l hl => ?_, fun h => (by cases h), fun v h => ?_⟩
        · rcases List.mem_or_eq_of_mem_set hl with hq | rfl
          · exact .inr ⟨l, hq, rfl⟩
          · exact .inr ⟨_, get_mem (l := ls) (i := (k : Int)) (by omega) (by omega), rfl⟩
        · injection h with h
          subst h
          refine ⟨by unfold LotOK; dsimp only; omega, rfl, ?_⟩
          rw [sumL_sq, sumL_sq, sqS_set hk]
          simp; omega
theorem act_kept {P : api_Lot → Prop} {x : api_Entitlements} {a : api_Act} (hx : chkE x = 0) (hp0 : ∀ l ∈ x.Lots, P l) (hpu : ∀ l q : api_Lot, P l → q.Used = l.Used → P q) (hpn : ∀ q : api_Lot, q.Used = -1 → P q) (hpy : ∀ q : api_Lot, 0 ≤ a.Year → q.Used = a.Year → P q)
    (he : (actS x.Lots x.Reserve x.Next a).2.2.2 = 0) : Kept P x (actS x.Lots x.Reserve x.Next a) := by
  obtain ⟨c1, c2, c3, c4, c5, c6, c7⟩ := chkE_iff.1 hx
  obtain ⟨ls, re, nx⟩ := x
  dsimp only at *
  have hs0 := seekS_spec (n := a.Lot) (l := ls) (k := 0) (Int.le_refl _)
  obtain ⟨i, hi⟩ : ∃ i, seekS a.Lot 0 ls = i := ⟨_, rfl⟩
  have hsum0 : ∀ {l : List api_Lot}, (∀ q ∈ l, LotOK q) → 0 ≤ sumL l := fun h => by rw [sumL_sq]; exact sqS_nonneg h
  have hlm : 0 ≤ i → ∃ k : Nat, i = (k : Int) ∧ k < ls.length ∧ LotOK (ix ls (k : Int)) ∧ P (ix ls (k : Int)) := fun h => by
    have h2 : i < ls.length := by rw [← hi]; rw [← hi] at h; omega
    exact ⟨i.toNat, by omega, by omega, by rw [show ((i.toNat : Nat) : Int) = i by omega]; exact ⟨(c6.1 _ (get_mem h h2)).1, hp0 _ (get_mem h h2)⟩⟩
  have hsame : ∀ {l : List api_Lot} {r : Int}, Vld nx l → l.length ≤ ls.length → 0 ≤ r → sumL l + r = sumL ls + re → (∀ q ∈ l, P q) → Kept P ⟨ls, re, nx⟩ (l, r, nx, 0) := fun q1 q2 q3 q4 q5 =>
    ⟨q1, Nat.le_trans q2 (by omega), q3, Int.le_refl _, by show nx ≤ nx + 1; omega, c3, q4, q5⟩
  have htk : ∀ {k : Nat} {n : Int}, k < ls.length → LotOK (ix ls (k : Int)) → P (ix ls (k : Int)) → 1 ≤ n → n ≤ (ix ls (k : Int)).Squares → Vld nx (takeS ls k n) ∧ (takeS ls k n).length ≤ ls.length ∧ sumL (takeS ls k n) = sumL ls - n ∧ ∀ q ∈ takeS ls k n, P q := fun {k n} q1 q2 q3 q4 q5 => by
    refine ⟨c6.take q1 (by omega) q5, takeS_len, ?_, fun q hq => ?_⟩
    · rw [sumL_sq, sumL_sq, sqS_take (fun _ _ => rfl) q1]; simp
    · rcases takeS_mem hq with hq | ⟨_, _, rfl⟩
      · exact hp0 q hq
      · exact hpu _ _ q3 rfl
  unfold actS at he ⊢
  rw [hi] at he ⊢
  simp only at he ⊢
  by_cases k1 : a.Kind = 1
  · rw [if_pos k1] at he ⊢
    split at he <;> rename_i g1
    · cases he
    rw [if_neg g1]
    split at he <;> rename_i g2
    · cases he
    rw [if_neg g2]
    split at he <;> rename_i g3
    · cases he
    rw [if_neg g3]
    have g1 : farmP a.To := Classical.not_not.1 g1
    unfold farmP at g1
    refine Kept.add rfl c2 c3 c6 c1 (by omega) (by unfold LotOK; dsimp only; omega) (by dsimp only; omega) hp0 (hpn _ rfl) he
  rw [if_neg k1] at he ⊢
  by_cases k2 : a.Kind = 2 ∨ a.Kind = 3
  · rw [if_pos k2] at he ⊢
    unfold moveS at he ⊢
    rw [hi] at he ⊢
    simp only at he ⊢
    split at he <;> rename_i g1
    · cases he
    rw [if_neg g1]
    split at he <;> rename_i g2
    · cases he
    rw [if_neg g2]
    split at he <;> rename_i g3
    · cases he
    rw [if_neg g3]
    split at he <;> rename_i g4
    · cases he
    rw [if_neg g4]
    obtain ⟨k, rfl, hk1, hk2, hk3⟩ := hlm (by omega)
    have g2 : farmP a.To := Classical.not_not.1 g2
    unfold farmP at g2
    have hk2' := hk2
    unfold LotOK at hk2'
    obtain ⟨t1, t2, t3, t4⟩ := htk hk1 hk2 hk3 (by omega) (show a.Squares ≤ _ by omega)
    have hkp : 0 ≤ keptS a ∧ keptS a ≤ a.Squares := by
      unfold keptS
      split
      · have := prod_in (a := a.Squares) (b := a.Keep) (by omega) (by omega) (by omega) (by omega)
        omega
      · omega
    simp only [Int.toNat_natCast] at he ⊢
    split at he <;> rename_i g5
    · rw [if_pos g5]
      exact hsame t1 t2 (by omega) (by omega) t4
    · rw [if_neg g5]
      refine Kept.add rfl c2 c3 t1 (by omega) (by omega) ?_ (by dsimp only; omega) t4 (hpu _ _ hk3 rfl) he
      unfold LotOK
      dsimp only
      split <;> omega
  rw [if_neg k2] at he ⊢
  by_cases k4 : a.Kind = 4
  · rw [if_pos k4] at he ⊢
    split at he <;> rename_i g1
    · cases he
    rw [if_neg g1]
    split at he <;> rename_i g2
    · cases he
    rw [if_neg g2]
    obtain ⟨k, rfl, hk1, hk2, hk3⟩ := hlm (by omega)
    have hk2' := hk2
    unfold LotOK at hk2'
    simp only [Int.toNat_natCast]
    refine hsame (c6.set hk1 (by unfold LotOK; dsimp only; omega) rfl) (by rw [List.length_set]; exact Nat.le_refl _) c4 ?_ fun q hq => ?_
    · rw [sumL_sq, sumL_sq, sqS_set hk1]; simp
    · rcases List.mem_or_eq_of_mem_set hq with hq | rfl
      · exact hp0 q hq
      · exact hpu _ _ hk3 rfl
  rw [if_neg k4] at he ⊢
  by_cases k5 : a.Kind = 5
  · rw [if_pos k5] at he ⊢
    split at he <;> rename_i g1
    · cases he
    rw [if_neg g1]
    have g1 : farmP a.Farm ∧ farmP a.To := by
      constructor <;> (apply Classical.not_not.1; intro h; exact g1 (by simp [h]))
    unfold farmP at g1
    refine hsame (c6.sub (fun q hq => ?_) ?_) (by simp) c4 (by rw [heir_sum]) fun q hq => ?_
    · obtain ⟨l, hl, rfl⟩ := List.mem_map.1 hq
      have := (c6.1 l hl).1
      unfold LotOK at this ⊢
      unfold heirS
      dsimp only
      split <;> split <;> omega
    · rw [List.map_map]
      exact List.Sublist.refl _
    · obtain ⟨l, hl, rfl⟩ := List.mem_map.1 hq
      exact hpu _ _ (hp0 l hl) rfl
  rw [if_neg k5] at he ⊢
  by_cases k6 : a.Kind = 6
  · rw [if_pos k6] at he ⊢
    unfold useAct at he ⊢
    split at he <;> rename_i g1
    · cases he
    rw [if_neg g1]
    split at he <;> rename_i g2
    · cases he
    rw [if_neg g2]
    split at he <;> rename_i g3
    · cases he
    rw [if_neg g3]
    split at he <;> rename_i g4
    · cases he
    rw [if_neg g4]
    have g2 : 0 ≤ a.Year ∧ a.Year ≤ 100 := by
      constructor <;> (apply Classical.byContradiction; intro h; exact g2 (by omega))
    obtain ⟨q1, q2, q3, q4, q5⟩ := useL_kept (yr := a.Year) (nx := nx) g2 (us := usableS ls a.Farm) (ls := ls) (left := a.Squares) c6 (fun j hj => usableS_mem hj) (by omega) (by omega)
    obtain ⟨ls', o, hU⟩ : ∃ ls' o, useL a.Year ls a.Squares (usableS ls a.Farm) = (ls', o) := ⟨_, _, rfl⟩
    rw [hU] at q1 q2 q3 q4 q5 he ⊢
    have hP' : ∀ l ∈ ls', P l := fun l hl => by
      rcases q3 l hl with h | ⟨q, hq, h⟩
      · exact hpy l g2.1 h
      · exact hpu q l (hp0 q hq) h
    cases o with
    | none => exact hsame q1 (Nat.le_of_eq q2) c4 (by rw [q4 rfl]) hP'
    | some v =>
      obtain ⟨v1, v2, v3⟩ := q5 v rfl
      have q2 : ls'.length = ls.length := q2
      have v3 : sumL ls' + v.Squares = sumL ls := v3
      exact Kept.add rfl c2 c3 q1 (by omega) c4 v1 (by dsimp only; omega) hP' (hpy _ g2.1 v2) he
  rw [if_neg k6] at he ⊢
  by_cases k7 : a.Kind = 7
  · rw [if_pos k7] at he ⊢
    split at he <;> rename_i g1
    · cases he
    rw [if_neg g1]
    have hn := lapseN_nonneg (y := a.Year) (ls := ls) (fun l hl => (c6.1 l hl).1)
    have hs := lapse_sum (y := a.Year) (ls := ls)
    refine hsame (c6.sub (fun q hq => (c6.1 q (lapse_sub.subset hq)).1) (lapse_sub.map _)) lapse_sub.length_le (by omega) (by omega) fun q hq => hp0 q (lapse_sub.subset hq)
  rw [if_neg k7] at he ⊢
  by_cases k8 : a.Kind = 8
  · rw [if_pos k8] at he ⊢
    split at he <;> rename_i g1
    · cases he
    rw [if_neg g1]
    split at he <;> rename_i g2
    · cases he
    rw [if_neg g2]
    split at he <;> rename_i g3
    · cases he
    rw [if_neg g3]
    obtain ⟨k, rfl, hk1, hk2, hk3⟩ := hlm (by omega)
    obtain ⟨t1, t2, t3, t4⟩ := htk hk1 hk2 hk3 (by omega) (show a.Squares ≤ _ by omega)
    exact hsame t1 t2 (by omega) (by simp only [Int.toNat_natCast]; omega) t4
  · rw [if_neg k8] at he
    cases he
/-- What any act leaves of a valid register. -/
theorem apply_kept {x : api_Entitlements} {a : api_Act} (hx : chkE x = 0) : chkE (applyS x a).1 = 0 ∧ x.Next ≤ (applyS x a).1.Next ∧ (applyS x a).1.Next ≤ x.Next + 1 ∧ sumL (applyS x a).1.Lots + (applyS x a).1.Reserve = sumL x.Lots + x.Reserve := by
  unfold applyS
  rw [if_neg (by simp [hx])]
  split
  · exact ⟨hx, Int.le_refl _, by show x.Next ≤ x.Next + 1; omega, rfl⟩
  · rename_i h
    have h : (actS x.Lots x.Reserve x.Next a).2.2.2 = 0 := Classical.not_not.1 h
    obtain ⟨k1, k2, k3, k4, k5, k6, k7, _⟩ := act_kept (P := fun _ => True) hx (fun _ _ => trivial) (fun _ _ _ _ => trivial) (fun _ _ => trivial) (fun _ _ _ => trivial) h
    obtain ⟨c1, c2, c3, c4, c5, c6, c7⟩ := chkE_iff.1 hx
    have hs : 0 ≤ sumL (actS x.Lots x.Reserve x.Next a).1 := by rw [sumL_sq]; exact sqS_nonneg fun l hl => (k1.1 l hl).1
    refine ⟨chkE_iff.2 ⟨k2, ?_, k6, k3, ?_, k1, ?_⟩, k4, k5, k7⟩
    · show 1 ≤ (actS x.Lots x.Reserve x.Next a).2.2.1; omega
    · show (actS x.Lots x.Reserve x.Next a).2.1 ≤ (1099511627776 : Int); omega
    · show sumL (actS x.Lots x.Reserve x.Next a).1 + (actS x.Lots x.Reserve x.Next a).2.1 ≤ (1099511627776 : Int); omega
theorem PL.EInv.apply {k : Int} {x : api_Entitlements} {a : api_Act} (h : EInv k x) (ha : a.Year ≤ 5) : EInv (k + 1) (applyS x a).1 := by
  obtain ⟨h1, h2, h3, h4⟩ := h
  obtain ⟨q1, q2, q3, _⟩ := apply_kept (a := a) h1
  have := chkE_len q1
  refine ⟨q1, by omega, by omega, ?_⟩
  unfold applyS
  rw [if_neg (by simp [h1])]
  split
  · exact h4
  · rename_i he
    have he : (actS x.Lots x.Reserve x.Next a).2.2.2 = 0 := Classical.not_not.1 he
    exact (act_kept (P := fun l => l.Used ≤ 5) h1 h4 (fun l q hl hq => by omega) (fun q hq => by omega) (fun q _ hq => by omega) he).p
theorem PL.EInv.mono {k k' : Int} {x : api_Entitlements} (h : EInv k x) (hk : k ≤ k') : EInv k' x := ⟨h.1, by have := h.2.1; omega, by have := h.2.2.1; omega, h.2.2.2⟩
end RE
end Go.Proofs.Ytpnmiieohdkenaa
