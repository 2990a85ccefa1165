/-
  Chapter 21: the stable sort of the library: contracts and walks.
-/
import Derived.Test.YtpnmiieohdkenaaYEngC
import Derived.Test.YtpnmiieohdkenaaYPlain
set_option maxRecDepth 100000
set_option linter.unusedVariables false
namespace Go.Proofs.Ytpnmiieohdkenaa
open Go.RowKit
namespace RE
open PL

def gswp_P (l : List (Int)) (a : Int) (b : Int) (n : Int) (y : api_Entitlements) (post : List (Int) → Prop) : Prop := swOK l a b n ∧ post (swN l a b n)
def gswp_sp : Spec5 := ⟨84, 3, .int .i64, [.int .i64, .int .i64, .int .i64], 66, .st .api_Entitlements, fun l x y post => gswp_P (l : List (Int)) (x.1 : Int) (x.2.1 : Int) (x.2.2.1 : Int) (y : api_Entitlements) post⟩
def gswp_C : CtxR := ⟨tau, [], lookJ [(0, 3, ⟨[(10, .dat (.int .i64))], [], [11, 12, 13, 16, 17, 18, 19, 20, 21, 22, 23, 24, 25, 26, 27, 28, 29, 30, 31, 32, 33, 34, 35, 36, 37, 14, 15], [], [(0, 3, (.int .i64))]⟩)]⟩
def gswp_W (l : List (Int)) (a : Int) (b : Int) (n : Int) (y : api_Entitlements) (post : List (Int) → Prop) : Prop := Nat.le ((1 : Nat)) ((1 : Nat)) → LOOP [Ty.int IntKind.i64, (Ty.int IntKind.i64).sl] (fun (rec1 : Int → List Int → Prop) (z2 : Int) (z3 : List Int) ↦ IFB (decide (z2 < n)) (((0 : Int) ≤ IntKind.i64.wrap (b + z2) ∧ IntKind.i64.wrap (b + z2) < (↑z3.length : Int)) ∧ ((0 : Int) ≤ IntKind.i64.wrap (a + z2) ∧ IntKind.i64.wrap (a + z2) < (↑z3.length : Int)) ∧ ((0 : Int) ≤ IntKind.i64.wrap (a + z2) ∧ IntKind.i64.wrap (a + z2) < (↑z3.length : Int)) ∧ ((0 : Int) ≤ IntKind.i64.wrap (b + z2) ∧ IntKind.i64.wrap (b + z2) < (↑(z3.set (IntKind.i64.wrap (a + z2)).toNat (ix z3 (IntKind.i64.wrap (b + z2)))).length : Int)) ∧ rec1 (IntKind.i64.wrap (z2 + (1 : Int))) ((z3.set (IntKind.i64.wrap (a + z2)).toNat (ix z3 (IntKind.i64.wrap (b + z2)))).set (IntKind.i64.wrap (b + z2)).toNat (ix z3 (IntKind.i64.wrap (a + z2))))) (post z3)) ((0 : Int), l, PUnit.unit)
theorem gswp_w (l : List (Int)) (a : Int) (b : Int) (n : Int) (y : api_Entitlements) (post : List (Int) → Prop) : gswp_W l a b n y post = walk5 (callR Try.prog gswp_C (drawR Try.prog tau) 8 0) gswp_sp l (a, b, n, ()) y post := by kernel_rfl
theorem gswp_of (h : ∀ (l : List (Int)) (a : Int) (b : Int) (n : Int) (y : api_Entitlements) (post : List (Int) → Prop), gswp_P l a b n y post → gswp_W l a b n y post) : Spec5OK Try.prog gswp_sp := Spec5OK.of_rules (C := gswp_C) (dr := drawR Try.prog tau) (n := 8) (fk := 0) .nil (drawR_ok tau) fun l x y post hp => HoldW.of (gswp_w l x.1 x.2.1 x.2.2.1 y post) (h l x.1 x.2.1 x.2.2.1 y post hp)
set_option maxHeartbeats 1000000 in
theorem gswp_ok : Spec5OK Try.prog gswp_sp := gswp_of fun l a b n y post hp => by
  obtain ⟨⟨h1, h2, h3, h4, h5⟩, hp⟩ := hp
  unfold gswp_W
  obtain ⟨a, rfl⟩ := nat_of h1
  obtain ⟨n, rfl⟩ := nat_of h2
  obtain ⟨b, rfl⟩ := nat_of (by omega : 0 ≤ b)
  refine fun _ => LOOP.fuel (fun u => ∃ i : Nat, u.1 = (i : Int) ∧ i ≤ n ∧ (u.2.1 : List Int).length = l.length ∧ ∀ j : Nat, j < l.length → ix (u.2.1 : List Int) (j : Int) = swf l a b i j) (fun u => n - Int.toNat u.1) ⟨0, rfl, Nat.zero_le _, rfl, fun j hj => ?_⟩ ?_
  · show ix l (j : Int) = _
    unfold swf; rw [if_neg (by omega), if_neg (by omega)]
  rintro rec ⟨(z : Int), (D : List Int), ⟨⟩⟩ ⟨i, i1, i2, i3, i4⟩ hrec
  have i1 : z = (i : Int) := i1
  have j3 : D.length = l.length := i3
  have j4 : ∀ j : Nat, j < l.length → ix D (j : Int) = swf l a b i j := i4
  clear i3 i4
  subst i1
  refine IFB.mk (fun hb => ?_) (fun hb => ?_)
  · have hb : (i : Int) < n := of_decide_eq_true hb
    dsimp only
    rw [wA (by omega), wA (by omega)]
    refine ⟨by omega, by omega, by omega, ?_, ?_⟩
    · show _ ∧ _ < ((List.set (α := Int) D _ _).length : Int)
      rw [List.length_set]; omega
    show rec (IntKind.i64.wrap ((i : Int) + 1)) _
    rw [wrapS (by omega), Int.toNat_natCast, Int.toNat_natCast]
    refine hrec (((i + 1 : Nat) : Int), ((D.set (a + i) (ix D ((b + i : Nat) : Int))).set (b + i) (ix D ((a + i : Nat) : Int)) : List Int), ()) ⟨i + 1, rfl, by omega, ?_, swf_step (by omega) (by omega) j3 j4⟩ (by show n - ((i + 1 : Nat) : Int).toNat < n - (i : Int).toNat; omega)
    show (List.set (α := Int) _ _ _).length = _
    rw [List.length_set, List.length_set]; exact j3
  · have hb : ¬ (i : Int) < n := of_decide_eq_false hb
    have hi : i = n := by omega
    subst hi
    have e : D = swN l (a : Int) (b : Int) (i : Int) := by
      unfold swN
      rw [Int.toNat_natCast, Int.toNat_natCast, Int.toNat_natCast]
      have hl : D.length = (swapL l a b i).length := by rw [j3, swapL_len (by omega) (by omega)]
      refine (list_eq_iff hl).2 fun j hj => ?_
      rw [j4 j (by omega), swapL_ix (by omega) (by omega) (by omega)]
    show post D
    rw [e]; exact hp

def grot_P (l : List (Int)) (a : Int) (m : Int) (b : Int) (y : api_Entitlements) (post : List (Int) → Prop) : Prop := roOK l a m b ∧ post (roN l a m b)
def grot_sp : Spec5 := ⟨83, 3, .int .i64, [.int .i64, .int .i64, .int .i64], 66, .st .api_Entitlements, fun l x y post => grot_P (l : List (Int)) (x.1 : Int) (x.2.1 : Int) (x.2.2.1 : Int) (y : api_Entitlements) post⟩
def grot_C : CtxR := ⟨tau, [rule5 gswp_sp], lookJ [(0, 5, ⟨[(10, .dat (.int .i64)), (11, .dat (.int .i64))], [], [35, 36, 37, 38, 39, 40, 41, 42, 43, 44, 45, 46, 47, 48, 49, 18, 19, 20, 21, 22, 23, 24, 25, 26, 27, 28, 29, 30, 31, 32, 33, 34], [], [(0, 3, (.int .i64))]⟩)]⟩
def grot_W (l : List (Int)) (a : Int) (m : Int) (b : Int) (y : api_Entitlements) (post : List (Int) → Prop) : Prop := Nat.le ((1 : Nat)) ((1 : Nat)) → LOOP [Ty.int IntKind.i64, Ty.int IntKind.i64, (Ty.int IntKind.i64).sl] (fun (rec1 : Int → Int → List Int → Prop) (z2 z3 : Int) (z4 : List Int) ↦ IFB (!decide (z2 = z3)) (IFB (decide (z3 < z2)) (((0 : Int) ≤ IntKind.i64.wrap (m - z2) ∧ (0 : Int) ≤ z3 ∧ IntKind.i64.wrap (m - z2) + z3 ≤ m ∧ m + z3 ≤ (↑z4.length : Int) ∧ z4.length ≤ (1000000 : Nat)) ∧ rec1 (IntKind.i64.wrap (z2 - z3)) z3 (swN z4 (IntKind.i64.wrap (m - z2)) m z3)) (((0 : Int) ≤ IntKind.i64.wrap (m - z2) ∧ (0 : Int) ≤ z2 ∧ IntKind.i64.wrap (m - z2) + z2 ≤ IntKind.i64.wrap (IntKind.i64.wrap (m + z3) - z2) ∧ IntKind.i64.wrap (IntKind.i64.wrap (m + z3) - z2) + z2 ≤ (↑z4.length : Int) ∧ z4.length ≤ (1000000 : Nat)) ∧ rec1 z2 (IntKind.i64.wrap (z3 - z2)) (swN z4 (IntKind.i64.wrap (m - z2)) (IntKind.i64.wrap (IntKind.i64.wrap (m + z3) - z2)) z2))) (((0 : Int) ≤ IntKind.i64.wrap (m - z2) ∧ (0 : Int) ≤ z2 ∧ IntKind.i64.wrap (m - z2) + z2 ≤ m ∧ m + z2 ≤ (↑z4.length : Int) ∧ z4.length ≤ (1000000 : Nat)) ∧ post (swN z4 (IntKind.i64.wrap (m - z2)) m z2))) (IntKind.i64.wrap (m - a), IntKind.i64.wrap (b - m), l, PUnit.unit)
theorem grot_w (l : List (Int)) (a : Int) (m : Int) (b : Int) (y : api_Entitlements) (post : List (Int) → Prop) : grot_W l a m b y post = walk5 (callR Try.prog grot_C (drawR Try.prog tau) 8 0) grot_sp l (a, m, b, ()) y post := by kernel_rfl
theorem grot_of (h : ∀ (l : List (Int)) (a : Int) (m : Int) (b : Int) (y : api_Entitlements) (post : List (Int) → Prop), grot_P l a m b y post → grot_W l a m b y post) : Spec5OK Try.prog grot_sp := Spec5OK.of_rules (C := grot_C) (dr := drawR Try.prog tau) (n := 8) (fk := 0) (.cons (rule5_ok gswp_ok) .nil) (drawR_ok tau) fun l x y post hp => HoldW.of (grot_w l x.1 x.2.1 x.2.2.1 y post) (h l x.1 x.2.1 x.2.2.1 y post hp)
theorem rot_dec {l : List Int} {a m b : Nat} (h1 : a ≤ m) (h2 : m ≤ b) (h3 : b ≤ l.length) : ∃ P X Y Q : List Int, l = P ++ X ++ Y ++ Q ∧ P.length = a ∧ X.length = m - a ∧ Y.length = b - m :=
  ⟨l.take a, seg l a m, seg l m b, l.drop b, seg_parts l h1 h2, by rw [List.length_take]; omega, seg_len l (by omega), seg_len l h3⟩
def rotI (l : List Int) (a m b : Nat) (i j : Int) (D : List Int) : Prop := ∃ P X Y Q : List Int, D = P ++ X ++ Y ++ Q ∧ P.length + X.length = m ∧ 0 < X.length ∧ 0 < Y.length ∧ i = X.length ∧ j = Y.length ∧ P ++ Y ++ X ++ Q = rotL l a m b ∧ D.length = l.length
set_option maxHeartbeats 1000000 in
theorem grot_ok : Spec5OK Try.prog grot_sp := grot_of fun l a m b y post hp => by
  obtain ⟨⟨h1, h2, h3, h4, h5⟩, hp⟩ := hp
  unfold grot_W
  obtain ⟨a, rfl⟩ := nat_of h1
  obtain ⟨m, rfl⟩ := nat_of (by omega : 0 ≤ m)
  obtain ⟨b, rfl⟩ := nat_of (by omega : 0 ≤ b)
  rw [wB (by omega) (by omega), wB (by omega) (by omega)]
  refine fun _ => LOOP.fuel (fun u => rotI l a m b u.1 u.2.1 u.2.2.1) (fun u => Int.toNat u.1 + Int.toNat u.2.1) ?_ ?_
  · obtain ⟨P, X, Y, Q, e, q1, q2, q3⟩ := rot_dec (l := l) (a := a) (m := m) (b := b) (by omega) (by omega) (by omega)
    refine ⟨P, X, Y, Q, e, by omega, by omega, by omega, by show ((m - a : Nat) : Int) = _; omega, by show ((b - m : Nat) : Int) = _; omega, ?_, rfl⟩
    rw [e, rotL_parts q1.symm (by omega) (by omega)]
  rintro rec ⟨(i : Int), (j : Int), (D : List Int), ⟨⟩⟩ ⟨P, X, Y, Q, e0, q1, q2, q3, q40, q50, q6, q70⟩ hrec
  have e : D = P ++ X ++ Y ++ Q := e0
  have q4 : i = (X.length : Int) := q40
  have q5 : j = (Y.length : Int) := q50
  have q7 : D.length = l.length := q70
  clear e0 q40 q50 q70
  have hDl : D.length = P.length + X.length + Y.length + Q.length := by rw [e]; simp; omega
  subst q4 q5
  refine IFB.mk (fun hn => IFB.mk (fun hg => ?_) (fun hg => ?_)) (fun hn => ?_)
  · have hg : (Y.length : Int) < X.length := of_decide_eq_true hg
    dsimp only
    rw [wB (by omega) (by omega), wB (by omega) (by omega)]
    refine ⟨⟨by omega, by omega, by omega, by omega, by omega⟩, ?_⟩
    have hX : X = X.take Y.length ++ X.drop Y.length := (List.take_append_drop _ _).symm
    have l1 : (X.take Y.length).length = Y.length := by rw [List.length_take]; omega
    have l2 : (X.drop Y.length).length = X.length - Y.length := List.length_drop
    generalize X.take Y.length = X1 at hX l1
    generalize X.drop Y.length = X2 at hX l2
    have es : swN D ((m - X.length : Nat) : Int) (m : Int) (Y.length : Int) = P ++ Y ++ X2 ++ X1 ++ Q := by
      unfold swN
      rw [Int.toNat_natCast, Int.toNat_natCast, Int.toNat_natCast, e]
      have : P ++ X ++ Y ++ Q = P ++ X1 ++ X2 ++ Y ++ Q := by rw [hX]; simp
      rw [this]
      exact swapL_parts (by omega) l1.symm (by omega) l1.symm
    rw [es]
    refine hrec (((X.length - Y.length : Nat) : Int), (Y.length : Int), (P ++ Y ++ X2 ++ X1 ++ Q : List Int), ()) ⟨P ++ Y, X2, X1, Q, rfl, by simp; omega, by omega, by omega, by show ((X.length - Y.length : Nat) : Int) = _; omega, by show (Y.length : Int) = _; omega, ?_, ?_⟩ (by show ((X.length - Y.length : Nat) : Int).toNat + (Y.length : Int).toNat < (X.length : Int).toNat + (Y.length : Int).toNat; omega)
    · rw [← q6, hX]; simp
    · show (P ++ Y ++ X2 ++ X1 ++ Q).length = _
      simp; omega
  · have hg : ¬ (Y.length : Int) < X.length := of_decide_eq_false hg
    have hn : ¬ (X.length : Int) = Y.length := by simpa using hn
    dsimp only
    rw [wB (i := m) (by omega) (by omega), wA (by omega), wB (by omega) (by omega), wB (i := Y.length) (by omega) (by omega)]
    refine ⟨⟨by omega, by omega, by omega, by omega, by omega⟩, ?_⟩
    have hY : Y = Y.take (Y.length - X.length) ++ Y.drop (Y.length - X.length) := (List.take_append_drop _ _).symm
    have l1 : (Y.take (Y.length - X.length)).length = Y.length - X.length := by rw [List.length_take]; omega
    have l2 : (Y.drop (Y.length - X.length)).length = X.length := by rw [List.length_drop]; omega
    generalize Y.take (Y.length - X.length) = Y1 at hY l1
    generalize Y.drop (Y.length - X.length) = Y2 at hY l2
    have es : swN D ((m - X.length : Nat) : Int) ((m + Y.length - X.length : Nat) : Int) (X.length : Int) = P ++ Y2 ++ Y1 ++ X ++ Q := by
      unfold swN
      rw [Int.toNat_natCast, Int.toNat_natCast, Int.toNat_natCast, e]
      have : P ++ X ++ Y ++ Q = P ++ X ++ Y1 ++ Y2 ++ Q := by rw [hY]; simp
      rw [this]
      exact swapL_parts (by omega) rfl (by omega) l2
    rw [es]
    refine hrec ((X.length : Int), ((Y.length - X.length : Nat) : Int), (P ++ Y2 ++ Y1 ++ X ++ Q : List Int), ()) ⟨P, Y2, Y1, X ++ Q, by simp, by omega, by omega, by omega, by show (X.length : Int) = _; omega, by show ((Y.length - X.length : Nat) : Int) = _; omega, ?_, ?_⟩ (by show (X.length : Int).toNat + ((Y.length - X.length : Nat) : Int).toNat < (X.length : Int).toNat + (Y.length : Int).toNat; omega)
    · rw [← q6, hY]; simp
    · show (P ++ Y2 ++ Y1 ++ X ++ Q).length = _
      simp; omega
  · have hn : (X.length : Int) = Y.length := by simpa using hn
    dsimp only
    rw [wB (i := m) (by omega) (by omega)]
    refine ⟨⟨by omega, by omega, by omega, by omega, by omega⟩, ?_⟩
    have es : swN D ((m - X.length : Nat) : Int) (m : Int) (X.length : Int) = P ++ Y ++ X ++ Q := by
      unfold swN
      rw [Int.toNat_natCast, Int.toNat_natCast, Int.toNat_natCast, e]
      have : P ++ X ++ Y ++ Q = P ++ X ++ [] ++ Y ++ Q := by simp
      rw [this, swapL_parts (by omega) rfl (by simp; omega) (by omega)]
      simp
    rw [es, q6]
    unfold roN at hp
    rw [Int.toNat_natCast, Int.toNat_natCast, Int.toNat_natCast] at hp
    exact hp

def gins_P (l : List (Int)) (a : Int) (b : Int) (y : api_Entitlements) (post : List (Int) → Prop) : Prop := inOK y.1 l a b ∧ ∀ l' : List Int, ordQ y.1 l a b l' → post l'
def gins_sp : Spec5 := ⟨81, 3, .int .i64, [.int .i64, .int .i64], 66, .st .api_Entitlements, fun l x y post => gins_P (l : List (Int)) (x.1 : Int) (x.2.1 : Int) (y : api_Entitlements) post⟩
def gins_C : CtxR := ⟨tau, [], lookJ [(0, 3, ⟨[(8, .dat (.int .i64))], [], [12, 13, 14, 17, 36, 35, 52, 51, 50, 49, 48, 47, 46, 45, 44, 43, 42, 41, 40, 39, 38, 37, 9, 18, 19, 20, 21, 34, 22, 23, 24, 25, 26, 27, 28, 29, 30, 31, 32, 33, 15, 16], [], [(0, 3, (.int .i64))]⟩), (0, 9, ⟨[(9, .dat (.int .i64))], [], [18, 19, 20, 21, 34, 22, 23, 24, 25, 26, 27, 28, 29, 30, 31, 32, 33, 37, 38, 39, 40, 41, 42, 43, 44, 45, 46, 47, 48, 49, 50, 51, 52, 35, 36], [], [(0, 3, (.int .i64))]⟩), (4272966693, 0, ⟨[(0, .dat (.int .i64))], [], [], [], []⟩)]⟩
def gins_W (l : List (Int)) (a : Int) (b : Int) (y : api_Entitlements) (post : List (Int) → Prop) : Prop := Nat.le ((1 : Nat)) ((1 : Nat)) → LOOP [Ty.int IntKind.i64, (Ty.int IntKind.i64).sl] (fun (rec1 : Int → List Int → Prop) (z2 : Int) (z3 : List Int) ↦ IFB (decide (z2 < b)) (LOOP [Ty.int IntKind.i64, (Ty.int IntKind.i64).sl] (fun (rec4 : Int → List Int → Prop) (z5 : Int) (z6 : List Int) ↦ (gx true (decide (a < z5)) = true → (0 : Int) ≤ z5 ∧ z5 < (↑z6.length : Int)) ∧ (gx true (decide (a < z5)) = true → (0 : Int) ≤ IntKind.i64.wrap (z5 - (1 : Int)) ∧ IntKind.i64.wrap (z5 - (1 : Int)) < (↑z6.length : Int)) ∧ JOIN [Ty.int IntKind.i64] (fun (y7 : Int) ↦ IFB (decide (a < z5) && decide (y7 < (0 : Int))) (((0 : Int) ≤ IntKind.i64.wrap (z5 - (1 : Int)) ∧ IntKind.i64.wrap (z5 - (1 : Int)) < (↑z6.length : Int)) ∧ ((0 : Int) ≤ z5 ∧ z5 < (↑z6.length : Int)) ∧ ((0 : Int) ≤ z5 ∧ z5 < (↑z6.length : Int)) ∧ ((0 : Int) ≤ IntKind.i64.wrap (z5 - (1 : Int)) ∧ IntKind.i64.wrap (z5 - (1 : Int)) < (↑(z6.set z5.toNat (ix z6 (IntKind.i64.wrap (z5 - (1 : Int))))).length : Int)) ∧ rec4 (IntKind.i64.wrap (z5 - (1 : Int))) ((z6.set z5.toNat (ix z6 (IntKind.i64.wrap (z5 - (1 : Int))))).set (IntKind.i64.wrap (z5 - (1 : Int))).toNat (ix z6 z5))) (rec1 (IntKind.i64.wrap (z2 + (1 : Int))) z6)) fun (J8 : Int → Prop) ↦ IFB (gx true (decide (a < z5))) (((0 : Int) ≤ ix z6 (IntKind.i64.wrap (z5 - (1 : Int))) ∧ ix z6 (IntKind.i64.wrap (z5 - (1 : Int))) < (↑y.1.length : Int)) ∧ ((0 : Int) ≤ ix z6 z5 ∧ ix z6 z5 < (↑y.1.length : Int)) ∧ JOIN [Ty.int IntKind.i64] (fun (y9 : Int) ↦ J8 y9) fun (J10 : Int → Prop) ↦ IFB (!decide ((ix y.1 (ix z6 (IntKind.i64.wrap (z5 - (1 : Int))))).5 = (ix y.1 (ix z6 (IntKind.i64.wrap (z5 - (1 : Int))))).5)) (IFB (!decide ((ix y.1 (ix z6 z5)).5 = (ix y.1 (ix z6 z5)).5)) (J10 (0 : Int)) (J10 (-1 : Int))) (IFB (!decide ((ix y.1 (ix z6 z5)).5 = (ix y.1 (ix z6 z5)).5)) (J10 (1 : Int)) (IFB (decide ((ix y.1 (ix z6 (IntKind.i64.wrap (z5 - (1 : Int))))).5 < (ix y.1 (ix z6 z5)).5)) (J10 (-1 : Int)) (IFB (decide ((ix y.1 (ix z6 z5)).5 < (ix y.1 (ix z6 (IntKind.i64.wrap (z5 - (1 : Int))))).5)) (J10 (1 : Int)) (J10 (0 : Int)))))) (J8 (0 : Int))) (z2, z3, PUnit.unit)) (post z3)) (IntKind.i64.wrap (a + (1 : Int)), l, PUnit.unit)
theorem gins_w (l : List (Int)) (a : Int) (b : Int) (y : api_Entitlements) (post : List (Int) → Prop) : gins_W l a b y post = walk5 (callR Try.prog gins_C (drawR Try.prog tau) 8 0) gins_sp l (a, b, ()) y post := by kernel_rfl
theorem gins_of (h : ∀ (l : List (Int)) (a : Int) (b : Int) (y : api_Entitlements) (post : List (Int) → Prop), gins_P l a b y post → gins_W l a b y post) : Spec5OK Try.prog gins_sp := Spec5OK.of_rules (C := gins_C) (dr := drawR Try.prog tau) (n := 8) (fk := 0) .nil (drawR_ok tau) fun l x y post hp => HoldW.of (gins_w l x.1 x.2.1 y post) (h l x.1 x.2.1 y post hp)
theorem seg_dec {l : List Int} {a b : Nat} (h1 : a ≤ b) (h2 : b ≤ l.length) : ∃ P X Q : List Int, l = P ++ X ++ Q ∧ P.length = a ∧ X.length = b - a ∧ sgN l (a : Int) (b : Int) = X ∧ l.take a = P ∧ l.drop b = Q := by
  refine ⟨l.take a, seg l a b, l.drop b, ?_, by rw [List.length_take]; omega, seg_len l h2, ?_, rfl, rfl⟩
  · have := seg_parts l (a := a) (m := a) (b := b) (Nat.le_refl _) h1
    have e : seg l a a = [] := List.eq_nil_of_length_eq_zero (by rw [seg_len l (by omega)]; omega)
    rw [e, List.append_nil] at this
    exact this
  · unfold sgN; rw [Int.toNat_natCast, Int.toNat_natCast]
theorem ix_appL {A B : List Int} {x : Int} {k : Nat} (hk : k = A.length) : ix (A ++ x :: B) (k : Int) = x := by
  subst hk
  exact ix_of (by simp)
theorem swap_adj {A B : List Int} {p x : Int} {k : Nat} (hk : k = A.length) : ((A ++ p :: x :: B).set (k + 1) p).set k x = A ++ x :: p :: B := by
  subst hk
  simp
theorem swap_adj2 {A B : List Int} {p x : Int} {k : Nat} (hk : k = A.length) : ((A ++ p :: x :: B).set k x).set (k + 1) p = A ++ x :: p :: B := by
  subst hk
  simp
set_option maxHeartbeats 1000000 in
theorem gins_ok : Spec5OK Try.prog gins_sp := gins_of fun l a b y post hp => by
  obtain ⟨⟨h1, h2, h3, h4, ⟨h5, h6⟩, h7⟩, hp⟩ := hp
  unfold gins_W
  obtain ⟨a, rfl⟩ := nat_of h1
  obtain ⟨b, rfl⟩ := nat_of (by omega : 0 ≤ b)
  obtain ⟨P, X, Q, e, p1, p2, p3, p4, p5⟩ := seg_dec (l := l) (a := a) (b := b) (by omega) (by omega)
  rw [p3] at h7
  have hl : l.length = a + (b - a) + Q.length := by rw [e]; simp [p1, p2]; omega
  have hfin : ∀ Z : List Int, Z.Perm X → srtR (lotV y.1) Z → post (P ++ Z ++ Q) := fun Z z1 z2 => hp _ ⟨Z, by rw [p3]; exact z1, z2, by rw [Int.toNat_natCast, Int.toNat_natCast, p4, p5]⟩
  have hmem : ∀ d ∈ X, 0 ≤ d ∧ d < y.1.length := fun d hd => h6 d (by rw [e]; simp [hd])
  refine fun _ => LOOP.fuel (fun u => ∃ k : Nat, u.1 = ((a + k : Nat) : Int) ∧ 1 ≤ k ∧ ∃ Z : List Int, Z.Perm (X.take k) ∧ srtR (lotV y.1) Z ∧ (u.2.1 : List Int) = P ++ Z ++ X.drop k ++ Q) (fun u => b + 2 - Int.toNat u.1) ⟨1, ?_, Nat.le_refl _, X.take 1, .refl _, ?_, ?_⟩ ?_
  · show IntKind.i64.wrap ((a : Int) + 1) = _
    rw [wrapS (by omega)]
  · cases X with
    | nil => exact .nil
    | cons x X => show srtR _ [x]; exact List.pairwise_singleton _ _
  · show l = P ++ X.take 1 ++ X.drop 1 ++ Q
    rw [e, List.append_assoc P (X.take 1), List.take_append_drop]
  rintro rec ⟨(z : Int), (D : List Int), ⟨⟩⟩ ⟨k, k1, k2, Z, z1, z2, z3⟩ hrec
  have j1 : z = ((a + k : Nat) : Int) := k1
  have j3 : D = P ++ Z ++ X.drop k ++ Q := z3
  clear k1 z3
  subst j1 j3
  have hZl := z1.length_eq
  rw [List.length_take] at hZl
  refine IFB.mk (fun hb => ?_) (fun hb => ?_)
  · have hb : ((a + k : Nat) : Int) < b := of_decide_eq_true hb
    have hk : k < X.length := by omega
    obtain ⟨x, hx⟩ : ∃ x, X[k] = x := ⟨_, rfl⟩
    have hdrop : X.drop k = x :: X.drop (k + 1) := by rw [← hx]; exact List.drop_eq_getElem_cons hk
    have htake : X.take (k + 1) = X.take k ++ [x] := by rw [← hx]; simp
    have hxm := hmem x (by rw [← hx]; exact List.getElem_mem hk)
    have hZm : ∀ d ∈ Z, d ∈ X := fun d hd => List.mem_of_mem_take (z1.mem_iff.1 hd)
    have hZx : ∀ d ∈ Z, d < x := fun d hd => by
      have hd := z1.mem_iff.1 hd
      have hs : X.take k ++ X.drop k = X := List.take_append_drop _ _
      rw [← hs, hdrop] at h7
      exact (List.pairwise_append.1 h7).2.2 d hd x (by simp)
    have fin : ∀ A B : List Int, A ++ B = Z → (∀ d ∈ B, bfR (lotV y.1) x d) → (∀ d ∈ A, bfR (lotV y.1) d x) → rec (IntKind.i64.wrap (((a + k : Nat) : Int) + 1)) (P ++ A ++ x :: B ++ X.drop (k + 1) ++ Q) := fun A B hAB hB hA => by
      rw [wrapS (by omega)]
      refine hrec (((a + k + 1 : Nat) : Int), (P ++ A ++ x :: B ++ X.drop (k + 1) ++ Q : List Int), ()) ⟨k + 1, by show ((a + k + 1 : Nat) : Int) = _; omega, by omega, A ++ x :: B, ?_, ?_, ?_⟩ (by show b + 2 - ((a + k + 1 : Nat) : Int).toNat < b + 2 - ((a + k : Nat) : Int).toNat; omega)
      · rw [htake]
        refine List.perm_middle.trans ?_
        rw [hAB]
        exact (z1.cons x).trans (List.perm_append_singleton x _).symm
      · exact sym_one (by rw [hAB]; exact z2) hA hB
      · show P ++ A ++ x :: B ++ X.drop (k + 1) ++ Q = _
        simp
    rw [hdrop]
    refine LOOP.fuel (fun u => ∃ A B : List Int, A ++ B = Z ∧ u.1 = ((a + A.length : Nat) : Int) ∧ (∀ d ∈ B, bfR (lotV y.1) x d) ∧ (u.2.1 : List Int) = P ++ A ++ x :: B ++ X.drop (k + 1) ++ Q) (fun u => Int.toNat u.1) ⟨Z, [], by simp, ?_, fun d hd => (by cases hd), ?_⟩ ?_
    · show ((a + k : Nat) : Int) = _
      rw [hZl]; omega
    · show P ++ Z ++ x :: X.drop (k + 1) ++ Q = _
      simp
    rintro rec2 ⟨(z : Int), (D : List Int), ⟨⟩⟩ ⟨A, B, c1, c2, c3, c4⟩ hrec2
    have j1 : z = ((a + A.length : Nat) : Int) := c2
    have j3 : D = P ++ A ++ x :: B ++ X.drop (k + 1) ++ Q := c4
    clear c2 c4
    subst j1 j3
    have hAl : A.length + B.length = k := by have := congrArg List.length c1; simp at this; omega
    have hDl : (P ++ A ++ x :: B ++ X.drop (k + 1) ++ Q).length = l.length := by rw [hl]; simp [p1, p2]; omega
    dsimp only [app]
    rw [hDl]
    rcases List.eq_nil_or_concat A with hA0 | ⟨A', p, hA0⟩
    · subst hA0
      have hd : decide ((a : Int) < ((a + ([] : List Int).length : Nat) : Int)) = false := decide_eq_false (by simp)
      rw [hd]
      refine ⟨fun h => (by cases h), fun h => (by cases h), JOIN.opqL fun (J : Int → Prop) hJ => IFB.noL rfl ?_⟩
      rw [hJ]
      exact IFB.noL rfl (fin [] B c1 c3 (fun d hd => by cases hd))
    · have hA1 : A = A' ++ [p] := by simpa using hA0
      have hAn : A.length = A'.length + 1 := by rw [hA1]; simp
      have hd : decide ((a : Int) < ((a + A.length : Nat) : Int)) = true := decide_eq_true (by omega)
      have hw : IntKind.i64.wrap (((a + A.length : Nat) : Int) - 1) = ((a + A'.length : Nat) : Int) := by rw [wrap_in (by omega) (by omega)]; omega
      have hD2 : P ++ A ++ x :: B ++ X.drop (k + 1) ++ Q = (P ++ A') ++ p :: x :: (B ++ X.drop (k + 1) ++ Q) := by rw [hA1]; simp
      have i1 : ix (P ++ A ++ x :: B ++ X.drop (k + 1) ++ Q) ((a + A'.length : Nat) : Int) = p := by rw [hD2]; exact ix_appL (by simp [p1])
      have i2 : ix (P ++ A ++ x :: B ++ X.drop (k + 1) ++ Q) ((a + A.length : Nat) : Int) = x := by
        rw [show P ++ A ++ x :: B ++ X.drop (k + 1) ++ Q = (P ++ A) ++ x :: (B ++ X.drop (k + 1) ++ Q) by simp]; exact ix_appL (by simp [p1])
      have hpm := hmem p (hZm p (by rw [← c1, hA1]; simp))
      rw [hd, hw, i1, i2]
      refine ⟨fun _ => by omega, fun _ => by omega, JOIN.opqL fun (J : Int → Prop) hJ => IFB.yesL rfl ⟨hpm, hxm, JOIN.opqL fun (J2 : Int → Prop) hJ2 => cmp3 fun q hq => ?_⟩⟩
      rw [hJ2, hJ]
      refine IFB.mk (fun hc => ?_) (fun hc => ?_)
      · have hc : q < 0 := of_decide_eq_true (by simpa using hc)
        have hv : lotV y.1 p < lotV y.1 x := hq.1 hc
        rw [Int.toNat_natCast, Int.toNat_natCast]
        have es : ((P ++ A ++ x :: B ++ X.drop (k + 1) ++ Q).set (a + A.length) p).set (a + A'.length) x = P ++ A' ++ x :: (p :: B) ++ X.drop (k + 1) ++ Q := by
          rw [hD2, hAn, show a + (A'.length + 1) = a + A'.length + 1 by omega, swap_adj (by simp [p1])]
          simp
        refine ⟨by omega, by omega, by omega, ?_, ?_⟩
        · show _ ∧ _ < ((List.set (α := Int) _ _ _).length : Int)
          rw [List.length_set, hDl]; omega
        · show rec2 _ (List.set (α := Int) (List.set (α := Int) _ _ _) _ _)
          rw [es]
          refine hrec2 (((a + A'.length : Nat) : Int), (P ++ A' ++ x :: (p :: B) ++ X.drop (k + 1) ++ Q : List Int), ()) ⟨A', p :: B, by rw [← c1, hA1]; simp, rfl, fun d hd => ?_, rfl⟩ (by show ((a + A'.length : Nat) : Int).toNat < ((a + A.length : Nat) : Int).toNat; omega)
          rcases List.mem_cons.1 hd with rfl | hd
          · exact .inl hv
          · exact c3 d hd
      · have hc : ¬ q < 0 := by simpa using hc
        have hv : ¬ lotV y.1 p < lotV y.1 x := fun h => hc (hq.2 h)
        have hpx := hZx p (by rw [← c1, hA1]; simp)
        refine fin A B c1 c3 fun d hd => ?_
        have hpb : bfR (lotV y.1) p x := by unfold bfR; omega
        rw [hA1] at hd
        rcases List.mem_append.1 hd with hd | hd
        · refine bfR_trans ?_ hpb
          rw [← c1, hA1] at z2
          exact (List.pairwise_append.1 (List.pairwise_append.1 z2).1).2.2 d hd p (by simp)
        · have : d = p := by simpa using hd
          rw [this]; exact hpb
  · have hb : ¬ ((a + k : Nat) : Int) < b := of_decide_eq_false hb
    have hk : X.length ≤ k := by omega
    have e1 : X.take k = X := List.take_of_length_le hk
    have e2 : X.drop k = [] := List.drop_eq_nil_of_le hk
    rw [e1] at z1
    show post (P ++ Z ++ X.drop k ++ Q)
    rw [e2, List.append_nil]
    exact hfin Z z1 z2

def gsym_P (n : Nat) (l : List (Int)) (a : Int) (m : Int) (b : Int) (y : api_Entitlements) (post : List (Int) → Prop) : Prop := syOK n y.1 l a m b ∧ ∀ l' : List Int, ordQ y.1 l a b l' → post l'
def gsym_sp (n : Nat) : Spec5 := ⟨82, 3, .int .i64, [.int .i64, .int .i64, .int .i64], 66, .st .api_Entitlements, fun l x y post => gsym_P n (l : List (Int)) (x.1 : Int) (x.2.1 : Int) (x.2.2.1 : Int) (y : api_Entitlements) post⟩
def gsym_C (n : Nat) : CtxR := ⟨tau, [rule5 grot_sp, rule5 (gsym_sp n)], lookJ [(0, 86, ⟨[], [], [192, 193, 194, 195, 199, 196, 197, 198, 200, 201, 202, 203, 204, 205], [], [(0, 3, (.int .i64))]⟩), (0, 82, ⟨[], [], [178, 179, 180, 181, 185, 182, 183, 184, 186, 187, 188, 189, 190, 191], [], [(0, 3, (.int .i64))]⟩), (0, 67, ⟨[(20, .dat (.int .i64)), (21, .dat (.int .i64))], [], [174, 149, 150, 151, 152, 153, 154, 155, 156, 157, 23, 158, 159, 160, 161, 162, 163, 164, 165, 166, 167, 168, 169, 170, 171, 172, 173], [], []⟩), (37264139461, 0, ⟨[(0, .dat (.int .i64))], [], [], [], []⟩), (0, 64, ⟨[(21, .dat (.int .i64)), (20, .dat (.int .i64))], [], [145, 146, 138, 139, 140, 141, 142, 143, 144], [], []⟩), (0, 43, ⟨[(17, .dat (.int .i64))], [], [108, 109, 110, 113, 114, 115, 116, 117, 118, 119, 120, 121, 122, 123, 124, 125, 126, 127, 128, 111, 112], [], [(0, 3, (.int .i64))]⟩), (0, 31, ⟨[(14, .dat (.int .i64)), (15, .dat (.int .i64))], [], [106, 83, 84, 85, 86, 87, 88, 89, 90, 91, 16, 92, 93, 94, 95, 96, 97, 98, 99, 100, 101, 102, 103, 104, 105], [], []⟩), (18104073881, 0, ⟨[(0, .dat (.int .i64))], [], [], [], []⟩), (0, 19, ⟨[(13, .dat (.int .i64))], [], [55, 56, 57, 58, 61, 62, 63, 64, 65, 66, 67, 68, 69, 70, 71, 72, 73, 74, 75, 76, 59, 60], [], [(0, 3, (.int .i64))]⟩), (0, 7, ⟨[(10, .dat (.int .i64)), (11, .dat (.int .i64))], [], [53, 31, 32, 33, 34, 35, 36, 37, 38, 39, 12, 40, 41, 42, 43, 44, 45, 46, 47, 48, 49, 50, 51, 52], [], []⟩), (5332086749, 0, ⟨[(0, .dat (.int .i64))], [], [], [], []⟩)]⟩
def gsym_W (n : Nat) (l : List (Int)) (a : Int) (m : Int) (b : Int) (y : api_Entitlements) (post : List (Int) → Prop) : Prop := (0 : Nat) < (1 : Nat) → IFB (decide (IntKind.i64.wrap (m - a) = (1 : Int))) (LOOP [Ty.int IntKind.i64, Ty.int IntKind.i64] (fun (rec1 : Int → Int → Prop) (z2 z3 : Int) ↦ IFB (decide (z2 < z3)) (Int.NonNeg (1 : Int) ∧ ((0 : Int) ≤ IntKind.i64.wrap ((IntKind.u64.wrap (IntKind.i64.wrap (z2 + z3))).fdiv (2 : Int)) ∧ IntKind.i64.wrap ((IntKind.u64.wrap (IntKind.i64.wrap (z2 + z3))).fdiv (2 : Int)) < (↑l.length : Int)) ∧ ((0 : Int) ≤ a ∧ a < (↑l.length : Int)) ∧ ((0 : Int) ≤ ix l a ∧ ix l a < (↑y.1.length : Int)) ∧ ((0 : Int) ≤ ix l (IntKind.i64.wrap ((IntKind.u64.wrap (IntKind.i64.wrap (z2 + z3))).fdiv (2 : Int))) ∧ ix l (IntKind.i64.wrap ((IntKind.u64.wrap (IntKind.i64.wrap (z2 + z3))).fdiv (2 : Int))) < (↑y.1.length : Int)) ∧ JOIN [Ty.int IntKind.i64] (fun (y4 : Int) ↦ IFB (decide (y4 < (0 : Int))) (rec1 (IntKind.i64.wrap (IntKind.i64.wrap ((IntKind.u64.wrap (IntKind.i64.wrap (z2 + z3))).fdiv (2 : Int)) + (1 : Int))) z3) (rec1 z2 (IntKind.i64.wrap ((IntKind.u64.wrap (IntKind.i64.wrap (z2 + z3))).fdiv (2 : Int))))) fun (J5 : Int → Prop) ↦ IFB (!decide ((ix y.1 (ix l a)).5 = (ix y.1 (ix l a)).5)) (IFB (!decide ((ix y.1 (ix l (IntKind.i64.wrap ((IntKind.u64.wrap (IntKind.i64.wrap (z2 + z3))).fdiv (2 : Int))))).5 = (ix y.1 (ix l (IntKind.i64.wrap ((IntKind.u64.wrap (IntKind.i64.wrap (z2 + z3))).fdiv (2 : Int))))).5)) (J5 (0 : Int)) (J5 (-1 : Int))) (IFB (!decide ((ix y.1 (ix l (IntKind.i64.wrap ((IntKind.u64.wrap (IntKind.i64.wrap (z2 + z3))).fdiv (2 : Int))))).5 = (ix y.1 (ix l (IntKind.i64.wrap ((IntKind.u64.wrap (IntKind.i64.wrap (z2 + z3))).fdiv (2 : Int))))).5)) (J5 (1 : Int)) (IFB (decide ((ix y.1 (ix l a)).5 < (ix y.1 (ix l (IntKind.i64.wrap ((IntKind.u64.wrap (IntKind.i64.wrap (z2 + z3))).fdiv (2 : Int))))).5)) (J5 (-1 : Int)) (IFB (decide ((ix y.1 (ix l (IntKind.i64.wrap ((IntKind.u64.wrap (IntKind.i64.wrap (z2 + z3))).fdiv (2 : Int))))).5 < (ix y.1 (ix l a)).5)) (J5 (1 : Int)) (J5 (0 : Int)))))) (LOOP [Ty.int IntKind.i64, (Ty.int IntKind.i64).sl] (fun (rec6 : Int → List Int → Prop) (z7 : Int) (z8 : List Int) ↦ IFB (decide (z7 < IntKind.i64.wrap (z2 - (1 : Int)))) (((0 : Int) ≤ IntKind.i64.wrap (z7 + (1 : Int)) ∧ IntKind.i64.wrap (z7 + (1 : Int)) < (↑z8.length : Int)) ∧ ((0 : Int) ≤ z7 ∧ z7 < (↑z8.length : Int)) ∧ ((0 : Int) ≤ z7 ∧ z7 < (↑z8.length : Int)) ∧ ((0 : Int) ≤ IntKind.i64.wrap (z7 + (1 : Int)) ∧ IntKind.i64.wrap (z7 + (1 : Int)) < (↑(z8.set z7.toNat (ix z8 (IntKind.i64.wrap (z7 + (1 : Int))))).length : Int)) ∧ rec6 (IntKind.i64.wrap (z7 + (1 : Int))) ((z8.set z7.toNat (ix z8 (IntKind.i64.wrap (z7 + (1 : Int))))).set (IntKind.i64.wrap (z7 + (1 : Int))).toNat (ix z8 z7))) (post z8)) (a, l, PUnit.unit))) (m, b, PUnit.unit)) (IFB (decide (IntKind.i64.wrap (b - m) = (1 : Int))) (LOOP [Ty.int IntKind.i64, Ty.int IntKind.i64] (fun (rec9 : Int → Int → Prop) (z10 z11 : Int) ↦ IFB (decide (z10 < z11)) (Int.NonNeg (1 : Int) ∧ ((0 : Int) ≤ m ∧ m < (↑l.length : Int)) ∧ ((0 : Int) ≤ IntKind.i64.wrap ((IntKind.u64.wrap (IntKind.i64.wrap (z10 + z11))).fdiv (2 : Int)) ∧ IntKind.i64.wrap ((IntKind.u64.wrap (IntKind.i64.wrap (z10 + z11))).fdiv (2 : Int)) < (↑l.length : Int)) ∧ ((0 : Int) ≤ ix l (IntKind.i64.wrap ((IntKind.u64.wrap (IntKind.i64.wrap (z10 + z11))).fdiv (2 : Int))) ∧ ix l (IntKind.i64.wrap ((IntKind.u64.wrap (IntKind.i64.wrap (z10 + z11))).fdiv (2 : Int))) < (↑y.1.length : Int)) ∧ ((0 : Int) ≤ ix l m ∧ ix l m < (↑y.1.length : Int)) ∧ JOIN [Ty.int IntKind.i64] (fun (y12 : Int) ↦ IFB (!decide (y12 < (0 : Int))) (rec9 (IntKind.i64.wrap (IntKind.i64.wrap ((IntKind.u64.wrap (IntKind.i64.wrap (z10 + z11))).fdiv (2 : Int)) + (1 : Int))) z11) (rec9 z10 (IntKind.i64.wrap ((IntKind.u64.wrap (IntKind.i64.wrap (z10 + z11))).fdiv (2 : Int))))) fun (J13 : Int → Prop) ↦ IFB (!decide ((ix y.1 (ix l (IntKind.i64.wrap ((IntKind.u64.wrap (IntKind.i64.wrap (z10 + z11))).fdiv (2 : Int))))).5 = (ix y.1 (ix l (IntKind.i64.wrap ((IntKind.u64.wrap (IntKind.i64.wrap (z10 + z11))).fdiv (2 : Int))))).5)) (IFB (!decide ((ix y.1 (ix l m)).5 = (ix y.1 (ix l m)).5)) (J13 (0 : Int)) (J13 (-1 : Int))) (IFB (!decide ((ix y.1 (ix l m)).5 = (ix y.1 (ix l m)).5)) (J13 (1 : Int)) (IFB (decide ((ix y.1 (ix l (IntKind.i64.wrap ((IntKind.u64.wrap (IntKind.i64.wrap (z10 + z11))).fdiv (2 : Int))))).5 < (ix y.1 (ix l m)).5)) (J13 (-1 : Int)) (IFB (decide ((ix y.1 (ix l m)).5 < (ix y.1 (ix l (IntKind.i64.wrap ((IntKind.u64.wrap (IntKind.i64.wrap (z10 + z11))).fdiv (2 : Int))))).5)) (J13 (1 : Int)) (J13 (0 : Int)))))) (LOOP [Ty.int IntKind.i64, (Ty.int IntKind.i64).sl] (fun (rec14 : Int → List Int → Prop) (z15 : Int) (z16 : List Int) ↦ IFB (decide (z10 < z15)) (((0 : Int) ≤ IntKind.i64.wrap (z15 - (1 : Int)) ∧ IntKind.i64.wrap (z15 - (1 : Int)) < (↑z16.length : Int)) ∧ ((0 : Int) ≤ z15 ∧ z15 < (↑z16.length : Int)) ∧ ((0 : Int) ≤ z15 ∧ z15 < (↑z16.length : Int)) ∧ ((0 : Int) ≤ IntKind.i64.wrap (z15 - (1 : Int)) ∧ IntKind.i64.wrap (z15 - (1 : Int)) < (↑(z16.set z15.toNat (ix z16 (IntKind.i64.wrap (z15 - (1 : Int))))).length : Int)) ∧ rec14 (IntKind.i64.wrap (z15 - (1 : Int))) ((z16.set z15.toNat (ix z16 (IntKind.i64.wrap (z15 - (1 : Int))))).set (IntKind.i64.wrap (z15 - (1 : Int))).toNat (ix z16 z15))) (post z16)) (m, l, PUnit.unit))) (a, m, PUnit.unit)) (Int.NonNeg (1 : Int) ∧ JOIN [Ty.int IntKind.i64, Ty.int IntKind.i64] (fun (y17 y18 : Int) ↦ LOOP [Ty.int IntKind.i64, Ty.int IntKind.i64] (fun (rec19 : Int → Int → Prop) (z20 z21 : Int) ↦ IFB (decide (z20 < z21)) (Int.NonNeg (1 : Int) ∧ ((0 : Int) ≤ IntKind.i64.wrap (IntKind.i64.wrap (IntKind.i64.wrap (IntKind.i64.wrap ((IntKind.u64.wrap (IntKind.i64.wrap (a + b))).fdiv (2 : Int)) + m) - (1 : Int)) - IntKind.i64.wrap ((IntKind.u64.wrap (IntKind.i64.wrap (z20 + z21))).fdiv (2 : Int))) ∧ IntKind.i64.wrap (IntKind.i64.wrap (IntKind.i64.wrap (IntKind.i64.wrap ((IntKind.u64.wrap (IntKind.i64.wrap (a + b))).fdiv (2 : Int)) + m) - (1 : Int)) - IntKind.i64.wrap ((IntKind.u64.wrap (IntKind.i64.wrap (z20 + z21))).fdiv (2 : Int))) < (↑l.length : Int)) ∧ ((0 : Int) ≤ IntKind.i64.wrap ((IntKind.u64.wrap (IntKind.i64.wrap (z20 + z21))).fdiv (2 : Int)) ∧ IntKind.i64.wrap ((IntKind.u64.wrap (IntKind.i64.wrap (z20 + z21))).fdiv (2 : Int)) < (↑l.length : Int)) ∧ ((0 : Int) ≤ ix l (IntKind.i64.wrap ((IntKind.u64.wrap (IntKind.i64.wrap (z20 + z21))).fdiv (2 : Int))) ∧ ix l (IntKind.i64.wrap ((IntKind.u64.wrap (IntKind.i64.wrap (z20 + z21))).fdiv (2 : Int))) < (↑y.1.length : Int)) ∧ ((0 : Int) ≤ ix l (IntKind.i64.wrap (IntKind.i64.wrap (IntKind.i64.wrap (IntKind.i64.wrap ((IntKind.u64.wrap (IntKind.i64.wrap (a + b))).fdiv (2 : Int)) + m) - (1 : Int)) - IntKind.i64.wrap ((IntKind.u64.wrap (IntKind.i64.wrap (z20 + z21))).fdiv (2 : Int)))) ∧ ix l (IntKind.i64.wrap (IntKind.i64.wrap (IntKind.i64.wrap (IntKind.i64.wrap ((IntKind.u64.wrap (IntKind.i64.wrap (a + b))).fdiv (2 : Int)) + m) - (1 : Int)) - IntKind.i64.wrap ((IntKind.u64.wrap (IntKind.i64.wrap (z20 + z21))).fdiv (2 : Int)))) < (↑y.1.length : Int)) ∧ JOIN [Ty.int IntKind.i64] (fun (y22 : Int) ↦ IFB (!decide (y22 < (0 : Int))) (rec19 (IntKind.i64.wrap (IntKind.i64.wrap ((IntKind.u64.wrap (IntKind.i64.wrap (z20 + z21))).fdiv (2 : Int)) + (1 : Int))) z21) (rec19 z20 (IntKind.i64.wrap ((IntKind.u64.wrap (IntKind.i64.wrap (z20 + z21))).fdiv (2 : Int))))) fun (J23 : Int → Prop) ↦ IFB (!decide ((ix y.1 (ix l (IntKind.i64.wrap ((IntKind.u64.wrap (IntKind.i64.wrap (z20 + z21))).fdiv (2 : Int))))).5 = (ix y.1 (ix l (IntKind.i64.wrap ((IntKind.u64.wrap (IntKind.i64.wrap (z20 + z21))).fdiv (2 : Int))))).5)) (IFB (!decide ((ix y.1 (ix l (IntKind.i64.wrap (IntKind.i64.wrap (IntKind.i64.wrap (IntKind.i64.wrap ((IntKind.u64.wrap (IntKind.i64.wrap (a + b))).fdiv (2 : Int)) + m) - (1 : Int)) - IntKind.i64.wrap ((IntKind.u64.wrap (IntKind.i64.wrap (z20 + z21))).fdiv (2 : Int)))))).5 = (ix y.1 (ix l (IntKind.i64.wrap (IntKind.i64.wrap (IntKind.i64.wrap (IntKind.i64.wrap ((IntKind.u64.wrap (IntKind.i64.wrap (a + b))).fdiv (2 : Int)) + m) - (1 : Int)) - IntKind.i64.wrap ((IntKind.u64.wrap (IntKind.i64.wrap (z20 + z21))).fdiv (2 : Int)))))).5)) (J23 (0 : Int)) (J23 (-1 : Int))) (IFB (!decide ((ix y.1 (ix l (IntKind.i64.wrap (IntKind.i64.wrap (IntKind.i64.wrap (IntKind.i64.wrap ((IntKind.u64.wrap (IntKind.i64.wrap (a + b))).fdiv (2 : Int)) + m) - (1 : Int)) - IntKind.i64.wrap ((IntKind.u64.wrap (IntKind.i64.wrap (z20 + z21))).fdiv (2 : Int)))))).5 = (ix y.1 (ix l (IntKind.i64.wrap (IntKind.i64.wrap (IntKind.i64.wrap (IntKind.i64.wrap ((IntKind.u64.wrap (IntKind.i64.wrap (a + b))).fdiv (2 : Int)) + m) - (1 : Int)) - IntKind.i64.wrap ((IntKind.u64.wrap (IntKind.i64.wrap (z20 + z21))).fdiv (2 : Int)))))).5)) (J23 (1 : Int)) (IFB (decide ((ix y.1 (ix l (IntKind.i64.wrap ((IntKind.u64.wrap (IntKind.i64.wrap (z20 + z21))).fdiv (2 : Int))))).5 < (ix y.1 (ix l (IntKind.i64.wrap (IntKind.i64.wrap (IntKind.i64.wrap (IntKind.i64.wrap ((IntKind.u64.wrap (IntKind.i64.wrap (a + b))).fdiv (2 : Int)) + m) - (1 : Int)) - IntKind.i64.wrap ((IntKind.u64.wrap (IntKind.i64.wrap (z20 + z21))).fdiv (2 : Int)))))).5)) (J23 (-1 : Int)) (IFB (decide ((ix y.1 (ix l (IntKind.i64.wrap (IntKind.i64.wrap (IntKind.i64.wrap (IntKind.i64.wrap ((IntKind.u64.wrap (IntKind.i64.wrap (a + b))).fdiv (2 : Int)) + m) - (1 : Int)) - IntKind.i64.wrap ((IntKind.u64.wrap (IntKind.i64.wrap (z20 + z21))).fdiv (2 : Int)))))).5 < (ix y.1 (ix l (IntKind.i64.wrap ((IntKind.u64.wrap (IntKind.i64.wrap (z20 + z21))).fdiv (2 : Int))))).5)) (J23 (1 : Int)) (J23 (0 : Int)))))) (JOIN [(Ty.int IntKind.i64).sl] (fun (y24 : List Int) ↦ JOIN [(Ty.int IntKind.i64).sl] (fun (y25 : List Int) ↦ IFB (decide (IntKind.i64.wrap ((IntKind.u64.wrap (IntKind.i64.wrap (a + b))).fdiv (2 : Int)) < IntKind.i64.wrap (IntKind.i64.wrap (IntKind.i64.wrap ((IntKind.u64.wrap (IntKind.i64.wrap (a + b))).fdiv (2 : Int)) + m) - z20)) && decide (IntKind.i64.wrap (IntKind.i64.wrap (IntKind.i64.wrap ((IntKind.u64.wrap (IntKind.i64.wrap (a + b))).fdiv (2 : Int)) + m) - z20) < b)) (((0 : Int) ≤ IntKind.i64.wrap ((IntKind.u64.wrap (IntKind.i64.wrap (a + b))).fdiv (2 : Int)) ∧ IntKind.i64.wrap ((IntKind.u64.wrap (IntKind.i64.wrap (a + b))).fdiv (2 : Int)) < IntKind.i64.wrap (IntKind.i64.wrap (IntKind.i64.wrap ((IntKind.u64.wrap (IntKind.i64.wrap (a + b))).fdiv (2 : Int)) + m) - z20) ∧ IntKind.i64.wrap (IntKind.i64.wrap (IntKind.i64.wrap ((IntKind.u64.wrap (IntKind.i64.wrap (a + b))).fdiv (2 : Int)) + m) - z20) < b ∧ b ≤ (↑y25.length : Int) ∧ b ≤ IntKind.i64.wrap ((IntKind.u64.wrap (IntKind.i64.wrap (a + b))).fdiv (2 : Int)) + (↑n : Int) ∧ y25.length ≤ (1000000 : Nat) ∧ (y.1.length ≤ (1000000 : Nat) ∧ ∀ (v26 : Int), v26 ∈ y25 → (0 : Int) ≤ v26 ∧ v26 < (↑y.1.length : Int)) ∧ srtR (lotV y.1) (sgN y25 (IntKind.i64.wrap ((IntKind.u64.wrap (IntKind.i64.wrap (a + b))).fdiv (2 : Int))) (IntKind.i64.wrap (IntKind.i64.wrap (IntKind.i64.wrap ((IntKind.u64.wrap (IntKind.i64.wrap (a + b))).fdiv (2 : Int)) + m) - z20))) ∧ srtR (lotV y.1) (sgN y25 (IntKind.i64.wrap (IntKind.i64.wrap (IntKind.i64.wrap ((IntKind.u64.wrap (IntKind.i64.wrap (a + b))).fdiv (2 : Int)) + m) - z20)) b) ∧ ∀ (v27 : Int), v27 ∈ sgN y25 (IntKind.i64.wrap ((IntKind.u64.wrap (IntKind.i64.wrap (a + b))).fdiv (2 : Int))) (IntKind.i64.wrap (IntKind.i64.wrap (IntKind.i64.wrap ((IntKind.u64.wrap (IntKind.i64.wrap (a + b))).fdiv (2 : Int)) + m) - z20)) → ∀ (v28 : Int), v28 ∈ sgN y25 (IntKind.i64.wrap (IntKind.i64.wrap (IntKind.i64.wrap ((IntKind.u64.wrap (IntKind.i64.wrap (a + b))).fdiv (2 : Int)) + m) - z20)) b → v27 < v28) ∧ ∀ (v29 : List Int), ordQ y.1 y25 (IntKind.i64.wrap ((IntKind.u64.wrap (IntKind.i64.wrap (a + b))).fdiv (2 : Int))) b v29 → post v29) (post y25)) fun (J30 : List Int → Prop) ↦ IFB (decide (a < z20) && decide (z20 < IntKind.i64.wrap ((IntKind.u64.wrap (IntKind.i64.wrap (a + b))).fdiv (2 : Int)))) (((0 : Int) ≤ a ∧ a < z20 ∧ z20 < IntKind.i64.wrap ((IntKind.u64.wrap (IntKind.i64.wrap (a + b))).fdiv (2 : Int)) ∧ IntKind.i64.wrap ((IntKind.u64.wrap (IntKind.i64.wrap (a + b))).fdiv (2 : Int)) ≤ (↑y24.length : Int) ∧ IntKind.i64.wrap ((IntKind.u64.wrap (IntKind.i64.wrap (a + b))).fdiv (2 : Int)) ≤ a + (↑n : Int) ∧ y24.length ≤ (1000000 : Nat) ∧ (y.1.length ≤ (1000000 : Nat) ∧ ∀ (v31 : Int), v31 ∈ y24 → (0 : Int) ≤ v31 ∧ v31 < (↑y.1.length : Int)) ∧ srtR (lotV y.1) (sgN y24 a z20) ∧ srtR (lotV y.1) (sgN y24 z20 (IntKind.i64.wrap ((IntKind.u64.wrap (IntKind.i64.wrap (a + b))).fdiv (2 : Int)))) ∧ ∀ (v32 : Int), v32 ∈ sgN y24 a z20 → ∀ (v33 : Int), v33 ∈ sgN y24 z20 (IntKind.i64.wrap ((IntKind.u64.wrap (IntKind.i64.wrap (a + b))).fdiv (2 : Int))) → v32 < v33) ∧ ∀ (v34 : List Int), ordQ y.1 y24 a (IntKind.i64.wrap ((IntKind.u64.wrap (IntKind.i64.wrap (a + b))).fdiv (2 : Int))) v34 → J30 v34) (J30 y24)) fun (J35 : List Int → Prop) ↦ IFB (decide (z20 < m) && decide (m < IntKind.i64.wrap (IntKind.i64.wrap (IntKind.i64.wrap ((IntKind.u64.wrap (IntKind.i64.wrap (a + b))).fdiv (2 : Int)) + m) - z20))) (((0 : Int) ≤ z20 ∧ z20 < m ∧ m < IntKind.i64.wrap (IntKind.i64.wrap (IntKind.i64.wrap ((IntKind.u64.wrap (IntKind.i64.wrap (a + b))).fdiv (2 : Int)) + m) - z20) ∧ IntKind.i64.wrap (IntKind.i64.wrap (IntKind.i64.wrap ((IntKind.u64.wrap (IntKind.i64.wrap (a + b))).fdiv (2 : Int)) + m) - z20) ≤ (↑l.length : Int) ∧ l.length ≤ (1000000 : Nat)) ∧ J35 (roN l z20 m (IntKind.i64.wrap (IntKind.i64.wrap (IntKind.i64.wrap ((IntKind.u64.wrap (IntKind.i64.wrap (a + b))).fdiv (2 : Int)) + m) - z20)))) (J35 l))) (y18, y17, PUnit.unit)) fun (J36 : Int → Int → Prop) ↦ IFB (decide (IntKind.i64.wrap ((IntKind.u64.wrap (IntKind.i64.wrap (a + b))).fdiv (2 : Int)) < m)) (J36 (IntKind.i64.wrap ((IntKind.u64.wrap (IntKind.i64.wrap (a + b))).fdiv (2 : Int))) (IntKind.i64.wrap (IntKind.i64.wrap (IntKind.i64.wrap ((IntKind.u64.wrap (IntKind.i64.wrap (a + b))).fdiv (2 : Int)) + m) - b))) (J36 m a)))
set_option maxHeartbeats 4000000 in
theorem gsym_w (n : Nat) (l : List (Int)) (a : Int) (m : Int) (b : Int) (y : api_Entitlements) (post : List (Int) → Prop) : gsym_W n l a m b y post = walk5 (callTop Try.prog (gsym_C n) (drawR Try.prog tau) 8 0) (gsym_sp (n + 1)) l (a, m, b, ()) y post := by kernel_rfl
set_option maxHeartbeats 4000000 in
theorem gsym_of {n : Nat} (ih : Spec5OK Try.prog (gsym_sp n)) (h : ∀ (l : List (Int)) (a : Int) (m : Int) (b : Int) (y : api_Entitlements) (post : List (Int) → Prop), gsym_P (n + 1) l a m b y post → gsym_W n l a m b y post) : Spec5OK Try.prog (gsym_sp (n + 1)) := Spec5OK.of_top (C := (gsym_C n)) (dr := drawR Try.prog tau) (n := 8) (fk := 0) (.cons (rule5_ok grot_ok) (.cons (rule5_ok ih) .nil)) (drawR_ok tau) fun l x y post hp => HoldW.of (gsym_w n l x.1 x.2.1 x.2.2.1 y post) (h l x.1 x.2.1 x.2.2.1 y post hp)
theorem sgN_mid {P X Q : List Int} {a b : Nat} (ha : a = P.length) (hb : b = P.length + X.length) : sgN (P ++ X ++ Q) (a : Int) (b : Int) = X := by
  unfold sgN; rw [Int.toNat_natCast, Int.toNat_natCast]; exact seg_mid ha hb
theorem ord_mid {lots : List api_Lot} {P X Q l' : List Int} {a b : Nat} (ha : a = P.length) (hb : b = P.length + X.length) (h : ordQ lots (P ++ X ++ Q) (a : Int) (b : Int) l') : ∃ Z : List Int, Z.Perm X ∧ srtR (lotV lots) Z ∧ l' = P ++ Z ++ Q := by
  obtain ⟨Z, z1, z2, z3⟩ := h
  rw [sgN_mid ha hb] at z1
  refine ⟨Z, z1, z2, ?_⟩
  rw [z3, Int.toNat_natCast, Int.toNat_natCast]
  subst ha hb
  have e1 : (P ++ X ++ Q).take P.length = P := by simp
  have e2 : (P ++ X ++ Q).drop (P.length + X.length) = Q := by rw [show P.length + X.length = (P ++ X).length by simp, List.drop_left]
  rw [e1, e2]
theorem srt_val {v : Int → Int} {l : List Int} (h : srtR v l) {i j : Nat} (hij : i ≤ j) (hj : j < l.length) : v (ix l (j : Int)) ≤ v (ix l (i : Int)) := by
  rcases Nat.lt_or_ge i j with hlt | hge
  · have := List.pairwise_iff_getElem.1 h i j (by omega) hj hlt
    rw [← ix_lt (by omega : i < l.length), ← ix_lt hj] at this
    unfold bfR at this; omega
  · have : i = j := by omega
    subst this; exact Int.le_refl _
theorem ix_part {P X Q : List Int} {a t : Nat} (ha : a = P.length) (ht : t < X.length) : ix (P ++ X ++ Q) ((a + t : Nat) : Int) = ix X (t : Int) := by
  subst ha
  rw [ix_lt ht]
  exact ix_of (by rw [List.append_assoc, List.getElem?_append_right (by omega), Nat.add_sub_cancel_left, List.getElem?_append_left ht, List.getElem?_eq_getElem ht])
/-- One element, brought to its place. -/
theorem sym_left {v : Int → Int} {x : Int} {Y : List Int} {c : Nat} (hY : srtR v Y) (hc : ∀ y ∈ Y, x < y) (hcl : c ≤ Y.length) (h1 : ∀ t : Nat, t < c → v x < v (ix Y (t : Int))) (h2 : ∀ t : Nat, c ≤ t → t < Y.length → ¬ v x < v (ix Y (t : Int))) : srtR v (Y.take c ++ x :: Y.drop c) := by
  refine sym_one (by rw [List.take_append_drop]; exact hY) (fun y hy => ?_) (fun y hy => ?_)
  · obtain ⟨t, ht, rfl⟩ := List.getElem_of_mem hy
    rw [List.length_take] at ht
    have := h1 t (by omega)
    rw [ix_lt (by omega)] at this
    rw [List.getElem_take]
    exact .inl this
  · obtain ⟨t, ht, rfl⟩ := List.getElem_of_mem hy
    rw [List.length_drop] at ht
    have := h2 (c + t) (by omega) (by omega)
    rw [ix_lt (by omega)] at this
    rw [List.getElem_drop]
    have := hc _ (List.getElem_mem (by omega : c + t < Y.length))
    unfold bfR; omega
theorem sym_right {v : Int → Int} {x : Int} {Y : List Int} {c : Nat} (hY : srtR v Y) (hc : ∀ y ∈ Y, y < x) (hcl : c ≤ Y.length) (h1 : ∀ t : Nat, t < c → ¬ v (ix Y (t : Int)) < v x) (h2 : ∀ t : Nat, c ≤ t → t < Y.length → v (ix Y (t : Int)) < v x) : srtR v (Y.take c ++ x :: Y.drop c) := by
  refine sym_one (by rw [List.take_append_drop]; exact hY) (fun y hy => ?_) (fun y hy => ?_)
  · obtain ⟨t, ht, rfl⟩ := List.getElem_of_mem hy
    rw [List.length_take] at ht
    have := h1 t (by omega)
    rw [ix_lt (by omega)] at this
    rw [List.getElem_take]
    have := hc _ (List.getElem_mem (by omega : t < Y.length))
    unfold bfR; omega
  · obtain ⟨t, ht, rfl⟩ := List.getElem_of_mem hy
    rw [List.length_drop] at ht
    have := h2 (c + t) (by omega) (by omega)
    rw [ix_lt (by omega)] at this
    rw [List.getElem_drop]
    exact .inl this
set_option maxHeartbeats 2000000 in
theorem gsym_step {n : Nat} (l : List Int) (a m b : Int) (y : api_Entitlements) (post : List Int → Prop) (hp : gsym_P (n + 1) l a m b y post) : gsym_W n l a m b y post := by
  obtain ⟨⟨h1, h2, h3, h4, h5, h6, ⟨h7, h8⟩, hX, hY, hc⟩, hp⟩ := hp
  unfold gsym_W
  refine fun _ => ?_
  obtain ⟨a, rfl⟩ := nat_of h1
  obtain ⟨m, rfl⟩ := nat_of (by omega : 0 ≤ m)
  obtain ⟨b, rfl⟩ := nat_of (by omega : 0 ≤ b)
  obtain ⟨P, X, Y, Q, e, p1, p2, p3⟩ := rot_dec (l := l) (a := a) (m := m) (b := b) (by omega) (by omega) (by omega)
  have eX : sgN l (a : Int) (m : Int) = X := by
    rw [e, List.append_assoc (P ++ X)]; exact sgN_mid p1.symm (by omega)
  have eY : sgN l (m : Int) (b : Int) = Y := by
    rw [e]; exact sgN_mid (by simp; omega) (by simp; omega)
  rw [eX] at hX hc
  rw [eY] at hY hc
  have eM : l = P ++ (X ++ Y) ++ Q := by rw [e]; simp
  have hl : l.length = a + (m - a) + (b - m) + Q.length := by rw [e]; simp; omega
  have hXm : ∀ d ∈ X, 0 ≤ d ∧ d < y.1.length := fun d hd => h8 d (by rw [e]; simp [hd])
  have hYm : ∀ d ∈ Y, 0 ≤ d ∧ d < y.1.length := fun d hd => h8 d (by rw [e]; simp [hd])
  have hfin : ∀ Z : List Int, Z.Perm (X ++ Y) → srtR (lotV y.1) Z → post (P ++ Z ++ Q) := fun Z z1 z2 => hp _ ⟨Z, by
    rw [eM, sgN_mid p1.symm (by simp; omega)]; exact z1, z2, by
    rw [Int.toNat_natCast, Int.toNat_natCast, eM]
    have e1 : (P ++ (X ++ Y) ++ Q).take a = P := by rw [← p1]; simp
    have e2 : (P ++ (X ++ Y) ++ Q).drop b = Q := by rw [show b = (P ++ (X ++ Y)).length by simp; omega, List.drop_left]
    rw [e1, e2]⟩
  rw [wB (i := m) (by omega) (by omega)]
  refine IFB.mk (fun hb1 => ?_) (fun hb1 => ?_)
  · have hb1 : ((m - a : Nat) : Int) = 1 := of_decide_eq_true hb1
    obtain ⟨x, rfl⟩ : ∃ x, X = [x] := List.length_eq_one_iff.1 (by omega)
    have hYx : ∀ d ∈ Y, x < d := fun d hd => hc x (by simp) d hd
    have hxm := hXm x (by simp)
    have ixa : ix l (a : Int) = x := by
      rw [e, show P ++ [x] ++ Y ++ Q = P ++ x :: (Y ++ Q) by simp]; exact ix_appL p1.symm
    have ixY : ∀ t : Nat, t < Y.length → ix l ((m + t : Nat) : Int) = ix Y (t : Int) := fun t ht => by
      rw [e]; exact ix_part (by simp; omega) ht
    refine LOOP.fuel (fun u => ∃ i j : Nat, u.1 = ((m + i : Nat) : Int) ∧ u.2.1 = ((m + j : Nat) : Int) ∧ i ≤ j ∧ j ≤ Y.length ∧ (∀ t : Nat, t < i → lotV y.1 x < lotV y.1 (ix Y (t : Int))) ∧ ∀ t : Nat, j ≤ t → t < Y.length → ¬ lotV y.1 x < lotV y.1 (ix Y (t : Int))) (fun u => Int.toNat u.2.1 - Int.toNat u.1) ⟨0, Y.length, rfl, by show (b : Int) = _; omega, Nat.zero_le _, Nat.le_refl _, fun t ht => absurd ht (Nat.not_lt_zero t), fun t ht ht2 => absurd ht2 (by omega)⟩ ?_
    rintro rec ⟨(z2 : Int), (z3 : Int), ⟨⟩⟩ ⟨i, j, i1, i2, i3, i4, i5, i6⟩ hrec
    have j1 : z2 = ((m + i : Nat) : Int) := i1
    have j2 : z3 = ((m + j : Nat) : Int) := i2
    clear i1 i2
    subst j1 j2
    refine IFB.mk (fun hb => ?_) (fun hb => ?_)
    · have hb : ((m + i : Nat) : Int) < ((m + j : Nat) : Int) := of_decide_eq_true hb
      dsimp only
      rw [half_ok (by omega)]
      obtain ⟨h, hh⟩ : ∃ h, (m + i + (m + j)) / 2 = m + h := ⟨(i + j) / 2, by omega⟩
      rw [hh]
      have hhj : h < j := by omega
      have hih : i ≤ h := by omega
      have hym := hYm (ix Y (h : Int)) (by rw [ix_lt (by omega)]; exact List.getElem_mem _)
      rw [ixa, ixY h (by omega)]
      refine ⟨Int.NonNeg.mk 1, by omega, by omega, hxm, hym, JOIN.opqL fun (J : Int → Prop) hJ => cmp3 fun q hq => ?_⟩
      have hq : q < 0 ↔ lotV y.1 x < lotV y.1 (ix Y (h : Int)) := hq
      rw [hJ]
      refine IFB.mk (fun hc2 => ?_) (fun hc2 => ?_)
      · have hv := hq.1 (of_decide_eq_true hc2)
        show rec (IntKind.i64.wrap (((m + h : Nat) : Int) + 1)) _
        rw [wrapS (by omega)]
        refine hrec (((m + h + 1 : Nat) : Int), ((m + j : Nat) : Int), ()) ⟨h + 1, j, rfl, rfl, by omega, i4, fun t ht => ?_, i6⟩ (by show ((m + j : Nat) : Int).toNat - ((m + h + 1 : Nat) : Int).toNat < ((m + j : Nat) : Int).toNat - ((m + i : Nat) : Int).toNat; omega)
        have := srt_val hY (i := t) (j := h) (by omega) (by omega)
        omega
      · have hv : ¬ lotV y.1 x < lotV y.1 (ix Y (h : Int)) := fun hh => of_decide_eq_false hc2 (hq.2 hh)
        refine hrec (((m + i : Nat) : Int), ((m + h : Nat) : Int), ()) ⟨i, h, rfl, rfl, by omega, by omega, i5, fun t ht ht2 => ?_⟩ (by show ((m + h : Nat) : Int).toNat - ((m + i : Nat) : Int).toNat < ((m + j : Nat) : Int).toNat - ((m + i : Nat) : Int).toNat; omega)
        have := srt_val hY (i := h) (j := t) ht ht2
        omega
    · have hb : ¬ ((m + i : Nat) : Int) < ((m + j : Nat) : Int) := of_decide_eq_false hb
      have hij : i = j := by omega
      subst hij
      have hs := sym_left hY hYx i4 i5 i6
      have hw : IntKind.i64.wrap (((m + i : Nat) : Int) - 1) = ((a + i : Nat) : Int) := by rw [wrap_in (by omega) (by omega)]; omega
      have hsplit : Y = Y.take i ++ Y.drop i := (List.take_append_drop _ _).symm
      have l1 : (Y.take i).length = i := by rw [List.length_take]; omega
      have hperm : (Y.take i ++ x :: Y.drop i).Perm ([x] ++ Y) := by
        refine List.perm_middle.trans ?_
        rw [List.take_append_drop]; exact .refl _
      have hpost := hfin _ hperm hs
      generalize Y.take i = Y1 at *
      generalize Y.drop i = Y2 at *
      dsimp only
      rw [hw]
      refine LOOP.fuel (fun u => ∃ A B : List Int, A ++ B = Y1 ∧ u.1 = ((a + A.length : Nat) : Int) ∧ (u.2.1 : List Int) = P ++ A ++ x :: B ++ Y2 ++ Q) (fun u => a + i - Int.toNat u.1) ⟨[], Y1, rfl, rfl, by show l = _; rw [e, hsplit]; simp⟩ ?_
      rintro rec2 ⟨(z : Int), (D : List Int), ⟨⟩⟩ ⟨A, B, c1, c2, c3⟩ hrec2
      have j1 : z = ((a + A.length : Nat) : Int) := c2
      have j3 : D = P ++ A ++ x :: B ++ Y2 ++ Q := c3
      clear c2 c3
      subst j1 j3
      have hAB : A.length + B.length = i := by have := congrArg List.length c1; simp at this; omega
      have hDl : (P ++ A ++ x :: B ++ Y2 ++ Q).length = l.length := by rw [e, hsplit, ← c1]; simp; omega
      refine IFB.mk (fun hb2 => ?_) (fun hb2 => ?_)
      · have hb2 : ((a + A.length : Nat) : Int) < ((a + i : Nat) : Int) := of_decide_eq_true hb2
        cases B with
        | nil => simp at hAB; omega
        | cons q B =>
          dsimp only
          rw [wrapS (by omega), hDl]
          have i1 : ix (P ++ A ++ x :: q :: B ++ Y2 ++ Q) ((a + A.length + 1 : Nat) : Int) = q := by
            rw [show P ++ A ++ x :: q :: B ++ Y2 ++ Q = (P ++ A ++ [x]) ++ q :: (B ++ Y2 ++ Q) by simp]; exact ix_appL (by simp; omega)
          have i2 : ix (P ++ A ++ x :: q :: B ++ Y2 ++ Q) ((a + A.length : Nat) : Int) = x := by
            rw [show P ++ A ++ x :: q :: B ++ Y2 ++ Q = (P ++ A) ++ x :: (q :: B ++ Y2 ++ Q) by simp]; exact ix_appL (by simp; omega)
          rw [i1, i2, Int.toNat_natCast, Int.toNat_natCast]
          have es : ((P ++ A ++ x :: q :: B ++ Y2 ++ Q).set (a + A.length) q).set (a + A.length + 1) x = P ++ (A ++ [q]) ++ x :: B ++ Y2 ++ Q := by
            rw [show P ++ A ++ x :: q :: B ++ Y2 ++ Q = (P ++ A) ++ x :: q :: (B ++ Y2 ++ Q) by simp, swap_adj2 (by simp; omega)]
            simp
          have hll : a + A.length + 1 < l.length := by
            have : (P ++ A ++ x :: q :: B ++ Y2 ++ Q).length = l.length := hDl
            simp at this; omega
          refine ⟨by omega, by omega, by omega, ?_, ?_⟩
          · show _ ∧ _ < ((List.set (α := Int) _ _ _).length : Int)
            rw [List.length_set, hDl]; omega
          · show rec2 _ (List.set (α := Int) (List.set (α := Int) _ _ _) _ _)
            rw [es]
            exact hrec2 (((a + A.length + 1 : Nat) : Int), (P ++ (A ++ [q]) ++ x :: B ++ Y2 ++ Q : List Int), ()) ⟨A ++ [q], B, by rw [← c1]; simp, by show ((a + A.length + 1 : Nat) : Int) = _; simp; omega, rfl⟩ (by show a + i - ((a + A.length + 1 : Nat) : Int).toNat < a + i - ((a + A.length : Nat) : Int).toNat; omega)
      · have hb2 : ¬ ((a + A.length : Nat) : Int) < ((a + i : Nat) : Int) := of_decide_eq_false hb2
        have hB : B = [] := List.eq_nil_of_length_eq_zero (by omega)
        subst hB
        rw [List.append_nil] at c1
        subst c1
        show post (P ++ A ++ [x] ++ Y2 ++ Q)
        have : P ++ A ++ [x] ++ Y2 ++ Q = P ++ (A ++ x :: Y2) ++ Q := by simp
        rw [this]; exact hpost
  have hb1 : ¬ ((m - a : Nat) : Int) = 1 := of_decide_eq_false hb1
  rw [wB (i := b) (by omega) (by omega)]
  refine IFB.mk (fun hb2 => ?_) (fun hb2 => ?_)
  · have hb2 : ((b - m : Nat) : Int) = 1 := of_decide_eq_true hb2
    obtain ⟨x, rfl⟩ : ∃ x, Y = [x] := List.length_eq_one_iff.1 (by omega)
    have hXx : ∀ d ∈ X, d < x := fun d hd => hc d hd x (by simp)
    have hxm := hYm x (by simp)
    have ixa : ix l (m : Int) = x := by
      rw [e, show P ++ X ++ [x] ++ Q = (P ++ X) ++ x :: Q by simp]; exact ix_appL (by simp; omega)
    have ixX : ∀ t : Nat, t < X.length → ix l ((a + t : Nat) : Int) = ix X (t : Int) := fun t ht => by
      rw [e, show P ++ X ++ [x] ++ Q = P ++ X ++ ([x] ++ Q) by simp]; exact ix_part p1.symm ht
    refine LOOP.fuel (fun u => ∃ i j : Nat, u.1 = ((a + i : Nat) : Int) ∧ u.2.1 = ((a + j : Nat) : Int) ∧ i ≤ j ∧ j ≤ X.length ∧ (∀ t : Nat, t < i → ¬ lotV y.1 (ix X (t : Int)) < lotV y.1 x) ∧ ∀ t : Nat, j ≤ t → t < X.length → lotV y.1 (ix X (t : Int)) < lotV y.1 x) (fun u => Int.toNat u.2.1 - Int.toNat u.1) ⟨0, X.length, rfl, by show (m : Int) = _; omega, Nat.zero_le _, Nat.le_refl _, fun t ht => absurd ht (Nat.not_lt_zero t), fun t ht ht2 => absurd ht2 (by omega)⟩ ?_
    rintro rec ⟨(z2 : Int), (z3 : Int), ⟨⟩⟩ ⟨i, j, i1, i2, i3, i4, i5, i6⟩ hrec
    have j1 : z2 = ((a + i : Nat) : Int) := i1
    have j2 : z3 = ((a + j : Nat) : Int) := i2
    clear i1 i2
    subst j1 j2
    refine IFB.mk (fun hb => ?_) (fun hb => ?_)
    · have hb : ((a + i : Nat) : Int) < ((a + j : Nat) : Int) := of_decide_eq_true hb
      dsimp only
      rw [half_ok (by omega)]
      obtain ⟨h, hh⟩ : ∃ h, (a + i + (a + j)) / 2 = a + h := ⟨(i + j) / 2, by omega⟩
      rw [hh]
      have hhj : h < j := by omega
      have hih : i ≤ h := by omega
      have hym := hXm (ix X (h : Int)) (by rw [ix_lt (by omega)]; exact List.getElem_mem _)
      rw [ixa, ixX h (by omega)]
      refine ⟨Int.NonNeg.mk 1, by omega, by omega, hym, hxm, JOIN.opqL fun (J : Int → Prop) hJ => cmp3 fun q hq => ?_⟩
      have hq : q < 0 ↔ lotV y.1 (ix X (h : Int)) < lotV y.1 x := hq
      rw [hJ]
      refine IFB.mk (fun hc2 => ?_) (fun hc2 => ?_)
      · have hv : ¬ lotV y.1 (ix X (h : Int)) < lotV y.1 x := fun hh => by
          have := hq.2 hh
          simp at hc2; omega
        show rec (IntKind.i64.wrap (((a + h : Nat) : Int) + 1)) _
        rw [wrapS (by omega)]
        refine hrec (((a + h + 1 : Nat) : Int), ((a + j : Nat) : Int), ()) ⟨h + 1, j, rfl, rfl, by omega, i4, fun t ht => ?_, i6⟩ (by show ((a + j : Nat) : Int).toNat - ((a + h + 1 : Nat) : Int).toNat < ((a + j : Nat) : Int).toNat - ((a + i : Nat) : Int).toNat; omega)
        have := srt_val hX (i := t) (j := h) (by omega) (by omega)
        omega
      · have hv : lotV y.1 (ix X (h : Int)) < lotV y.1 x := hq.1 (by simpa using hc2)
        refine hrec (((a + i : Nat) : Int), ((a + h : Nat) : Int), ()) ⟨i, h, rfl, rfl, by omega, by omega, i5, fun t ht ht2 => ?_⟩ (by show ((a + h : Nat) : Int).toNat - ((a + i : Nat) : Int).toNat < ((a + j : Nat) : Int).toNat - ((a + i : Nat) : Int).toNat; omega)
        have := srt_val hX (i := h) (j := t) ht ht2
        omega
    · have hb : ¬ ((a + i : Nat) : Int) < ((a + j : Nat) : Int) := of_decide_eq_false hb
      have hij : i = j := by omega
      subst hij
      have hs := sym_right hX hXx i4 i5 i6
      have hsplit : X = X.take i ++ X.drop i := (List.take_append_drop _ _).symm
      have l1 : (X.take i).length = i := by rw [List.length_take]; omega
      have l2 : (X.drop i).length = m - a - i := by rw [List.length_drop]; omega
      have hperm : (X.take i ++ x :: X.drop i).Perm (X ++ [x]) := by
        refine List.perm_middle.trans ?_
        rw [List.take_append_drop]; exact (List.perm_append_singleton x X).symm
      have hpost := hfin _ hperm hs
      generalize X.take i = X1 at *
      generalize X.drop i = X2 at *
      dsimp only
      refine LOOP.fuel (fun u => ∃ A B : List Int, A ++ B = X2 ∧ u.1 = ((a + i + A.length : Nat) : Int) ∧ (u.2.1 : List Int) = P ++ X1 ++ A ++ x :: B ++ Q) (fun u => Int.toNat u.1) ⟨X2, [], by simp, by show (m : Int) = _; omega, by show l = _; rw [e, hsplit]; simp⟩ ?_
      rintro rec2 ⟨(z : Int), (D : List Int), ⟨⟩⟩ ⟨A, B, c1, c2, c3⟩ hrec2
      have j1 : z = ((a + i + A.length : Nat) : Int) := c2
      have j3 : D = P ++ X1 ++ A ++ x :: B ++ Q := c3
      clear c2 c3
      subst j1 j3
      have hAB : A.length + B.length = m - a - i := by have := congrArg List.length c1; simp at this; omega
      have hDl : (P ++ X1 ++ A ++ x :: B ++ Q).length = l.length := by rw [e, hsplit, ← c1]; simp; omega
      refine IFB.mk (fun hb3 => ?_) (fun hb3 => ?_)
      · have hb3 : ((a + i : Nat) : Int) < ((a + i + A.length : Nat) : Int) := of_decide_eq_true hb3
        rcases List.eq_nil_or_concat A with hA0 | ⟨A', q, hA0⟩
        · subst hA0; simp at hb3
        · have hA1 : A = A' ++ [q] := by simpa using hA0
          have hAn : A.length = A'.length + 1 := by rw [hA1]; simp
          have hw : IntKind.i64.wrap (((a + i + A.length : Nat) : Int) - 1) = ((a + i + A'.length : Nat) : Int) := by rw [wrap_in (by omega) (by omega)]; omega
          dsimp only
          rw [hw, hDl]
          have hD2 : P ++ X1 ++ A ++ x :: B ++ Q = (P ++ X1 ++ A') ++ q :: x :: (B ++ Q) := by rw [hA1]; simp
          have i1 : ix (P ++ X1 ++ A ++ x :: B ++ Q) ((a + i + A'.length : Nat) : Int) = q := by rw [hD2]; exact ix_appL (by simp; omega)
          have i2 : ix (P ++ X1 ++ A ++ x :: B ++ Q) ((a + i + A.length : Nat) : Int) = x := by
            rw [show P ++ X1 ++ A ++ x :: B ++ Q = (P ++ X1 ++ A) ++ x :: (B ++ Q) by simp]; exact ix_appL (by simp; omega)
          rw [i1, i2, Int.toNat_natCast, Int.toNat_natCast]
          have es : ((P ++ X1 ++ A ++ x :: B ++ Q).set (a + i + A.length) q).set (a + i + A'.length) x = P ++ X1 ++ A' ++ x :: (q :: B) ++ Q := by
            rw [hD2, hAn, show a + i + (A'.length + 1) = a + i + A'.length + 1 by omega, swap_adj (by simp; omega)]
            simp
          refine ⟨by omega, by omega, by omega, ?_, ?_⟩
          · show _ ∧ _ < ((List.set (α := Int) _ _ _).length : Int)
            rw [List.length_set, hDl]; omega
          · show rec2 _ (List.set (α := Int) (List.set (α := Int) _ _ _) _ _)
            rw [es]
            exact hrec2 (((a + i + A'.length : Nat) : Int), (P ++ X1 ++ A' ++ x :: (q :: B) ++ Q : List Int), ()) ⟨A', q :: B, by rw [← c1, hA1]; simp, rfl, rfl⟩ (by show ((a + i + A'.length : Nat) : Int).toNat < ((a + i + A.length : Nat) : Int).toNat; omega)
      · have hb3 : ¬ ((a + i : Nat) : Int) < ((a + i + A.length : Nat) : Int) := of_decide_eq_false hb3
        have hA : A = [] := List.eq_nil_of_length_eq_zero (by omega)
        subst hA
        rw [List.nil_append] at c1
        subst c1
        show post (P ++ X1 ++ [] ++ x :: B ++ Q)
        have : P ++ X1 ++ [] ++ x :: B ++ Q = P ++ (X1 ++ x :: B) ++ Q := by simp
        rw [this]; exact hpost
  have hb2 : ¬ ((b - m : Nat) : Int) = 1 := of_decide_eq_false hb2
  obtain ⟨d, hd⟩ : ∃ d, (a + b) / 2 = d := ⟨_, rfl⟩
  rw [half_ok (by omega), hd]
  rw [wA (i := d) (j := m) (by omega)]
  refine ⟨Int.NonNeg.mk 1, JOIN.opqL fun (J36 : Int → Int → Prop) hJ36 => ?_⟩
  have main : ∀ r0 s0 : Nat, a ≤ s0 → s0 ≤ r0 → r0 ≤ m → r0 ≤ d → d + m ≤ b + s0 → (s0 = a ∨ s0 + b = d + m) → (r0 = m ∨ r0 = d) → J36 (r0 : Int) (s0 : Int) := fun r0 s0 g1 g2 g3 g4 g5 g6 g7 => by
    rw [hJ36]
    refine LOOP.fuel (fun u => ∃ s r : Nat, u.1 = (s : Int) ∧ u.2.1 = (r : Int) ∧ s0 ≤ s ∧ s ≤ r ∧ r ≤ r0 ∧ (s = s0 ∨ ∃ k : Nat, s = k + 1 ∧ ¬ lotV y.1 (ix l (k : Int)) < lotV y.1 (ix l ((d + m - s : Nat) : Int))) ∧ (r = r0 ∨ lotV y.1 (ix l (r : Int)) < lotV y.1 (ix l ((d + m - 1 - r : Nat) : Int)))) (fun u => Int.toNat u.2.1 - Int.toNat u.1) ⟨s0, r0, rfl, rfl, Nat.le_refl _, g2, Nat.le_refl _, .inl rfl, .inl rfl⟩ ?_
    rintro rec ⟨(z2 : Int), (z3 : Int), ⟨⟩⟩ ⟨s, r, i1, i2, i3, i4, i5, i6, i7⟩ hrec
    have j1 : z2 = (s : Int) := i1
    have j2 : z3 = (r : Int) := i2
    clear i1 i2
    subst j1 j2
    refine IFB.mk (fun hb => ?_) (fun hb => ?_)
    · have hb : (s : Int) < (r : Int) := of_decide_eq_true hb
      dsimp only
      rw [half_ok (by omega)]
      obtain ⟨c, hcc⟩ : ∃ c, (s + r) / 2 = c := ⟨_, rfl⟩
      rw [hcc]
      have hw : IntKind.i64.wrap (IntKind.i64.wrap (((d + m : Nat) : Int) - 1) - (c : Int)) = ((d + m - 1 - c : Nat) : Int) := by
        rw [wrap_in (z := ((d + m : Nat) : Int) - 1) (by omega) (by omega), wrap_in (by omega) (by omega)]; omega
      rw [hw]
      have hm1 := h8 (ix l (c : Int)) (ix_mem (by omega) (by omega))
      have hm2 := h8 (ix l ((d + m - 1 - c : Nat) : Int)) (ix_mem (by omega) (by omega))
      refine ⟨Int.NonNeg.mk 1, by omega, by omega, hm1, hm2, JOIN.opqL fun (J : Int → Prop) hJ => cmp3 fun q hq => ?_⟩
      have hq : q < 0 ↔ lotV y.1 (ix l (c : Int)) < lotV y.1 (ix l ((d + m - 1 - c : Nat) : Int)) := hq
      rw [hJ]
      refine IFB.mk (fun hc2 => ?_) (fun hc2 => ?_)
      · have hv : ¬ lotV y.1 (ix l (c : Int)) < lotV y.1 (ix l ((d + m - 1 - c : Nat) : Int)) := fun hh => by
          have := hq.2 hh
          simp at hc2; omega
        show rec (IntKind.i64.wrap ((c : Int) + 1)) _
        rw [wrapS (by omega)]
        exact hrec (((c + 1 : Nat) : Int), (r : Int), ()) ⟨c + 1, r, rfl, rfl, by omega, by omega, i5, .inr ⟨c, rfl, by rw [show d + m - (c + 1) = d + m - 1 - c by omega]; exact hv⟩, i7⟩ (by show (r : Int).toNat - ((c + 1 : Nat) : Int).toNat < (r : Int).toNat - (s : Int).toNat; omega)
      · have hv := hq.1 (by simpa using hc2)
        exact hrec ((s : Int), (c : Int), ()) ⟨s, c, rfl, rfl, i3, by omega, by omega, i6, .inr hv⟩ (by show (c : Int).toNat - (s : Int).toNat < (r : Int).toNat - (s : Int).toNat; omega)
    · have hb : ¬ (s : Int) < (r : Int) := of_decide_eq_false hb
      have hij : s = r := by omega
      subst hij
      dsimp only
      rw [wB (i := d + m) (by omega) (by omega)]
      obtain ⟨e2, he2⟩ : ∃ e2, d + m - s = e2 := ⟨_, rfl⟩
      rw [he2] at i6 ⊢
      have k1 : m ≤ e2 := by omega
      have k2 : e2 ≤ b := by omega
      have xs : X = X.take (s - a) ++ X.drop (s - a) := (List.take_append_drop _ _).symm
      have ys : Y = Y.take (e2 - m) ++ Y.drop (e2 - m) := (List.take_append_drop _ _).symm
      have x1 : (X.take (s - a)).length = s - a := by rw [List.length_take]; omega
      have x2 : (X.drop (s - a)).length = m - s := by rw [List.length_drop]; clear i6 i7; omega
      have y1 : (Y.take (e2 - m)).length = e2 - m := by rw [List.length_take]; clear i6 i7; omega
      have y2 : (Y.drop (e2 - m)).length = b - e2 := by rw [List.length_drop]; clear i6 i7; omega
      generalize X.take (s - a) = X1 at xs x1
      generalize X.drop (s - a) = X2 at xs x2
      generalize Y.take (e2 - m) = Y1 at ys y1
      generalize Y.drop (e2 - m) = Y2 at ys y2
      subst xs ys
      have q1 : X1 = [] ∨ Y2 = [] ∨ ∃ A x w B, X1 = A ++ [x] ∧ Y2 = w :: B ∧ ¬ lotV y.1 x < lotV y.1 w := by
        rcases i6 with i6 | ⟨k, hk, hv⟩
        · rcases g6 with g6 | g6
          · exact .inl (List.eq_nil_of_length_eq_zero (by omega))
          · exact .inr (.inl (List.eq_nil_of_length_eq_zero (by omega)))
        · rcases List.eq_nil_or_concat X1 with h0 | ⟨A, x, h0⟩
          · exact .inl h0
          · cases Y2 with
            | nil => exact .inr (.inl rfl)
            | cons w B =>
              have h1 : X1 = A ++ [x] := by simpa using h0
              refine .inr (.inr ⟨A, x, w, B, h1, rfl, ?_⟩)
              have e1 : ix l (k : Int) = x := by
                rw [e, h1, show P ++ (A ++ [x] ++ X2) ++ (Y1 ++ w :: B) ++ Q = (P ++ A) ++ x :: (X2 ++ (Y1 ++ w :: B) ++ Q) by simp]
                exact ix_appL (by rw [h1] at x1; simp at x1 ⊢; omega)
              have e3 : ix l (e2 : Int) = w := by
                rw [e, show P ++ (X1 ++ X2) ++ (Y1 ++ w :: B) ++ Q = (P ++ X1 ++ X2 ++ Y1) ++ w :: (B ++ Q) by simp]
                exact ix_appL (by simp; omega)
              rw [e1, e3] at hv
              exact hv
      have q2 : X2 = [] ∨ Y1 = [] ∨ ∃ x B A w, X2 = x :: B ∧ Y1 = A ++ [w] ∧ lotV y.1 x < lotV y.1 w := by
        rcases i7 with i7 | hv
        · rcases g7 with g7 | g7
          · exact .inl (List.eq_nil_of_length_eq_zero (by omega))
          · exact .inr (.inl (List.eq_nil_of_length_eq_zero (by omega)))
        · rcases List.eq_nil_or_concat Y1 with h0 | ⟨A, w, h0⟩
          · exact .inr (.inl h0)
          · cases X2 with
            | nil => exact .inl rfl
            | cons x B =>
              have h1 : Y1 = A ++ [w] := by simpa using h0
              refine .inr (.inr ⟨x, B, A, w, rfl, h1, ?_⟩)
              have e1 : ix l (s : Int) = x := by
                rw [e, show P ++ (X1 ++ x :: B) ++ (Y1 ++ Y2) ++ Q = (P ++ X1) ++ x :: (B ++ (Y1 ++ Y2) ++ Q) by simp]
                exact ix_appL (by simp; omega)
              have e3 : ix l ((d + m - 1 - s : Nat) : Int) = w := by
                rw [e, h1, show P ++ (X1 ++ x :: B) ++ (A ++ [w] ++ Y2) ++ Q = (P ++ (X1 ++ x :: B) ++ A) ++ w :: (Y2 ++ Q) by simp]
                exact ix_appL (by rw [h1] at y1; simp at y1 x2 ⊢; omega)
              rw [e1, e3] at hv
              exact hv
      obtain ⟨x3, x4, x5⟩ := List.pairwise_append.1 hX
      obtain ⟨y3, y4, y5⟩ := List.pairwise_append.1 hY
      -- behind both merges
      have last : ∀ Z1 Z2 : List Int, Z1.Perm (X1 ++ Y1) → srtR (lotV y.1) Z1 → Z2.Perm (X2 ++ Y2) → srtR (lotV y.1) Z2 → post (P ++ Z1 ++ Z2 ++ Q) := fun Z1 Z2 z1 z2 z3 z4 => by
        obtain ⟨w1, w2⟩ := sym_split hX hY hc q1 q2 z1 z2 z3 z4
        have := hfin _ w1 w2
        rwa [← List.append_assoc P] at this
      have second : ∀ (J25 : Prop) (Z1 D2 : List Int), D2 = P ++ Z1 ++ X2 ++ Y2 ++ Q → Z1.Perm (X1 ++ Y1) → srtR (lotV y.1) Z1 → IFB (decide ((d : Int) < (e2 : Int)) && decide ((e2 : Int) < (b : Int))) (syOK n y.1 D2 (d : Int) (e2 : Int) (b : Int) ∧ ∀ l' : List Int, ordQ y.1 D2 (d : Int) (b : Int) l' → post l') (post D2) := fun _ Z1 D2 hD2 z1 z2 => by
        have zl := z1.length_eq
        rw [List.length_append] at zl
        have hsub : ∀ v ∈ D2, v ∈ l := fun v hv => by
          rw [hD2] at hv
          rw [e]
          simp only [List.mem_append] at hv ⊢
          have := fun h => (z1.mem_iff (a := v)).1 h
          simp only [List.mem_append] at this
          grind
        have hD3 : D2 = (P ++ Z1) ++ (X2 ++ Y2) ++ Q := by rw [hD2]; simp
        have s1 : sgN D2 (d : Int) (e2 : Int) = X2 := by
          rw [hD2, List.append_assoc (P ++ Z1 ++ X2)]
          exact sgN_mid (by simp; omega) (by simp; omega)
        have s2 : sgN D2 (e2 : Int) (b : Int) = Y2 := by
          rw [hD2]
          exact sgN_mid (by simp; omega) (by simp; omega)
        have hDl : D2.length = l.length := by rw [hD2, e]; simp <;> omega
        refine IFB.mk (fun hc2 => ?_) (fun hc2 => ?_)
        · simp only [Bool.and_eq_true, decide_eq_true_iff] at hc2
          refine ⟨⟨by omega, by omega, by omega, by omega, by omega, by omega, ⟨h7, fun v hv => h8 v (hsub v hv)⟩, by rw [s1]; exact x4, by rw [s2]; exact y4, fun u hu w hw => ?_⟩, fun l' hq => ?_⟩
          · rw [s1] at hu
            rw [s2] at hw
            exact hc u (by simp [hu]) w (by simp [hw])
          · rw [hD3] at hq
            obtain ⟨Z2, z3, z4, z5⟩ := ord_mid (by simp; omega) (by simp; omega) hq
            rw [z5]
            exact last Z1 Z2 z1 z2 z3 z4
        · have : X2 = [] ∨ Y2 = [] := by
            rcases Nat.lt_or_ge d e2 with h | h
            · right
              refine List.eq_nil_of_length_eq_zero ?_
              by_cases hb5 : e2 < b
              · exfalso
                rw [decide_eq_true (by omega), decide_eq_true (by omega)] at hc2
                cases hc2
              · omega
            · left
              exact List.eq_nil_of_length_eq_zero (by omega)
          rw [hD2]
          rcases this with h | h
          · rw [h, List.append_nil]
            exact last Z1 Y2 z1 z2 (by rw [h]; exact .refl _) y4
          · rw [h, List.append_nil]
            exact last Z1 X2 z1 z2 (by rw [h, List.append_nil]) x4
      refine JOIN.opqL fun (J35 : List Int → Prop) hJ35 => ?_
      have first : J35 (P ++ X1 ++ Y1 ++ X2 ++ Y2 ++ Q) := by
        rw [hJ35]
        refine JOIN.opqL fun (J30 : List Int → Prop) hJ30 => ?_
        have fin2 : ∀ Z1 : List Int, Z1.Perm (X1 ++ Y1) → srtR (lotV y.1) Z1 → J30 (P ++ Z1 ++ X2 ++ Y2 ++ Q) := fun Z1 z1 z2 => by
          rw [hJ30]
          exact second True Z1 _ rfl z1 z2
        have hD3 : P ++ X1 ++ Y1 ++ X2 ++ Y2 ++ Q = P ++ (X1 ++ Y1) ++ (X2 ++ Y2 ++ Q) := by simp
        have s1 : sgN (P ++ X1 ++ Y1 ++ X2 ++ Y2 ++ Q) (a : Int) (s : Int) = X1 := by
          rw [show P ++ X1 ++ Y1 ++ X2 ++ Y2 ++ Q = P ++ X1 ++ (Y1 ++ X2 ++ Y2 ++ Q) by simp]
          exact sgN_mid p1.symm (by omega)
        have s2 : sgN (P ++ X1 ++ Y1 ++ X2 ++ Y2 ++ Q) (s : Int) (d : Int) = Y1 := by
          rw [show P ++ X1 ++ Y1 ++ X2 ++ Y2 ++ Q = (P ++ X1) ++ Y1 ++ (X2 ++ Y2 ++ Q) by simp]
          exact sgN_mid (by simp; omega) (by simp; omega)
        have hDl : (P ++ X1 ++ Y1 ++ X2 ++ Y2 ++ Q).length = l.length := by rw [e]; simp <;> omega
        refine IFB.mk (fun hc2 => ?_) (fun hc2 => ?_)
        · simp only [Bool.and_eq_true, decide_eq_true_iff] at hc2
          refine ⟨⟨by omega, by omega, by omega, by omega, by omega, by omega, ⟨h7, fun v hv => h8 v ?_⟩, ?_, ?_, fun u hu w hw => ?_⟩, fun l' hq => ?_⟩
          · rw [e]
            simp only [List.mem_append] at hv ⊢
            grind
          · rw [s1]; exact x3
          · rw [s2]; exact y3
          · rw [s1] at hu
            rw [s2] at hw
            exact hc u (by simp [hu]) w (by simp [hw])
          · rw [hD3] at hq
            obtain ⟨Z1, z3, z4, z5⟩ := ord_mid p1.symm (by simp; omega) hq
            rw [z5]
            have := fin2 Z1 z3 z4
            have e9 : P ++ Z1 ++ (X2 ++ Y2 ++ Q) = P ++ Z1 ++ X2 ++ Y2 ++ Q := by simp
            rw [e9]; exact this
        · have : X1 = [] ∨ Y1 = [] := by
            rcases Nat.lt_or_ge a s with h | h
            · right
              refine List.eq_nil_of_length_eq_zero ?_
              by_cases hb5 : s < d
              · exfalso
                rw [decide_eq_true (by omega), decide_eq_true (by omega)] at hc2
                cases hc2
              · omega
            · left
              exact List.eq_nil_of_length_eq_zero (by omega)
          rcases this with h | h
          · have := fin2 Y1 (by rw [h]; exact .refl _) y3
            rw [h, List.append_nil]; exact this
          · have := fin2 X1 (by rw [h, List.append_nil]) x3
            rw [h, List.append_nil]; exact this
      refine IFB.mk (fun hc2 => ?_) (fun hc2 => ?_)
      · simp only [Bool.and_eq_true, decide_eq_true_iff] at hc2
        refine ⟨⟨by omega, by omega, by omega, by omega, by omega⟩, ?_⟩
        have er : roN l (s : Int) (m : Int) (e2 : Int) = P ++ X1 ++ Y1 ++ X2 ++ Y2 ++ Q := by
          unfold roN
          rw [Int.toNat_natCast, Int.toNat_natCast, Int.toNat_natCast, e, show P ++ (X1 ++ X2) ++ (Y1 ++ Y2) ++ Q = (P ++ X1) ++ X2 ++ Y1 ++ (Y2 ++ Q) by simp, rotL_parts (by simp; omega) (by simp; omega) (by simp; omega)]
          simp
        rw [er]; exact first
      · have : X2 = [] ∨ Y1 = [] := by
          rcases Nat.lt_or_ge s m with h | h
          · right
            refine List.eq_nil_of_length_eq_zero ?_
            by_cases hb5 : m < e2
            · exfalso
              rw [decide_eq_true (by omega), decide_eq_true (by omega)] at hc2
              cases hc2
            · omega
          · left
            exact List.eq_nil_of_length_eq_zero (by omega)
        have el : l = P ++ X1 ++ Y1 ++ X2 ++ Y2 ++ Q := by
          rw [e]
          rcases this with h | h <;> rw [h] <;> simp
        rw [← el] at first
        exact first
  refine IFB.mk (fun hb4 => ?_) (fun hb4 => ?_)
  · have hb4 : (d : Int) < (m : Int) := of_decide_eq_true hb4
    rw [wB (i := d + m) (by omega) (by omega)]
    exact main d (d + m - b) (by omega) (by omega) (by omega) (Nat.le_refl _) (by omega) (.inr (by omega)) (.inr rfl)
  · have hb4 : ¬ (d : Int) < (m : Int) := of_decide_eq_false hb4
    exact main m a (Nat.le_refl _) (by omega) (Nat.le_refl _) (by omega) (by omega) (.inl rfl) (.inl rfl)
theorem gsym_zero (l : List Int) (a m b : Int) (y : api_Entitlements) (post : List Int → Prop) (h : gsym_P 0 l a m b y post) : False := by
  obtain ⟨⟨h1, h2, h3, h4, h5, _⟩, _⟩ := h
  omega
theorem gsym_ok : ∀ n : Nat, Spec5OK Try.prog (gsym_sp n)
  | 0 => fun l x y post hp => (gsym_zero _ _ _ _ _ _ hp).elim
  | n + 1 => gsym_of (gsym_ok n) fun l a m b y post hp => gsym_step l a m b y post hp

def gstb_P (l : List (Int)) (n : Int) (y : api_Entitlements) (post : List (Int) → Prop) : Prop := stOK y.1 l n ∧ ∀ l' : List Int, stQ y.1 l l' → post l'
def gstb_sp : Spec5 := ⟨76, 3, .int .i64, [.int .i64], 66, .st .api_Entitlements, fun l x y post => gstb_P (l : List (Int)) (x.1 : Int) (y : api_Entitlements) post⟩
def gstb_C : CtxR := ⟨tau, [rule5 gins_sp, rule5 (gsym_sp 1000000)], lookJ [(0, 15, ⟨[(6, .dat (.int .i64))], [], [28, 29, 30, 31, 32, 48, 47, 46, 45, 44, 43, 42, 41, 40, 39, 38, 37, 36, 7, 8, 33, 34, 35, 60, 59, 58, 57, 56, 55, 54, 53, 52, 9, 51, 50, 49, 61, 62], [], [(0, 3, (.int .i64))]⟩), (0, 32, ⟨[], [], [49, 50, 51, 9, 52, 53, 54, 55, 56, 57, 58, 59, 60], [], [(0, 3, (.int .i64))]⟩), (0, 19, ⟨[(8, .dat (.int .i64)), (7, .dat (.int .i64))], [], [33, 34, 35, 36, 37, 38, 39, 40, 41, 42, 43, 44, 45, 46, 47, 48], [], [(0, 3, (.int .i64))]⟩), (0, 5, ⟨[(8, .dat (.int .i64)), (7, .dat (.int .i64))], [], [11, 12, 13, 14, 15, 16, 17, 18, 19, 20, 21, 22], [], [(0, 3, (.int .i64))]⟩)]⟩
def gstb_W (l : List (Int)) (n : Int) (y : api_Entitlements) (post : List (Int) → Prop) : Prop := Nat.le ((1 : Nat)) ((1 : Nat)) → LOOP [Ty.int IntKind.i64, Ty.int IntKind.i64, (Ty.int IntKind.i64).sl] (fun (rec1 : Int → Int → List Int → Prop) (z2 z3 : Int) (z4 : List Int) ↦ IFB (decide (z2 ≤ n)) (((0 : Int) ≤ z3 ∧ z3 ≤ z2 ∧ z2 ≤ (↑z4.length : Int) ∧ z4.length ≤ (1000000 : Nat) ∧ (y.1.length ≤ (1000000 : Nat) ∧ ∀ (v5 : Int), v5 ∈ z4 → (0 : Int) ≤ v5 ∧ v5 < (↑y.1.length : Int)) ∧ List.Pairwise (fun (x1 x2 : Int) ↦ x1 < x2) (sgN z4 z3 z2)) ∧ ∀ (v6 : List Int), ordQ y.1 z4 z3 z2 v6 → rec1 (IntKind.i64.wrap (z2 + (20 : Int))) z2 v6) (((0 : Int) ≤ z3 ∧ z3 ≤ n ∧ n ≤ (↑z4.length : Int) ∧ z4.length ≤ (1000000 : Nat) ∧ (y.1.length ≤ (1000000 : Nat) ∧ ∀ (v7 : Int), v7 ∈ z4 → (0 : Int) ≤ v7 ∧ v7 < (↑y.1.length : Int)) ∧ List.Pairwise (fun (x1 x2 : Int) ↦ x1 < x2) (sgN z4 z3 n)) ∧ ∀ (v8 : List Int), ordQ y.1 z4 z3 n v8 → LOOP [Ty.int IntKind.i64, (Ty.int IntKind.i64).sl] (fun (rec9 : Int → List Int → Prop) (z10 : Int) (z11 : List Int) ↦ IFB (decide (z10 < n)) (LOOP [Ty.int IntKind.i64, Ty.int IntKind.i64, (Ty.int IntKind.i64).sl] (fun (rec12 : Int → Int → List Int → Prop) (z13 z14 : Int) (z15 : List Int) ↦ IFB (decide (z13 ≤ n)) (((0 : Int) ≤ z14 ∧ z14 < IntKind.i64.wrap (z14 + z10) ∧ IntKind.i64.wrap (z14 + z10) < z13 ∧ z13 ≤ (↑z15.length : Int) ∧ z13 ≤ z14 + (1000000 : Int) ∧ z15.length ≤ (1000000 : Nat) ∧ (y.1.length ≤ (1000000 : Nat) ∧ ∀ (v16 : Int), v16 ∈ z15 → (0 : Int) ≤ v16 ∧ v16 < (↑y.1.length : Int)) ∧ srtR (lotV y.1) (sgN z15 z14 (IntKind.i64.wrap (z14 + z10))) ∧ srtR (lotV y.1) (sgN z15 (IntKind.i64.wrap (z14 + z10)) z13) ∧ ∀ (v17 : Int), v17 ∈ sgN z15 z14 (IntKind.i64.wrap (z14 + z10)) → ∀ (v18 : Int), v18 ∈ sgN z15 (IntKind.i64.wrap (z14 + z10)) z13 → v17 < v18) ∧ ∀ (v19 : List Int), ordQ y.1 z15 z14 z13 v19 → rec12 (IntKind.i64.wrap (z13 + IntKind.i64.wrap ((2 : Int) * z10))) z13 v19) (JOIN [(Ty.int IntKind.i64).sl] (fun (y20 : List Int) ↦ rec9 (IntKind.i64.wrap (z10 * (2 : Int))) y20) fun (J21 : List Int → Prop) ↦ IFB (decide (IntKind.i64.wrap (z14 + z10) < n)) (((0 : Int) ≤ z14 ∧ z14 < IntKind.i64.wrap (z14 + z10) ∧ IntKind.i64.wrap (z14 + z10) < n ∧ n ≤ (↑z15.length : Int) ∧ n ≤ z14 + (1000000 : Int) ∧ z15.length ≤ (1000000 : Nat) ∧ (y.1.length ≤ (1000000 : Nat) ∧ ∀ (v22 : Int), v22 ∈ z15 → (0 : Int) ≤ v22 ∧ v22 < (↑y.1.length : Int)) ∧ srtR (lotV y.1) (sgN z15 z14 (IntKind.i64.wrap (z14 + z10))) ∧ srtR (lotV y.1) (sgN z15 (IntKind.i64.wrap (z14 + z10)) n) ∧ ∀ (v23 : Int), v23 ∈ sgN z15 z14 (IntKind.i64.wrap (z14 + z10)) → ∀ (v24 : Int), v24 ∈ sgN z15 (IntKind.i64.wrap (z14 + z10)) n → v23 < v24) ∧ ∀ (v25 : List Int), ordQ y.1 z15 z14 n v25 → J21 v25) (J21 z15))) (IntKind.i64.wrap ((2 : Int) * z10), (0 : Int), z11, PUnit.unit)) (post z11)) ((20 : Int), v8, PUnit.unit))) ((20 : Int), (0 : Int), l, PUnit.unit)
theorem gstb_w (l : List (Int)) (n : Int) (y : api_Entitlements) (post : List (Int) → Prop) : gstb_W l n y post = walk5 (callR Try.prog gstb_C (drawR Try.prog tau) 8 0) gstb_sp l (n, ()) y post := by kernel_rfl
theorem gstb_of (h : ∀ (l : List (Int)) (n : Int) (y : api_Entitlements) (post : List (Int) → Prop), gstb_P l n y post → gstb_W l n y post) : Spec5OK Try.prog gstb_sp := Spec5OK.of_rules (C := gstb_C) (dr := drawR Try.prog tau) (n := 8) (fk := 0) (.cons (rule5_ok gins_ok) (.cons (rule5_ok (gsym_ok 1000000)) .nil)) (drawR_ok tau) fun l x y post hp => HoldW.of (gstb_w l x.1 y post) (h l x.1 y post hp)
/-- What the merge's contract asks, out of blocks in order. -/
theorem sy_of {y : api_Entitlements} {L D : List Int} {s k0 m b : Nat} (hL : L.Pairwise (· < ·)) (hin : inL y.1 L) (hp : D.Perm L) (hl : D.length ≤ 100000) (hs : 0 < s) (h : mixP (lotV y.1) L D s k0) (hm : m = k0 * (2 * s) + s) (hb : b = (k0 + 1) * (2 * s) ∨ (b = D.length ∧ b ≤ (k0 + 1) * (2 * s))) (hmb : m < b) (hbl : b ≤ D.length) : syOK 1000000 y.1 D ((k0 * (2 * s) : Nat) : Int) (m : Int) (b : Int) := by
  obtain ⟨h0, h1, h2⟩ := h
  have hk1 : (k0 + 1) * (2 * s) = k0 * (2 * s) + 2 * s := Nat.succ_mul _ _
  obtain ⟨pa, sa⟩ := h2 (2 * k0) (Nat.le_refl _)
  obtain ⟨pb, sb⟩ := h2 (2 * k0 + 1) (by omega)
  have e3 : 2 * k0 * s = k0 * (2 * s) := by rw [Nat.mul_comm 2 k0, Nat.mul_assoc]
  have e4 : (2 * k0 + 1) * s = m := by rw [Nat.add_mul, e3, Nat.one_mul]; omega
  have e5 : (2 * k0 + 1 + 1) * s = (k0 + 1) * (2 * s) := by rw [show 2 * k0 + 1 + 1 = 2 * (k0 + 1) by omega, Nat.mul_comm 2 (k0 + 1), Nat.mul_assoc]
  rw [e3, e4] at pa sa
  rw [e4, e5] at pb sb
  have e6 : ∀ l : List Int, l.length = D.length → seg l m ((k0 + 1) * (2 * s)) = seg l m b := fun l hl => by
    rcases hb with hb | ⟨hb, hb2⟩
    · rw [hb]
    · unfold seg
      rw [List.take_of_length_le (by omega), List.take_of_length_le (by omega)]
  rw [e6 D rfl, e6 L h0.symm] at pb
  rw [e6 D rfl] at sb
  unfold syOK sgN
  rw [Int.toNat_natCast, Int.toNat_natCast, Int.toNat_natCast]
  refine ⟨by omega, by omega, by omega, by omega, by omega, by omega, ⟨hin.1, fun d hd => hin.2 d (hp.mem_iff.1 hd)⟩, sa, sb, fun u hu w hw => ?_⟩
  exact seg_lt hL (by omega) (by omega) (pa.mem_iff.1 hu) (pb.mem_iff.1 hw)
set_option maxHeartbeats 2000000 in
theorem gstb_ok : Spec5OK Try.prog gstb_sp := gstb_of fun l n y post hp => by
  obtain ⟨⟨hn, hl, hin, hasc⟩, hp⟩ := hp
  subst hn
  unfold gstb_W
  have hmem : ∀ D : List Int, D.Perm l → inL y.1 D := fun D hD => ⟨hin.1, fun d hd => hin.2 d (hD.mem_iff.1 hd)⟩
  have merge : ∀ D0 : List Int, D0.Perm l → blkP (lotV y.1) l D0 20 → LOOP [Ty.int IntKind.i64, (Ty.int IntKind.i64).sl] (fun (rec9 : Int → List Int → Prop) (z10 : Int) (z11 : List Int) ↦ IFB (decide (z10 < (l.length : Int))) (LOOP [Ty.int IntKind.i64, Ty.int IntKind.i64, (Ty.int IntKind.i64).sl] (fun (rec12 : Int → Int → List Int → Prop) (z13 z14 : Int) (z15 : List Int) ↦ IFB (decide (z13 ≤ (l.length : Int))) (syOK 1000000 y.1 z15 z14 (IntKind.i64.wrap (z14 + z10)) z13 ∧ ∀ l' : List Int, ordQ y.1 z15 z14 z13 l' → rec12 (IntKind.i64.wrap (z13 + IntKind.i64.wrap ((2 : Int) * z10))) z13 l') (JOIN [(Ty.int IntKind.i64).sl] (fun (y20 : List Int) ↦ rec9 (IntKind.i64.wrap (z10 * (2 : Int))) y20) fun (J21 : List Int → Prop) ↦ IFB (decide (IntKind.i64.wrap (z14 + z10) < (l.length : Int))) (syOK 1000000 y.1 z15 z14 (IntKind.i64.wrap (z14 + z10)) (l.length : Int) ∧ ∀ l' : List Int, ordQ y.1 z15 z14 (l.length : Int) l' → J21 l') (J21 z15))) (IntKind.i64.wrap ((2 : Int) * z10), (0 : Int), z11, PUnit.unit)) (post z11)) ((20 : Int), D0, PUnit.unit) := fun D0 hD0 hB0 => by
    refine LOOP.fuel (fun u => ∃ s : Nat, u.1 = (s : Int) ∧ 0 < s ∧ s ≤ 400000 ∧ (u.2.1 : List Int).Perm l ∧ blkP (lotV y.1) l (u.2.1 : List Int) s) (fun u => l.length - Int.toNat u.1) ⟨20, rfl, by decide, by decide, hD0, hB0⟩ ?_
    rintro rec ⟨(z : Int), (D : List Int), ⟨⟩⟩ ⟨s, s1, s2, s3, s4, s5⟩ hrec
    have j1 : z = (s : Int) := s1
    have j4 : D.Perm l := s4
    have j5 : blkP (lotV y.1) l D s := s5
    clear s1 s4 s5
    subst j1
    have hDl := j5.1
    refine IFB.mk (fun hb => ?_) (fun hb => ?_)
    · have hb : (s : Int) < l.length := of_decide_eq_true hb
      dsimp only
      have w2 : IntKind.i64.wrap ((2 : Int) * (s : Int)) = ((2 * s : Nat) : Int) := by rw [wrap_in (by omega) (by omega)]; omega
      rw [w2]
      refine LOOP.fuel (fun u => ∃ k : Nat, u.1 = (((k + 1) * (2 * s) : Nat) : Int) ∧ u.2.1 = ((k * (2 * s) : Nat) : Int) ∧ (u.2.2.1 : List Int).Perm l ∧ mixP (lotV y.1) l (u.2.2.1 : List Int) s k ∧ k * (2 * s) ≤ l.length) (fun u => l.length + 2 * s + 1 - Int.toNat u.1) ⟨0, by show ((2 * s : Nat) : Int) = _; omega, by show (0 : Int) = _; omega, j4, mix_start j5, by omega⟩ ?_
      rintro rec2 ⟨(zb : Int), (za : Int), (E : List Int), ⟨⟩⟩ ⟨k, k1, k2, k3, k4, k5⟩ hrec2
      have i1 : zb = (((k + 1) * (2 * s) : Nat) : Int) := k1
      have i2 : za = ((k * (2 * s) : Nat) : Int) := k2
      have i3 : E.Perm l := k3
      have i4 : mixP (lotV y.1) l E s k := k4
      clear k1 k2 k3 k4
      subst i1 i2
      have hEl := i4.1
      have hk1 : (k + 1) * (2 * s) = k * (2 * s) + 2 * s := Nat.succ_mul _ _
      have w3 : IntKind.i64.wrap (((k * (2 * s) : Nat) : Int) + (s : Int)) = ((k * (2 * s) + s : Nat) : Int) := wA (by omega)
      have cont : ∀ E' : List Int, E'.Perm l → blkP (lotV y.1) l E' (2 * s) → rec (IntKind.i64.wrap ((s : Int) * (2 : Int))) E' := fun E' q1 q2 => by
        have w4 : IntKind.i64.wrap ((s : Int) * (2 : Int)) = ((2 * s : Nat) : Int) := by rw [wrap_in (by omega) (by omega)]; omega
        rw [w4]
        exact hrec (((2 * s : Nat) : Int), E', ()) ⟨2 * s, rfl, by omega, by omega, q1, q2⟩ (by show l.length - ((2 * s : Nat) : Int).toNat < l.length - (s : Int).toNat; omega)
      refine IFB.mk (fun hc => ?_) (fun hc => ?_)
      · have hc : (((k + 1) * (2 * s) : Nat) : Int) ≤ l.length := of_decide_eq_true hc
        dsimp only
        rw [w3]
        refine ⟨sy_of hasc hin i3 (by omega) s2 i4 rfl (.inl rfl) (by omega) (by omega), fun l' hq => ?_⟩
        obtain ⟨Z, z1, z2, z3, z4⟩ := ord_perm (by omega) (by omega) hq
        have hst := mix_step s2 i4 rfl (.inl rfl) (by omega) (by omega) (by rw [← seg_split E (by omega) (by omega)]; exact z1) z2
        rw [← z3] at hst
        have w5 : IntKind.i64.wrap ((((k + 1) * (2 * s) : Nat) : Int) + ((2 * s : Nat) : Int)) = (((k + 1 + 1) * (2 * s) : Nat) : Int) := by
          rw [wA (by omega), Nat.succ_mul (k + 1)]
        rw [w5]
        exact hrec2 ((((k + 1 + 1) * (2 * s) : Nat) : Int), (((k + 1) * (2 * s) : Nat) : Int), l', ()) ⟨k + 1, rfl, rfl, z4.trans i3, hst, by omega⟩ (by
          show l.length + 2 * s + 1 - (((k + 1 + 1) * (2 * s) : Nat) : Int).toNat < l.length + 2 * s + 1 - (((k + 1) * (2 * s) : Nat) : Int).toNat
          have h9 : (k + 1 + 1) * (2 * s) = (k + 1) * (2 * s) + 2 * s := Nat.succ_mul _ _
          have hc9 : (k + 1) * (2 * s) ≤ l.length := by omega
          generalize (k + 1 + 1) * (2 * s) = A at h9 ⊢
          generalize (k + 1) * (2 * s) = B at h9 hc9 ⊢
          omega)
      · have hc : ¬ (((k + 1) * (2 * s) : Nat) : Int) ≤ l.length := of_decide_eq_false hc
        dsimp only
        rw [w3]
        refine JOIN.opqL fun (J : List Int → Prop) hJ => IFB.mk (fun hd => ?_) (fun hd => ?_)
        · have hd : ((k * (2 * s) + s : Nat) : Int) < l.length := of_decide_eq_true hd
          have hbE : l.length = E.length := hEl.symm
          rw [hbE]
          refine ⟨sy_of hasc hin i3 (by omega) s2 i4 rfl (.inr ⟨rfl, by omega⟩) (by omega) (by omega), fun l' hq => ?_⟩
          obtain ⟨Z, z1, z2, z3, z4⟩ := ord_perm (by omega) (by omega) hq
          have hst := mix_step s2 i4 rfl (.inr ⟨rfl, by omega⟩) (by omega) (by omega) (by rw [← seg_split E (by omega) (by omega)]; exact z1) z2
          rw [← z3] at hst
          rw [hJ]
          exact cont l' (z4.trans i3) (mix_end hst (by have := hst.1; omega) s2)
        · have hd : ¬ ((k * (2 * s) + s : Nat) : Int) < l.length := of_decide_eq_false hd
          rw [hJ]
          exact cont E i3 (mix_end i4 (by omega) s2)
    · have hb : ¬ (s : Int) < l.length := of_decide_eq_false hb
      exact hp D (blk_done j5 (by omega))
  refine fun _ => LOOP.fuel (fun u => ∃ k : Nat, u.1 = ((20 * (k + 1) : Nat) : Int) ∧ u.2.1 = ((20 * k : Nat) : Int) ∧ 20 * k ≤ l.length ∧ (u.2.2.1 : List Int).Perm l ∧ insI (lotV y.1) l (u.2.2.1 : List Int) 20 k) (fun u => l.length + 40 - Int.toNat u.1) ⟨0, rfl, rfl, Nat.zero_le _, .refl _, rfl, fun j hj => absurd hj (Nat.not_lt_zero j), rfl⟩ ?_
  rintro rec ⟨(zb : Int), (za : Int), (D : List Int), ⟨⟩⟩ ⟨k, k1, k2, k3, k4, k5⟩ hrec
  have i1 : zb = ((20 * (k + 1) : Nat) : Int) := k1
  have i2 : za = ((20 * k : Nat) : Int) := k2
  have i4 : D.Perm l := k4
  have i5 : insI (lotV y.1) l D 20 k := k5
  clear k1 k2 k4 k5
  subst i1 i2
  have hDl := i5.1
  have hseg : ∀ b : Nat, seg D (20 * k) b = seg l (20 * k) b := fun b => seg_of_drop (by rw [Nat.mul_comm 20 k]; exact i5.2.2)
  refine IFB.mk (fun hb => ?_) (fun hb => ?_)
  · have hb : ((20 * (k + 1) : Nat) : Int) ≤ l.length := of_decide_eq_true hb
    dsimp only
    refine ⟨⟨by omega, by omega, by omega, by omega, hmem D i4, ?_⟩, fun l' hq => ?_⟩
    · unfold sgN
      rw [Int.toNat_natCast, Int.toNat_natCast, hseg]
      exact seg_asc hasc
    · obtain ⟨Z, z1, z2, z3, z4⟩ := ord_perm (by omega) (by omega) hq
      have hst := ins_step (b := 20 * (k + 1)) i5 (.inl ⟨by omega, by omega⟩) (by rw [Nat.mul_comm k 20]; exact z1) z2
      rw [Nat.mul_comm k 20, ← z3] at hst
      have w5 : IntKind.i64.wrap (((20 * (k + 1) : Nat) : Int) + 20) = ((20 * (k + 1 + 1) : Nat) : Int) := by rw [wrap_in (by omega) (by omega)]; omega
      rw [w5]
      exact hrec (((20 * (k + 1 + 1) : Nat) : Int), ((20 * (k + 1) : Nat) : Int), l', ()) ⟨k + 1, rfl, rfl, by omega, z4.trans i4, hst⟩ (by show l.length + 40 - ((20 * (k + 1 + 1) : Nat) : Int).toNat < l.length + 40 - ((20 * (k + 1) : Nat) : Int).toNat; omega)
  · have hb : ¬ ((20 * (k + 1) : Nat) : Int) ≤ l.length := of_decide_eq_false hb
    dsimp only
    refine ⟨⟨by omega, by omega, by omega, by omega, hmem D i4, ?_⟩, fun l' hq => ?_⟩
    · unfold sgN
      rw [Int.toNat_natCast, Int.toNat_natCast, hseg]
      exact seg_asc hasc
    · obtain ⟨Z, z1, z2, z3, z4⟩ := ord_perm (by omega) (by omega) hq
      have hst := ins_step (b := l.length) i5 (.inr ⟨by omega, by omega, by omega⟩) (by rw [Nat.mul_comm k 20]; exact z1) z2
      rw [Nat.mul_comm k 20, ← z3] at hst
      exact merge l' (z4.trans i4) (ins_end hst (by have := hst.1; omega))

end RE
end Go.Proofs.Ytpnmiieohdkenaa
