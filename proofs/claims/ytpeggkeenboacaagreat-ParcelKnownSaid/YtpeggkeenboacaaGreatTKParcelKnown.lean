/-
  Chapter 10, in plain words: what was known on a day.
-/
import Derived.Test.YtpeggkeenboacaaGreatTGF
import Derived.Test.YtpeggkeenboacaaGreatTGW
set_option linter.unusedVariables false
set_option maxRecDepth 100000
namespace Go.Proofs.YtpeggkeenboacaaGreat
open Go.RowKit
namespace RE
open PL
namespace PL
def okD (d : Int) : Prop := 0 ≤ d ∧ d ≤ 36864
instance (d : Int) : Decidable (okD d) := by unfold okD; infer_instance
def badAt (l : List Ed) (i : Nat) : Prop := ¬ okD (ix l (i : Int)).Day ∨ ¬ okD (ix l (i : Int)).Known ∨ (0 < i ∧ (ix l (i : Int)).Known < (ix l ((i - 1 : Nat) : Int)).Known)
def badK (l : List Ed) : Prop := ∃ i, i < l.length ∧ badAt l i
/-- An edit put into a list, from the place j on to the left. -/
def bub (S : List Ed) (x : Ed) : Nat → List Ed
  | 0 => x :: S
  | j + 1 => if x.Day < (ix S (j : Int)).Day then bub S x j else S.take (j + 1) ++ x :: S.drop (j + 1)
def isE (l : List Ed) : List Ed := l.foldl (fun S x => bub S x S.length) []
def knownL (l : List Ed) (day : Int) : List Ed := l.filter fun e => decide (e.Known ≤ day)
open Classical in
noncomputable def knownS (l : List Ed) (day : Int) : List Ed × Int := if badK l ∨ ¬ okD day then ([], 9) else (isE (knownL l day), 0)
def kLe (a b : Ed) : Prop := a.Day < b.Day ∨ (a.Day = b.Day ∧ a.Known ≤ b.Known)
end PL
theorem bub_perm {S : List Ed} {x : Ed} : ∀ {j : Nat}, (bub S x j).Perm (x :: S)
  | 0 => List.Perm.refl _
  | j + 1 => by
    unfold bub
    split
    · exact bub_perm
    · have := List.perm_middle (a := x) (l₁ := S.take (j + 1)) (l₂ := S.drop (j + 1))
      rwa [List.take_append_drop] at this
theorem bub_len {S : List Ed} {x : Ed} {j : Nat} : (bub S x j).length = S.length + 1 := bub_perm.length_eq
theorem isE_app {l : List Ed} {x : Ed} : isE (l ++ [x]) = bub (isE l) x (isE l).length := by unfold isE; rw [List.foldl_append]; rfl
theorem isE_perm {l : List Ed} : (isE l).Perm l := by
  have key : ∀ (n : Nat) (l : List Ed), l.length = n → (isE l).Perm l := fun n => by
    induction n with
    | zero => intro l h; rw [List.length_eq_zero_iff.1 h]; exact List.Perm.refl _
    | succ n ih =>
      intro l h
      have hne : l ≠ [] := fun e => by rw [e] at h; cases h
      obtain ⟨m, x, e⟩ : ∃ m x, l = m ++ [x] := ⟨l.dropLast, l.getLast hne, (List.dropLast_concat_getLast hne).symm⟩
      subst e
      rw [List.length_append, List.length_singleton] at h
      rw [isE_app]
      exact (bub_perm.trans (List.Perm.cons x (ih m (by omega)))).trans (List.perm_append_comm (l₁ := [x]) (l₂ := m))
  exact key _ l rfl
theorem isE_len {l : List Ed} : (isE l).length = l.length := isE_perm.length_eq
theorem bub_srt {S : List Ed} {x : Ed} (h : S.Pairwise kLe) (hx : ∀ y ∈ S, y.Known ≤ x.Known) : ∀ {j : Nat}, j ≤ S.length → (∀ y ∈ S.drop j, x.Day < y.Day) → (bub S x j).Pairwise kLe
  | 0, _, hd => by
    refine List.pairwise_cons.2 ⟨fun y hy => .inl (hd y ?_), h⟩
    rw [List.drop_zero]; exact hy
  | j + 1, hj, hd => by
    have e : S.drop j = ix S (j : Int) :: S.drop (j + 1) := by rw [ix_lt (by omega)]; exact List.drop_eq_getElem_cons (by omega)
    unfold bub
    split
    · rename_i h1
      refine bub_srt h hx (by omega) (fun y hy => ?_)
      rw [e] at hy
      rcases List.mem_cons.1 hy with rfl | hy
      · exact h1
      · exact hd y hy
    · rename_i h1
      have h2 : (S.take (j + 1) ++ S.drop (j + 1)).Pairwise kLe := by rw [List.take_append_drop]; exact h
      obtain ⟨p1, p2, p3⟩ := List.pairwise_append.1 h2
      refine List.pairwise_append.2 ⟨p1, List.pairwise_cons.2 ⟨fun y hy => .inl (hd y hy), p2⟩, fun a ha b hb => ?_⟩
      rcases List.mem_cons.1 hb with rfl | hb
      · have hle : a.Day ≤ (ix S (j : Int)).Day := by
          rw [List.take_succ_eq_append_getElem (by omega)] at ha p1
          rcases List.mem_append.1 ha with ha2 | ha2
          · have := (List.pairwise_append.1 p1).2.2 a ha2 (S[j]'(by omega)) (by simp)
            rw [ix_lt (by omega)]
            unfold kLe at this; omega
          · rw [List.mem_singleton.1 ha2, ix_lt (by omega)]; exact Int.le_refl _
        have hk := hx a (List.mem_of_mem_take ha)
        unfold kLe; omega
      · exact p3 a ha b hb
theorem isE_srt {l : List Ed} (h : l.Pairwise fun a b => a.Known ≤ b.Known) : (isE l).Pairwise kLe := by
  have key : ∀ (n : Nat) (l : List Ed), l.length = n → (l.Pairwise fun a b => a.Known ≤ b.Known) → (isE l).Pairwise kLe := fun n => by
    induction n with
    | zero => intro l h _; rw [List.length_eq_zero_iff.1 h]; exact List.Pairwise.nil
    | succ n ih =>
      intro l h hp
      have hne : l ≠ [] := fun e => by rw [e] at h; cases h
      obtain ⟨m, x, e⟩ : ∃ m x, l = m ++ [x] := ⟨l.dropLast, l.getLast hne, (List.dropLast_concat_getLast hne).symm⟩
      subst e
      rw [List.length_append, List.length_singleton] at h
      obtain ⟨p1, _, p3⟩ := List.pairwise_append.1 hp
      rw [isE_app]
      refine bub_srt (ih m (by omega) p1) (fun y hy => p3 y (isE_perm.mem_iff.1 hy) x (by simp)) (Nat.le_refl _) (fun y hy => ?_)
      rw [List.drop_length] at hy; cases hy
  exact key _ l rfl h
/-! ### steps of the sort -/
theorem swap_at {P Q : List Ed} {a b : Ed} : ((P ++ a :: b :: Q).set (P.length + 1) a).set P.length b = P ++ b :: a :: Q := by
  rw [List.set_append_right _ _ (by omega), List.set_append_right _ _ (by omega)]
  simp
theorem at_mid {P Q : List Ed} {a : Ed} {k : Nat} (h : k = P.length) : ix (P ++ a :: Q) (k : Int) = a := by
  rw [ix_lt (by rw [List.length_append, List.length_cons]; omega)]
  subst h; simp
theorem bub_step {S R : List Ed} {x : Ed} {j : Nat} (hj : j + 1 ≤ S.length) :
    S.take (j + 1) ++ x :: (S.drop (j + 1) ++ R) = S.take j ++ ix S (j : Int) :: x :: (S.drop (j + 1) ++ R) ∧ S.take j ++ x :: ix S (j : Int) :: (S.drop (j + 1) ++ R) = S.take j ++ x :: (S.drop j ++ R) := by
  constructor
  · have e : S.take (j + 1) = S.take j ++ [ix S (j : Int)] := by rw [ix_lt (by omega)]; exact List.take_succ_eq_append_getElem (by omega)
    generalize S.drop (j + 1) = D
    rw [e, List.append_assoc]; rfl
  · have e : S.drop j = ix S (j : Int) :: S.drop (j + 1) := by rw [ix_lt (by omega)]; exact List.drop_eq_getElem_cons (by omega)
    rw [e]; rfl
end RE
end Go.Proofs.YtpeggkeenboacaaGreat
set_option maxRecDepth 100000
set_option linter.unusedVariables false
namespace Go.Proofs.YtpeggkeenboacaaGreat
open Go.RowKit
namespace RE
open PL

def pknown_P (l : List (api_Edit)) (day : Int) (post : List (api_Edit) → Int → Prop) : Prop := (l.length ≤ 19 ∧ ∀ e ∈ l, szE e) ∧ ∀ (x : List Ed) (g : Int), (x = (knownS l day).1 ∧ g = (knownS l day).2) → post x g
def pknown_sp : Spec := ⟨38, false, true, [.sl (.st .api_Edit), .int .i64], .tup [.dat (.sl (.st .api_Edit)), .dat (.int .i64)], fun x post => pknown_P (x.1 : List (api_Edit)) (x.2.1 : Int) (fun y0 y1 => post (y0, y1, ()))⟩
def pknown_C : CtxR := ⟨tau, [rule1 pclI_sp, rule1 pclR_sp, rule1 pcpy_sp, ruleNo 204], lookJ [(26610391412, 15, ⟨[(6, .dat (.int .i64))], [], [28, 29, 30, 31, 32, 48, 47, 46, 45, 44, 43, 42, 41, 40, 39, 38, 37, 36, 7, 8, 33, 34, 35, 60, 59, 58, 57, 56, 55, 54, 53, 52, 9, 51, 50, 49, 61, 62], [], []⟩), (26610391412, 19, ⟨[(8, .dat (.int .i64)), (7, .dat (.int .i64))], [], [33, 34, 35, 36, 37, 38, 39, 40, 41, 42, 43, 44, 45, 46, 47, 48], [], []⟩), (26610391412, 32, ⟨[], [], [49, 50, 51, 9, 52, 53, 54, 55, 56, 57, 58, 59, 60], [], []⟩), (27739763033922823, 3, ⟨[(8, .dat (.int .i64))], [], [12, 13, 14, 17, 36, 35, 52, 51, 50, 49, 48, 47, 46, 45, 44, 43, 42, 41, 40, 39, 38, 37, 9, 18, 19, 20, 21, 34, 22, 23, 24, 25, 26, 27, 28, 29, 30, 31, 32, 33, 15, 16], [], [(0, 25, (.st .api_Edit))]⟩), (27739763033922823, 9, ⟨[(9, .dat (.int .i64))], [], [18, 19, 20, 21, 34, 22, 23, 24, 25, 26, 27, 28, 29, 30, 31, 32, 33, 37, 38, 39, 40, 41, 42, 43, 44, 45, 46, 47, 48, 49, 50, 51, 52, 35, 36], [], [(0, 25, (.st .api_Edit))]⟩), (30144335528398783163330718548, 0, ⟨[(0, .dat (.int .i64))], [], [], [], []⟩), (26610391412, 5, ⟨[(8, .dat (.int .i64)), (7, .dat (.int .i64))], [], [11, 12, 13, 14, 15, 16, 17, 18, 19, 20, 21, 22], [], [(0, 25, (.st .api_Edit))]⟩), (27739763033919760, 3, ⟨[(8, .dat (.int .i64))], [], [12, 13, 14, 17, 36, 35, 52, 51, 50, 49, 48, 47, 46, 45, 44, 43, 42, 41, 40, 39, 38, 37, 9, 18, 19, 20, 21, 34, 22, 23, 24, 25, 26, 27, 28, 29, 30, 31, 32, 33, 15, 16], [], [(0, 25, (.st .api_Edit))]⟩), (27739763033919760, 9, ⟨[(9, .dat (.int .i64))], [], [18, 19, 20, 21, 34, 22, 23, 24, 25, 26, 27, 28, 29, 30, 31, 32, 33, 37, 38, 39, 40, 41, 42, 43, 44, 45, 46, 47, 48, 49, 50, 51, 52, 35, 36], [], [(0, 25, (.st .api_Edit))]⟩), (30144335528395454652571251245, 0, ⟨[(0, .dat (.int .i64))], [], [], [], []⟩), (0, 29, ⟨[(55, .dat (.int .i64)), (9, .own 25 (.st .api_Edit))], [], [56, 62, 61, 60, 59, 11, 58, 57, 89, 88, 87, 86, 75, 74, 76, 77, 78, 13, 12, 79, 80, 81, 82, 83, 84, 85, 73, 72, 71, 63, 64, 65, 66, 67, 68, 69, 70, 90], [], []⟩), (0, 48, ⟨[(9, .own 25 (.st .api_Edit))], [], [70, 69, 68, 67, 66, 65, 64, 63, 71, 72, 73, 85, 84, 83, 82, 81, 80, 79, 12, 13, 78, 77, 76, 74, 75, 86, 87, 88, 89, 57, 58, 11, 59, 60, 61, 62], [0], []⟩), (0, 39, ⟨[(74, .dat (.int .i64))], [], [75, 76, 77, 78, 13, 12, 79, 80, 81, 82, 83, 84, 85], [], [(3, 29, (.st .api_Region))]⟩), (0, 1000017, ⟨[], [(1, [.dat (.int .i64), .dat (.int .i64), .dat (.int .i64), .own 3 (.int .i64), .own 29 (.st .api_Region)])], [63, 64, 65, 66, 67, 68, 69, 70], [], []⟩), (0, 11, ⟨[(19, .dat (.int .i64))], [], [20, 21, 22, 23, 8, 7, 47, 46, 45, 44, 43, 42, 41, 40, 39, 38, 37, 36, 35, 32, 31, 30, 29, 34, 33, 28, 27, 26, 25, 24, 48, 49], [], []⟩), (0, 1000007, ⟨[(48, .dat .bool)], [], [24, 25, 26, 27, 28, 33, 34, 29, 30, 31, 32, 35, 36, 37, 38, 39, 40, 41, 42, 43, 44, 45, 46, 47], [], []⟩)]⟩
def pknown_W (l : List (api_Edit)) (day : Int) (post : List (api_Edit) → Int → Prop) : Prop := (↑l.length : Int) ≤ (9223372036854775807 : Int) → IFB (decide ((120 : Int) < (↑l.length : Int))) (post [] (1 : Int)) ((↑l.length : Int) ≤ (9223372036854775807 : Int) → LOOP [Ty.int IntKind.i64] (fun (rec1 : Int → Prop) (z2 : Int) ↦ IFB (decide (z2 < (↑l.length : Int))) (((0 : Int) ≤ z2 ∧ z2 < (↑l.length : Int)) ∧ JOIN [Ty.bool] (fun (y3 : Bool) ↦ IFB y3 (post [] (9 : Int)) (rec1 (IntKind.i64.wrap (z2 + (1 : Int))))) fun (J4 : Bool → Prop) ↦ JOIN [Ty.bool] (fun (y5 : Bool) ↦ ((gx false (decide ((ix l z2).1 < (0 : Int)) || decide ((36864 : Int) < (ix l z2).1) || y5) && gx true (decide ((0 : Int) < z2))) = true → (0 : Int) ≤ IntKind.i64.wrap (z2 - (1 : Int)) ∧ IntKind.i64.wrap (z2 - (1 : Int)) < (↑l.length : Int)) ∧ J4 (decide ((ix l z2).1 < (0 : Int)) || decide ((36864 : Int) < (ix l z2).1) || y5 || decide ((0 : Int) < z2) && decide ((ix l z2).2 < (ix l (IntKind.i64.wrap (z2 - (1 : Int)))).2)) ∧ J4 (decide ((ix l z2).1 < (0 : Int)) || decide ((36864 : Int) < (ix l z2).1) || y5 || decide ((0 : Int) < z2) && decide ((ix l z2).2 < (ix l (IntKind.i64.wrap (z2 - (1 : Int)))).2))) fun (J6 : Bool → Prop) ↦ IFB (gx false (decide ((ix l z2).1 < (0 : Int)) || decide ((36864 : Int) < (ix l z2).1))) (J6 (decide ((ix l z2).2 < (0 : Int)) || decide ((36864 : Int) < (ix l z2).2))) (J6 false)) (IFB (decide (day < (0 : Int)) || decide ((36864 : Int) < day)) (post [] (9 : Int)) ((↑l.length : Int) ≤ (9223372036854775807 : Int) → LOOP [Ty.int IntKind.i64, (Ty.st Sn.api_Edit).sl] (fun (rec7 : Int → List api_Edit → Prop) (z8 : Int) (z9 : List api_Edit) ↦ IFB (decide (z8 < (↑l.length : Int))) (JOIN [(Ty.st Sn.api_Edit).sl] (fun (y10 : List api_Edit) ↦ rec7 (IntKind.i64.wrap (z8 + (1 : Int))) y10) fun (J11 : List api_Edit → Prop) ↦ ((0 : Int) ≤ z8 ∧ z8 < (↑l.length : Int)) ∧ IFB (decide (day < (ix l z8).2)) (J11 z9) (JOIN [Ty.int IntKind.i64, Ty.int IntKind.i64, Ty.int IntKind.i64, (Ty.int IntKind.i64).sl, (Ty.st Sn.api_Region).sl] (fun (y12 y13 y14 : Int) (y15 : List Int) (y16 : List api_Region) ↦ (↑y16.length : Int) ≤ (9223372036854775807 : Int) → LOOP [Ty.int IntKind.i64, (Ty.st Sn.api_Region).sl] (fun (rec17 : Int → List api_Region → Prop) (z18 : Int) (z19 : List api_Region) ↦ IFB (decide (z18 < (↑y16.length : Int))) (((0 : Int) ≤ z18 ∧ z18 < (↑z19.length : Int)) ∧ (ix z19 z18).1.length ≤ (4000000 : Nat) ∧ ((0 : Int) ≤ z18 ∧ z18 < (↑z19.length : Int)) ∧ rec17 (IntKind.i64.wrap (z18 + (1 : Int))) (z19.set z18.toNat { Rects := (ix z19 z18).1 : api_Region })) ((z9.length + [{ Day := y12, Known := y13, Kind := y14, Parcels := y15, Regions := z19 : api_Edit }].length) * (72 : Nat) ≤ (140737488355328 : Nat) ∧ J11 (z9 ++ [{ Day := y12, Known := y13, Kind := y14, Parcels := y15, Regions := z19 : api_Edit }]))) ((0 : Int), y16, PUnit.unit)) fun (J20 : Int → Int → Int → List Int → List api_Region → Prop) ↦ (ix l z8).4.length ≤ (4000000 : Nat) ∧ (ix l z8).5.length ≤ (4000000 : Nat) ∧ J20 (ix l z8).1 (ix l z8).2 (ix l z8).3 (ix l z8).4 (ix l z8).5)) ((↑z9.length : Int) ≤ (9223372036854775807 : Int) → LOOP [Ty.int IntKind.i64, Ty.int IntKind.i64, (Ty.st Sn.api_Edit).sl] (fun (rec21 : Int → Int → List api_Edit → Prop) (z22 z23 : Int) (z24 : List api_Edit) ↦ IFB (decide (z22 ≤ (↑z9.length : Int))) (LOOP [Ty.int IntKind.i64, (Ty.st Sn.api_Edit).sl] (fun (rec25 : Int → List api_Edit → Prop) (z26 : Int) (z27 : List api_Edit) ↦ IFB (decide (z26 < z22)) (LOOP [Ty.int IntKind.i64, (Ty.st Sn.api_Edit).sl] (fun (rec28 : Int → List api_Edit → Prop) (z29 : Int) (z30 : List api_Edit) ↦ (gx true (decide (z23 < z29)) = true → (0 : Int) ≤ z29 ∧ z29 < (↑z30.length : Int)) ∧ (gx true (decide (z23 < z29)) = true → (0 : Int) ≤ IntKind.i64.wrap (z29 - (1 : Int)) ∧ IntKind.i64.wrap (z29 - (1 : Int)) < (↑z30.length : Int)) ∧ JOIN [Ty.int IntKind.i64] (fun (y31 : Int) ↦ IFB (decide (z23 < z29) && decide (y31 < (0 : Int))) (((0 : Int) ≤ IntKind.i64.wrap (z29 - (1 : Int)) ∧ IntKind.i64.wrap (z29 - (1 : Int)) < (↑z30.length : Int)) ∧ ((0 : Int) ≤ z29 ∧ z29 < (↑z30.length : Int)) ∧ ((0 : Int) ≤ z29 ∧ z29 < (↑z30.length : Int)) ∧ ((0 : Int) ≤ IntKind.i64.wrap (z29 - (1 : Int)) ∧ IntKind.i64.wrap (z29 - (1 : Int)) < (↑(z30.set z29.toNat { Day := (ix z30 (IntKind.i64.wrap (z29 - (1 : Int)))).1, Known := (ix z30 (IntKind.i64.wrap (z29 - (1 : Int)))).2, Kind := (ix z30 (IntKind.i64.wrap (z29 - (1 : Int)))).3, Parcels := (ix z30 (IntKind.i64.wrap (z29 - (1 : Int)))).4, Regions := (ix z30 (IntKind.i64.wrap (z29 - (1 : Int)))).5 : api_Edit }).length : Int)) ∧ rec28 (IntKind.i64.wrap (z29 - (1 : Int))) ((z30.set z29.toNat { Day := (ix z30 (IntKind.i64.wrap (z29 - (1 : Int)))).1, Known := (ix z30 (IntKind.i64.wrap (z29 - (1 : Int)))).2, Kind := (ix z30 (IntKind.i64.wrap (z29 - (1 : Int)))).3, Parcels := (ix z30 (IntKind.i64.wrap (z29 - (1 : Int)))).4, Regions := (ix z30 (IntKind.i64.wrap (z29 - (1 : Int)))).5 : api_Edit }).set (IntKind.i64.wrap (z29 - (1 : Int))).toNat { Day := (ix z30 z29).1, Known := (ix z30 z29).2, Kind := (ix z30 z29).3, Parcels := (ix z30 z29).4, Regions := (ix z30 z29).5 : api_Edit })) (rec25 (IntKind.i64.wrap (z26 + (1 : Int))) z30)) fun (J32 : Int → Prop) ↦ IFB (gx true (decide (z23 < z29))) (JOIN [Ty.int IntKind.i64] (fun (y33 : Int) ↦ J32 y33) fun (J34 : Int → Prop) ↦ IFB (!decide ((ix z30 z29).1 = (ix z30 z29).1)) (IFB (!decide ((ix z30 (IntKind.i64.wrap (z29 - (1 : Int)))).1 = (ix z30 (IntKind.i64.wrap (z29 - (1 : Int)))).1)) (J34 (0 : Int)) (J34 (-1 : Int))) (IFB (!decide ((ix z30 (IntKind.i64.wrap (z29 - (1 : Int)))).1 = (ix z30 (IntKind.i64.wrap (z29 - (1 : Int)))).1)) (J34 (1 : Int)) (IFB (decide ((ix z30 z29).1 < (ix z30 (IntKind.i64.wrap (z29 - (1 : Int)))).1)) (J34 (-1 : Int)) (IFB (decide ((ix z30 (IntKind.i64.wrap (z29 - (1 : Int)))).1 < (ix z30 z29).1)) (J34 (1 : Int)) (J34 (0 : Int)))))) (J32 (0 : Int))) (z26, z27, PUnit.unit)) (rec21 (IntKind.i64.wrap (z22 + (20 : Int))) z22 z27)) (IntKind.i64.wrap (z23 + (1 : Int)), z24, PUnit.unit)) (LOOP [Ty.int IntKind.i64, (Ty.st Sn.api_Edit).sl] (fun (rec35 : Int → List api_Edit → Prop) (z36 : Int) (z37 : List api_Edit) ↦ IFB (decide (z36 < (↑z9.length : Int))) (LOOP [Ty.int IntKind.i64, (Ty.st Sn.api_Edit).sl] (fun (rec38 : Int → List api_Edit → Prop) (z39 : Int) (z40 : List api_Edit) ↦ (gx true (decide (z23 < z39)) = true → (0 : Int) ≤ z39 ∧ z39 < (↑z40.length : Int)) ∧ (gx true (decide (z23 < z39)) = true → (0 : Int) ≤ IntKind.i64.wrap (z39 - (1 : Int)) ∧ IntKind.i64.wrap (z39 - (1 : Int)) < (↑z40.length : Int)) ∧ JOIN [Ty.int IntKind.i64] (fun (y41 : Int) ↦ IFB (decide (z23 < z39) && decide (y41 < (0 : Int))) (((0 : Int) ≤ IntKind.i64.wrap (z39 - (1 : Int)) ∧ IntKind.i64.wrap (z39 - (1 : Int)) < (↑z40.length : Int)) ∧ ((0 : Int) ≤ z39 ∧ z39 < (↑z40.length : Int)) ∧ ((0 : Int) ≤ z39 ∧ z39 < (↑z40.length : Int)) ∧ ((0 : Int) ≤ IntKind.i64.wrap (z39 - (1 : Int)) ∧ IntKind.i64.wrap (z39 - (1 : Int)) < (↑(z40.set z39.toNat { Day := (ix z40 (IntKind.i64.wrap (z39 - (1 : Int)))).1, Known := (ix z40 (IntKind.i64.wrap (z39 - (1 : Int)))).2, Kind := (ix z40 (IntKind.i64.wrap (z39 - (1 : Int)))).3, Parcels := (ix z40 (IntKind.i64.wrap (z39 - (1 : Int)))).4, Regions := (ix z40 (IntKind.i64.wrap (z39 - (1 : Int)))).5 : api_Edit }).length : Int)) ∧ rec38 (IntKind.i64.wrap (z39 - (1 : Int))) ((z40.set z39.toNat { Day := (ix z40 (IntKind.i64.wrap (z39 - (1 : Int)))).1, Known := (ix z40 (IntKind.i64.wrap (z39 - (1 : Int)))).2, Kind := (ix z40 (IntKind.i64.wrap (z39 - (1 : Int)))).3, Parcels := (ix z40 (IntKind.i64.wrap (z39 - (1 : Int)))).4, Regions := (ix z40 (IntKind.i64.wrap (z39 - (1 : Int)))).5 : api_Edit }).set (IntKind.i64.wrap (z39 - (1 : Int))).toNat { Day := (ix z40 z39).1, Known := (ix z40 z39).2, Kind := (ix z40 z39).3, Parcels := (ix z40 z39).4, Regions := (ix z40 z39).5 : api_Edit })) (rec35 (IntKind.i64.wrap (z36 + (1 : Int))) z40)) fun (J42 : Int → Prop) ↦ IFB (gx true (decide (z23 < z39))) (JOIN [Ty.int IntKind.i64] (fun (y43 : Int) ↦ J42 y43) fun (J44 : Int → Prop) ↦ IFB (!decide ((ix z40 z39).1 = (ix z40 z39).1)) (IFB (!decide ((ix z40 (IntKind.i64.wrap (z39 - (1 : Int)))).1 = (ix z40 (IntKind.i64.wrap (z39 - (1 : Int)))).1)) (J44 (0 : Int)) (J44 (-1 : Int))) (IFB (!decide ((ix z40 (IntKind.i64.wrap (z39 - (1 : Int)))).1 = (ix z40 (IntKind.i64.wrap (z39 - (1 : Int)))).1)) (J44 (1 : Int)) (IFB (decide ((ix z40 z39).1 < (ix z40 (IntKind.i64.wrap (z39 - (1 : Int)))).1)) (J44 (-1 : Int)) (IFB (decide ((ix z40 (IntKind.i64.wrap (z39 - (1 : Int)))).1 < (ix z40 z39).1)) (J44 (1 : Int)) (J44 (0 : Int)))))) (J42 (0 : Int))) (z36, z37, PUnit.unit)) (LOOP [Ty.int IntKind.i64] (fun (rec45 : Int → Prop) (z46 : Int) ↦ IFB (decide (z46 < (↑z9.length : Int))) (LOOP [Ty.int IntKind.i64, Ty.int IntKind.i64] (fun (rec47 : Int → Int → Prop) (z48 z49 : Int) ↦ IFB (decide (z48 ≤ (↑z9.length : Int))) False (JOIN [] (rec45 (IntKind.i64.wrap (z46 * (2 : Int)))) fun (J50 : Prop) ↦ IFB (decide (IntKind.i64.wrap (z49 + z46) < (↑z9.length : Int))) False J50)) (IntKind.i64.wrap ((2 : Int) * z46), (0 : Int), PUnit.unit)) (post z37 (0 : Int))) ((20 : Int), PUnit.unit))) (IntKind.i64.wrap (z23 + (1 : Int)), z24, PUnit.unit))) ((20 : Int), (0 : Int), z9, PUnit.unit))) ((0 : Int), [], PUnit.unit)))) ((0 : Int), PUnit.unit))
theorem pknown_w (l : List (api_Edit)) (day : Int) (post : dens (shT pknown_sp.rs []) → Prop) : pknown_W l day (fun y0 y1 => post (y0, y1, ())) = walkG (callR Tryz.prog pknown_C (drawF Tryz.prog tau) 12 0) 38 false [tv (.sl (.st .api_Edit)) l, tv (.int .i64) day] pknown_sp.rs post := by kernel_rfl
theorem pknown_of (h : ∀ (l : List (api_Edit)) (day : Int) (post : List (api_Edit) → Int → Prop), pknown_P l day post → pknown_W l day post) : SpecOK Tryz.prog pknown_sp := SpecOK.of_rules (C := pknown_C) (dr := drawF Tryz.prog tau) (n := 12) (fk := 0) (.cons (rule1_ok pclI_ok) (.cons (rule1_ok pclR_ok) (.cons (rule1_ok pcpy_ok) (.cons (ruleNo_ok 204) .nil)))) (drawF_ok tau) fun x post hp => HoldW.of (pknown_w x.1 x.2.1 post) (h x.1 x.2.1 (fun y0 y1 => post (y0, y1, ())) hp)
theorem known_take {l : List Ed} {d : Int} {k : Nat} (hk : k < l.length) : knownL (l.take (k + 1)) d = if (ix l (k : Int)).Known ≤ d then knownL (l.take k) d ++ [ix l (k : Int)] else knownL (l.take k) d := by
  unfold knownL
  rw [List.take_succ_eq_append_getElem hk, List.filter_append, ix_lt hk]
  split
  · rename_i h; rw [List.filter_cons_of_pos (by simpa using h)]; rfl
  · rename_i h; rw [List.filter_cons_of_neg (by simpa using h), List.filter_nil, List.append_nil]
set_option maxHeartbeats 2000000 in
theorem pknown_ok : SpecOK Tryz.prog pknown_sp := pknown_of fun l day post hp => by
  obtain ⟨⟨hl, he⟩, hp⟩ := hp
  have hp := hp _ _ ⟨rfl, rfl⟩
  unfold pknown_W
  intro _
  refine IFB.mk (fun h => ?_) (fun _ _ => ?_)
  · have h : (120 : Int) < (l.length : Int) := of_decide_eq_true h
    omega
  have bad : badK l ∨ ¬ okD day → post [] 9 := fun h => by
    have e : knownS l day = ([], 9) := by unfold knownS; rw [if_pos h]
    rw [e] at hp; exact hp
  refine loopCmp (n := l.length) (by omega) (p := fun i => ¬ badAt l i) (fun rec k hk _ hrec => ?_) fun hall => ?_
  · refine ⟨by omega, JOIN.opq fun (J4 : Bool → Prop) hJ4 => JOIN.opq fun (J6 : Bool → Prop) hJ6 => ?_⟩
    have k4 : ∀ y : Bool, (y = true ↔ badAt l k) → J4 y := fun y h => by
      rw [hJ4]
      refine IFB.mk (fun hb => bad (.inl ⟨k, hk, h.1 hb⟩)) (fun hb => hrec fun h2 => by rw [h.2 h2] at hb; cases hb)
    have hprev : ∀ h0 : 0 < k, IntKind.i64.wrap ((k : Int) - 1) = ((k - 1 : Nat) : Int) := fun h0 => wrapP (by omega) h0
    have k6 : ∀ y : Bool, ((decide ((ix l (k : Int)).1 < (0 : Int)) || decide ((36864 : Int) < (ix l (k : Int)).1) || y) = true ↔ (¬ okD (ix l (k : Int)).Day ∨ ¬ okD (ix l (k : Int)).Known)) → J6 y := fun y h => by
      rw [hJ6]
      dsimp only
      generalize (decide ((ix l (k : Int)).1 < (0 : Int)) || decide ((36864 : Int) < (ix l (k : Int)).1) || y) = a at h ⊢
      have main : (a || decide ((0 : Int) < (k : Int)) && decide ((ix l (k : Int)).2 < (ix l (IntKind.i64.wrap ((k : Int) - (1 : Int)))).2)) = true ↔ badAt l k := by
        unfold badAt
        rw [Bool.or_eq_true, Bool.and_eq_true, decide_eq_true_eq, decide_eq_true_eq, h, or_assoc]
        by_cases h0 : 0 < k
        · rw [hprev h0]
          have : (0 : Int) < (k : Int) := by omega
          simp only [h0, this, true_and]
        · have : ¬ (0 : Int) < (k : Int) := by omega
          simp only [h0, this, false_and]
      refine ⟨fun h2 => ?_, k4 _ main, k4 _ main⟩
      have h0 : 0 < k := by
        rw [Bool.and_eq_true] at h2
        have := of_decide_eq_true h2.2
        omega
      rw [hprev h0]; omega
    refine IFB.mk (fun hb => k6 _ ?_) (fun hb => k6 _ ?_)
    · rw [gx_f, Bool.not_eq_true'] at hb
      rw [hb]
      rw [Bool.or_eq_false_iff, decide_eq_false_iff_not, decide_eq_false_iff_not] at hb
      unfold okD
      rw [Bool.false_or, Bool.or_eq_true, decide_eq_true_eq, decide_eq_true_eq]
      omega
    · rw [gx_f, Bool.not_eq_false'] at hb
      rw [hb]
      rw [Bool.or_eq_true, decide_eq_true_eq, decide_eq_true_eq] at hb
      unfold okD
      constructor
      · intro _; left; omega
      · intro _; rfl
  refine IFB.mk (fun hb => bad (.inr ?_)) (fun hb _ => ?_)
  · rw [Bool.or_eq_true, decide_eq_true_eq, decide_eq_true_eq] at hb
    unfold okD; omega
  have hok : okD day := by
    rw [Bool.or_eq_false_iff, decide_eq_false_iff_not, decide_eq_false_iff_not] at hb
    unfold okD; omega
  have e : knownS l day = (isE (knownL l day), 0) := by
    unfold knownS
    rw [if_neg]
    rintro (⟨i, hi, h⟩ | h)
    · exact hall i hi h
    · exact h hok
  rw [e] at hp
  clear bad hall hb e
  refine LOOP.fuel2 (fun (z : Int) (b : List Ed) => ∃ k : Nat, z = (k : Int) ∧ k ≤ l.length ∧ b = knownL (l.take k) day) (fun z _ => l.length - Int.toNat z) ⟨0, rfl, Nat.zero_le _, rfl⟩ ?_
  rintro rec (z : Int) (b : List Ed) ⟨k, i1, i2, i3⟩ hrec
  subst i1
  have hbl : b.length ≤ k := by
    rw [i3]; unfold knownL
    exact Nat.le_trans (List.length_filter_le _ _) (by rw [List.length_take]; omega)
  refine IFB.mk (fun hb => ?_) (fun hb => ?_)
  · have hb : (k : Int) < l.length := of_decide_eq_true hb
    have hk : k < l.length := by omega
    refine JOIN.opq fun (J11 : List Ed → Prop) hJ11 => ⟨by omega, ?_⟩
    have k11 : ∀ b2 : List Ed, b2 = knownL (l.take (k + 1)) day → J11 b2 := fun b2 h => by
      rw [hJ11]
      show rec (IntKind.i64.wrap ((k : Int) + 1)) b2
      rw [wrapS (by omega)]
      exact hrec ((k + 1 : Nat) : Int) _ ⟨k + 1, rfl, hk, h⟩ (by show l.length - ((k + 1 : Nat) : Int).toNat < l.length - (k : Int).toNat; omega)
    have hs := he _ (ix_mem (l := l) (i := (k : Int)) (by omega) (by omega))
    refine IFB.mk (fun hc => k11 _ ?_) (fun hc => ?_)
    · have hc : day < (ix l (k : Int)).Known := of_decide_eq_true hc
      rw [known_take hk, if_neg (by omega)]; exact i3
    have hc : ¬ day < (ix l (k : Int)).Known := of_decide_eq_false hc
    refine JOIN.opq fun (J20 : Int → Int → Int → List Int → List api_Region → Prop) hJ20 => ⟨by have := hs.pars; omega, by have := hs.regs; omega, ?_⟩
    rw [hJ20]
    refine fun _ => LOOP.fuel2 (fun (u : Int) (c : List api_Region) => ∃ j : Nat, u = (j : Int) ∧ j ≤ (ix l (k : Int)).5.length ∧ c = (ix l (k : Int)).5) (fun u _ => (ix l (k : Int)).5.length - Int.toNat u) ⟨0, rfl, Nat.zero_le _, rfl⟩ ?_
    rintro rec2 (u : Int) (c : List api_Region) ⟨j, j1, j2, j3⟩ hrec2
    subst j1 j3
    refine IFB.mk (fun hd => ?_) (fun hd => ?_)
    · have hd : (j : Int) < (ix l (k : Int)).5.length := of_decide_eq_true hd
      have hj : j < (ix l (k : Int)).5.length := by omega
      refine ⟨by omega, ?_, by omega, ?_⟩
      · have := hs.rect _ (ix_mem (l := (ix l (k : Int)).5) (i := (j : Int)) (by omega) (by omega)); omega
      · rw [wrapS (by have := hs.regs; omega)]
        have e : (ix l (k : Int)).5.set (j : Int).toNat { Rects := (ix (ix l (k : Int)).5 (j : Int)).1 } = (ix l (k : Int)).5 := by
          show List.set _ j (ix (ix l (k : Int)).5 (j : Int)) = _
          rw [ix_lt hj]; exact List.set_getElem_self hj
        rw [e]
        exact hrec2 ((j + 1 : Nat) : Int) _ ⟨j + 1, rfl, hj, rfl⟩ (by show (ix l (k : Int)).5.length - ((j + 1 : Nat) : Int).toNat < (ix l (k : Int)).5.length - (j : Int).toNat; omega)
    · refine ⟨by simp only [List.length_cons, List.length_nil]; omega, k11 _ ?_⟩
      rw [known_take hk, if_pos (by omega), ← i3]
  have hb : ¬ (k : Int) < l.length := of_decide_eq_false hb
  have hk : k = l.length := by omega
  rw [hk, List.take_length] at i3
  rw [← i3] at hp
  have hb19 : b.length ≤ 19 := by omega
  clear i3 i2 hrec hbl hb hk
  intro _
  refine LOOP.fuel3 (fun (z y : Int) (c : List Ed) => z = 20 ∧ y = 0 ∧ c = b) (fun _ _ _ => 0) ⟨rfl, rfl, rfl⟩ ?_
  rintro rec3 (z : Int) (y : Int) (c : List Ed) ⟨rfl, rfl, rfl⟩ _
  refine IFB.mk (fun h => ?_) (fun _ => ?_)
  · have h : (20 : Int) ≤ (c.length : Int) := of_decide_eq_true h
    omega
  refine LOOP.fuel2 (fun (z : Int) (d : List Ed) => ∃ k : Nat, z = (k : Int) ∧ 1 ≤ k ∧ (k ≤ c.length ∨ k = 1) ∧ d = isE (c.take k) ++ c.drop k) (fun z _ => 100 - Int.toNat z) ⟨1, rfl, Nat.le_refl _, .inr rfl, ?_⟩ ?_
  · cases c with
    | nil => rfl
    | cons x r => rfl
  rintro rec4 (z : Int) (d : List Ed) ⟨k, i1, i2, i3, i4⟩ hrec4
  subst i1
  refine IFB.mk (fun hk => ?_) (fun hk => ?_)
  rotate_left
  · have hk : ¬ (k : Int) < c.length := of_decide_eq_false hk
    rw [List.take_of_length_le (by omega), List.drop_eq_nil_of_le (by omega), List.append_nil] at i4
    subst i4
    refine LOOP.fuel (fun u => u = ((20 : Int), ())) (fun _ => 0) rfl ?_
    rintro rec5 _ rfl _
    show IFB _ _ _
    refine IFB.mk (fun hb => ?_) (fun _ => hp)
    have hb : (20 : Int) < c.length := of_decide_eq_true hb
    omega
  have hk : (k : Int) < c.length := of_decide_eq_true hk
  have hkl : k < c.length := by omega
  have hsl : (isE (c.take k)).length = k := by rw [isE_len, List.length_take]; omega
  have hdk : c.drop k = ix c (k : Int) :: c.drop (k + 1) := by rw [ix_lt hkl]; exact List.drop_eq_getElem_cons hkl
  have hnx : isE (c.take (k + 1)) = bub (isE (c.take k)) (ix c (k : Int)) k := by rw [List.take_succ_eq_append_getElem hkl, isE_app, ix_lt hkl, hsl]
  rw [hdk] at i4
  generalize isE (c.take k) = S at *
  generalize ix c (k : Int) = x at *
  have hR : (c.drop (k + 1)).length = c.length - (k + 1) := List.length_drop ..
  generalize hRd : c.drop (k + 1) = R at *
  refine LOOP.fuel2 (fun (z : Int) (d : List Ed) => ∃ j : Nat, z = (j : Int) ∧ j ≤ k ∧ d = S.take j ++ x :: (S.drop j ++ R) ∧ bub S x k = bub S x j) (fun z _ => Int.toNat z) ⟨k, rfl, Nat.le_refl _, by rw [i4, List.take_of_length_le (by omega), List.drop_eq_nil_of_le (by omega)]; rfl, rfl⟩ ?_
  rintro rec5 (z : Int) (d : List Ed) ⟨j, j1, j2, j3, j4⟩ hrec5
  subst j1
  have htk : (S.take j).length = j := by rw [List.length_take]; omega
  have hdl : d.length = c.length := by
    rw [j3, List.length_append, List.length_cons, List.length_append, htk, List.length_drop]; omega
  have done : (∀ h0 : 0 < j, ¬ x.Day < (ix S ((j - 1 : Nat) : Int)).Day) → rec4 (IntKind.i64.wrap ((k : Int) + 1)) d := fun h => by
    rw [wrapS (by omega)]
    refine hrec4 ((k + 1 : Nat) : Int) _ ⟨k + 1, rfl, by omega, .inl hkl, ?_⟩ (by show 100 - ((k + 1 : Nat) : Int).toNat < 100 - (k : Int).toNat; omega)
    rw [hnx, j4, hRd, j3]
    cases j with
    | zero => rfl
    | succ j =>
      have hn : ¬ x.Day < (ix S (j : Int)).Day := h (by omega)
      unfold bub
      rw [if_neg hn, List.append_assoc]; rfl
  have hw : ∀ h0 : 0 < j, IntKind.i64.wrap ((j : Int) - 1) = ((j - 1 : Nat) : Int) := fun h0 => wrapP (by omega) h0
  refine ⟨fun h => by omega, fun h => ?_, JOIN.opq fun (J32 : Int → Prop) hJ32 => ?_⟩
  · have h : (0 : Int) < (j : Int) := of_decide_eq_true h
    rw [hw (by omega)]; omega
  have k32 : ∀ y : Int, (∀ h0 : 0 < j, (y < 0 ↔ x.Day < (ix S ((j - 1 : Nat) : Int)).Day)) → J32 y := fun y h => by
    rw [hJ32]
    refine IFB.mk (fun hb => ?_) (fun hb => done fun h0 h2 => ?_)
    · rw [Bool.and_eq_true, decide_eq_true_eq, decide_eq_true_eq] at hb
      obtain ⟨b1, b2⟩ := hb
      obtain ⟨i, rfl⟩ : ∃ i, j = i + 1 := ⟨j - 1, by omega⟩
      have b2 := (h (by omega)).1 b2
      rw [show i + 1 - 1 = i by omega] at b2
      obtain ⟨s1, s2⟩ := bub_step (S := S) (R := R) (x := x) (j := i) (by omega)
      have tl : (S.take i).length = i := by rw [List.length_take]; omega
      have e1 : ix d (((i + 1 : Nat) : Nat) : Int) = x := by
        rw [j3]; exact at_mid htk.symm
      have e2 : ix d (i : Int) = ix S (i : Int) := by
        rw [j3, s1]; exact at_mid tl.symm
      rw [hw (by omega)]
      rw [show i + 1 - 1 = i by omega]
      refine ⟨by omega, by omega, by omega, by rw [List.length_set]; omega, ?_⟩
      refine hrec5 (i : Int) _ ⟨i, rfl, by omega, ?_, ?_⟩ (by show (i : Int).toNat < ((i + 1 : Nat) : Int).toNat; omega)
      · show (d.set (((i + 1 : Nat) : Int)).toNat (ix d (i : Int))).set (i : Int).toNat (ix d ((i + 1 : Nat) : Int)) = _
        rw [e1, e2, j3, s1]
        have := swap_at (P := S.take i) (a := ix S (i : Int)) (b := x) (Q := S.drop (i + 1) ++ R)
        rw [tl] at this
        show ((S.take i ++ ix S (i : Int) :: x :: (S.drop (i + 1) ++ R)).set (i + 1) (ix S (i : Int))).set i x = _
        rw [this, s2]
      · rw [j4]
        show (if x.Day < (ix S (i : Int)).Day then bub S x i else _) = _
        rw [if_pos b2]
    · have : (decide ((0 : Int) < (j : Int)) && decide (y < 0)) = true := by
        rw [Bool.and_eq_true, decide_eq_true_eq, decide_eq_true_eq]
        exact ⟨by omega, (h h0).2 h2⟩
      rw [this] at hb; cases hb
  refine IFB.mk (fun hb => ?_) (fun hb => k32 _ fun h0 => ?_)
  · have hb : (0 : Int) < (j : Int) := of_decide_eq_true hb
    obtain ⟨i, rfl⟩ : ∃ i, j = i + 1 := ⟨j - 1, by omega⟩
    obtain ⟨s1, s2⟩ := bub_step (S := S) (R := R) (x := x) (j := i) (by omega)
    have tl : (S.take i).length = i := by rw [List.length_take]; omega
    have e1 : ix d (((i + 1 : Nat) : Nat) : Int) = x := by
      rw [j3]; exact at_mid htk.symm
    have e2 : ix d (i : Int) = ix S (i : Int) := by
      rw [j3, s1]; exact at_mid tl.symm
    rw [hw (by omega)]
    rw [show i + 1 - 1 = i by omega, e1, e2]
    rw [show i + 1 - 1 = i by omega] at k32
    refine JOIN.opq fun (J34 : Int → Prop) hJ34 => ?_
    have k34 : ∀ y : Int, (y < 0 ↔ x.Day < (ix S (i : Int)).Day) → J34 y := fun y h => by
      rw [hJ34]
      exact k32 y fun _ => h
    refine IFB.mk (fun hc => by simp at hc) (fun _ => IFB.mk (fun hc => by simp at hc) (fun _ => IFB.mk (fun hc => k34 _ ?_) (fun hc => IFB.mk (fun hc2 => k34 _ ?_) (fun hc2 => k34 _ ?_))))
    · have hc : x.Day < (ix S (i : Int)).Day := of_decide_eq_true hc
      omega
    · have hc : ¬ x.Day < (ix S (i : Int)).Day := of_decide_eq_false hc
      omega
    · have hc : ¬ x.Day < (ix S (i : Int)).Day := of_decide_eq_false hc
      omega
  · have hb : ¬ (0 : Int) < (j : Int) := of_decide_eq_false hb
    omega

end RE
end Go.Proofs.YtpeggkeenboacaaGreat
set_option maxRecDepth 100000
set_option linter.unusedVariables false
namespace Go.Proofs.YtpeggkeenboacaaGreat
open Go.RowKit
namespace RE
open PL

def lKnown_C : CtxR := ⟨tau, [ruleN 12, rule1 knext_sp, rule1 pknown_sp, rule1 pawake_sp], lookJ [(0, 45, ⟨[(83, .dat (.int .i64))], [], [84, 85, 17, 86, 87, 88, 89, 90, 91, 92, 93, 138, 94, 95, 96, 97, 98, 99, 100, 101, 102, 103, 104, 105, 106, 107, 108, 109, 110, 111, 112, 113, 114, 115, 116, 117, 118, 119, 120, 121, 122, 123, 124, 125, 126, 127, 128, 129, 130, 131, 132, 133, 134, 135, 136, 137, 139], [], []⟩), (0, 33, ⟨[(70, .dat (.int .i64)), (14, .dat (.int .i64))], [], [71, 79, 78, 77, 76, 75, 74, 16, 73, 72, 80], [], []⟩), (0, 40, ⟨[(14, .dat (.int .i64))], [], [72, 73, 16, 74, 75, 76, 77, 78, 79], [], []⟩), (0, 11, ⟨[(8, .dat (.int .i64)), (6, .own 25 (.st .api_Edit)), (7, .dat (.int .i64))], [], [22, 23, 26, 27, 28, 29, 30, 31, 32, 33, 34, 35, 36, 37, 38, 24, 25], [], []⟩)]⟩
def lKnown_W (l : List (Int)) (day : Int) (post : Bool → Prop) : Prop := Int.NonNeg (9223372036854775799 : Int) ∧ ∀ (v1 : Int), (0 : Int) ≤ v1 → v1 < (8 : Int) ∨ v1 = (0 : Int) → LOOP [Ty.int IntKind.i64, (Ty.st Sn.api_Edit).sl, Ty.int IntKind.i64] (fun (rec2 : Int → List api_Edit → Int → Prop) (z3 : Int) (z4 : List api_Edit) (z5 : Int) ↦ IFB (decide ((0 : Int) < z3)) (Int.NonNeg (9223372036854775801 : Int) ∧ ∀ (v6 : Int), (0 : Int) ≤ v6 → v6 < (6 : Int) ∨ v6 = (0 : Int) → Int.NonNeg (9223372036854775767 : Int) ∧ ∀ (v7 : Int), (0 : Int) ≤ v7 → v7 < (40 : Int) ∨ v7 = (0 : Int) → (z4.length + [{ Day := v7, Known := IntKind.i64.wrap (z5 + v6), Kind := (5 : Int), Parcels := [z3], Regions := [] : api_Edit }].length) * (72 : Nat) ≤ (140737488355328 : Nat) ∧ rec2 (IntKind.i64.wrap (z3 - (1 : Int))) (z4 ++ [{ Day := v7, Known := IntKind.i64.wrap (z5 + v6), Kind := (5 : Int), Parcels := [z3], Regions := [] : api_Edit }]) (IntKind.i64.wrap (z5 + v6))) (((50 : Int) = (0 : Int) → False) ∧ (z4.length ≤ (19 : Nat) ∧ ∀ (v8 : api_Edit), v8 ∈ z4 → szE v8) ∧ ∀ (v9 : List api_Edit) (v10 : Int), v9 = (knownS z4 ((IntKind.i64.wrap day).tmod (50 : Int))).1 ∧ v10 = (knownS z4 ((IntKind.i64.wrap day).tmod (50 : Int))).2 → (z4.length ≤ (19 : Nat) ∧ ∀ (v11 : api_Edit), v11 ∈ z4 → szE v11) ∧ ∀ (v12 : List api_Edit) (v13 : Int), v12 = (knownS z4 (IntKind.i64.wrap ((IntKind.i64.wrap day).tmod (50 : Int) + (3 : Int)))).1 ∧ v13 = (knownS z4 (IntKind.i64.wrap ((IntKind.i64.wrap day).tmod (50 : Int) + (3 : Int)))).2 → (gx false (!decide (v10 = (0 : Int)) || !decide (v13 = (0 : Int))) = true → (↑v9.length : Int) ≤ (9223372036854775807 : Int)) → (gx false (!decide (v10 = (0 : Int)) || !decide (v13 = (0 : Int))) = true → (↑v12.length : Int) ≤ (9223372036854775807 : Int)) → IFB (!decide (v10 = (0 : Int)) || !decide (v13 = (0 : Int)) || decide ((↑v12.length : Int) < (↑v9.length : Int))) (post false) ((↑z4.length : Int) ≤ (9223372036854775807 : Int) → LOOP [Ty.int IntKind.i64, Ty.int IntKind.i64] (fun (rec14 : Int → Int → Prop) (z15 z16 : Int) ↦ IFB (decide (z15 < (↑z4.length : Int))) (JOIN [Ty.int IntKind.i64] (fun (y17 : Int) ↦ rec14 (IntKind.i64.wrap (z15 + (1 : Int))) y17) fun (J18 : Int → Prop) ↦ ((0 : Int) ≤ z15 ∧ z15 < (↑z4.length : Int)) ∧ IFB (decide ((ix z4 z15).2 ≤ (IntKind.i64.wrap day).tmod (50 : Int))) (J18 (IntKind.i64.wrap (z16 + (1 : Int)))) (J18 z16)) ((↑v9.length : Int) ≤ (9223372036854775807 : Int) → LOOP [Ty.int IntKind.i64] (fun (rec19 : Int → Prop) (z20 : Int) ↦ IFB (decide (z20 < (↑v9.length : Int))) (((0 : Int) ≤ z20 ∧ z20 < (↑v9.length : Int)) ∧ ((gx false (decide ((IntKind.i64.wrap day).tmod (50 : Int) < (ix v9 z20).2)) && gx true (decide ((0 : Int) < z20))) = true → (0 : Int) ≤ z20 ∧ z20 < (↑v9.length : Int)) ∧ ((gx false (decide ((IntKind.i64.wrap day).tmod (50 : Int) < (ix v9 z20).2)) && gx true (decide ((0 : Int) < z20))) = true → (0 : Int) ≤ IntKind.i64.wrap (z20 - (1 : Int)) ∧ IntKind.i64.wrap (z20 - (1 : Int)) < (↑v9.length : Int)) ∧ ((gx false (decide ((IntKind.i64.wrap day).tmod (50 : Int) < (ix v9 z20).2)) && gx true (decide ((0 : Int) < z20)) && gx false (decide ((ix v9 z20).1 < (ix v9 (IntKind.i64.wrap (z20 - (1 : Int)))).1))) = true → (0 : Int) ≤ z20 ∧ z20 < (↑v9.length : Int)) ∧ ((gx false (decide ((IntKind.i64.wrap day).tmod (50 : Int) < (ix v9 z20).2)) && gx true (decide ((0 : Int) < z20)) && gx false (decide ((ix v9 z20).1 < (ix v9 (IntKind.i64.wrap (z20 - (1 : Int)))).1))) = true → (0 : Int) ≤ IntKind.i64.wrap (z20 - (1 : Int)) ∧ IntKind.i64.wrap (z20 - (1 : Int)) < (↑v9.length : Int)) ∧ ((gx false (decide ((IntKind.i64.wrap day).tmod (50 : Int) < (ix v9 z20).2)) && gx true (decide ((0 : Int) < z20)) && gx false (decide ((ix v9 z20).1 < (ix v9 (IntKind.i64.wrap (z20 - (1 : Int)))).1)) && gx true (decide ((ix v9 z20).1 = (ix v9 (IntKind.i64.wrap (z20 - (1 : Int)))).1))) = true → (0 : Int) ≤ z20 ∧ z20 < (↑v9.length : Int)) ∧ ((gx false (decide ((IntKind.i64.wrap day).tmod (50 : Int) < (ix v9 z20).2)) && gx true (decide ((0 : Int) < z20)) && gx false (decide ((ix v9 z20).1 < (ix v9 (IntKind.i64.wrap (z20 - (1 : Int)))).1)) && gx true (decide ((ix v9 z20).1 = (ix v9 (IntKind.i64.wrap (z20 - (1 : Int)))).1))) = true → (0 : Int) ≤ IntKind.i64.wrap (z20 - (1 : Int)) ∧ IntKind.i64.wrap (z20 - (1 : Int)) < (↑v9.length : Int)) ∧ IFB (decide ((IntKind.i64.wrap day).tmod (50 : Int) < (ix v9 z20).2) || decide ((0 : Int) < z20) && (decide ((ix v9 z20).1 < (ix v9 (IntKind.i64.wrap (z20 - (1 : Int)))).1) || decide ((ix v9 z20).1 = (ix v9 (IntKind.i64.wrap (z20 - (1 : Int)))).1) && decide ((ix v9 z20).2 < (ix v9 (IntKind.i64.wrap (z20 - (1 : Int)))).2))) (post false) (rec19 (IntKind.i64.wrap (z20 + (1 : Int))))) ((↑v9.length : Int) ≤ (9223372036854775807 : Int) → JOIN [Ty.bool] (fun (y21 : Bool) ↦ post (decide (z16 = (↑v9.length : Int)) && y21)) fun (J22 : Bool → Prop) ↦ IFB (gx true (decide (z16 = (↑v9.length : Int)))) (J22 true) (J22 false))) ((0 : Int), PUnit.unit))) ((0 : Int), (0 : Int), PUnit.unit)))) (v1, [], (0 : Int), PUnit.unit)
theorem lKnown_w (l : List (Int)) (day : Int) (post : Bool → Prop) : lKnown_W l day post = lawG (callR Tryz.prog lKnown_C (drawF Tryz.prog tau) 10 0) 8 [tv (.sl (.int .i64)) l, tv (.int .u8) day] post := by kernel_rfl
theorem lKnown_calls (l : List (Int)) (day : Int) (h : lKnown_W l day fun b => b = true) {w : World} {S : Cells} {us : List Value} (h1 : ∀ b o, S b o → b < w.heap.size) (h3 : us.length = 2) (h4 : ∀ (i : Nat) (d : D) (u : Value), [tv (.sl (.int .i64)) l, tv (.int .u8) day][i]? = some d → us[i]? = some u → Rd S w d u) : Calls Tryz.prog 8 us.toArray w fun e w' => (∃ b, e = .returned (.bool b) ∧ b = true) ∧ Below w.heap.size w w' := lawG_okH (cp := callR Tryz.prog lKnown_C (drawF Tryz.prog tau) 10 0) (callR_ok (C := lKnown_C) (dr := drawF Tryz.prog tau) (.cons (ruleN_ok knew_ok) (.cons (rule1_ok knext_ok) (.cons (rule1_ok pknown_ok) (.cons (rule1_ok pawake_ok) .nil)))) (drawF_ok tau) 10 0) (HoldW.of (lKnown_w l day fun b => b = true) h) h1 h3 h4
theorem wf_u8k {a : Int} (h : (Lit.int .u8 a).wf = true) : 0 ≤ a ∧ a ≤ 255 := by
  simp [Lit.wf, IntKind.min, IntKind.max, IntKind.bits, IntKind.signed] at h; omega
theorem not_bad {z : List Ed} (h1 : ∀ e ∈ z, okD e.Day ∧ okD e.Known) (h2 : z.Pairwise fun a b => a.Known ≤ b.Known) : ¬ badK z := by
  rintro ⟨i, hi, h⟩
  have hm := h1 _ (ix_mem (l := z) (i := (i : Int)) (by omega) (by omega))
  rcases h with h | h | ⟨h0, h⟩
  · exact h hm.1
  · exact h hm.2
  · rw [ix_lt hi, ix_lt (by omega)] at h
    have := List.pairwise_iff_getElem.1 h2 (i - 1) i (by omega) hi (by omega)
    omega
theorem known_eq {z : List Ed} {d : Int} (h1 : ∀ e ∈ z, okD e.Day ∧ okD e.Known) (h2 : z.Pairwise fun a b => a.Known ≤ b.Known) (h3 : okD d) : knownS z d = (isE (knownL z d), 0) := by
  unfold knownS
  rw [if_neg]
  rintro (h | h)
  · exact not_bad h1 h2 h
  · exact h h3
theorem known_more {z : List Ed} {d e : Int} (h : d ≤ e) : (knownL z d).length ≤ (knownL z e).length := by
  unfold knownL
  rw [← List.countP_eq_length_filter, ← List.countP_eq_length_filter]
  exact List.countP_mono_left fun x _ hx => by
    have hx : decide (x.Known ≤ d) = true := hx
    have hx := of_decide_eq_true hx
    show decide (x.Known ≤ e) = true
    rw [decide_eq_true_eq]; omega
structure KInv (z : List Ed) (n : Nat) (k : Int) : Prop where
  len : z.length + n ≤ 7
  k0 : 0 ≤ k
  k1 : k ≤ 6 * (z.length : Int)
  all : ∀ e ∈ z, okD e.Day ∧ okD e.Known ∧ e.Known ≤ k ∧ szE e
  pw : z.Pairwise fun a b => a.Known ≤ b.Known
set_option maxHeartbeats 1000000 in
theorem lKnown_h (l : List Int) (day : Int) (w1 : (Lit.int .u8 day).wf = true) : lKnown_W l day fun b => b = true := by
  obtain ⟨b3, b4⟩ := wf_u8k w1
  have ed : ∃ d : Int, (IntKind.i64.wrap day).tmod (50 : Int) = d ∧ 0 ≤ d ∧ d ≤ 49 := ⟨day % 50, by rw [wrap_in (z := day) (by omega) (by omega), Int.tmod_eq_emod_of_nonneg b3], by omega, by omega⟩
  obtain ⟨d, ed, d1, d2⟩ := ed
  unfold lKnown_W
  rw [ed, wrap_in (z := d + 3) (by omega) (by omega)]
  clear ed w1 b3 b4
  refine ⟨Int.NonNeg.mk 9223372036854775799, fun v1 h0 h1 => ?_⟩
  refine LOOP.fuel3 (fun (z : Int) (b : List Ed) (k : Int) => ∃ n : Nat, z = (n : Int) ∧ KInv b n k) (fun z _ _ => Int.toNat z) ⟨v1.toNat, by omega, ⟨by show 0 + v1.toNat ≤ 7; omega, Int.le_refl 0, Int.le_refl 0, (fun e he => by cases he), List.Pairwise.nil⟩⟩ ?_
  rintro rec (z : Int) (b : List Ed) (kn : Int) ⟨n, i1, i2⟩ hrec
  subst i1
  obtain ⟨q1, q2, q3, q4, q5⟩ := i2
  refine IFB.mk (fun hb => ?_) (fun hb => ?_)
  · have hb : (0 : Int) < (n : Int) := of_decide_eq_true hb
    refine ⟨Int.NonNeg.mk 9223372036854775801, fun v6 m1 m2 => ⟨Int.NonNeg.mk 9223372036854775767, fun v7 m3 m4 => ⟨by simp only [List.length_cons, List.length_nil]; omega, ?_⟩⟩⟩
    rw [wrapP (by omega) (by omega), wrap_in (z := kn + v6) (by omega) (by omega)]
    refine hrec ((n - 1 : Nat) : Int) _ _ ⟨n - 1, rfl, ⟨?_, by omega, ?_, fun e he => ?_, ?_⟩⟩ (by show ((n - 1 : Nat) : Int).toNat < (n : Int).toNat; omega)
    · rw [List.length_append, List.length_singleton]; omega
    · rw [List.length_append, List.length_singleton]; push_cast; omega
    · rcases List.mem_append.1 he with he | he
      · obtain ⟨e1, e2, e3, e4⟩ := q4 e he
        exact ⟨e1, e2, by omega, e4⟩
      · rw [List.mem_singleton.1 he]
        exact ⟨⟨m3, by show v7 ≤ 36864; omega⟩, ⟨by show 0 ≤ kn + v6; omega, by show kn + v6 ≤ 36864; omega⟩, Int.le_refl _, ⟨by show 1 ≤ 1000000; omega, by show 0 ≤ 1000000; omega, fun a ha => by cases ha⟩⟩
    · refine List.pairwise_append.2 ⟨q5, List.pairwise_singleton _ _, fun x hx y hy => ?_⟩
      rw [List.mem_singleton.1 hy]
      have := (q4 x hx).2.2.1
      show x.Known ≤ kn + v6
      omega
  clear hrec hb
  have hsz : b.length ≤ 19 ∧ ∀ e ∈ b, szE e := ⟨by omega, fun e he => (q4 e he).2.2.2⟩
  have hok : ∀ e ∈ b, okD e.Day ∧ okD e.Known := fun e he => ⟨(q4 e he).1, (q4 e he).2.1⟩
  refine ⟨by decide, hsz, fun v9 v10 ⟨h9, h10⟩ => ⟨hsz, fun v12 v13 ⟨h12, h13⟩ => ?_⟩⟩
  rw [known_eq hok q5 ⟨d1, by omega⟩] at h9 h10
  rw [known_eq hok q5 ⟨by omega, by omega⟩] at h12 h13
  have h9 : v9 = isE (knownL b d) := h9
  have h12 : v12 = isE (knownL b (d + 3)) := h12
  subst h10
  subst h13
  have l9 : v9.length = (knownL b d).length := by rw [h9, isE_len]
  have l12 : v12.length = (knownL b (d + 3)).length := by rw [h12, isE_len]
  have hmore := known_more (z := b) (d := d) (e := d + 3) (by omega)
  have hfl : (knownL b d).length ≤ b.length := List.length_filter_le _ _
  intro _ _
  refine IFB.no ?_ (fun _ => ?_)
  · have : ¬ ((v12.length : Int) < (v9.length : Int)) := by omega
    simp [this]
  refine LOOP.fuel2 (fun (z : Int) (m : Int) => ∃ k : Nat, z = (k : Int) ∧ k ≤ b.length ∧ m = ((knownL (b.take k) d).length : Int)) (fun z _ => b.length - Int.toNat z) ⟨0, rfl, Nat.zero_le _, rfl⟩ ?_
  rintro rec2 (z : Int) (m : Int) ⟨k, i1, i2, i3⟩ hrec2
  subst i1
  refine IFB.mk (fun hb => ?_) (fun hb _ => ?_)
  · have hb : (k : Int) < b.length := of_decide_eq_true hb
    have hk : k < b.length := by omega
    refine JOIN.opq fun (J : Int → Prop) hJ => ⟨by omega, ?_⟩
    have kJ : ∀ y : Int, y = ((knownL (b.take (k + 1)) d).length : Int) → J y := fun y h => by
      rw [hJ]
      show rec2 (IntKind.i64.wrap ((k : Int) + 1)) y
      rw [wrapS (by omega)]
      exact hrec2 ((k + 1 : Nat) : Int) _ ⟨k + 1, rfl, hk, h⟩ (by show b.length - ((k + 1 : Nat) : Int).toNat < b.length - (k : Int).toNat; omega)
    have hle : (knownL (b.take k) d).length ≤ k := Nat.le_trans (List.length_filter_le _ _) (by rw [List.length_take]; omega)
    refine IFB.mk (fun hc => kJ _ ?_) (fun hc => kJ _ ?_)
    · have hc : (ix b (k : Int)).Known ≤ d := of_decide_eq_true hc
      rw [known_take hk, if_pos hc, List.length_append, List.length_singleton, i3, wrap_in (by omega) (by omega)]
      push_cast; rfl
    · have hc : ¬ (ix b (k : Int)).Known ≤ d := of_decide_eq_false hc
      rw [known_take hk, if_neg hc]; exact i3
  have hb : ¬ (k : Int) < b.length := of_decide_eq_false hb
  have hk : k = b.length := by omega
  rw [hk, List.take_length] at i3
  have hm : m = (v9.length : Int) := by omega
  have hall : ∀ e ∈ v9, e.Known ≤ d := fun e he => by
    rw [h9] at he
    have := List.mem_filter.1 (isE_perm.mem_iff.1 he)
    exact of_decide_eq_true this.2
  have hsrt : v9.Pairwise kLe := by rw [h9]; exact isE_srt (q5.filter _)
  clear hrec2 i3 hb hk h9 h12
  refine loopCmp (n := v9.length) (by omega) (p := fun _ => True) (fun rec3 k hk _ hrec3 => ?_) fun _ _ => ?_
  · have h1 := hall _ (ix_mem (l := v9) (i := (k : Int)) (by omega) (by omega))
    have hw : ∀ h0 : 0 < k, IntKind.i64.wrap ((k : Int) - 1) = ((k - 1 : Nat) : Int) := fun h0 => wrapP (by omega) h0
    have hpos : ∀ {x y : Bool}, (x && gx true (decide ((0 : Int) < (k : Int)))) = true → 0 < k := fun {x _} h => by
      rw [Bool.and_eq_true] at h
      have := of_decide_eq_true h.2
      omega
    have hpos2 : ∀ {x y : Bool}, (x && gx true (decide ((0 : Int) < (k : Int))) && y) = true → 0 < k := fun {x y} h => by
      rw [Bool.and_eq_true] at h
      exact hpos (y := true) h.1
    refine ⟨by omega, fun _ => by omega, fun h => ?_, fun _ => by omega, fun h => ?_, fun _ => by omega, fun h => ?_, IFB.no ?_ (hrec3 trivial)⟩
    · rw [hw (hpos (y := true) h)]; omega
    · have h0 := hpos2 h
      rw [hw h0]; omega
    · rw [Bool.and_eq_true] at h
      have h0 := hpos2 h.1
      rw [hw h0]; omega
    · rw [Bool.or_eq_false_iff]
      refine ⟨decide_eq_false (by show ¬ d < (ix v9 (k : Int)).Known; omega), ?_⟩
      by_cases h0 : 0 < k
      · rw [hw h0]
        have hp := List.pairwise_iff_getElem.1 hsrt (k - 1) k (by omega) hk (by omega)
        rw [← ix_lt hk, ← ix_lt (l := v9) (k := k - 1) (by omega)] at hp
        rw [Bool.and_eq_false_iff]
        right
        rw [Bool.or_eq_false_iff, Bool.and_eq_false_iff, decide_eq_false_iff_not, decide_eq_false_iff_not, decide_eq_false_iff_not]
        unfold kLe at hp
        refine ⟨?_, ?_⟩
        · show ¬ (ix v9 (k : Int)).Day < (ix v9 ((k - 1 : Nat) : Int)).Day
          omega
        · show ¬ (ix v9 (k : Int)).Day = (ix v9 ((k - 1 : Nat) : Int)).Day ∨ ¬ (ix v9 (k : Int)).Known < (ix v9 ((k - 1 : Nat) : Int)).Known
          omega
      · have : ¬ (0 : Int) < (k : Int) := by omega
        rw [decide_eq_false this, Bool.false_and]
  · refine JOIN.opq fun (J : Bool → Prop) hJ => IFB.yes ?_ ?_
    · rw [gx_t, decide_eq_true_eq]; exact hm
    · rw [hJ]
      show (decide (m = (v9.length : Int)) && true) = true
      rw [Bool.and_true, decide_eq_true_eq]; exact hm

end RE
end Go.Proofs.YtpeggkeenboacaaGreat
