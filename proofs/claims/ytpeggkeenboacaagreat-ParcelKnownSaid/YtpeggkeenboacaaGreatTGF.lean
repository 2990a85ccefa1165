/-
  parcel.forms: a map, made by hand.
-/
import Derived.Test.YtpeggkeenboacaaGreatTGD
import Derived.Test.YtpeggkeenboacaaGreatProg
import Derived.Deep.DeepCutAuto
import Derived.Deep.CutBlock
import Derived.Deep.RegionHeld3
import Derived.StillTailTactics
import Derived.Carry
import Derived.Test.YtpeggkeenboacaaGreatTGE
import Derived.Test.YtpeggkeenboacaaGreatTGW
set_option linter.unusedVariables false
set_option maxRecDepth 100000
namespace Go.Proofs.YtpeggkeenboacaaGreat
open Go.RowKit Go.Sort Go.Lib
namespace RE
open PL
namespace Forms
theorem set_last (w : World) (o o' : Obj) : ({ w.alloc o with heap := (w.alloc o).heap.setIfInBounds w.heap.size o' } : World) = w.alloc o' := by
  have e : (w.alloc o).heap = w.heap.push o := rfl
  have e' : (w.alloc o').heap = w.heap.push o' := rfl
  have h : (w.alloc o).heap.setIfInBounds w.heap.size o' = (w.alloc o').heap := by
    rw [e, e']
    apply Array.ext'
    simp
  rw [h]
  rfl
theorem ins_run {P : Program} {mt kt et : TypeId} {kk : IntKind} (hm : P.underlying mt = some (.map kt et)) (hk : P.underlying kt = some (.int kk)) (w : World) (es : Array MapEntry) (clock : Nat) (z : Int) (v : Value) (hn : Instr.findNow (.int kk) (.int .i64 z) es.toList 0 = some none) :
    (Instr.mapUpdate mt (.map (some w.heap.size)) (.int .i64 z) v).run P (w.alloc (.map es clock)) = .ok () (w.alloc (.map (es.push { key := .int .i64 z, val := v, born := clock }) (clock + 1))) := by
  have hb : (w.alloc (.map es clock)).heap[w.heap.size]? = some (.map es clock) := heap_alloc_new w _
  have hget : (getObj w.heap.size).run P (w.alloc (.map es clock)) = .ok (.map es clock) (w.alloc (.map es clock)) := by
    simp only [getObj, Sem.run]
    rw [hb]
  have hset : ∀ o, (setObj w.heap.size o).run P (w.alloc (.map es clock)) = .ok () (w.alloc o) := fun o => by
    simp only [setObj, Sem.run, hb, set_last]
  have hck : (Instr.checkKey false 10000 kt (.int .i64 z)).run P (w.alloc (.map es clock)) = .ok () (w.alloc (.map es clock)) := by
    show (Instr.checkKey false (9999 + 1) kt (.int .i64 z)).run P _ = _
    unfold Instr.checkKey
    simp [run_underlying hk]
  have hf : (Instr.findKey kt (.int .i64 z) es.toList).run P (w.alloc (.map es clock)) = .ok none (w.alloc (.map es clock)) := by
    unfold Instr.findKey
    simp [run_underlying hk, hn]
  simp [Instr.mapUpdate, run_underlying hm, hget, hck, hf, hset]
def fv (a b c d : Int) (f : FuncId) : Value := .agg #[.int .i64 a, .int .i64 b, .int .i64 c, .int .i64 d, .func (.func f) #[] #[]]
def ents : Array MapEntry := #[{ key := .int .i64 1, val := fv 0 0 1 1 147, born := 0 }, { key := .int .i64 2, val := fv 1 1 1 1 148, born := 1 }, { key := .int .i64 3, val := fv 1 1 2 8 149, born := 2 }, { key := .int .i64 4, val := fv 2 8 0 0 150, born := 3 }, { key := .int .i64 5, val := fv 1 1 0 0 151, born := 4 }]
set_option maxHeartbeats 1000000 in
theorem forms_walk (w : World) : Calls Tryz.prog 77 #[] w fun ex w' => ex = .returned (.map (some w.heap.size)) ∧ w' = w.alloc (.map ents 5) := by
  have hm : Tryz.prog.underlying 129 = some (.map 3 128) := by kernel_rfl
  have hk : Tryz.prog.underlying 3 = some (.int .i64) := by kernel_rfl
  have e0 := @run_makeMap Tryz.prog 129 w
  have e1 := ins_run hm hk w #[] 0 1 (fv 0 0 1 1 147) rfl
  have e2 := ins_run hm hk w _ 1 2 (fv 1 1 1 1 148) (show Instr.findNow _ _ (Array.toList (ents.extract 0 1)) 0 = some none from rfl)
  have e3 := ins_run hm hk w _ 2 3 (fv 1 1 2 8 149) (show Instr.findNow _ _ (Array.toList (ents.extract 0 2)) 0 = some none from rfl)
  have e4 := ins_run hm hk w _ 3 4 (fv 2 8 0 0 150) (show Instr.findNow _ _ (Array.toList (ents.extract 0 3)) 0 = some none from rfl)
  have e5 := ins_run hm hk w _ 4 5 (fv 1 1 0 0 151) (show Instr.findNow _ _ (Array.toList (ents.extract 0 4)) 0 = some none from rfl)
  have h0 : (#[] : Array MapEntry) = ents.extract 0 0 := rfl
  have p1 : (#[] : Array MapEntry).push { key := .int .i64 1, val := fv 0 0 1 1 147, born := 0 } = ents.extract 0 1 := rfl
  have p2 : (ents.extract 0 1).push { key := .int .i64 2, val := fv 1 1 1 1 148, born := 1 } = ents.extract 0 2 := rfl
  have p3 : (ents.extract 0 2).push { key := .int .i64 3, val := fv 1 1 2 8 149, born := 2 } = ents.extract 0 3 := rfl
  have p4 : (ents.extract 0 3).push { key := .int .i64 4, val := fv 2 8 0 0 150, born := 3 } = ents.extract 0 4 := rfl
  have p5 : (ents.extract 0 4).push { key := .int .i64 5, val := fv 1 1 0 0 151, born := 4 } = ents := rfl
  rw [p1] at e1
  rw [p2] at e2
  rw [p3] at e3
  rw [p4] at e4
  rw [p5] at e5
  unfold fv at e1 e2 e3 e4 e5
  clear p1 p2 p3 p4 p5 h0
  generalize ents.extract 0 1 = E1 at e1 e2
  generalize ents.extract 0 2 = E2 at e2 e3
  generalize ents.extract 0 3 = E3 at e3 e4
  generalize ents.extract 0 4 = E4 at e4 e5
  go_enter Tryz.func77, Tryz.ntmps77
  go_wp2
  go_ret
  exact ⟨rfl, rfl⟩
end Forms
end RE
end Go.Proofs.YtpeggkeenboacaaGreat
namespace Go.Proofs.YtpeggkeenboacaaGreat
open Go.RowKit
set_option linter.unusedVariables false
namespace RE
variable {P : Program}
/-- A contract whose result is a row of its own, at machine level. -/
theorem SpecOK.ownAt {f : FuncId} {al : Bool} {t : Ty} {e : TypeId} {t' : Ty} {pt : dens [t] → (dens (shT (.own e t') []) → Prop) → Prop} (h : SpecOK P ⟨f, false, al, [t], .own e t', pt⟩) {x : den t} {l' : List (den t')} (hp : pt (x, ()) fun y => y = (l', ())) {w : World} {S : Cells} {u : Value} (hS : ∀ b o, S b o → b < w.heap.size) (hu : Rd S w (tv t x) u) :
    Calls P f #[u] w fun ex w' => ∃ (v : Value) (F : Nat → Prop) (S' : Cells), ex = .returned v ∧ RowAt w' S' v F e t' l' ∧ (∀ b o, S b o → S' b o) ∧ (∀ b o, S' b o → (S b o ∨ w.heap.size ≤ b) ∧ b < w'.heap.size) ∧ (∀ b, F b → w.heap.size ≤ b ∧ b < w'.heap.size ∧ ∀ o, ¬ S' b o) ∧ Below w.heap.size w w' := by
  refine (h (x, ()) (fun y => y = (l', ())) hp w S none [u] hS rfl rfl fun i d v hd hv => ?_).mono ?_
  · match i, hd, hv with
    | 0, hd, hv => cases hd; cases hv; exact hu
    | i + 1, hd, hv => cases hd
  · rintro ex w' ⟨v, y, c', rfl, rfl, hox, htr, hsr⟩
    have hid : (MS.add ⟨[], 0, false⟩ (instS (.own e t') [] ((l', ()) : dens (shT (.own e t') [])) 0).2.1).obs 0 = some (.row e t' l') := rfl
    obtain ⟨_, _, hrow⟩ := hox.objs 0 _ hid
    have hv : v = c'.H 0 := srel_os (id := 0) hsr
    subst hv
    have hfb := hox.fb 0 _ hid rfl
    refine ⟨_, c'.F 0, c'.S, rfl, hrow, htr.sS, fun b o hb => ⟨?_, hox.sb b o hb⟩, fun b hb => ⟨?_, (hfb b hb).1, (hfb b hb).2.1⟩, ⟨htr.os, htr.tape, htr.output, htr.sz, fun k hk => htr.blk k hk (fun ⟨_, _, hx, _⟩ => (by cases hx)) (fun h => by cases h)⟩⟩
    · rcases htr.sN b o hb with h | ⟨_, _, hx, _⟩ | h
      · exact .inl h
      · cases hx
      · exact .inr h
    · rcases htr.fp b ⟨0, _, hid, rfl, hb⟩ with ⟨_, _, hx, _⟩ | h
      · cases hx
      · exact h
end RE
end Go.Proofs.YtpeggkeenboacaaGreat
namespace Go.Proofs.YtpeggkeenboacaaGreat
open Go.RowKit
set_option linter.unusedVariables false
namespace RE
variable {P : Program}
/-- A function that makes a map. -/
def MapMk (P : Program) (f : FuncId) (es : List (Int × D)) : Prop :=
  ∀ (w : World) (S : Cells), Calls P f #[] w fun ex w' => ∃ (v : Value) (F : Nat → Prop), ex = .returned v ∧ MapAt w' S v F es ∧ (∀ b, F b → w.heap.size ≤ b ∧ b < w'.heap.size) ∧ Below w.heap.size w w'
def mapCp (sym : Bool) (es : List (Int × D)) (ss : List SV) (m : MS) (K : SV → MS → Prop) : Prop := match ss with
  | [] => K (.os m.nx) ⟨(m.nx, some (.mp sym es)) :: m.ob, m.nx + 1, m.tp⟩
  | _ => False
def ruleMap (f : FuncId) (sym : Bool) (es : List (Int × D)) : Rule := ⟨f, mapCp sym es⟩
theorem ruleMap_ok {f : FuncId} {sym : Bool} {es : List (Int × D)} (h : MapMk P f es) : RuleOK P (ruleMap f sym es) := by
  intro ss m K hk us w c hox hl hr
  have hk2 : mapCp sym es ss m K := hk
  clear hk
  unfold mapCp at hk2
  split at hk2
  rotate_left
  · exact hk2.elim
  match us, hl with
  | [], _ =>
  refine (h w c.S).mono ?_
  rintro ex w' ⟨v, F, rfl, hn, s3, hb⟩
  let x : Ob := .mp sym es
  have ho : (MS.obs ⟨(m.nx, some x) :: m.ob, m.nx + 1, m.tp⟩) = put m.obs m.nx (some x) := lookO_cons _ _ _
  have hU : ∀ i, m.U i → i ≠ m.nx := fun i hi e => by have : i < m.nx := hi; omega
  obtain ⟨k1, k2⟩ := OX.upd (ob' := put m.obs m.nx (some x)) (U' := fun i => i < m.nx + 1) (w' := w') (c' := ⟨c.S, put c.H m.nx v, put c.F m.nx F, c.T⟩) hox m.nx x (fun i => i ≠ m.nx)
    (fun i hi => Nat.lt_succ_of_lt hi) (Nat.lt_succ_self _) (put_same _ _ _) (fun i y hi e => ⟨e, by rw [put_ne _ _ e] at hi; exact hi⟩) (fun e => e rfl) (fun i hi => ⟨put_ne _ _ (hU i hi), put_ne _ _ (hU i hi)⟩) (fun _ _ h => h) (fun b o hb => .inl hb) (fun b o hs => Nat.lt_of_lt_of_le (hox.sb b o hs) hb.size)
    rfl hb.os hb.tape hb.output hb.size (fun b hlt _ => hb.block b hlt) (by
      show MapAt w' c.S (put c.H m.nx _ m.nx) (put c.F m.nx F m.nx) es
      rw [put_same, put_same]; exact hn) trivial (fun _ b hb => .inr (s3 b (by
        have hb : put c.F m.nx F m.nx b := hb
        rw [put_same] at hb; exact hb)).1) (fun _ b hb => by
        have hb : put c.F m.nx F m.nx b := hb
        rw [put_same] at hb
        obtain ⟨q1, q2⟩ := s3 b hb
        exact ⟨q2, fun o hs => by have := hox.sb b o hs; omega⟩)
  refine ⟨v, .os m.nx, ⟨(m.nx, some x) :: m.ob, m.nx + 1, m.tp⟩, ⟨c.S, put c.H m.nx v, put c.F m.nx F, c.T⟩, rfl, hk2, ⟨⟨[(m.nx, some x)], rfl⟩, id⟩, ?_, ?_, ?_, Nat.lt_succ_self _⟩
  · show OX _ _ _ _ _
    rw [ho]; exact k1
  · show Tr _ _ _ _ _ _ _ _
    rw [ho]; exact k2
  · have : SRel ⟨c.S, put c.H m.nx v, put c.F m.nx F, c.T⟩ w' (.os m.nx) (put c.H m.nx v m.nx) := .os _
    rwa [put_same] at this
/-- Nothing is asked of a function that is never called. -/
def ruleNo (f : FuncId) : Rule := ⟨f, fun _ _ _ => False⟩
theorem ruleNo_ok (f : FuncId) : RuleOK P (ruleNo f) := fun _ _ _ h => h.elim
end RE
end Go.Proofs.YtpeggkeenboacaaGreat
set_option linter.unusedVariables false
namespace Go.Proofs.YtpeggkeenboacaaGreat
open Go.RowKit
namespace RE
namespace Forms
def fd (a b c d : Int) (f : FuncId) : D := .agg [iD a, iD b, iD c, iD d, .v (.func (.func f) #[] #[])]
def es : List (Int × D) := [(1, fd 0 0 1 1 147), (2, fd 1 1 1 1 148), (3, fd 1 1 2 8 149), (4, fd 2 8 0 0 150), (5, fd 1 1 0 0 151)]
theorem fd_rd (a b c d : Int) (f : FuncId) (S : Cells) (w : World) : Rd S w (fd a b c d f) (fv a b c d f) := dOfV_rd (v := fv a b c d f) rfl S w
theorem forms_mk : MapMk Tryz.prog 77 es := by
  intro w S
  refine (forms_walk w).mono ?_
  rintro ex w' ⟨rfl, rfl⟩
  refine ⟨_, fun b => b = w.heap.size, rfl, ⟨w.heap.size, ents, 5, rfl, fun _ => Iff.rfl, heap_alloc_new w _, rfl, fun i k d m hi hm => ?_⟩, fun b e => ⟨by omega, by subst e; simp⟩, (Below.refl _ _).alloc (Nat.le_refl _) _⟩
  match i, hi, hm with
  | 0, hi, hm => cases hi; cases hm; exact ⟨rfl, fd_rd ..⟩
  | 1, hi, hm => cases hi; cases hm; exact ⟨rfl, fd_rd ..⟩
  | 2, hi, hm => cases hi; cases hm; exact ⟨rfl, fd_rd ..⟩
  | 3, hi, hm => cases hi; cases hm; exact ⟨rfl, fd_rd ..⟩
  | 4, hi, hm => cases hi; cases hm; exact ⟨rfl, fd_rd ..⟩
  | i + 5, hi, hm => cases hi
end Forms
end RE
end Go.Proofs.YtpeggkeenboacaaGreat
set_option maxRecDepth 100000
set_option linter.unusedVariables false
namespace Go.Proofs.YtpeggkeenboacaaGreat
open Go.RowKit
namespace RE
open PL

namespace PL
/-- An edit of moderate size. -/
structure szE (e : Ed) : Prop where
  pars : e.Parcels.length ≤ 1000000
  regs : e.Regions.length ≤ 1000000
  rect : ∀ a ∈ e.Regions, a.Rects.length ≤ 1000000
end PL
theorem checkS_0 {l : List Pc} : checkS l = 0 ↔ l.length ≤ 60 ∧ regP l := by
  unfold checkS
  split
  · exact ⟨fun h => (by cases h), fun h => by omega⟩
  · split
    · exact ⟨fun _ => ⟨by omega, by assumption⟩, fun _ => rfl⟩
    · exact ⟨fun h => (by cases h), fun h => absurd h.2 (by assumption)⟩
theorem regP_days {l : List Pc} (h : regP l) : ∀ p ∈ l, 0 < p.Days.length ∧ p.Days.length = p.Regions.length := fun p hp => by
  obtain ⟨i, hi, rfl⟩ := ix_ex hp
  have := (h.1 i hi).2.2.2.2.2.1
  exact ⟨this.1, this.2.1⟩

def pedit_P (l : List (api_Parcel)) (e : api_Edit) (post : Int → Prop) : Prop := (szL l ∧ szE e) ∧ post (editS l e)
def pedit_sp : Spec := ⟨75, false, false, [.sl (.st .api_Parcel), .st .api_Edit], .dat (.int .i64), fun x post => pedit_P (x.1 : List (api_Parcel)) (x.2.1 : api_Edit) (fun y0 => post (y0, ()))⟩
def pedit_C : CtxR := ⟨tau, [rule1 pchk_sp, ruleMap 77 true Forms.es, rule1 plast_sp, rule1 popn_sp, rule1 pasc_sp, rule1 pprop_sp], lookJ [(14903780001, 0, ⟨[(0, .dat (.int .i64))], [], [], [], []⟩), (14903780001, 5, ⟨[(8, .dat (.int .i64))], [], [9, 10, 5, 11, 12, 13, 14, 15, 16, 18], [], []⟩), (12776157920, 0, ⟨[(0, .dat (.int .i64))], [], [], [], []⟩), (12776157920, 5, ⟨[(8, .dat (.int .i64))], [], [9, 10, 5, 11, 12, 13, 14, 15, 16, 18], [], []⟩)]⟩
def pedit_W (l : List (api_Parcel)) (e : api_Edit) (post : Int → Prop) : Prop := szL l ∧ IFB (!decide (checkS l = (0 : Int))) (post (checkS l)) ((((↑e.4.length : Int) ≤ (9223372036854775807 : Int) → (↑e.5.length : Int) ≤ (9223372036854775807 : Int) → IFB (!(decide (e.3 = (1 : Int)) || (decide (e.3 = (2 : Int)) || (decide (e.3 = (3 : Int)) || (decide (e.3 = (4 : Int)) || (decide (e.3 = (5 : Int)) || false)))))) (post (14 : Int)) ((l.length ≤ (1000000 : Nat) ∧ ∀ (v1 : api_Parcel), v1 ∈ l → (0 : Nat) < v1.5.length ∧ v1.5.length ≤ (1000000 : Nat)) ∧ IFB (decide (e.1 < dayS l) || decide ((36864 : Int) < e.1)) (post (9 : Int)) (JOIN [Ty.bool] (fun (y2 : Bool) ↦ IFB (decide ((↑e.4.length : Int) < if e.3 = (1 : Int) then (0 : Int) else if e.3 = (2 : Int) then (1 : Int) else if e.3 = (3 : Int) then (1 : Int) else if e.3 = (4 : Int) then (2 : Int) else if e.3 = (5 : Int) then (1 : Int) else (0 : Int)) || decide ((if e.3 = (1 : Int) then (0 : Int) else if e.3 = (2 : Int) then (1 : Int) else if e.3 = (3 : Int) then (1 : Int) else if e.3 = (4 : Int) then (8 : Int) else if e.3 = (5 : Int) then (1 : Int) else (0 : Int)) < (↑e.4.length : Int)) || decide ((↑e.5.length : Int) < if e.3 = (1 : Int) then (1 : Int) else if e.3 = (2 : Int) then (1 : Int) else if e.3 = (3 : Int) then (2 : Int) else if e.3 = (4 : Int) then (0 : Int) else if e.3 = (5 : Int) then (0 : Int) else (0 : Int)) || decide ((if e.3 = (1 : Int) then (1 : Int) else if e.3 = (2 : Int) then (1 : Int) else if e.3 = (3 : Int) then (8 : Int) else if e.3 = (4 : Int) then (0 : Int) else if e.3 = (5 : Int) then (0 : Int) else (0 : Int)) < (↑e.5.length : Int)) || !y2) (post (3 : Int)) (JOIN [Ty.int IntKind.i64] (fun (y3 : Int) ↦ IFB (decide ((0 : Int) ≤ y3)) (post (10 : Int)) (JOIN [Ty.int IntKind.i64] (fun (y4 : Int) ↦ IFB (decide ((0 : Int) ≤ y4)) (post (7 : Int)) (post (0 : Int))) fun (J5 : Int → Prop) ↦ (↑e.5.length : Int) ≤ (9223372036854775807 : Int) → LOOP [Ty.int IntKind.i64] (fun (rec6 : Int → Prop) (z7 : Int) ↦ IFB (decide (z7 < (↑e.5.length : Int))) (((0 : Int) ≤ z7 ∧ z7 < (↑e.5.length : Int)) ∧ (ix e.5 z7).1.length ≤ (1000000000 : Nat) ∧ ∀ (v8 : Bool), (v8 = true ↔ propR { Rects := (ix e.5 z7).1 : api_Region }) → IFB (!v8) (J5 z7) (rec6 (IntKind.i64.wrap (z7 + (1 : Int))))) (J5 (-1 : Int))) ((0 : Int), PUnit.unit))) fun (J9 : Int → Prop) ↦ (↑e.4.length : Int) ≤ (9223372036854775807 : Int) → LOOP [Ty.int IntKind.i64] (fun (rec10 : Int → Prop) (z11 : Int) ↦ IFB (decide (z11 < (↑e.4.length : Int))) (((0 : Int) ≤ z11 ∧ z11 < (↑e.4.length : Int)) ∧ l.length ≤ (1000000 : Nat) ∧ ∀ (v12 : Bool), (v12 = true ↔ openP l (ix e.4 z11)) → IFB (!v12) (J9 z11) (rec10 (IntKind.i64.wrap (z11 + (1 : Int))))) (J9 (-1 : Int))) ((0 : Int), PUnit.unit))) fun (J13 : Bool → Prop) ↦ IFB (gx false (decide ((↑e.4.length : Int) < if e.3 = (1 : Int) then (0 : Int) else if e.3 = (2 : Int) then (1 : Int) else if e.3 = (3 : Int) then (1 : Int) else if e.3 = (4 : Int) then (2 : Int) else if e.3 = (5 : Int) then (1 : Int) else (0 : Int)) || decide ((if e.3 = (1 : Int) then (0 : Int) else if e.3 = (2 : Int) then (1 : Int) else if e.3 = (3 : Int) then (1 : Int) else if e.3 = (4 : Int) then (8 : Int) else if e.3 = (5 : Int) then (1 : Int) else (0 : Int)) < (↑e.4.length : Int)) || decide ((↑e.5.length : Int) < if e.3 = (1 : Int) then (1 : Int) else if e.3 = (2 : Int) then (1 : Int) else if e.3 = (3 : Int) then (2 : Int) else if e.3 = (4 : Int) then (0 : Int) else if e.3 = (5 : Int) then (0 : Int) else (0 : Int)) || decide ((if e.3 = (1 : Int) then (1 : Int) else if e.3 = (2 : Int) then (1 : Int) else if e.3 = (3 : Int) then (8 : Int) else if e.3 = (4 : Int) then (0 : Int) else if e.3 = (5 : Int) then (0 : Int) else (0 : Int)) < (↑e.5.length : Int)))) (e.4.length ≤ (1000000000 : Nat) ∧ ∀ (v14 : Bool), (v14 = true ↔ asc e.4) → J13 v14) (J13 false)))) ∧ ((↑e.4.length : Int) ≤ (9223372036854775807 : Int) → (↑e.5.length : Int) ≤ (9223372036854775807 : Int) → IFB (!(decide (e.3 = (1 : Int)) || (decide (e.3 = (2 : Int)) || (decide (e.3 = (3 : Int)) || (decide (e.3 = (4 : Int)) || (decide (e.3 = (5 : Int)) || false)))))) (post (14 : Int)) ((l.length ≤ (1000000 : Nat) ∧ ∀ (v15 : api_Parcel), v15 ∈ l → (0 : Nat) < v15.5.length ∧ v15.5.length ≤ (1000000 : Nat)) ∧ IFB (decide (e.1 < dayS l) || decide ((36864 : Int) < e.1)) (post (9 : Int)) (JOIN [Ty.bool] (fun (y16 : Bool) ↦ IFB (decide ((↑e.4.length : Int) < if e.3 = (1 : Int) then (0 : Int) else if e.3 = (2 : Int) then (1 : Int) else if e.3 = (3 : Int) then (1 : Int) else if e.3 = (4 : Int) then (2 : Int) else if e.3 = (5 : Int) then (1 : Int) else (0 : Int)) || decide ((if e.3 = (1 : Int) then (0 : Int) else if e.3 = (2 : Int) then (1 : Int) else if e.3 = (3 : Int) then (1 : Int) else if e.3 = (4 : Int) then (8 : Int) else if e.3 = (5 : Int) then (1 : Int) else (0 : Int)) < (↑e.4.length : Int)) || decide ((↑e.5.length : Int) < if e.3 = (1 : Int) then (1 : Int) else if e.3 = (2 : Int) then (1 : Int) else if e.3 = (3 : Int) then (2 : Int) else if e.3 = (4 : Int) then (0 : Int) else if e.3 = (5 : Int) then (0 : Int) else (0 : Int)) || decide ((if e.3 = (1 : Int) then (1 : Int) else if e.3 = (2 : Int) then (1 : Int) else if e.3 = (3 : Int) then (8 : Int) else if e.3 = (4 : Int) then (0 : Int) else if e.3 = (5 : Int) then (0 : Int) else (0 : Int)) < (↑e.5.length : Int)) || !y16) (post (3 : Int)) (JOIN [Ty.int IntKind.i64] (fun (y17 : Int) ↦ IFB (decide ((0 : Int) ≤ y17)) (post (10 : Int)) (JOIN [Ty.int IntKind.i64] (fun (y18 : Int) ↦ IFB (decide ((0 : Int) ≤ y18)) (post (7 : Int)) (post (0 : Int))) fun (J19 : Int → Prop) ↦ (↑e.5.length : Int) ≤ (9223372036854775807 : Int) → LOOP [Ty.int IntKind.i64] (fun (rec20 : Int → Prop) (z21 : Int) ↦ IFB (decide (z21 < (↑e.5.length : Int))) (((0 : Int) ≤ z21 ∧ z21 < (↑e.5.length : Int)) ∧ (ix e.5 z21).1.length ≤ (1000000000 : Nat) ∧ ∀ (v22 : Bool), (v22 = true ↔ propR { Rects := (ix e.5 z21).1 : api_Region }) → IFB (!v22) (J19 z21) (rec20 (IntKind.i64.wrap (z21 + (1 : Int))))) (J19 (-1 : Int))) ((0 : Int), PUnit.unit))) fun (J23 : Int → Prop) ↦ (↑e.4.length : Int) ≤ (9223372036854775807 : Int) → LOOP [Ty.int IntKind.i64] (fun (rec24 : Int → Prop) (z25 : Int) ↦ IFB (decide (z25 < (↑e.4.length : Int))) (((0 : Int) ≤ z25 ∧ z25 < (↑e.4.length : Int)) ∧ l.length ≤ (1000000 : Nat) ∧ ∀ (v26 : Bool), (v26 = true ↔ openP l (ix e.4 z25)) → IFB (!v26) (J23 z25) (rec24 (IntKind.i64.wrap (z25 + (1 : Int))))) (J23 (-1 : Int))) ((0 : Int), PUnit.unit))) fun (J27 : Bool → Prop) ↦ IFB (gx false (decide ((↑e.4.length : Int) < if e.3 = (1 : Int) then (0 : Int) else if e.3 = (2 : Int) then (1 : Int) else if e.3 = (3 : Int) then (1 : Int) else if e.3 = (4 : Int) then (2 : Int) else if e.3 = (5 : Int) then (1 : Int) else (0 : Int)) || decide ((if e.3 = (1 : Int) then (0 : Int) else if e.3 = (2 : Int) then (1 : Int) else if e.3 = (3 : Int) then (1 : Int) else if e.3 = (4 : Int) then (8 : Int) else if e.3 = (5 : Int) then (1 : Int) else (0 : Int)) < (↑e.4.length : Int)) || decide ((↑e.5.length : Int) < if e.3 = (1 : Int) then (1 : Int) else if e.3 = (2 : Int) then (1 : Int) else if e.3 = (3 : Int) then (2 : Int) else if e.3 = (4 : Int) then (0 : Int) else if e.3 = (5 : Int) then (0 : Int) else (0 : Int)) || decide ((if e.3 = (1 : Int) then (1 : Int) else if e.3 = (2 : Int) then (1 : Int) else if e.3 = (3 : Int) then (8 : Int) else if e.3 = (4 : Int) then (0 : Int) else if e.3 = (5 : Int) then (0 : Int) else (0 : Int)) < (↑e.5.length : Int)))) (e.4.length ≤ (1000000000 : Nat) ∧ ∀ (v28 : Bool), (v28 = true ↔ asc e.4) → J27 v28) (J27 false))))) ∧ ((↑e.4.length : Int) ≤ (9223372036854775807 : Int) → (↑e.5.length : Int) ≤ (9223372036854775807 : Int) → IFB (!(decide (e.3 = (1 : Int)) || (decide (e.3 = (2 : Int)) || (decide (e.3 = (3 : Int)) || (decide (e.3 = (4 : Int)) || (decide (e.3 = (5 : Int)) || false)))))) (post (14 : Int)) ((l.length ≤ (1000000 : Nat) ∧ ∀ (v29 : api_Parcel), v29 ∈ l → (0 : Nat) < v29.5.length ∧ v29.5.length ≤ (1000000 : Nat)) ∧ IFB (decide (e.1 < dayS l) || decide ((36864 : Int) < e.1)) (post (9 : Int)) (JOIN [Ty.bool] (fun (y30 : Bool) ↦ IFB (decide ((↑e.4.length : Int) < if e.3 = (1 : Int) then (0 : Int) else if e.3 = (2 : Int) then (1 : Int) else if e.3 = (3 : Int) then (1 : Int) else if e.3 = (4 : Int) then (2 : Int) else if e.3 = (5 : Int) then (1 : Int) else (0 : Int)) || decide ((if e.3 = (1 : Int) then (0 : Int) else if e.3 = (2 : Int) then (1 : Int) else if e.3 = (3 : Int) then (1 : Int) else if e.3 = (4 : Int) then (8 : Int) else if e.3 = (5 : Int) then (1 : Int) else (0 : Int)) < (↑e.4.length : Int)) || decide ((↑e.5.length : Int) < if e.3 = (1 : Int) then (1 : Int) else if e.3 = (2 : Int) then (1 : Int) else if e.3 = (3 : Int) then (2 : Int) else if e.3 = (4 : Int) then (0 : Int) else if e.3 = (5 : Int) then (0 : Int) else (0 : Int)) || decide ((if e.3 = (1 : Int) then (1 : Int) else if e.3 = (2 : Int) then (1 : Int) else if e.3 = (3 : Int) then (8 : Int) else if e.3 = (4 : Int) then (0 : Int) else if e.3 = (5 : Int) then (0 : Int) else (0 : Int)) < (↑e.5.length : Int)) || !y30) (post (3 : Int)) (JOIN [Ty.int IntKind.i64] (fun (y31 : Int) ↦ IFB (decide ((0 : Int) ≤ y31)) (post (10 : Int)) (JOIN [Ty.int IntKind.i64] (fun (y32 : Int) ↦ IFB (decide ((0 : Int) ≤ y32)) (post (7 : Int)) (post (0 : Int))) fun (J33 : Int → Prop) ↦ (↑e.5.length : Int) ≤ (9223372036854775807 : Int) → LOOP [Ty.int IntKind.i64] (fun (rec34 : Int → Prop) (z35 : Int) ↦ IFB (decide (z35 < (↑e.5.length : Int))) (((0 : Int) ≤ z35 ∧ z35 < (↑e.5.length : Int)) ∧ (ix e.5 z35).1.length ≤ (1000000000 : Nat) ∧ ∀ (v36 : Bool), (v36 = true ↔ propR { Rects := (ix e.5 z35).1 : api_Region }) → IFB (!v36) (J33 z35) (rec34 (IntKind.i64.wrap (z35 + (1 : Int))))) (J33 (-1 : Int))) ((0 : Int), PUnit.unit))) fun (J37 : Int → Prop) ↦ (↑e.4.length : Int) ≤ (9223372036854775807 : Int) → LOOP [Ty.int IntKind.i64] (fun (rec38 : Int → Prop) (z39 : Int) ↦ IFB (decide (z39 < (↑e.4.length : Int))) (((0 : Int) ≤ z39 ∧ z39 < (↑e.4.length : Int)) ∧ l.length ≤ (1000000 : Nat) ∧ ∀ (v40 : Bool), (v40 = true ↔ openP l (ix e.4 z39)) → IFB (!v40) (J37 z39) (rec38 (IntKind.i64.wrap (z39 + (1 : Int))))) (J37 (-1 : Int))) ((0 : Int), PUnit.unit))) fun (J41 : Bool → Prop) ↦ IFB (gx false (decide ((↑e.4.length : Int) < if e.3 = (1 : Int) then (0 : Int) else if e.3 = (2 : Int) then (1 : Int) else if e.3 = (3 : Int) then (1 : Int) else if e.3 = (4 : Int) then (2 : Int) else if e.3 = (5 : Int) then (1 : Int) else (0 : Int)) || decide ((if e.3 = (1 : Int) then (0 : Int) else if e.3 = (2 : Int) then (1 : Int) else if e.3 = (3 : Int) then (1 : Int) else if e.3 = (4 : Int) then (8 : Int) else if e.3 = (5 : Int) then (1 : Int) else (0 : Int)) < (↑e.4.length : Int)) || decide ((↑e.5.length : Int) < if e.3 = (1 : Int) then (1 : Int) else if e.3 = (2 : Int) then (1 : Int) else if e.3 = (3 : Int) then (2 : Int) else if e.3 = (4 : Int) then (0 : Int) else if e.3 = (5 : Int) then (0 : Int) else (0 : Int)) || decide ((if e.3 = (1 : Int) then (1 : Int) else if e.3 = (2 : Int) then (1 : Int) else if e.3 = (3 : Int) then (8 : Int) else if e.3 = (4 : Int) then (0 : Int) else if e.3 = (5 : Int) then (0 : Int) else (0 : Int)) < (↑e.5.length : Int)))) (e.4.length ≤ (1000000000 : Nat) ∧ ∀ (v42 : Bool), (v42 = true ↔ asc e.4) → J41 v42) (J41 false)))))
theorem pedit_w (l : List (api_Parcel)) (e : api_Edit) (post : dens (shT pedit_sp.rs []) → Prop) : pedit_W l e (fun y0 => post (y0, ())) = walkG (callR Tryz.prog pedit_C (drawF Tryz.prog tau) 10 0) 75 false [tv (.sl (.st .api_Parcel)) l, tv (.st .api_Edit) e] pedit_sp.rs post := by kernel_rfl
theorem pedit_of (h : ∀ (l : List (api_Parcel)) (e : api_Edit) (post : Int → Prop), pedit_P l e post → pedit_W l e post) : SpecOK Tryz.prog pedit_sp := SpecOK.of_rules (C := pedit_C) (dr := drawF Tryz.prog tau) (n := 10) (fk := 0) (.cons (rule1_ok pchk_ok) (.cons (ruleMap_ok Forms.forms_mk) (.cons (rule1_ok plast_ok) (.cons (rule1_ok popn_ok) (.cons (rule1_ok pasc_ok) (.cons (rule1_ok pprop_ok) .nil)))))) (drawF_ok tau) fun x post hp => HoldW.of (pedit_w x.1 x.2.1 post) (h x.1 x.2.1 (fun y0 => post (y0, ())) hp)
theorem kind_iff {z : Int} : (decide (z = (1 : Int)) || (decide (z = (2 : Int)) || (decide (z = (3 : Int)) || (decide (z = (4 : Int)) || (decide (z = (5 : Int)) || false))))) = true ↔ z = 1 ∨ z = 2 ∨ z = 3 ∨ z = 4 ∨ z = 5 := by simp
theorem fits_iff {e : Ed} (h : e.3 = 1 ∨ e.3 = 2 ∨ e.3 = 3 ∨ e.3 = 4 ∨ e.3 = 5) : (decide ((e.4.length : Int) < if e.3 = (1 : Int) then (0 : Int) else if e.3 = (2 : Int) then (1 : Int) else if e.3 = (3 : Int) then (1 : Int) else if e.3 = (4 : Int) then (2 : Int) else if e.3 = (5 : Int) then (1 : Int) else (0 : Int)) || decide ((if e.3 = (1 : Int) then (0 : Int) else if e.3 = (2 : Int) then (1 : Int) else if e.3 = (3 : Int) then (1 : Int) else if e.3 = (4 : Int) then (8 : Int) else if e.3 = (5 : Int) then (1 : Int) else (0 : Int)) < (e.4.length : Int)) || decide ((e.5.length : Int) < if e.3 = (1 : Int) then (1 : Int) else if e.3 = (2 : Int) then (1 : Int) else if e.3 = (3 : Int) then (2 : Int) else if e.3 = (4 : Int) then (0 : Int) else if e.3 = (5 : Int) then (0 : Int) else (0 : Int)) || decide ((if e.3 = (1 : Int) then (1 : Int) else if e.3 = (2 : Int) then (1 : Int) else if e.3 = (3 : Int) then (8 : Int) else if e.3 = (4 : Int) then (0 : Int) else if e.3 = (5 : Int) then (0 : Int) else (0 : Int)) < (e.5.length : Int))) = false ↔ fitsP e := by
  unfold fitsP
  rcases h with h | h | h | h | h <;> rw [h] <;> simp only [Bool.or_eq_false_iff, decide_eq_false_iff_not, Int.reduceEq, ↓reduceIte, false_and, true_and, false_or, or_false] <;> omega
set_option maxHeartbeats 1000000 in
theorem pedit_ok : SpecOK Tryz.prog pedit_sp := pedit_of fun l e post hp => by
  obtain ⟨⟨hsz, hse⟩, hp⟩ := hp
  have hl := hsz.len
  have he1 : e.4.length ≤ 1000000 := hse.pars
  have he2 : e.5.length ≤ 1000000 := hse.regs
  unfold pedit_W
  unfold editS at hp
  refine ⟨hsz, IFB.mk (fun hb => ?_) (fun hb => ?_)⟩
  · have hb : checkS l ≠ 0 := by simpa using hb
    rw [if_pos hb] at hp; exact hp
  have hb : checkS l = 0 := by simpa using hb
  rw [if_neg (by rw [hb]; exact fun h => h rfl)] at hp
  obtain ⟨h60, hreg⟩ := checkS_0.1 hb
  refine (fun h => ⟨⟨h, h⟩, h⟩ : ∀ {A : Prop}, A → (A ∧ A) ∧ A) ?_
  intro _ _
  refine IFB.mk (fun hk => ?_) (fun hk => ⟨⟨hl, fun p hp => ⟨(regP_days hreg p hp).1, (hsz.all p hp).days⟩⟩, ?_⟩)
  · rw [Bool.not_eq_true'] at hk
    have hk : ¬ (e.3 = 1 ∨ e.3 = 2 ∨ e.3 = 3 ∨ e.3 = 4 ∨ e.3 = 5) := fun h => by rw [kind_iff.2 h] at hk; cases hk
    rw [if_pos (by show e.3 < 1 ∨ 5 < e.3; omega)] at hp
    exact hp
  rw [Bool.not_eq_false'] at hk
  have hk := kind_iff.1 hk
  rw [if_neg (by show ¬ (e.3 < 1 ∨ 5 < e.3); omega)] at hp
  refine IFB.mk (fun hd => ?_) (fun hd => ?_)
  · rw [if_pos (by simpa using hd)] at hp; exact hp
  rw [if_neg (by simpa using hd)] at hp
  have hfit := fits_iff hk
  generalize (decide ((e.4.length : Int) < if e.3 = (1 : Int) then (0 : Int) else if e.3 = (2 : Int) then (1 : Int) else if e.3 = (3 : Int) then (1 : Int) else if e.3 = (4 : Int) then (2 : Int) else if e.3 = (5 : Int) then (1 : Int) else (0 : Int)) || decide ((if e.3 = (1 : Int) then (0 : Int) else if e.3 = (2 : Int) then (1 : Int) else if e.3 = (3 : Int) then (1 : Int) else if e.3 = (4 : Int) then (8 : Int) else if e.3 = (5 : Int) then (1 : Int) else (0 : Int)) < (e.4.length : Int)) || decide ((e.5.length : Int) < if e.3 = (1 : Int) then (1 : Int) else if e.3 = (2 : Int) then (1 : Int) else if e.3 = (3 : Int) then (2 : Int) else if e.3 = (4 : Int) then (0 : Int) else if e.3 = (5 : Int) then (0 : Int) else (0 : Int)) || decide ((if e.3 = (1 : Int) then (1 : Int) else if e.3 = (2 : Int) then (1 : Int) else if e.3 = (3 : Int) then (8 : Int) else if e.3 = (4 : Int) then (0 : Int) else if e.3 = (5 : Int) then (0 : Int) else (0 : Int)) < (e.5.length : Int))) = c at hfit
  refine JOIN.opq fun (J : Bool → Prop) hJ => ?_
  have main : ∀ y : Bool, (c = false → (y = true ↔ asc e.4)) → J y := fun y hy => by
    rw [hJ]
    refine IFB.mk (fun hc => ?_) (fun hc => ?_)
    · rw [if_pos (fun h => ?_)] at hp
      · exact hp
      · have hc0 := hfit.2 h.1
        rw [hc0, (hy hc0).2 h.2] at hc
        cases hc
    obtain ⟨hc0, hy0⟩ := Bool.or_eq_false_iff.1 hc
    have hyt : y = true := by simpa using hy0
    rw [if_neg (fun h => h ⟨hfit.1 hc0, (hy hc0).1 hyt⟩)] at hp
    refine JOIN.opq fun (J9 : Int → Prop) hJ9 _ => ?_
    refine loopCmp (n := e.4.length) (by omega) (p := fun i => openP l (ix e.4 (i : Int))) (fun rec k hk _ hrec => ⟨by omega, hl, fun v hv => IFB.mk (fun hb => ?_) (fun hb => hrec (hv.1 (by simpa using hb)))⟩) fun hall => ?_
    · have hv0 : v = false := by simpa using hb
      rw [hJ9]
      refine IFB.yes (decide_eq_true (by omega)) ?_
      rw [if_pos (fun h => ?_)] at hp
      · exact hp
      · have := hv.2 (h _ (ix_mem (l := e.4) (i := (k : Int)) (by omega) (by omega)))
        rw [hv0] at this; cases this
    · rw [hJ9]
      refine IFB.no rfl ?_
      rw [if_neg (fun h => h fun x hx => by obtain ⟨i, hi, rfl⟩ := ix_ex hx; exact hall i hi)] at hp
      refine JOIN.opq fun (J5 : Int → Prop) hJ5 _ => ?_
      refine loopCmp (n := e.5.length) (by omega) (p := fun i => propR (ix e.5 (i : Int))) (fun rec k hk _ hrec => ⟨by omega, ?_, fun v hv => IFB.mk (fun hb => ?_) (fun hb => hrec (hv.1 (by simpa using hb)))⟩) fun hall => ?_
      · have := hse.rect _ (ix_mem (l := e.5) (i := (k : Int)) (by omega) (by omega)); omega
      · have hv0 : v = false := by simpa using hb
        rw [hJ5]
        refine IFB.yes (decide_eq_true (by omega)) ?_
        rw [if_pos (fun h => ?_)] at hp
        · exact hp
        · have := hv.2 (h _ (ix_mem (l := e.5) (i := (k : Int)) (by omega) (by omega)))
          rw [hv0] at this; cases this
      · rw [hJ5]
        refine IFB.no rfl ?_
        rw [if_neg (fun h => h fun x hx => by obtain ⟨i, hi, rfl⟩ := ix_ex hx; exact hall i hi)] at hp
        exact hp
  refine IFB.mk (fun hg => ⟨by omega, fun v hv => main v fun _ => hv⟩) (fun hg => main false fun h => ?_)
  rw [h] at hg; cases hg

end RE
end Go.Proofs.YtpeggkeenboacaaGreat
set_option maxRecDepth 100000
set_option linter.unusedVariables false
namespace Go.Proofs.YtpeggkeenboacaaGreat
open Go.RowKit
namespace RE
open PL

theorem editS_0 {l : List Pc} {e : Ed} : editS l e = 0 ↔ checkS l = 0 ∧ (1 ≤ e.Kind ∧ e.Kind ≤ 5) ∧ (dayS l ≤ e.Day ∧ e.Day ≤ 36864) ∧ (fitsP e ∧ asc e.Parcels) ∧ (∀ k ∈ e.Parcels, openP l k) ∧ ∀ a ∈ e.Regions, propR a := by
  unfold editS
  split
  · rename_i h; exact ⟨fun h2 => absurd h2 h, fun h2 => absurd h2.1 h⟩
  rename_i h1
  have h1 : checkS l = 0 := Classical.byContradiction h1
  split
  · rename_i h; exact ⟨fun h2 => (by cases h2), fun h2 => by omega⟩
  rename_i h2
  split
  · rename_i h; exact ⟨fun h2 => (by cases h2), fun h2 => by omega⟩
  rename_i h3
  split
  · rename_i h; exact ⟨fun h2 => (by cases h2), fun h2 => absurd h2.2.2.2.1 h⟩
  rename_i h4
  split
  · rename_i h; exact ⟨fun h2 => (by cases h2), fun h2 => absurd h2.2.2.2.2.1 h⟩
  rename_i h5
  split
  · rename_i h; exact ⟨fun h2 => (by cases h2), fun h2 => absurd h2.2.2.2.2.2 h⟩
  rename_i h6
  exact ⟨fun _ => ⟨h1, by omega, by omega, Classical.byContradiction h4, Classical.byContradiction h5, Classical.byContradiction h6⟩, fun _ => rfl⟩
theorem meets_in {l : List Pc} {a : Rn} {but : Int} (hl : l.length ≤ 1000000) (hr : ∀ p ∈ l, 0 < p.6.length ∧ p.6.length ≤ 1000000) {J : Int → Prop} (hy : ∀ z : Int, 0 ≤ z → hitP l a but → J z) (hn : ¬ hitP l a but → J (-1)) :
    LOOP [Ty.int IntKind.i64] (fun (rec14 : Int → Prop) (z15 : Int) => IFB (decide (z15 < (l.length : Int))) (((0 : Int) ≤ z15 ∧ z15 < (l.length : Int)) ∧ JOIN [Ty.bool] (fun (y16 : Bool) => IFB y16 (J z15) (rec14 (IntKind.i64.wrap (z15 + (1 : Int))))) fun (J17 : Bool → Prop) => JOIN [Ty.st Sn.api_Region] (fun (y18 : api_Region) => JOIN [Ty.bool] (fun (y19 : Bool) => J17 (decide ((ix l z15).3 = (36865 : Int)) && !decide ((ix l z15).1 = but) && y19)) fun (J20 : Bool → Prop) => IFB (gx true (decide ((ix l z15).3 = (36865 : Int)) && !decide ((ix l z15).1 = but))) (∀ (v21 : Bool), (v21 = true ↔ meetP a.1 y18.1) → J20 v21) (J20 false)) fun (J22 : api_Region → Prop) => IFB (gx true (decide ((ix l z15).3 = (36865 : Int)) && !decide ((ix l z15).1 = but))) (((ix l z15).6.length : Int) ≤ (9223372036854775807 : Int) → ((0 : Int) ≤ IntKind.i64.wrap (((ix l z15).6.length : Int) - (1 : Int)) ∧ IntKind.i64.wrap (((ix l z15).6.length : Int) - (1 : Int)) < ((ix l z15).6.length : Int)) ∧ J22 { Rects := (ix (ix l z15).6 (IntKind.i64.wrap (((ix l z15).6.length : Int) - (1 : Int)))).1 : api_Region }) (J22 (dflt (Ty.st Sn.api_Region), ()).fst)) (J (-1 : Int))) ((0 : Int), PUnit.unit) := by
  refine loopCmp (n := l.length) (by omega) (p := fun i => ¬ ((ix l (i : Int)).3 = 36865 ∧ (ix l (i : Int)).1 ≠ but ∧ meetP a.1 (nowR (ix l (i : Int))).1)) (fun rec k hk _ hrec => ⟨by omega, ?_⟩) fun hall => hn ?_
  · have hm := ix_mem (l := l) (i := (k : Int)) (by omega) (by omega)
    obtain ⟨x1, x2⟩ := hr _ hm
    generalize hpe : ix l (k : Int) = p at hm x1 x2 hrec ⊢
    refine JOIN.opq fun (J17 : Bool → Prop) hJ17 => JOIN.opq fun (J22 : api_Region → Prop) hJ22 => ?_
    have k17 : ∀ c : Bool, (c = true ↔ (p.3 = 36865 ∧ p.1 ≠ but ∧ meetP a.1 (nowR p).1)) → J17 c := fun c hc => by
      rw [hJ17]
      exact IFB.mk (fun h => hy _ (by omega) ⟨p, hm, hc.1 h⟩) (fun h => hrec fun h2 => by rw [hc.2 h2] at h; cases h)
    refine IFB.mk (fun hg _ => ⟨by rw [wrap_in (by omega) (by omega)]; omega, ?_⟩) (fun hg => ?_)
    · rw [hJ22]
      refine JOIN.opq fun (J20 : Bool → Prop) hJ20 => IFB.mk (fun hg2 v hv => ?_) (fun hg2 => by rw [hg] at hg2; cases hg2)
      rw [hJ20]
      rw [gx_t] at hg
      have hg1 : p.3 = 36865 ∧ p.1 ≠ but := by simpa using hg
      refine k17 _ ?_
      rw [hg, Bool.true_and, hv, wrap_in (by omega) (by omega)]
      exact ⟨fun h => ⟨hg1.1, hg1.2, h⟩, fun h => h.2.2⟩
    · rw [hJ22]
      refine JOIN.opq fun (J20 : Bool → Prop) hJ20 => IFB.mk (fun hg2 v hv => by rw [hg] at hg2; cases hg2) (fun hg2 => ?_)
      rw [hJ20]
      refine k17 _ ?_
      rw [Bool.and_false]
      refine ⟨fun h => (by cases h), fun h => ?_⟩
      rw [gx_t] at hg
      have : (decide (p.3 = (36865 : Int)) && !decide (p.1 = but)) = true := by simp [h.1, h.2.1]
      rw [this] at hg; cases hg
  · rintro ⟨p, hp, h1, h2, h3⟩
    obtain ⟨i, hi, rfl⟩ := ix_ex hp
    exact hall i hi ⟨h1, h2, h3⟩
theorem open_ix {l : List Pc} {k : Int} (hl : l.length ≤ 1000000) (h : openP l k) : IntKind.i64.wrap (k - 1) = k - 1 ∧ 0 ≤ k - 1 ∧ k - 1 < (l.length : Int) := by
  obtain ⟨h1, h2, _⟩ := h
  exact ⟨wrap_in (by omega) (by omega), by omega, by omega⟩

def papp5_P (l : List (api_Parcel)) (e : api_Edit) (post : List (api_Parcel) → Int → Prop) : Prop := (szL l ∧ szE e ∧ e.Kind = 5) ∧ post (applyS l e).1 (applyS l e).2
def papp5_sp : Spec := ⟨20, false, true, [.sl (.st .api_Parcel), .st .api_Edit], .tup [.dat (.sl (.st .api_Parcel)), .dat (.int .i64)], fun x post => papp5_P (x.1 : List (api_Parcel)) (x.2.1 : api_Edit) (fun y0 y1 => post (y0, y1, ()))⟩
def papp5_C : CtxR := ⟨tau, [rule1 pedit_sp, rule1 pallO_sp, ruleMap 77 false Forms.es], lookJ [(0, 1000005, ⟨[(8, .dat (.int .i64))], [], [21, 22, 23, 24, 25, 26, 27, 28], [], [(1, 50, (.st .api_Parcel))]⟩)]⟩
def papp5_W (l : List (api_Parcel)) (day : Int) (known : Int) (ps : List (Int)) (rs : List (api_Region)) (post : List (api_Parcel) → Int → Prop) : Prop := (szL l ∧ szE { Day := day, Known := known, Kind := (5 : Int), Parcels := ps, Regions := rs : api_Edit }) ∧ IFB (!decide (editS l { Day := day, Known := known, Kind := (5 : Int), Parcels := ps, Regions := rs : api_Edit } = (0 : Int))) (szL l ∧ post l (editS l { Day := day, Known := known, Kind := (5 : Int), Parcels := ps, Regions := rs : api_Edit })) (szL l ∧ JOIN [Ty.int IntKind.i64, (Ty.st Sn.api_Parcel).sl] (fun (y1 : Int) (y2 : List api_Parcel) ↦ IFB (!decide (y1 = (0 : Int))) (szL l ∧ post l y1) (post y2 (0 : Int))) fun (J3 : Int → List api_Parcel → Prop) ↦ (Int.NonNeg (0 : Int) ∧ (0 : Int) < (↑ps.length : Int)) ∧ ((0 : Int) ≤ IntKind.i64.wrap (ix ps (0 : Int) - (1 : Int)) ∧ IntKind.i64.wrap (ix ps (0 : Int) - (1 : Int)) < (↑l.length : Int)) ∧ J3 (0 : Int) (l.set (IntKind.i64.wrap (ix ps (0 : Int) - (1 : Int))).toNat { Number := (ix l (IntKind.i64.wrap (ix ps (0 : Int) - (1 : Int)))).1, From := (ix l (IntKind.i64.wrap (ix ps (0 : Int) - (1 : Int)))).2, Until := day, Parents := (ix l (IntKind.i64.wrap (ix ps (0 : Int) - (1 : Int)))).4, Days := (ix l (IntKind.i64.wrap (ix ps (0 : Int) - (1 : Int)))).5, Regions := (ix l (IntKind.i64.wrap (ix ps (0 : Int) - (1 : Int)))).6 : api_Parcel }))
theorem papp5_w (l : List (api_Parcel)) (day : Int) (known : Int) (ps : List (Int)) (rs : List (api_Region)) (post : dens (shT papp5_sp.rs []) → Prop) : papp5_W l day known ps rs (fun y0 y1 => post (y0, y1, ())) = walkG (callR Tryz.prog papp5_C (drawF Tryz.prog tau) 12 0) 20 false [tv (.sl (.st .api_Parcel)) (l), tv (.st .api_Edit) (⟨day, known, 5, ps, rs⟩)] papp5_sp.rs post := by kernel_rfl
theorem papp5_of (h : ∀ x (post : dens (shT papp5_sp.rs []) → Prop), papp5_sp.pt x post → HoldW (walkG (callR Tryz.prog papp5_C (drawF Tryz.prog tau) 12 0) papp5_sp.f papp5_sp.tp (tvs papp5_sp.ts x) papp5_sp.rs post)) : SpecOK Tryz.prog papp5_sp := SpecOK.of_rules (C := papp5_C) (dr := drawF Tryz.prog tau) (n := 12) (fk := 0) (.cons (rule1_ok pedit_ok) (.cons (rule1_ok pallO_ok) (.cons (ruleMap_ok Forms.forms_mk) .nil))) (drawF_ok tau) h
theorem papp5_h (l : List api_Parcel) (day known : Int) (ps : List Int) (rs : List api_Region) (post : List api_Parcel → Int → Prop) (hsz : szL l) (hse : szE ⟨day, known, 5, ps, rs⟩) (hp : post (applyS l ⟨day, known, 5, ps, rs⟩).1 (applyS l ⟨day, known, 5, ps, rs⟩).2) : papp5_W l day known ps rs post := by
  unfold papp5_W
  refine ⟨⟨hsz, hse⟩, IFB.mk (fun hb => ⟨hsz, ?_⟩) (fun hb => ⟨hsz, ?_⟩)⟩
  · have hb : editS l ⟨day, known, 5, ps, rs⟩ ≠ 0 := by simpa using hb
    unfold applyS at hp
    rw [if_pos hb] at hp; exact hp
  have hb : editS l ⟨day, known, 5, ps, rs⟩ = 0 := by simpa using hb
  unfold applyS at hp
  rw [if_neg (fun h => h hb), if_neg (by decide : ¬ (5 : Int) = 1), if_neg (by decide : ¬ (5 : Int) = 2), if_neg (by decide : ¬ (5 : Int) = 3), if_neg (by decide : ¬ (5 : Int) = 4)] at hp
  obtain ⟨e1, e2, e3, ⟨e4, e5⟩, e6, e7⟩ := editS_0.1 hb
  have hps : ps.length = 1 := by
    unfold fitsP at e4
    dsimp only at e4
    omega
  obtain ⟨k, rfl⟩ : ∃ k, ps = [k] := List.length_eq_one_iff.1 hps
  have ho := e6 k (by simp)
  obtain ⟨w1, w2, w3⟩ := open_ix hsz.len ho
  have hk0 : ix [k] 0 = k := rfl
  refine JOIN.opq fun (J : Int → List api_Parcel → Prop) hJ => ⟨⟨Int.NonNeg.mk 0, by simp⟩, ?_⟩
  rw [hk0, w1]
  refine ⟨⟨w2, w3⟩, ?_⟩
  rw [hJ]
  exact IFB.no rfl hp

theorem papp5_ok : SpecOK Tryz.prog papp5_sp := papp5_of fun x post hp => by
  obtain ⟨l, e, u⟩ := x
  obtain ⟨day, known, kind, ps, rs⟩ := e
  obtain ⟨⟨hsz, hse, hk⟩, hp⟩ := hp
  have hk : kind = 5 := hk
  subst hk
  exact HoldW.of (papp5_w l day known ps rs post) (papp5_h l day known ps rs (fun y0 y1 => post (y0, y1, ())) hsz hse hp)

def papp1_P (l : List (api_Parcel)) (e : api_Edit) (post : List (api_Parcel) → Int → Prop) : Prop := (szL l ∧ szE e ∧ e.Kind = 1) ∧ post (applyS l e).1 (applyS l e).2
def papp1_sp : Spec := ⟨20, false, true, [.sl (.st .api_Parcel), .st .api_Edit], .tup [.dat (.sl (.st .api_Parcel)), .dat (.int .i64)], fun x post => papp1_P (x.1 : List (api_Parcel)) (x.2.1 : api_Edit) (fun y0 y1 => post (y0, y1, ()))⟩
def papp1_C : CtxR := ⟨tau, [rule1 pedit_sp, rule1 pallO_sp, ruleMap 77 false Forms.es, rule1 pclI_sp, rule1 pcpy_sp, rule1 pmts_sp], lookJ [(0, 1000005, ⟨[(8, .dat (.int .i64))], [(2, [.own 50 (.st .api_Parcel)])], [21, 22, 23, 24, 25, 26, 27, 28], [1], []⟩), (5113, 0, ⟨[(0, .dat (.int .i64))], [(2, [.own 50 (.st .api_Parcel)])], [], [1], []⟩), (5330003904, 0, ⟨[(0, .dat (.int .i64))], [(2, [.own 50 (.st .api_Parcel)])], [], [1], []⟩), (5330003904, 1000003, ⟨[], [(2, [.own 50 (.st .api_Parcel)])], [15, 16, 17, 18, 19, 20, 21, 22, 23, 24, 25, 26, 27, 28, 29, 30, 31, 32, 33, 34, 35, 36, 37, 38], [1], []⟩), (5792023682335624162591, 0, ⟨[(0, .dat (.int .i64))], [], [], [], []⟩), (5792023682335624162591, 5, ⟨[(8, .dat (.int .i64))], [], [9, 10, 5, 11, 12, 13, 14, 15, 16, 18], [], []⟩), (6037842959437630387675528721, 1000001, ⟨[(4, .dat .bool)], [], [5, 6, 7, 8, 13, 14, 19, 9, 10, 11, 12, 15, 16, 17, 18], [], []⟩)]⟩
def papp1_W (l : List (api_Parcel)) (day : Int) (known : Int) (ps : List (Int)) (rs : List (api_Region)) (post : List (api_Parcel) → Int → Prop) : Prop := (szL l ∧ szE { Day := day, Known := known, Kind := (1 : Int), Parcels := ps, Regions := rs : api_Edit }) ∧ IFB (!decide (editS l { Day := day, Known := known, Kind := (1 : Int), Parcels := ps, Regions := rs : api_Edit } = (0 : Int))) (szL l ∧ post l (editS l { Day := day, Known := known, Kind := (1 : Int), Parcels := ps, Regions := rs : api_Edit })) (szL l ∧ JOIN [Ty.int IntKind.i64, (Ty.st Sn.api_Parcel).sl] (fun (y1 : Int) (y2 : List api_Parcel) ↦ IFB (!decide (y1 = (0 : Int))) (szL l ∧ post l y1) (post y2 (0 : Int))) fun (J3 : Int → List api_Parcel → Prop) ↦ JOIN [Ty.int IntKind.i64, (Ty.st Sn.api_Parcel).sl] (fun (y4 : Int) (y5 : List api_Parcel) ↦ J3 y4 y5) fun (J6 : Int → List api_Parcel → Prop) ↦ (Int.NonNeg (0 : Int) ∧ (0 : Int) < (↑rs.length : Int)) ∧ JOIN [Ty.int IntKind.i64] (fun (y7 : Int) ↦ IFB (decide ((0 : Int) ≤ y7)) (J6 (11 : Int) l) ((Int.NonNeg (0 : Int) ∧ (0 : Int) < (↑rs.length : Int)) ∧ JOIN [Ty.int IntKind.i64, (Ty.st Sn.api_Parcel).sl] (fun (y8 : Int) (y9 : List api_Parcel) ↦ J6 y8 y9) fun (J10 : Int → List api_Parcel → Prop) ↦ (↑l.length : Int) ≤ (9223372036854775807 : Int) → IFB (decide ((↑l.length : Int) = (60 : Int))) (J10 (1 : Int) l) (JOIN [(Ty.st Sn.api_Parcel).sl] (fun (y11 : List api_Parcel) ↦ J10 (0 : Int) y11) fun (J12 : List api_Parcel → Prop) ↦ (↑l.length : Int) ≤ (9223372036854775807 : Int) → (Nat.le ((0 : Nat)) ((4000000 : Nat)) ∧ ((ix rs (0 : Int)).1.length ≤ (4000000 : Nat) ∧ (l.length + [{ Number := IntKind.i64.wrap ((↑l.length : Int) + (1 : Int)), From := day, Until := (36865 : Int), Parents := [], Days := [day], Regions := [{ Rects := (ix rs (0 : Int)).1 : api_Region }] : api_Parcel }].length) * (96 : Nat) ≤ (140737488355328 : Nat) ∧ J12 (l ++ [{ Number := IntKind.i64.wrap ((↑l.length : Int) + (1 : Int)), From := day, Until := (36865 : Int), Parents := [], Days := [day], Regions := [{ Rects := (ix rs (0 : Int)).1 : api_Region }] : api_Parcel }])) ∧ (ix rs (0 : Int)).1.length ≤ (4000000 : Nat) ∧ ((l.length + [{ Number := IntKind.i64.wrap ((↑l.length : Int) + (1 : Int)), From := day, Until := (36865 : Int), Parents := [], Days := [day], Regions := [{ Rects := (ix rs (0 : Int)).1 : api_Region }] : api_Parcel }].length) * (96 : Nat) ≤ (140737488355328 : Nat) ∧ J12 (l ++ [{ Number := IntKind.i64.wrap ((↑l.length : Int) + (1 : Int)), From := day, Until := (36865 : Int), Parents := [], Days := [day], Regions := [{ Rects := (ix rs (0 : Int)).1 : api_Region }] : api_Parcel }])) ∧ (l.length + [{ Number := IntKind.i64.wrap ((↑l.length : Int) + (1 : Int)), From := day, Until := (36865 : Int), Parents := [], Days := [day], Regions := [{ Rects := (ix rs (0 : Int)).1 : api_Region }] : api_Parcel }].length) * (96 : Nat) ≤ (140737488355328 : Nat) ∧ J12 (l ++ [{ Number := IntKind.i64.wrap ((↑l.length : Int) + (1 : Int)), From := day, Until := (36865 : Int), Parents := [], Days := [day], Regions := [{ Rects := (ix rs (0 : Int)).1 : api_Region }] : api_Parcel }])) ∧ Nat.le ((0 : Nat)) ((4000000 : Nat)) ∧ (ix rs (0 : Int)).1.length ≤ (4000000 : Nat) ∧ (l.length + [{ Number := IntKind.i64.wrap ((↑l.length : Int) + (1 : Int)), From := day, Until := (36865 : Int), Parents := [], Days := [day], Regions := [{ Rects := (ix rs (0 : Int)).1 : api_Region }] : api_Parcel }].length) * (96 : Nat) ≤ (140737488355328 : Nat) ∧ J12 (l ++ [{ Number := IntKind.i64.wrap ((↑l.length : Int) + (1 : Int)), From := day, Until := (36865 : Int), Parents := [], Days := [day], Regions := [{ Rects := (ix rs (0 : Int)).1 : api_Region }] : api_Parcel }])))) fun (J13 : Int → Prop) ↦ (↑l.length : Int) ≤ (9223372036854775807 : Int) → LOOP [Ty.int IntKind.i64] (fun (rec14 : Int → Prop) (z15 : Int) ↦ IFB (decide (z15 < (↑l.length : Int))) (((0 : Int) ≤ z15 ∧ z15 < (↑l.length : Int)) ∧ JOIN [Ty.bool] (fun (y16 : Bool) ↦ IFB y16 (J13 z15) (rec14 (IntKind.i64.wrap (z15 + (1 : Int))))) fun (J17 : Bool → Prop) ↦ JOIN [Ty.st Sn.api_Region] (fun (y18 : api_Region) ↦ JOIN [Ty.bool] (fun (y19 : Bool) ↦ J17 (decide ((ix l z15).3 = (36865 : Int)) && !decide ((ix l z15).1 = (0 : Int)) && y19)) fun (J20 : Bool → Prop) ↦ IFB (gx true (decide ((ix l z15).3 = (36865 : Int)) && !decide ((ix l z15).1 = (0 : Int)))) (∀ (v21 : Bool), (v21 = true ↔ meetP (ix rs (0 : Int)).1 y18.1) → J20 v21) (J20 false)) fun (J22 : api_Region → Prop) ↦ IFB (gx true (decide ((ix l z15).3 = (36865 : Int)) && !decide ((ix l z15).1 = (0 : Int)))) ((↑(ix l z15).6.length : Int) ≤ (9223372036854775807 : Int) → ((0 : Int) ≤ IntKind.i64.wrap ((↑(ix l z15).6.length : Int) - (1 : Int)) ∧ IntKind.i64.wrap ((↑(ix l z15).6.length : Int) - (1 : Int)) < (↑(ix l z15).6.length : Int)) ∧ J22 { Rects := (ix (ix l z15).6 (IntKind.i64.wrap ((↑(ix l z15).6.length : Int) - (1 : Int)))).1 : api_Region }) (J22 (dflt (Ty.st Sn.api_Region), ()).fst)) (J13 (-1 : Int))) ((0 : Int), PUnit.unit))
theorem papp1_w (l : List (api_Parcel)) (day : Int) (known : Int) (ps : List (Int)) (rs : List (api_Region)) (post : dens (shT papp1_sp.rs []) → Prop) : papp1_W l day known ps rs (fun y0 y1 => post (y0, y1, ())) = walkG (callR Tryz.prog papp1_C (drawF Tryz.prog tau) 12 0) 20 false [tv (.sl (.st .api_Parcel)) (l), tv (.st .api_Edit) (⟨day, known, 1, ps, rs⟩)] papp1_sp.rs post := by kernel_rfl
theorem papp1_of (h : ∀ x (post : dens (shT papp1_sp.rs []) → Prop), papp1_sp.pt x post → HoldW (walkG (callR Tryz.prog papp1_C (drawF Tryz.prog tau) 12 0) papp1_sp.f papp1_sp.tp (tvs papp1_sp.ts x) papp1_sp.rs post)) : SpecOK Tryz.prog papp1_sp := SpecOK.of_rules (C := papp1_C) (dr := drawF Tryz.prog tau) (n := 12) (fk := 0) (.cons (rule1_ok pedit_ok) (.cons (rule1_ok pallO_ok) (.cons (ruleMap_ok Forms.forms_mk) (.cons (rule1_ok pclI_ok) (.cons (rule1_ok pcpy_ok) (.cons (rule1_ok pmts_ok) .nil)))))) (drawF_ok tau) h
theorem papp1_h (l : List api_Parcel) (day known : Int) (ps : List Int) (rs : List api_Region) (post : List api_Parcel → Int → Prop) (hsz : szL l) (hse : szE ⟨day, known, 1, ps, rs⟩) (hp : post (applyS l ⟨day, known, 1, ps, rs⟩).1 (applyS l ⟨day, known, 1, ps, rs⟩).2) : papp1_W l day known ps rs post := by
  unfold papp1_W
  refine ⟨⟨hsz, hse⟩, IFB.mk (fun hb => ⟨hsz, ?_⟩) (fun hb => ⟨hsz, ?_⟩)⟩
  · have hb : editS l ⟨day, known, 1, ps, rs⟩ ≠ 0 := by simpa using hb
    unfold applyS at hp
    rw [if_pos hb] at hp; exact hp
  have hb : editS l ⟨day, known, 1, ps, rs⟩ = 0 := by simpa using hb
  unfold applyS at hp
  rw [if_neg (fun h => h hb), if_pos rfl] at hp
  obtain ⟨e1, e2, e3, ⟨e4, e5⟩, e6, e7⟩ := editS_0.1 hb
  have hrs : rs.length = 1 := by
    unfold fitsP at e4
    dsimp only at e4
    omega
  obtain ⟨a, rfl⟩ : ∃ a, rs = [a] := List.length_eq_one_iff.1 hrs
  obtain ⟨h60, hreg⟩ := checkS_0.1 e1
  have hl := hsz.len
  have ha : a.1.length ≤ 1000000 := hse.rect a (by simp)
  have hk0 : ix [a] 0 = a := rfl
  have hz : Int.NonNeg (0 : Int) := Int.NonNeg.mk 0
  have h01 : Int.NonNeg (0 : Int) ∧ (0 : Int) < (([a] : List api_Region).length : Int) := ⟨hz, by simp⟩
  dsimp only at hp
  rw [hk0] at hp
  refine JOIN.opq fun (J3 : Int → List api_Parcel → Prop) hJ3 => JOIN.opq fun (J6 : Int → List api_Parcel → Prop) hJ6 => ⟨h01, JOIN.opq fun (J13 : Int → Prop) hJ13 _ => ?_⟩
  rw [hk0] at hJ13 ⊢
  have hr : ∀ p ∈ l, 0 < p.6.length ∧ p.6.length ≤ 1000000 := fun p hp => ⟨by have := regP_days hreg p hp; omega, (hsz.all p hp).regs⟩
  refine meets_in (a := a) (but := 0) hl hr (fun z h0 hh => ?_) (fun hh => ?_)
  · rw [if_pos hh] at hp
    rw [hJ13]
    refine IFB.yes (decide_eq_true h0) ?_
    rw [hJ6, hJ3]
    exact IFB.yes rfl ⟨hsz, hp⟩
  · rw [if_neg hh] at hp
    rw [hJ13]
    refine IFB.no rfl ⟨h01, JOIN.opq fun (J10 : Int → List api_Parcel → Prop) hJ10 _ => IFB.mk (fun hc => ?_) (fun hc => JOIN.opq fun (J12 : List api_Parcel → Prop) hJ12 _ => ?_)⟩
    · have hc : (l.length : Int) = 60 := of_decide_eq_true hc
      rw [if_pos (by omega)] at hp
      rw [hJ10, hJ6, hJ3]
      exact IFB.yes rfl ⟨hsz, hp⟩
    · have hc : ¬ (l.length : Int) = 60 := of_decide_eq_false hc
      rw [if_neg (by omega)] at hp
      have hw : IntKind.i64.wrap ((l.length : Int) + 1) = (l.length : Int) + 1 := wrap_in (by omega) (by omega)
      rw [hw]
      have hJ : J12 (l ++ [{ Number := (l.length : Int) + (1 : Int), From := day, Until := (36865 : Int), Parents := [], Days := [day], Regions := [{ Rects := a.1 : api_Region }] : api_Parcel }]) := by
        rw [hJ12, hJ10, hJ6, hJ3]
        exact IFB.no rfl hp
      have hA : a.1.length ≤ 4000000 := by omega
      have hB : (l.length + [{ Number := (l.length : Int) + (1 : Int), From := day, Until := (36865 : Int), Parents := [], Days := [day], Regions := [{ Rects := a.1 : api_Region }] : api_Parcel }].length) * 96 ≤ 140737488355328 := by
        simp only [List.length_cons, List.length_nil]; omega
      repeat' (first | exact hA | exact hB | exact hJ | exact Nat.zero_le _ | with_reducible apply And.intro)

theorem papp1_ok : SpecOK Tryz.prog papp1_sp := papp1_of fun x post hp => by
  obtain ⟨l, e, u⟩ := x
  obtain ⟨day, known, kind, ps, rs⟩ := e
  obtain ⟨⟨hsz, hse, hk⟩, hp⟩ := hp
  have hk : kind = 1 := hk
  subst hk
  exact HoldW.of (papp1_w l day known ps rs post) (papp1_h l day known ps rs (fun y0 y1 => post (y0, y1, ())) hsz hse hp)

end RE
end Go.Proofs.YtpeggkeenboacaaGreat
set_option linter.unusedVariables false
set_option maxRecDepth 100000
namespace Go.Proofs.YtpeggkeenboacaaGreat
open Go.RowKit
namespace RE
open PL
namespace PL
def cnt1 (f : Int → Bool) : Nat → Int
  | 0 => 0
  | n + 1 => cnt1 f n + (if f (n : Int) = true then 1 else 0)
def cnt2 (f : Int → Int → Bool) (n : Nat) : Nat → Int
  | 0 => 0
  | m + 1 => cnt2 f n m + cnt1 (fun x => f x (m : Int)) n
/-- How many squares of the ground are in a set. -/
def cntS (f : Int → Int → Bool) : Int := cnt2 f 16384 16384
def disjR (r s : Rc) : Prop := ∀ x y, ¬ (hit r x y = true ∧ hit s x y = true)
end PL
theorem cnt1_congr {f g : Int → Bool} : ∀ {n : Nat}, (∀ x, f x = g x) → cnt1 f n = cnt1 g n
  | 0, _ => rfl
  | n + 1, h => by unfold cnt1; rw [cnt1_congr h, h]
theorem cnt1_false : ∀ {n : Nat}, cnt1 (fun _ => false) n = 0
  | 0 => rfl
  | n + 1 => by unfold cnt1; rw [cnt1_false]; rfl
theorem cnt1_or {f g : Int → Bool} (h : ∀ x, ¬ (f x = true ∧ g x = true)) : ∀ {n : Nat}, cnt1 (fun x => f x || g x) n = cnt1 f n + cnt1 g n
  | 0 => rfl
  | n + 1 => by
    unfold cnt1
    rw [cnt1_or h]
    have := h (n : Int)
    cases hf : f (n : Int) <;> cases hg : g (n : Int)
    · simp
    · simp; omega
    · simp; omega
    · exact absurd ⟨hf, hg⟩ this
theorem cnt1_iv {a b : Int} (h0 : 0 ≤ a) (hab : a ≤ b) : ∀ {n : Nat}, cnt1 (fun x => decide (a ≤ x) && decide (x < b)) n = max 0 (min (n : Int) b - a)
  | 0 => by unfold cnt1; omega
  | n + 1 => by
    unfold cnt1
    rw [cnt1_iv h0 hab]
    by_cases h1 : a ≤ (n : Int)
    · by_cases h2 : (n : Int) < b
      · rw [if_pos (by simp [h1, h2])]; omega
      · rw [if_neg (by simp [h2])]; omega
    · rw [if_neg (by simp [h1])]; omega
theorem cnt1_nn {f : Int → Bool} : ∀ {n : Nat}, 0 ≤ cnt1 f n
  | 0 => Int.le_refl _
  | n + 1 => by
    have := cnt1_nn (f := f) (n := n)
    unfold cnt1
    split <;> omega
theorem cnt1_if {f : Int → Bool} {b : Bool} {n : Nat} : cnt1 (fun x => f x && b) n = if b = true then cnt1 f n else 0 := by
  cases b with
  | true => rw [if_pos rfl]; exact cnt1_congr fun x => by rw [Bool.and_true]
  | false => rw [if_neg (by simp)]; rw [cnt1_congr (g := fun _ => false) fun x => by rw [Bool.and_false]]; exact cnt1_false
theorem cnt2_congr {f g : Int → Int → Bool} {n : Nat} : ∀ {m : Nat}, (∀ x y, f x y = g x y) → cnt2 f n m = cnt2 g n m
  | 0, _ => rfl
  | m + 1, h => by unfold cnt2; rw [cnt2_congr h, cnt1_congr (fun x => h x _)]
theorem cnt2_false {n : Nat} : ∀ {m : Nat}, cnt2 (fun _ _ => false) n m = 0
  | 0 => rfl
  | m + 1 => by unfold cnt2; rw [cnt2_false, cnt1_false]; rfl
theorem cnt2_or {f g : Int → Int → Bool} (h : ∀ x y, ¬ (f x y = true ∧ g x y = true)) {n : Nat} : ∀ {m : Nat}, cnt2 (fun x y => f x y || g x y) n m = cnt2 f n m + cnt2 g n m
  | 0 => rfl
  | m + 1 => by
    unfold cnt2
    rw [cnt2_or h, cnt1_or (f := fun x => f x (m : Int)) (g := fun x => g x (m : Int)) (fun x => h x _)]
    omega
theorem cnt2_nn {f : Int → Int → Bool} {n : Nat} : ∀ {m : Nat}, 0 ≤ cnt2 f n m
  | 0 => Int.le_refl _
  | m + 1 => by
    have := cnt2_nn (f := f) (n := n) (m := m)
    have := cnt1_nn (f := fun x => f x (m : Int)) (n := n)
    unfold cnt2; omega
theorem cnt2_prod {p q : Int → Bool} {n : Nat} : ∀ {m : Nat}, cnt2 (fun x y => p x && q y) n m = cnt1 p n * cnt1 q m
  | 0 => by unfold cnt2 cnt1; simp
  | m + 1 => by
    show cnt2 (fun x y => p x && q y) n m + cnt1 (fun x => p x && q (m : Int)) n = cnt1 p n * (cnt1 q m + (if q (m : Int) = true then 1 else 0))
    rw [cnt2_prod, cnt1_if, Int.mul_add]
    split <;> simp
theorem cnt_rect {r : Rc} (h : proper r) : cntS (hit r) = sizeR r := by
  obtain ⟨p1, p2, p3, p4, p5, p6⟩ := h
  unfold cntS
  rw [cnt2_congr (g := fun x y => (decide (r.Left ≤ x) && decide (x < r.Right)) && (decide (r.Low ≤ y) && decide (y < r.High))) (fun x y => by unfold hit; rw [Bool.and_assoc]), cnt2_prod, cnt1_iv p1 (Int.le_of_lt p2), cnt1_iv p4 (Int.le_of_lt p5)]
  unfold sizeR
  rw [show max 0 (min ((16384 : Nat) : Int) r.Right - r.Left) = r.Right - r.Left by omega, show max 0 (min ((16384 : Nat) : Int) r.High - r.Low) = r.High - r.Low by omega]
theorem sizeS_acc {l : List Rc} : ∀ {n : Int}, l.foldl (fun n r => n + sizeR r) n = n + sizeS l := by
  induction l with
  | nil => intro n; unfold sizeS; simp
  | cons r l ih =>
    intro n
    unfold sizeS
    rw [List.foldl_cons, List.foldl_cons, ih, ih]; omega
theorem sizeS_cons {r : Rc} {l : List Rc} : sizeS (r :: l) = sizeR r + sizeS l := by
  conv => lhs; unfold sizeS
  rw [List.foldl_cons, sizeS_acc]; omega
theorem cov_app {a b : List Rc} {x y : Int} : cov (a ++ b) x y = (cov a x y || cov b x y) := by unfold cov; rw [List.any_append]
theorem cov_mem {l : List Rc} {x y : Int} : cov l x y = true ↔ ∃ r ∈ l, hit r x y = true := by unfold cov; rw [List.any_eq_true]
theorem cnt_list : ∀ {l : List Rc}, (∀ r ∈ l, proper r) → l.Pairwise disjR → cntS (cov l) = sizeS l
  | [], _, _ => by unfold cntS; rw [cnt2_congr (f := cov []) (g := fun _ _ => false) fun x y => rfl, cnt2_false]; rfl
  | r :: l, hp, hd => by
    rw [List.pairwise_cons] at hd
    have ih := cnt_list (l := l) (fun s hs => hp s (by simp [hs])) hd.2
    unfold cntS at ih ⊢
    rw [cnt2_congr (f := cov (r :: l)) (g := fun x y => hit r x y || cov l x y) fun x y => rfl, cnt2_or (fun x y h => ?_), ih, sizeS_cons]
    · have := cnt_rect (hp r (by simp))
      unfold cntS at this
      rw [this]
    · obtain ⟨s, hs, h2⟩ := cov_mem.1 h.2
      exact hd.1 s hs x y ⟨h.1, h2⟩
theorem cntS_congr {f g : Int → Int → Bool} (h : ∀ x y, f x y = g x y) : cntS f = cntS g := cnt2_congr h
theorem cntS_or {f g : Int → Int → Bool} (h : ∀ x y, ¬ (f x y = true ∧ g x y = true)) : cntS (fun x y => f x y || g x y) = cntS f + cntS g := cnt2_or h
theorem cntS_false : cntS (fun _ _ => false) = 0 := cnt2_false
theorem cntS_nn {f : Int → Int → Bool} : 0 ≤ cntS f := cnt2_nn
theorem cnt1_le {f : Int → Bool} : ∀ {n : Nat}, cnt1 f n ≤ (n : Int)
  | 0 => Int.le_refl _
  | n + 1 => by
    have := cnt1_le (f := f) (n := n)
    unfold cnt1
    split <;> omega
theorem cnt2_le {f : Int → Int → Bool} {n : Nat} : ∀ {m : Nat}, cnt2 f n m ≤ (n : Int) * (m : Int)
  | 0 => by unfold cnt2; simp
  | m + 1 => by
    have h1 := cnt2_le (f := f) (n := n) (m := m)
    have h2 := cnt1_le (f := fun x => f x (m : Int)) (n := n)
    unfold cnt2
    have : (n : Int) * ((m + 1 : Nat) : Int) = (n : Int) * (m : Int) + (n : Int) := by push_cast; rw [Int.mul_add, Int.mul_one]
    omega
theorem cntS_le {f : Int → Int → Bool} : cntS f ≤ 268435456 := cnt2_le (f := f) (n := 16384) (m := 16384)
/-- Rectangles of a canonical form are disjoint. -/
theorem canon_disj {l : List Rc} (h : Canon l) : l.Pairwise disjR := by
  obtain ⟨bs, hb, rfl⟩ := h
  induction bs with
  | nil => exact List.Pairwise.nil
  | cons b r ih =>
    have hs := hb.srt
    rw [List.pairwise_cons] at hs
    have hn := hb.ne
    rw [List.pairwise_cons] at hn
    have ih := ih ⟨fun c hc => hb.each c (by simp [hc]), hs.2, hn.2⟩
    show (flat1 b ++ flat r).Pairwise disjR
    rw [List.pairwise_append]
    refine ⟨?_, ih, fun u hu v hv x y hxy => ?_⟩
    · unfold flat1
      rw [List.pairwise_map]
      have := (hb.each b (by simp)).2.2.2
      refine this.imp fun {s t} hst x y hxy => ?_
      obtain ⟨h1, h2⟩ := hxy
      have h1 := hit_iff.1 h1
      have h2 := hit_iff.1 h2
      dsimp only at h1 h2
      omega
    · unfold flat1 at hu
      obtain ⟨s, hs1, rfl⟩ := List.mem_map.1 hu
      obtain ⟨c, hc, hv⟩ := List.mem_flatMap.1 hv
      unfold flat1 at hv
      obtain ⟨t, ht, rfl⟩ := List.mem_map.1 hv
      have := hs.1 c hc
      have h1 := hit_iff.1 hxy.1
      have h2 := hit_iff.1 hxy.2
      dsimp only at h1 h2
      omega
theorem cnt_valid {l : List Rc} (h : validP l) : cntS (cov l) = sizeS l := cnt_list h.2.1 (canon_disj h.2.2)
theorem areaS_valid {a : Rn} (h : validP a.Rects) : areaS a = cntS (cov a.Rects) := by
  unfold areaS
  rw [if_pos h, cnt_valid h]
theorem areaS_le {a : Rn} : 0 ≤ areaS a ∧ areaS a ≤ 268435456 := by
  by_cases h : validP a.Rects
  · rw [areaS_valid h]; exact ⟨cntS_nn, cntS_le⟩
  · unfold areaS; rw [if_neg h]; omega
theorem partsR_cons {a : Rn} {l : List Rn} : partsR (a :: l) = a.Rects ++ partsR l := rfl
theorem partsR_cov {l : List Rn} {x y : Int} : cov (partsR l) x y = true ↔ ∃ a ∈ l, cov a.Rects x y = true := by
  induction l with
  | nil => exact ⟨fun h => (by cases h), fun ⟨a, h, _⟩ => (by cases h)⟩
  | cons a l ih =>
    rw [partsR_cons, cov_app, Bool.or_eq_true, ih]
    constructor
    · rintro (h | ⟨b, hb, h⟩)
      · exact ⟨a, by simp, h⟩
      · exact ⟨b, by simp [hb], h⟩
    · rintro ⟨b, hb, h⟩
      rcases List.mem_cons.1 hb with rfl | hb
      · exact .inl h
      · exact .inr ⟨b, hb, h⟩
/-- Regions that do not meet: their areas add up. -/
theorem cnt_parts : ∀ {l : List Rn}, (∀ a ∈ l, validP a.Rects) → l.Pairwise (fun a b => ∀ x y, ¬ (cov a.Rects x y = true ∧ cov b.Rects x y = true)) → cntS (cov (partsR l)) = (l.map areaS).sum
  | [], _, _ => by
    show cntS (cov []) = _
    rw [cntS_congr (f := cov []) (g := fun _ _ => false) fun x y => rfl, cntS_false]; rfl
  | a :: l, hv, hd => by
    rw [List.pairwise_cons] at hd
    have ih := cnt_parts (l := l) (fun b hb => hv b (by simp [hb])) hd.2
    rw [cntS_congr (f := cov (partsR (a :: l))) (g := fun x y => cov a.Rects x y || cov (partsR l) x y) fun x y => by rw [partsR_cons, cov_app], cntS_or (fun x y h => ?_), ih, List.map_cons, List.sum_cons, areaS_valid (hv a (by simp))]
    obtain ⟨b, hb, h2⟩ := partsR_cov.1 h.2
    exact hd.1 b hb x y ⟨h.1, h2⟩
theorem apart_pw {l : List Rn} (hv : ∀ a ∈ l, validP a.Rects) : apartP l ↔ l.Pairwise (fun a b => ∀ x y, ¬ (cov a.Rects x y = true ∧ cov b.Rects x y = true)) := by
  rw [List.pairwise_iff_getElem]
  constructor
  · intro h i j hi hj hij x y hxy
    refine h j i hij hj ?_
    rw [ix_lt hi, ix_lt hj]
    exact ⟨hv _ (List.getElem_mem hj), hv _ (List.getElem_mem hi), x, y, hxy.2, hxy.1⟩
  · rintro h i j hij hi ⟨_, _, x, y, h1, h2⟩
    rw [ix_lt hi] at h1
    rw [ix_lt (by omega)] at h2
    exact h j i (by omega) hi hij x y ⟨h2, h1⟩
end RE
end Go.Proofs.YtpeggkeenboacaaGreat
set_option maxRecDepth 100000
set_option linter.unusedVariables false
namespace Go.Proofs.YtpeggkeenboacaaGreat
open Go.RowKit
namespace RE
open PL

def papp3_P (l : List (api_Parcel)) (e : api_Edit) (post : List (api_Parcel) → Int → Prop) : Prop := (szL l ∧ szE e ∧ e.Kind = 3) ∧ post (applyS l e).1 (applyS l e).2
def papp3_sp : Spec := ⟨20, false, true, [.sl (.st .api_Parcel), .st .api_Edit], .tup [.dat (.sl (.st .api_Parcel)), .dat (.int .i64)], fun x post => papp3_P (x.1 : List (api_Parcel)) (x.2.1 : api_Edit) (fun y0 y1 => post (y0, y1, ()))⟩
def papp3_C : CtxR := ⟨tau, [rule1 pedit_sp, rule1 pallO_sp, ruleMap 77 false Forms.es, rule1 pclI_sp, rule1 pcpy_sp, rule1 pmts_sp, rule1 parea_sp, ruleC pchoX_sp 193], lookJ [(0, 1000005, ⟨[(8, .dat (.int .i64))], [(2, [.own 50 (.st .api_Parcel)])], [21, 22, 23, 24, 25, 26, 27, 28], [1], []⟩), (5113, 0, ⟨[(0, .dat (.int .i64))], [(2, [.own 50 (.st .api_Parcel)])], [], [1], []⟩), (5113, 43, ⟨[(87, .dat (.int .i64))], [(2, [.own 50 (.st .api_Parcel)])], [88, 89, 90, 14, 100, 99, 98, 97, 96, 95, 94, 93, 92, 91, 15, 101, 102, 104], [1], []⟩), (5113, 1000023, ⟨[(15, .dat (.int .i64))], [(2, [.own 50 (.st .api_Parcel)])], [91, 92, 93, 94, 95, 96, 97, 98, 99, 100], [9], []⟩), (5330024326, 0, ⟨[(0, .dat (.int .i64))], [(2, [.own 50 (.st .api_Parcel)])], [], [9], []⟩), (5330024326, 1000003, ⟨[], [(2, [.own 50 (.st .api_Parcel)])], [15, 16, 17, 18, 19, 20, 21, 22, 23, 24, 25, 26, 27, 28, 29, 30, 31, 32, 33, 34, 35, 36, 37, 38], [9], []⟩), (5113, 9, ⟨[(19, .dat (.int .i64)), (6, .dat (.int .i64)), (5, .own 65 (.st .api_Rect))], [], [20, 21, 22, 23, 8, 7, 24, 25, 26, 27, 28, 36, 35, 34, 33, 10, 32, 31, 29, 30, 37, 38, 39, 40, 41, 42, 43, 44, 45], [], []⟩), (5113, 15, ⟨[(29, .dat (.int .i64))], [], [30, 31, 32, 10, 33, 34, 35, 36], [], []⟩)]⟩
def papp3_W (l : List (api_Parcel)) (day : Int) (known : Int) (ps : List (Int)) (rs : List (api_Region)) (post : List (api_Parcel) → Int → Prop) : Prop := (szL l ∧ szE { Day := day, Known := known, Kind := (3 : Int), Parcels := ps, Regions := rs : api_Edit }) ∧ IFB (!decide (editS l { Day := day, Known := known, Kind := (3 : Int), Parcels := ps, Regions := rs : api_Edit } = (0 : Int))) (szL l ∧ post l (editS l { Day := day, Known := known, Kind := (3 : Int), Parcels := ps, Regions := rs : api_Edit })) (szL l ∧ JOIN [Ty.int IntKind.i64, (Ty.st Sn.api_Parcel).sl] (fun (y1 : Int) (y2 : List api_Parcel) ↦ IFB (!decide (y1 = (0 : Int))) (szL l ∧ post l y1) (post y2 (0 : Int))) fun (J3 : Int → List api_Parcel → Prop) ↦ JOIN [Ty.int IntKind.i64, (Ty.st Sn.api_Parcel).sl] (fun (y4 : Int) (y5 : List api_Parcel) ↦ J3 y4 y5) fun (J6 : Int → List api_Parcel → Prop) ↦ (↑rs.length : Int) ≤ (9223372036854775807 : Int) → LOOP [Ty.int IntKind.i64, Ty.int IntKind.i64, (Ty.st Sn.api_Rect).sl] (fun (rec7 : Int → Int → List api_Rect → Prop) (z8 z9 : Int) (z10 : List api_Rect) ↦ IFB (decide (z8 < (↑rs.length : Int))) (((0 : Int) ≤ z8 ∧ z8 < (↑rs.length : Int)) ∧ (Int.NonNeg (0 : Int) ∧ (0 : Int) ≤ z8 ∧ z8 ≤ (↑rs.length : Int)) ∧ ((↑(sub rs (0 : Int) z8).length : Int) ≤ (9223372036854775807 : Int) → LOOP [Ty.int IntKind.i64] (fun (rec11 : Int → Prop) (z12 : Int) ↦ IFB (decide (z12 < (↑(sub rs (0 : Int) z8).length : Int))) (((0 : Int) ≤ z12 ∧ z12 < (↑(sub rs (0 : Int) z8).length : Int)) ∧ ∀ (v13 : Bool), (v13 = true ↔ meetP (ix rs z8).1 (ix (sub rs (0 : Int) z8) z12).1) → IFB v13 (J6 (11 : Int) l) (rec11 (IntKind.i64.wrap (z12 + (1 : Int))))) ((z10.length + (ix rs z8).1.length) * (32 : Nat) ≤ (140737488355328 : Nat) ∧ True ∧ rec7 (IntKind.i64.wrap (z8 + (1 : Int))) (IntKind.i64.wrap (z9 + areaS { Rects := (ix rs z8).1 : api_Region })) (z10 ++ (ix rs z8).1))) ((0 : Int), PUnit.unit))) ((Int.NonNeg (0 : Int) ∧ (0 : Int) < (↑ps.length : Int)) ∧ ((0 : Int) ≤ IntKind.i64.wrap (ix ps (0 : Int) - (1 : Int)) ∧ IntKind.i64.wrap (ix ps (0 : Int) - (1 : Int)) < (↑l.length : Int)) ∧ ((↑(ix l (IntKind.i64.wrap (ix ps (0 : Int) - (1 : Int)))).6.length : Int) ≤ (9223372036854775807 : Int) → ((0 : Int) ≤ IntKind.i64.wrap ((↑(ix l (IntKind.i64.wrap (ix ps (0 : Int) - (1 : Int)))).6.length : Int) - (1 : Int)) ∧ IntKind.i64.wrap ((↑(ix l (IntKind.i64.wrap (ix ps (0 : Int) - (1 : Int)))).6.length : Int) - (1 : Int)) < (↑(ix l (IntKind.i64.wrap (ix ps (0 : Int) - (1 : Int)))).6.length : Int)) ∧ (((∀ (v14 : api_Rect), v14 ∈ (ix (ix l (IntKind.i64.wrap (ix ps (0 : Int) - (1 : Int)))).6 (IntKind.i64.wrap ((↑(ix l (IntKind.i64.wrap (ix ps (0 : Int) - (1 : Int)))).6.length : Int) - (1 : Int)))).1 → (0 : Int) ≤ v14.1 ∧ v14.1 < v14.3 ∧ v14.3 ≤ (16384 : Int) ∧ (0 : Int) ≤ v14.2 ∧ v14.2 < v14.4 ∧ v14.4 ≤ (16384 : Int)) ∧ (ix (ix l (IntKind.i64.wrap (ix ps (0 : Int) - (1 : Int)))).6 (IntKind.i64.wrap ((↑(ix l (IntKind.i64.wrap (ix ps (0 : Int) - (1 : Int)))).6.length : Int) - (1 : Int)))).1.length ≤ (8000 : Nat)) ∧ (∀ (v15 : api_Rect), v15 ∈ z10 → (0 : Int) ≤ v15.1 ∧ v15.1 < v15.3 ∧ v15.3 ≤ (16384 : Int) ∧ (0 : Int) ≤ v15.2 ∧ v15.2 < v15.4 ∧ v15.4 ≤ (16384 : Int)) ∧ z10.length ≤ (8000 : Nat)) ∧ True ∧ (((gx false !decide (z9 = areaS { Rects := (ix (ix l (IntKind.i64.wrap (ix ps (0 : Int) - (1 : Int)))).6 (IntKind.i64.wrap ((↑(ix l (IntKind.i64.wrap (ix ps (0 : Int) - (1 : Int)))).6.length : Int) - (1 : Int)))).1 : api_Region })) = true → (↑(canonF fun (x y : Int) ↦ xorS (cov (ix (ix l (IntKind.i64.wrap (ix ps (0 : Int) - (1 : Int)))).6 (IntKind.i64.wrap ((↑(ix l (IntKind.i64.wrap (ix ps (0 : Int) - (1 : Int)))).6.length : Int) - (1 : Int)))).1 x y) (cov z10 x y)).length : Int) ≤ (9223372036854775807 : Int)) → IFB (!decide (z9 = areaS { Rects := (ix (ix l (IntKind.i64.wrap (ix ps (0 : Int) - (1 : Int)))).6 (IntKind.i64.wrap ((↑(ix l (IntKind.i64.wrap (ix ps (0 : Int) - (1 : Int)))).6.length : Int) - (1 : Int)))).1 : api_Region }) || decide ((0 : Int) < (↑(canonF fun (x y : Int) ↦ xorS (cov (ix (ix l (IntKind.i64.wrap (ix ps (0 : Int) - (1 : Int)))).6 (IntKind.i64.wrap ((↑(ix l (IntKind.i64.wrap (ix ps (0 : Int) - (1 : Int)))).6.length : Int) - (1 : Int)))).1 x y) (cov z10 x y)).length : Int))) (J6 (12 : Int) l) ((Int.NonNeg (0 : Int) ∧ (0 : Int) < (↑ps.length : Int)) ∧ ((0 : Int) ≤ IntKind.i64.wrap (ix ps (0 : Int) - (1 : Int)) ∧ IntKind.i64.wrap (ix ps (0 : Int) - (1 : Int)) < (↑l.length : Int)) ∧ ((↑rs.length : Int) ≤ (9223372036854775807 : Int) → LOOP [Ty.int IntKind.i64, (Ty.st Sn.api_Parcel).sl] (fun (rec16 : Int → List api_Parcel → Prop) (z17 : Int) (z18 : List api_Parcel) ↦ IFB (decide (z17 < (↑rs.length : Int))) (((0 : Int) ≤ z17 ∧ z17 < (↑rs.length : Int)) ∧ JOIN [Ty.int IntKind.i64, (Ty.st Sn.api_Parcel).sl] (fun (y19 : Int) (y20 : List api_Parcel) ↦ IFB (!decide (y19 = (0 : Int))) (J6 y19 y20) (rec16 (IntKind.i64.wrap (z17 + (1 : Int))) y20)) fun (J21 : Int → List api_Parcel → Prop) ↦ (Int.NonNeg (0 : Int) ∧ (0 : Int) < (↑ps.length : Int)) ∧ JOIN [Ty.int IntKind.i64, (Ty.st Sn.api_Parcel).sl] (fun (y22 : Int) (y23 : List api_Parcel) ↦ J21 y22 y23) fun (J24 : Int → List api_Parcel → Prop) ↦ (↑z18.length : Int) ≤ (9223372036854775807 : Int) → IFB (decide ((↑z18.length : Int) = (60 : Int))) (J24 (1 : Int) z18) (JOIN [(Ty.st Sn.api_Parcel).sl] (fun (y25 : List api_Parcel) ↦ J24 (0 : Int) y25) fun (J26 : List api_Parcel → Prop) ↦ (↑z18.length : Int) ≤ (9223372036854775807 : Int) → ([ix ps (0 : Int)].length ≤ (4000000 : Nat) ∧ ((ix rs z17).1.length ≤ (4000000 : Nat) ∧ (z18.length + [{ Number := IntKind.i64.wrap ((↑z18.length : Int) + (1 : Int)), From := day, Until := (36865 : Int), Parents := [ix ps (0 : Int)], Days := [day], Regions := [{ Rects := (ix rs z17).1 : api_Region }] : api_Parcel }].length) * (96 : Nat) ≤ (140737488355328 : Nat) ∧ J26 (z18 ++ [{ Number := IntKind.i64.wrap ((↑z18.length : Int) + (1 : Int)), From := day, Until := (36865 : Int), Parents := [ix ps (0 : Int)], Days := [day], Regions := [{ Rects := (ix rs z17).1 : api_Region }] : api_Parcel }])) ∧ (ix rs z17).1.length ≤ (4000000 : Nat) ∧ ((z18.length + [{ Number := IntKind.i64.wrap ((↑z18.length : Int) + (1 : Int)), From := day, Until := (36865 : Int), Parents := [ix ps (0 : Int)], Days := [day], Regions := [{ Rects := (ix rs z17).1 : api_Region }] : api_Parcel }].length) * (96 : Nat) ≤ (140737488355328 : Nat) ∧ J26 (z18 ++ [{ Number := IntKind.i64.wrap ((↑z18.length : Int) + (1 : Int)), From := day, Until := (36865 : Int), Parents := [ix ps (0 : Int)], Days := [day], Regions := [{ Rects := (ix rs z17).1 : api_Region }] : api_Parcel }])) ∧ (z18.length + [{ Number := IntKind.i64.wrap ((↑z18.length : Int) + (1 : Int)), From := day, Until := (36865 : Int), Parents := [ix ps (0 : Int)], Days := [day], Regions := [{ Rects := (ix rs z17).1 : api_Region }] : api_Parcel }].length) * (96 : Nat) ≤ (140737488355328 : Nat) ∧ J26 (z18 ++ [{ Number := IntKind.i64.wrap ((↑z18.length : Int) + (1 : Int)), From := day, Until := (36865 : Int), Parents := [ix ps (0 : Int)], Days := [day], Regions := [{ Rects := (ix rs z17).1 : api_Region }] : api_Parcel }])) ∧ [ix ps (0 : Int)].length ≤ (4000000 : Nat) ∧ (ix rs z17).1.length ≤ (4000000 : Nat) ∧ (z18.length + [{ Number := IntKind.i64.wrap ((↑z18.length : Int) + (1 : Int)), From := day, Until := (36865 : Int), Parents := [ix ps (0 : Int)], Days := [day], Regions := [{ Rects := (ix rs z17).1 : api_Region }] : api_Parcel }].length) * (96 : Nat) ≤ (140737488355328 : Nat) ∧ J26 (z18 ++ [{ Number := IntKind.i64.wrap ((↑z18.length : Int) + (1 : Int)), From := day, Until := (36865 : Int), Parents := [ix ps (0 : Int)], Days := [day], Regions := [{ Rects := (ix rs z17).1 : api_Region }] : api_Parcel }]))) (J6 (0 : Int) z18)) ((0 : Int), l.set (IntKind.i64.wrap (ix ps (0 : Int) - (1 : Int))).toNat { Number := (ix l (IntKind.i64.wrap (ix ps (0 : Int) - (1 : Int)))).1, From := (ix l (IntKind.i64.wrap (ix ps (0 : Int) - (1 : Int)))).2, Until := day, Parents := (ix l (IntKind.i64.wrap (ix ps (0 : Int) - (1 : Int)))).4, Days := (ix l (IntKind.i64.wrap (ix ps (0 : Int) - (1 : Int)))).5, Regions := (ix l (IntKind.i64.wrap (ix ps (0 : Int) - (1 : Int)))).6 : api_Parcel }, PUnit.unit))))) ∧ ((↑(ix l (IntKind.i64.wrap (ix ps (0 : Int) - (1 : Int)))).6.length : Int) ≤ (9223372036854775807 : Int) → ((0 : Int) ≤ IntKind.i64.wrap ((↑(ix l (IntKind.i64.wrap (ix ps (0 : Int) - (1 : Int)))).6.length : Int) - (1 : Int)) ∧ IntKind.i64.wrap ((↑(ix l (IntKind.i64.wrap (ix ps (0 : Int) - (1 : Int)))).6.length : Int) - (1 : Int)) < (↑(ix l (IntKind.i64.wrap (ix ps (0 : Int) - (1 : Int)))).6.length : Int)) ∧ (((∀ (v27 : api_Rect), v27 ∈ (ix (ix l (IntKind.i64.wrap (ix ps (0 : Int) - (1 : Int)))).6 (IntKind.i64.wrap ((↑(ix l (IntKind.i64.wrap (ix ps (0 : Int) - (1 : Int)))).6.length : Int) - (1 : Int)))).1 → (0 : Int) ≤ v27.1 ∧ v27.1 < v27.3 ∧ v27.3 ≤ (16384 : Int) ∧ (0 : Int) ≤ v27.2 ∧ v27.2 < v27.4 ∧ v27.4 ≤ (16384 : Int)) ∧ (ix (ix l (IntKind.i64.wrap (ix ps (0 : Int) - (1 : Int)))).6 (IntKind.i64.wrap ((↑(ix l (IntKind.i64.wrap (ix ps (0 : Int) - (1 : Int)))).6.length : Int) - (1 : Int)))).1.length ≤ (8000 : Nat)) ∧ (∀ (v28 : api_Rect), v28 ∈ z10 → (0 : Int) ≤ v28.1 ∧ v28.1 < v28.3 ∧ v28.3 ≤ (16384 : Int) ∧ (0 : Int) ≤ v28.2 ∧ v28.2 < v28.4 ∧ v28.4 ≤ (16384 : Int)) ∧ z10.length ≤ (8000 : Nat)) ∧ True ∧ (((gx false !decide (z9 = areaS { Rects := (ix (ix l (IntKind.i64.wrap (ix ps (0 : Int) - (1 : Int)))).6 (IntKind.i64.wrap ((↑(ix l (IntKind.i64.wrap (ix ps (0 : Int) - (1 : Int)))).6.length : Int) - (1 : Int)))).1 : api_Region })) = true → (↑(canonF fun (x y : Int) ↦ xorS (cov (ix (ix l (IntKind.i64.wrap (ix ps (0 : Int) - (1 : Int)))).6 (IntKind.i64.wrap ((↑(ix l (IntKind.i64.wrap (ix ps (0 : Int) - (1 : Int)))).6.length : Int) - (1 : Int)))).1 x y) (cov z10 x y)).length : Int) ≤ (9223372036854775807 : Int)) → IFB (!decide (z9 = areaS { Rects := (ix (ix l (IntKind.i64.wrap (ix ps (0 : Int) - (1 : Int)))).6 (IntKind.i64.wrap ((↑(ix l (IntKind.i64.wrap (ix ps (0 : Int) - (1 : Int)))).6.length : Int) - (1 : Int)))).1 : api_Region }) || decide ((0 : Int) < (↑(canonF fun (x y : Int) ↦ xorS (cov (ix (ix l (IntKind.i64.wrap (ix ps (0 : Int) - (1 : Int)))).6 (IntKind.i64.wrap ((↑(ix l (IntKind.i64.wrap (ix ps (0 : Int) - (1 : Int)))).6.length : Int) - (1 : Int)))).1 x y) (cov z10 x y)).length : Int))) (J6 (12 : Int) l) ((Int.NonNeg (0 : Int) ∧ (0 : Int) < (↑ps.length : Int)) ∧ ((0 : Int) ≤ IntKind.i64.wrap (ix ps (0 : Int) - (1 : Int)) ∧ IntKind.i64.wrap (ix ps (0 : Int) - (1 : Int)) < (↑l.length : Int)) ∧ ((↑rs.length : Int) ≤ (9223372036854775807 : Int) → LOOP [Ty.int IntKind.i64, (Ty.st Sn.api_Parcel).sl] (fun (rec29 : Int → List api_Parcel → Prop) (z30 : Int) (z31 : List api_Parcel) ↦ IFB (decide (z30 < (↑rs.length : Int))) (((0 : Int) ≤ z30 ∧ z30 < (↑rs.length : Int)) ∧ JOIN [Ty.int IntKind.i64, (Ty.st Sn.api_Parcel).sl] (fun (y32 : Int) (y33 : List api_Parcel) ↦ IFB (!decide (y32 = (0 : Int))) (J6 y32 y33) (rec29 (IntKind.i64.wrap (z30 + (1 : Int))) y33)) fun (J34 : Int → List api_Parcel → Prop) ↦ (Int.NonNeg (0 : Int) ∧ (0 : Int) < (↑ps.length : Int)) ∧ JOIN [Ty.int IntKind.i64, (Ty.st Sn.api_Parcel).sl] (fun (y35 : Int) (y36 : List api_Parcel) ↦ J34 y35 y36) fun (J37 : Int → List api_Parcel → Prop) ↦ (↑z31.length : Int) ≤ (9223372036854775807 : Int) → IFB (decide ((↑z31.length : Int) = (60 : Int))) (J37 (1 : Int) z31) (JOIN [(Ty.st Sn.api_Parcel).sl] (fun (y38 : List api_Parcel) ↦ J37 (0 : Int) y38) fun (J39 : List api_Parcel → Prop) ↦ (↑z31.length : Int) ≤ (9223372036854775807 : Int) → ([ix ps (0 : Int)].length ≤ (4000000 : Nat) ∧ ((ix rs z30).1.length ≤ (4000000 : Nat) ∧ (z31.length + [{ Number := IntKind.i64.wrap ((↑z31.length : Int) + (1 : Int)), From := day, Until := (36865 : Int), Parents := [ix ps (0 : Int)], Days := [day], Regions := [{ Rects := (ix rs z30).1 : api_Region }] : api_Parcel }].length) * (96 : Nat) ≤ (140737488355328 : Nat) ∧ J39 (z31 ++ [{ Number := IntKind.i64.wrap ((↑z31.length : Int) + (1 : Int)), From := day, Until := (36865 : Int), Parents := [ix ps (0 : Int)], Days := [day], Regions := [{ Rects := (ix rs z30).1 : api_Region }] : api_Parcel }])) ∧ (ix rs z30).1.length ≤ (4000000 : Nat) ∧ ((z31.length + [{ Number := IntKind.i64.wrap ((↑z31.length : Int) + (1 : Int)), From := day, Until := (36865 : Int), Parents := [ix ps (0 : Int)], Days := [day], Regions := [{ Rects := (ix rs z30).1 : api_Region }] : api_Parcel }].length) * (96 : Nat) ≤ (140737488355328 : Nat) ∧ J39 (z31 ++ [{ Number := IntKind.i64.wrap ((↑z31.length : Int) + (1 : Int)), From := day, Until := (36865 : Int), Parents := [ix ps (0 : Int)], Days := [day], Regions := [{ Rects := (ix rs z30).1 : api_Region }] : api_Parcel }])) ∧ (z31.length + [{ Number := IntKind.i64.wrap ((↑z31.length : Int) + (1 : Int)), From := day, Until := (36865 : Int), Parents := [ix ps (0 : Int)], Days := [day], Regions := [{ Rects := (ix rs z30).1 : api_Region }] : api_Parcel }].length) * (96 : Nat) ≤ (140737488355328 : Nat) ∧ J39 (z31 ++ [{ Number := IntKind.i64.wrap ((↑z31.length : Int) + (1 : Int)), From := day, Until := (36865 : Int), Parents := [ix ps (0 : Int)], Days := [day], Regions := [{ Rects := (ix rs z30).1 : api_Region }] : api_Parcel }])) ∧ [ix ps (0 : Int)].length ≤ (4000000 : Nat) ∧ (ix rs z30).1.length ≤ (4000000 : Nat) ∧ (z31.length + [{ Number := IntKind.i64.wrap ((↑z31.length : Int) + (1 : Int)), From := day, Until := (36865 : Int), Parents := [ix ps (0 : Int)], Days := [day], Regions := [{ Rects := (ix rs z30).1 : api_Region }] : api_Parcel }].length) * (96 : Nat) ≤ (140737488355328 : Nat) ∧ J39 (z31 ++ [{ Number := IntKind.i64.wrap ((↑z31.length : Int) + (1 : Int)), From := day, Until := (36865 : Int), Parents := [ix ps (0 : Int)], Days := [day], Regions := [{ Rects := (ix rs z30).1 : api_Region }] : api_Parcel }]))) (J6 (0 : Int) z31)) ((0 : Int), l.set (IntKind.i64.wrap (ix ps (0 : Int) - (1 : Int))).toNat { Number := (ix l (IntKind.i64.wrap (ix ps (0 : Int) - (1 : Int)))).1, From := (ix l (IntKind.i64.wrap (ix ps (0 : Int) - (1 : Int)))).2, Until := day, Parents := (ix l (IntKind.i64.wrap (ix ps (0 : Int) - (1 : Int)))).4, Days := (ix l (IntKind.i64.wrap (ix ps (0 : Int) - (1 : Int)))).5, Regions := (ix l (IntKind.i64.wrap (ix ps (0 : Int) - (1 : Int)))).6 : api_Parcel }, PUnit.unit))))))) ((0 : Int), (0 : Int), [], PUnit.unit))
theorem papp3_w (l : List (api_Parcel)) (day : Int) (known : Int) (ps : List (Int)) (rs : List (api_Region)) (post : dens (shT papp3_sp.rs []) → Prop) : papp3_W l day known ps rs (fun y0 y1 => post (y0, y1, ())) = walkG (callR Tryz.prog papp3_C (drawF Tryz.prog tau) 12 0) 20 false [tv (.sl (.st .api_Parcel)) (l), tv (.st .api_Edit) (⟨day, known, 3, ps, rs⟩)] papp3_sp.rs post := by kernel_rfl
theorem papp3_of (h : ∀ x (post : dens (shT papp3_sp.rs []) → Prop), papp3_sp.pt x post → HoldW (walkG (callR Tryz.prog papp3_C (drawF Tryz.prog tau) 12 0) papp3_sp.f papp3_sp.tp (tvs papp3_sp.ts x) papp3_sp.rs post)) : SpecOK Tryz.prog papp3_sp := SpecOK.of_rules (C := papp3_C) (dr := drawF Tryz.prog tau) (n := 12) (fk := 0) (.cons (rule1_ok pedit_ok) (.cons (rule1_ok pallO_ok) (.cons (ruleMap_ok Forms.forms_mk) (.cons (rule1_ok pclI_ok) (.cons (rule1_ok pcpy_ok) (.cons (rule1_ok pmts_ok) (.cons (rule1_ok parea_ok) (.cons (ruleC_ok pchoX_ok) .nil)))))))) (drawF_ok tau) h
theorem regP_prop {l : List Pc} (h : regP l) : ∀ p ∈ l, ∀ a ∈ p.Regions, propR a := fun p hp => by
  obtain ⟨i, hi, rfl⟩ := ix_ex hp
  exact (h.1 i hi).2.2.2.2.2.1.2.2.2.2.2
theorem now_mem {p : Pc} (h : 0 < p.Regions.length) : nowR p ∈ p.Regions := ix_mem (by omega) (by omega)
theorem xor_none {a b : List Rc} : ¬ ((0 : Int) < ((canonF fun (x y : Int) => xorS (cov a x y) (cov b x y)).length : Int)) ↔ ∀ x y, cov b x y = cov a x y := by
  obtain ⟨h1, h2⟩ := comb_ok xorS_0 a b
  have h2 : ∀ x y, cov (canonF fun (x y : Int) => xorS (cov a x y) (cov b x y)) x y = xorS (cov a x y) (cov b x y) := h2
  have h1 : Canon (canonF fun (x y : Int) => xorS (cov a x y) (cov b x y)) := h1
  have hn := canon_none h1
  generalize (canonF fun (x y : Int) => xorS (cov a x y) (cov b x y)) = c at h1 h2 hn
  constructor
  · intro h x y
    have hc : c = [] := List.eq_nil_of_length_eq_zero (by omega)
    have := hn.1 hc x y
    rw [h2] at this
    unfold xorS at this
    simp only [Bool.not_eq_false', decide_eq_true_eq] at this
    exact this.symm
  · intro h hl
    have hc : c = [] := hn.2 fun x y => by rw [h2, h x y]; unfold xorS; simp
    rw [hc] at hl
    exact absurd hl (by decide)
theorem partsR_take {l : List Rn} {k : Nat} (hk : k < l.length) : partsR (l.take (k + 1)) = partsR (l.take k) ++ (ix l (k : Int)).Rects := by
  unfold partsR
  rw [List.take_succ_eq_append_getElem hk, List.flatMap_append, ix_lt hk]; simp
theorem sum_take {l : List Rn} {k : Nat} (hk : k < l.length) : ((l.take (k + 1)).map areaS).sum = ((l.take k).map areaS).sum + areaS (ix l (k : Int)) := by
  rw [List.take_succ_eq_append_getElem hk, List.map_append, List.sum_append, ix_lt hk]; simp
theorem partsR_proper {l : List Rn} (h : ∀ a ∈ l, propR a) : ∀ r ∈ partsR l, proper r := fun r hr => by
  obtain ⟨a, ha, hr⟩ := List.mem_flatMap.1 hr
  exact (h a ha).2.2.1 r hr
theorem addL_take {day : Int} {ps : List Int} {l : List Pc} {rs : List Rn} {k : Nat} (hk : k < rs.length) : addL day ps l (rs.take (k + 1)) = addL day ps l (rs.take k) ++ [newP (((addL day ps l (rs.take k)).length : Int) + 1) day ps (ix rs (k : Int))] := by
  unfold addL
  rw [fold_take hk]
theorem addL_len {day : Int} {ps : List Int} : ∀ {rs : List Rn} {l : List Pc}, (addL day ps l rs).length = l.length + rs.length
  | [], l => rfl
  | a :: rs, l => by
    show (addL day ps (l ++ [_]) rs).length = _
    rw [addL_len, List.length_append, List.length_cons, List.length_cons, List.length_nil]; omega
theorem endP_len {day : Int} {l : List Pc} {k : Int} : (endP day l k).length = l.length := List.length_set
set_option maxHeartbeats 2000000 in
theorem papp3_h (l : List api_Parcel) (day known : Int) (ps : List Int) (rs : List api_Region) (post : List api_Parcel → Int → Prop) (hsz : szL l) (hse : szE ⟨day, known, 3, ps, rs⟩) (hp : post (applyS l ⟨day, known, 3, ps, rs⟩).1 (applyS l ⟨day, known, 3, ps, rs⟩).2) : papp3_W l day known ps rs post := by
  unfold papp3_W
  refine ⟨⟨hsz, hse⟩, IFB.mk (fun hb => ⟨hsz, ?_⟩) (fun hb => ⟨hsz, ?_⟩)⟩
  · have hb : editS l ⟨day, known, 3, ps, rs⟩ ≠ 0 := by simpa using hb
    unfold applyS at hp
    rw [if_pos hb] at hp; exact hp
  have hb : editS l ⟨day, known, 3, ps, rs⟩ = 0 := by simpa using hb
  unfold applyS at hp
  rw [if_neg (fun h => h hb), if_neg (by decide : ¬ (3 : Int) = 1), if_neg (by decide : ¬ (3 : Int) = 2), if_pos rfl] at hp
  obtain ⟨e1, e2, e3, ⟨e4, e5⟩, e6, e7⟩ := editS_0.1 hb
  have e4 : ps.length = 1 ∧ 2 ≤ rs.length ∧ rs.length ≤ 8 := by
    unfold fitsP at e4
    dsimp only at e4
    omega
  have e7 : ∀ a ∈ rs, propR a := e7
  obtain ⟨k, rfl⟩ : ∃ k, ps = [k] := List.length_eq_one_iff.1 e4.1
  obtain ⟨h60, hreg⟩ := checkS_0.1 e1
  have hl := hsz.len
  have ho := e6 k (by simp)
  obtain ⟨w1, w2, w3⟩ := open_ix hsz.len ho
  have hk0 : ix [k] 0 = k := rfl
  have hz : Int.NonNeg (0 : Int) := Int.NonNeg.mk 0
  have hq := ix_mem (l := l) (i := k - 1) w2 w3
  dsimp only at hp
  rw [hk0] at hp
  have hvr : ∀ a ∈ rs, validP a.Rects := fun a ha => (e7 a ha).2
  have hlr : ∀ a ∈ rs, a.Rects.length ≤ 120 := fun a ha => (hvr a ha).1
  have h01 : Int.NonNeg (0 : Int) ∧ (0 : Int) < (([k] : List Int).length : Int) := ⟨hz, by simp⟩
  have hend : endL day l [k] = endP day l k := rfl
  rw [hend] at hp
  -- the parcel that is split
  have hq0 : 0 < (ix l (k - 1)).6.length := by have := regP_days hreg _ hq; omega
  have hq1 : (ix l (k - 1)).6.length ≤ 1000000 := (hsz.all _ hq).regs
  have hw : propR (nowR (ix l (k - 1))) := regP_prop hreg _ hq _ (now_mem hq0)
  have hset : l.set (k - 1).toNat { Number := (ix l (k - 1)).1, From := (ix l (k - 1)).2, Until := day, Parents := (ix l (k - 1)).4, Days := (ix l (k - 1)).5, Regions := (ix l (k - 1)).6 : api_Parcel } = endP day l k := rfl
  have hww : IntKind.i64.wrap (((ix l (k - 1)).6.length : Int) - 1) = ((ix l (k - 1)).6.length : Int) - 1 := wrap_in (by omega) (by omega)
  rw [hk0, w1, hww, hset]
  have hnow : (ix (ix l (k - 1)).6 (((ix l (k - 1)).6.length : Int) - 1)) = nowR (ix l (k - 1)) := rfl
  rw [hnow]
  have hin : 0 ≤ ((ix l (k - 1)).6.length : Int) - 1 ∧ ((ix l (k - 1)).6.length : Int) - 1 < ((ix l (k - 1)).6.length : Int) := by omega
  generalize nowR (ix l (k - 1)) = w at hw hp ⊢
  refine JOIN.opq fun (J3 : Int → List api_Parcel → Prop) hJ3 => JOIN.opq fun (J6 : Int → List api_Parcel → Prop) hJ6 _ => ?_
  have bad : ∀ (c : Int) (z : List api_Parcel), c ≠ 0 → post l c → J6 c z := fun c z hc h => by
    rw [hJ6, hJ3]
    exact IFB.yes (by simpa using hc) ⟨hsz, h⟩
  refine LOOP.fuel3 (fun (z s : Int) (b : List Rc) => ∃ i : Nat, z = (i : Int) ∧ i ≤ rs.length ∧ s = ((rs.take i).map areaS).sum ∧ b = partsR (rs.take i) ∧ 0 ≤ s ∧ s ≤ 268435456 * (i : Int) ∧ b.length ≤ 120 * i ∧ ∀ u v : Nat, v < u → u < i → ¬ meetP (ix rs (u : Int)).Rects (ix rs (v : Int)).Rects) (fun z _ _ => rs.length - Int.toNat z) ⟨0, rfl, Nat.zero_le _, rfl, rfl, Int.le_refl _, Int.le_refl _, Nat.le_refl _, fun u v h1 h2 => by omega⟩ ?_
  rintro rec (z : Int) (s : Int) (b : List Rc) ⟨i, i1, i2, i3, i4, i5, i6, i7, i8⟩ hrec
  subst i1
  refine IFB.mk (fun hb => ?_) (fun hb => ?_)
  · have hb : (i : Int) < rs.length := of_decide_eq_true hb
    have hi : i < rs.length := by omega
    refine ⟨by omega, ⟨hz, by omega, by omega⟩, ?_⟩
    rw [sub_front]
    have hil : (rs.take i).length = i := by rw [List.length_take]; omega
    rw [hil]
    have hir := hlr _ (ix_mem (l := rs) (i := (i : Int)) (by omega) (by omega))
    have hia := areaS_le (a := ix rs (i : Int))
    refine fun _ => loopCmp (n := i) (by omega) (p := fun j => ¬ meetP (ix rs (i : Int)).Rects (ix rs (j : Int)).Rects) (fun rec2 j hj _ hrec2 => ⟨by omega, fun v hv => IFB.mk (fun hm => ?_) (fun hm => hrec2 fun h => ?_)⟩) fun hall => ⟨by omega, trivial, ?_⟩
    · rw [take_ix hj (by omega)] at hv
      rw [if_pos (fun h => h i j hj hi (hv.1 hm))] at hp
      exact bad 11 l (by decide) hp
    · rw [take_ix hj (by omega)] at hv
      rw [hv.2 h] at hm; cases hm
    · rw [wrapS (by omega), wrap_in (z := s + _) (by omega) (by omega)]
      refine hrec ((i + 1 : Nat) : Int) _ _ ⟨i + 1, rfl, hi, by rw [sum_take hi, ← i3], by rw [partsR_take hi, ← i4], by omega, by omega, ?_, fun u v h1 h2 => ?_⟩ (by show rs.length - ((i + 1 : Nat) : Int).toNat < rs.length - (i : Int).toNat; omega)
      · show (b ++ (ix rs (i : Int)).Rects).length ≤ _
        rw [List.length_append]; omega
      · by_cases e : u = i
        · subst e; exact hall v h1
        · exact i8 u v h1 (by omega)
  · have hb : ¬ (i : Int) < rs.length := of_decide_eq_false hb
    have hi : i = rs.length := by omega
    rw [hi, List.take_length] at i3 i4
    have hap : apartP rs := fun u v h1 h2 => i8 u v h1 (by omega)
    rw [if_neg (fun h => h hap)] at hp
    clear i8
    have hsum : s = cntS (cov (partsR rs)) := by rw [i3, cnt_parts hvr ((apart_pw hvr).1 hap)]
    have hcond : ∀ c : Bool, c = (!decide (s = areaS w) || decide ((0 : Int) < ((canonF fun (x y : Int) => xorS (cov w.1 x y) (cov b x y)).length : Int))) → (c = false ↔ ∀ x y, cov (partsR rs) x y = cov w.Rects x y) := fun c hc => by
      rw [hc, i4, Bool.or_eq_false_iff, decide_eq_false_iff_not, xor_none, Bool.not_eq_false', decide_eq_true_eq]
      refine ⟨fun h => h.2, fun h => ⟨?_, h⟩⟩
      rw [hsum, areaS_valid hw.2]
      exact cntS_congr h
    have hpr : ∀ r ∈ b, proper r := by rw [i4]; exact partsR_proper e7
    have hlw : w.1.length ≤ 8000 := by have := hw.2.1; omega
    have hlb : b.length ≤ 8000 := by omega
    refine ⟨h01, ⟨w2, w3⟩, ?_⟩
    -- behind the look at the cover
    have key : IFB (!decide (s = areaS w) || decide ((0 : Int) < ((canonF fun (x y : Int) => xorS (cov w.1 x y) (cov b x y)).length : Int))) (J6 12 l) ((Int.NonNeg (0 : Int) ∧ (0 : Int) < (([k] : List Int).length : Int)) ∧ ((0 : Int) ≤ k - 1 ∧ k - 1 < (l.length : Int)) ∧ ((rs.length : Int) ≤ (9223372036854775807 : Int) → LOOP [Ty.int IntKind.i64, (Ty.st Sn.api_Parcel).sl] (fun (rec16 : Int → List api_Parcel → Prop) (z17 : Int) (z18 : List api_Parcel) => IFB (decide (z17 < (rs.length : Int))) (((0 : Int) ≤ z17 ∧ z17 < (rs.length : Int)) ∧ JOIN [Ty.int IntKind.i64, (Ty.st Sn.api_Parcel).sl] (fun (y19 : Int) (y20 : List api_Parcel) => IFB (!decide (y19 = (0 : Int))) (J6 y19 y20) (rec16 (IntKind.i64.wrap (z17 + (1 : Int))) y20)) fun (J21 : Int → List api_Parcel → Prop) => (Int.NonNeg (0 : Int) ∧ (0 : Int) < (([k] : List Int).length : Int)) ∧ JOIN [Ty.int IntKind.i64, (Ty.st Sn.api_Parcel).sl] (fun (y22 : Int) (y23 : List api_Parcel) => J21 y22 y23) fun (J24 : Int → List api_Parcel → Prop) => (z18.length : Int) ≤ (9223372036854775807 : Int) → IFB (decide ((z18.length : Int) = (60 : Int))) (J24 (1 : Int) z18) (JOIN [(Ty.st Sn.api_Parcel).sl] (fun (y25 : List api_Parcel) => J24 (0 : Int) y25) fun (J26 : List api_Parcel → Prop) => (z18.length : Int) ≤ (9223372036854775807 : Int) → ([k].length ≤ (4000000 : Nat) ∧ ((ix rs z17).1.length ≤ (4000000 : Nat) ∧ (z18.length + [{ Number := IntKind.i64.wrap ((z18.length : Int) + (1 : Int)), From := day, Until := (36865 : Int), Parents := [k], Days := [day], Regions := [{ Rects := (ix rs z17).1 : api_Region }] : api_Parcel }].length) * (96 : Nat) ≤ (140737488355328 : Nat) ∧ J26 (z18 ++ [{ Number := IntKind.i64.wrap ((z18.length : Int) + (1 : Int)), From := day, Until := (36865 : Int), Parents := [k], Days := [day], Regions := [{ Rects := (ix rs z17).1 : api_Region }] : api_Parcel }])) ∧ (ix rs z17).1.length ≤ (4000000 : Nat) ∧ ((z18.length + [{ Number := IntKind.i64.wrap ((z18.length : Int) + (1 : Int)), From := day, Until := (36865 : Int), Parents := [k], Days := [day], Regions := [{ Rects := (ix rs z17).1 : api_Region }] : api_Parcel }].length) * (96 : Nat) ≤ (140737488355328 : Nat) ∧ J26 (z18 ++ [{ Number := IntKind.i64.wrap ((z18.length : Int) + (1 : Int)), From := day, Until := (36865 : Int), Parents := [k], Days := [day], Regions := [{ Rects := (ix rs z17).1 : api_Region }] : api_Parcel }])) ∧ (z18.length + [{ Number := IntKind.i64.wrap ((z18.length : Int) + (1 : Int)), From := day, Until := (36865 : Int), Parents := [k], Days := [day], Regions := [{ Rects := (ix rs z17).1 : api_Region }] : api_Parcel }].length) * (96 : Nat) ≤ (140737488355328 : Nat) ∧ J26 (z18 ++ [{ Number := IntKind.i64.wrap ((z18.length : Int) + (1 : Int)), From := day, Until := (36865 : Int), Parents := [k], Days := [day], Regions := [{ Rects := (ix rs z17).1 : api_Region }] : api_Parcel }])) ∧ [k].length ≤ (4000000 : Nat) ∧ (ix rs z17).1.length ≤ (4000000 : Nat) ∧ (z18.length + [{ Number := IntKind.i64.wrap ((z18.length : Int) + (1 : Int)), From := day, Until := (36865 : Int), Parents := [k], Days := [day], Regions := [{ Rects := (ix rs z17).1 : api_Region }] : api_Parcel }].length) * (96 : Nat) ≤ (140737488355328 : Nat) ∧ J26 (z18 ++ [{ Number := IntKind.i64.wrap ((z18.length : Int) + (1 : Int)), From := day, Until := (36865 : Int), Parents := [k], Days := [day], Regions := [{ Rects := (ix rs z17).1 : api_Region }] : api_Parcel }]))) (J6 (0 : Int) z18)) ((0 : Int), endP day l k, PUnit.unit))) := by
      refine IFB.mk (fun hc => ?_) (fun hc => ⟨h01, ⟨w2, w3⟩, fun _ => ?_⟩)
      · rw [if_pos (fun h => by have := (hcond _ rfl).2 h; rw [hc] at this; cases this)] at hp
        exact bad 12 l (by decide) hp
      rw [if_neg (fun h => h ((hcond _ rfl).1 hc))] at hp
      refine LOOP.fuel2 (fun (z : Int) (b : List Pc) => ∃ i : Nat, z = (i : Int) ∧ i ≤ rs.length ∧ b = addL day [k] (endP day l k) (rs.take i) ∧ l.length + i ≤ 60) (fun z _ => rs.length - Int.toNat z) ⟨0, rfl, Nat.zero_le _, rfl, h60⟩ ?_
      rintro rec2 (z2 : Int) (c : List Pc) ⟨j, j1, j2, j3, j4⟩ hrec2
      subst j1
      have hcl : c.length = l.length + j := by rw [j3, addL_len, endP_len, List.length_take]; omega
      refine IFB.mk (fun hb => ?_) (fun hb => ?_)
      · have hb : (j : Int) < rs.length := of_decide_eq_true hb
        have hj : j < rs.length := by omega
        have hjr := hlr _ (ix_mem (l := rs) (i := (j : Int)) (by omega) (by omega))
        refine ⟨by omega, JOIN.opq fun (J21 : Int → List api_Parcel → Prop) hJ21 => ⟨h01, JOIN.opq fun (J24 : Int → List api_Parcel → Prop) hJ24 _ => IFB.mk (fun hc => ?_) (fun hc => JOIN.opq fun (J26 : List api_Parcel → Prop) hJ26 _ => ?_)⟩⟩
        · have hc : (c.length : Int) = 60 := of_decide_eq_true hc
          rw [if_pos (by omega)] at hp
          rw [hJ24, hJ21]
          exact IFB.yes rfl (bad 1 c (by decide) hp)
        · have hc : ¬ (c.length : Int) = 60 := of_decide_eq_false hc
          have hwr : IntKind.i64.wrap ((c.length : Int) + 1) = (c.length : Int) + 1 := wrap_in (by omega) (by omega)
          rw [hwr]
          have hA : (ix rs (j : Int)).1.length ≤ 4000000 := by omega
          have hA2 : [k].length ≤ 4000000 := by simp
          have hB : (c.length + [{ Number := (c.length : Int) + (1 : Int), From := day, Until := (36865 : Int), Parents := [k], Days := [day], Regions := [{ Rects := (ix rs (j : Int)).1 : api_Region }] : api_Parcel }].length) * 96 ≤ 140737488355328 := by
            simp only [List.length_cons, List.length_nil]; omega
          have hJ : J26 (c ++ [{ Number := (c.length : Int) + (1 : Int), From := day, Until := (36865 : Int), Parents := [k], Days := [day], Regions := [{ Rects := (ix rs (j : Int)).1 : api_Region }] : api_Parcel }]) := by
            rw [hJ26, hJ24, hJ21]
            refine IFB.no rfl ?_
            rw [wrapS (by omega)]
            refine hrec2 ((j + 1 : Nat) : Int) _ ⟨j + 1, rfl, hj, ?_, by omega⟩ (by show rs.length - ((j + 1 : Nat) : Int).toNat < rs.length - (j : Int).toNat; omega)
            rw [addL_take hj, ← j3]; rfl
          repeat' (first | exact hA | exact hA2 | exact hB | exact hJ | with_reducible apply And.intro)
      · have hb : ¬ (j : Int) < rs.length := of_decide_eq_false hb
        have hj : j = rs.length := by omega
        rw [if_neg (by omega)] at hp
        rw [hJ6, hJ3]
        refine IFB.no rfl ?_
        rw [j3, hj, List.take_length]
        exact hp
    have hpw : ∀ r ∈ w.1, proper r := hw.2.2.1
    repeat' (first | exact hin | exact hpw | exact hpr | exact hlw | exact hlb | exact trivial | exact key | with_reducible apply And.intro | intro _)

theorem papp3_ok : SpecOK Tryz.prog papp3_sp := papp3_of fun x post hp => by
  obtain ⟨l, e, u⟩ := x
  obtain ⟨day, known, kind, ps, rs⟩ := e
  obtain ⟨⟨hsz, hse, hk⟩, hp⟩ := hp
  have hk : kind = 3 := hk
  subst hk
  exact HoldW.of (papp3_w l day known ps rs post) (papp3_h l day known ps rs (fun y0 y1 => post (y0, y1, ())) hsz hse hp)

end RE
end Go.Proofs.YtpeggkeenboacaaGreat
set_option maxRecDepth 100000
set_option linter.unusedVariables false
namespace Go.Proofs.YtpeggkeenboacaaGreat
open Go.RowKit
namespace RE
open PL

def pnow_P (p : api_Parcel) (post : api_Region → Prop) : Prop := (0 < p.Regions.length ∧ p.Regions.length ≤ 1000000) ∧ post (nowR p)
def pnow_sp : Spec := ⟨192, false, true, [.st .api_Parcel], .dat (.st .api_Region), fun x post => pnow_P (x.1 : api_Parcel) (fun y0 => post (y0, ()))⟩
def pnow_C : CtxR := ⟨tau, [], lookJ []⟩
def pnow_W (p : api_Parcel) (post : api_Region → Prop) : Prop := (↑p.6.length : Int) ≤ (9223372036854775807 : Int) → ((0 : Int) ≤ IntKind.i64.wrap ((↑p.6.length : Int) - (1 : Int)) ∧ IntKind.i64.wrap ((↑p.6.length : Int) - (1 : Int)) < (↑p.6.length : Int)) ∧ post { Rects := (ix p.6 (IntKind.i64.wrap ((↑p.6.length : Int) - (1 : Int)))).1 : api_Region }
theorem pnow_w (p : api_Parcel) (post : dens (shT pnow_sp.rs []) → Prop) : pnow_W p (fun y0 => post (y0, ())) = walkG (callR Tryz.prog pnow_C (drawR Tryz.prog tau) 8 0) 192 false [tv (.st .api_Parcel) p] pnow_sp.rs post := by kernel_rfl
theorem pnow_of (h : ∀ (p : api_Parcel) (post : api_Region → Prop), pnow_P p post → pnow_W p post) : SpecOK Tryz.prog pnow_sp := SpecOK.of_rules (C := pnow_C) (dr := drawR Tryz.prog tau) (n := 8) (fk := 0) .nil (drawR_ok tau) fun x post hp => HoldW.of (pnow_w x.1 post) (h x.1 (fun y0 => post (y0, ())) hp)
theorem pnow_ok : SpecOK Tryz.prog pnow_sp := pnow_of fun p post hp => by
  obtain ⟨⟨h1, h2⟩, hp⟩ := hp
  unfold pnow_W
  have hw : IntKind.i64.wrap ((p.6.length : Int) - 1) = (p.6.length : Int) - 1 := wrap_in (by omega) (by omega)
  rw [hw]
  exact fun _ => ⟨by omega, hp⟩

def papp4_P (l : List (api_Parcel)) (e : api_Edit) (post : List (api_Parcel) → Int → Prop) : Prop := (szL l ∧ szE e ∧ e.Kind = 4) ∧ post (applyS l e).1 (applyS l e).2
def papp4_sp : Spec := ⟨20, false, true, [.sl (.st .api_Parcel), .st .api_Edit], .tup [.dat (.sl (.st .api_Parcel)), .dat (.int .i64)], fun x post => papp4_P (x.1 : List (api_Parcel)) (x.2.1 : api_Edit) (fun y0 y1 => post (y0, y1, ()))⟩
def papp4_C : CtxR := ⟨tau, [rule1 pedit_sp, rule1 pallO_sp, ruleMap 77 false Forms.es, rule1 pclI_sp, rule1 pcpy_sp, rule1 pjoin_sp, rule1 pnow_sp], lookJ [(0, 1000005, ⟨[(8, .dat (.int .i64))], [(2, [.own 50 (.st .api_Parcel)])], [21, 22, 23, 24, 25, 26, 27, 28], [1], []⟩), (5113, 0, ⟨[(0, .dat (.int .i64))], [(2, [.own 50 (.st .api_Parcel)])], [], [1], []⟩), (5330016155, 0, ⟨[(0, .dat (.int .i64))], [(2, [.own 50 (.st .api_Parcel)])], [], [1], []⟩), (5330016155, 1000003, ⟨[], [(2, [.own 50 (.st .api_Parcel)])], [15, 16, 17, 18, 19, 20, 21, 22, 23, 24, 25, 26, 27, 28, 29, 30, 31, 32, 33, 34, 35, 36, 37, 38], [1], []⟩), (5113, 23, ⟨[(43, .dat (.int .i64))], [], [44, 45, 46, 11, 47, 48, 49, 50, 51, 52, 53, 54, 55, 56, 57], [], [(1, 50, (.st .api_Parcel))]⟩), (5113, 7, ⟨[(15, .dat (.int .i64)), (5, .own 65 (.st .api_Rect))], [], [16, 17, 18, 7, 19, 20, 21, 22, 23, 24, 25, 26, 27, 28, 29, 30, 31], [], []⟩)]⟩
def papp4_W (l : List (api_Parcel)) (day : Int) (known : Int) (ps : List (Int)) (rs : List (api_Region)) (post : List (api_Parcel) → Int → Prop) : Prop := (szL l ∧ szE { Day := day, Known := known, Kind := (4 : Int), Parcels := ps, Regions := rs : api_Edit }) ∧ IFB (!decide (editS l { Day := day, Known := known, Kind := (4 : Int), Parcels := ps, Regions := rs : api_Edit } = (0 : Int))) (szL l ∧ post l (editS l { Day := day, Known := known, Kind := (4 : Int), Parcels := ps, Regions := rs : api_Edit })) (szL l ∧ JOIN [Ty.int IntKind.i64, (Ty.st Sn.api_Parcel).sl] (fun (y1 : Int) (y2 : List api_Parcel) ↦ IFB (!decide (y1 = (0 : Int))) (szL l ∧ post l y1) (post y2 (0 : Int))) fun (J3 : Int → List api_Parcel → Prop) ↦ JOIN [Ty.int IntKind.i64, (Ty.st Sn.api_Parcel).sl] (fun (y4 : Int) (y5 : List api_Parcel) ↦ J3 y4 y5) fun (J6 : Int → List api_Parcel → Prop) ↦ (↑ps.length : Int) ≤ (9223372036854775807 : Int) → LOOP [Ty.int IntKind.i64, (Ty.st Sn.api_Rect).sl] (fun (rec7 : Int → List api_Rect → Prop) (z8 : Int) (z9 : List api_Rect) ↦ IFB (decide (z8 < (↑ps.length : Int))) (((0 : Int) ≤ z8 ∧ z8 < (↑ps.length : Int)) ∧ ((0 : Int) ≤ IntKind.i64.wrap (ix ps z8 - (1 : Int)) ∧ IntKind.i64.wrap (ix ps z8 - (1 : Int)) < (↑l.length : Int)) ∧ ((0 : Nat) < (ix l (IntKind.i64.wrap (ix ps z8 - (1 : Int)))).6.length ∧ (ix l (IntKind.i64.wrap (ix ps z8 - (1 : Int)))).6.length ≤ (1000000 : Nat)) ∧ (z9.length + (nowR { Number := (ix l (IntKind.i64.wrap (ix ps z8 - (1 : Int)))).1, From := (ix l (IntKind.i64.wrap (ix ps z8 - (1 : Int)))).2, Until := (ix l (IntKind.i64.wrap (ix ps z8 - (1 : Int)))).3, Parents := (ix l (IntKind.i64.wrap (ix ps z8 - (1 : Int)))).4, Days := (ix l (IntKind.i64.wrap (ix ps z8 - (1 : Int)))).5, Regions := (ix l (IntKind.i64.wrap (ix ps z8 - (1 : Int)))).6 : api_Parcel }).1.length) * (32 : Nat) ≤ (140737488355328 : Nat) ∧ rec7 (IntKind.i64.wrap (z8 + (1 : Int))) (z9 ++ (nowR { Number := (ix l (IntKind.i64.wrap (ix ps z8 - (1 : Int)))).1, From := (ix l (IntKind.i64.wrap (ix ps z8 - (1 : Int)))).2, Until := (ix l (IntKind.i64.wrap (ix ps z8 - (1 : Int)))).3, Parents := (ix l (IntKind.i64.wrap (ix ps z8 - (1 : Int)))).4, Days := (ix l (IntKind.i64.wrap (ix ps z8 - (1 : Int)))).5, Regions := (ix l (IntKind.i64.wrap (ix ps z8 - (1 : Int)))).6 : api_Parcel }).1)) (((∀ (v10 : api_Rect), v10 ∈ z9 → (0 : Int) ≤ v10.1 ∧ v10.1 < v10.3 ∧ v10.3 ≤ (16384 : Int) ∧ (0 : Int) ≤ v10.2 ∧ v10.2 < v10.4 ∧ v10.4 ≤ (16384 : Int)) ∧ z9.length ≤ (1000 : Nat)) ∧ ∀ (v11 : List api_Rect) (v12 : Int), joinP z9 v11 v12 → IFB (!decide (v12 = (0 : Int))) (J6 v12 l) ((↑ps.length : Int) ≤ (9223372036854775807 : Int) → LOOP [Ty.int IntKind.i64, (Ty.st Sn.api_Parcel).sl] (fun (rec13 : Int → List api_Parcel → Prop) (z14 : Int) (z15 : List api_Parcel) ↦ IFB (decide (z14 < (↑ps.length : Int))) (((0 : Int) ≤ z14 ∧ z14 < (↑ps.length : Int)) ∧ ((0 : Int) ≤ IntKind.i64.wrap (ix ps z14 - (1 : Int)) ∧ IntKind.i64.wrap (ix ps z14 - (1 : Int)) < (↑z15.length : Int)) ∧ rec13 (IntKind.i64.wrap (z14 + (1 : Int))) (z15.set (IntKind.i64.wrap (ix ps z14 - (1 : Int))).toNat { Number := (ix z15 (IntKind.i64.wrap (ix ps z14 - (1 : Int)))).1, From := (ix z15 (IntKind.i64.wrap (ix ps z14 - (1 : Int)))).2, Until := day, Parents := (ix z15 (IntKind.i64.wrap (ix ps z14 - (1 : Int)))).4, Days := (ix z15 (IntKind.i64.wrap (ix ps z14 - (1 : Int)))).5, Regions := (ix z15 (IntKind.i64.wrap (ix ps z14 - (1 : Int)))).6 : api_Parcel })) (JOIN [Ty.int IntKind.i64, (Ty.st Sn.api_Parcel).sl] (fun (y16 : Int) (y17 : List api_Parcel) ↦ J6 y16 y17) fun (J18 : Int → List api_Parcel → Prop) ↦ (↑z15.length : Int) ≤ (9223372036854775807 : Int) → IFB (decide ((↑z15.length : Int) = (60 : Int))) (J18 (1 : Int) z15) (JOIN [(Ty.st Sn.api_Parcel).sl] (fun (y19 : List api_Parcel) ↦ J18 (0 : Int) y19) fun (J20 : List api_Parcel → Prop) ↦ (↑z15.length : Int) ≤ (9223372036854775807 : Int) → (ps.length ≤ (4000000 : Nat) ∧ (v11.length ≤ (4000000 : Nat) ∧ (z15.length + [{ Number := IntKind.i64.wrap ((↑z15.length : Int) + (1 : Int)), From := day, Until := (36865 : Int), Parents := ps, Days := [day], Regions := [{ Rects := v11 : api_Region }] : api_Parcel }].length) * (96 : Nat) ≤ (140737488355328 : Nat) ∧ J20 (z15 ++ [{ Number := IntKind.i64.wrap ((↑z15.length : Int) + (1 : Int)), From := day, Until := (36865 : Int), Parents := ps, Days := [day], Regions := [{ Rects := v11 : api_Region }] : api_Parcel }])) ∧ v11.length ≤ (4000000 : Nat) ∧ ((z15.length + [{ Number := IntKind.i64.wrap ((↑z15.length : Int) + (1 : Int)), From := day, Until := (36865 : Int), Parents := ps, Days := [day], Regions := [{ Rects := v11 : api_Region }] : api_Parcel }].length) * (96 : Nat) ≤ (140737488355328 : Nat) ∧ J20 (z15 ++ [{ Number := IntKind.i64.wrap ((↑z15.length : Int) + (1 : Int)), From := day, Until := (36865 : Int), Parents := ps, Days := [day], Regions := [{ Rects := v11 : api_Region }] : api_Parcel }])) ∧ (z15.length + [{ Number := IntKind.i64.wrap ((↑z15.length : Int) + (1 : Int)), From := day, Until := (36865 : Int), Parents := ps, Days := [day], Regions := [{ Rects := v11 : api_Region }] : api_Parcel }].length) * (96 : Nat) ≤ (140737488355328 : Nat) ∧ J20 (z15 ++ [{ Number := IntKind.i64.wrap ((↑z15.length : Int) + (1 : Int)), From := day, Until := (36865 : Int), Parents := ps, Days := [day], Regions := [{ Rects := v11 : api_Region }] : api_Parcel }])) ∧ ps.length ≤ (4000000 : Nat) ∧ v11.length ≤ (4000000 : Nat) ∧ (z15.length + [{ Number := IntKind.i64.wrap ((↑z15.length : Int) + (1 : Int)), From := day, Until := (36865 : Int), Parents := ps, Days := [day], Regions := [{ Rects := v11 : api_Region }] : api_Parcel }].length) * (96 : Nat) ≤ (140737488355328 : Nat) ∧ J20 (z15 ++ [{ Number := IntKind.i64.wrap ((↑z15.length : Int) + (1 : Int)), From := day, Until := (36865 : Int), Parents := ps, Days := [day], Regions := [{ Rects := v11 : api_Region }] : api_Parcel }])))) ((0 : Int), l, PUnit.unit)))) ((0 : Int), [], PUnit.unit))
theorem papp4_w (l : List (api_Parcel)) (day : Int) (known : Int) (ps : List (Int)) (rs : List (api_Region)) (post : dens (shT papp4_sp.rs []) → Prop) : papp4_W l day known ps rs (fun y0 y1 => post (y0, y1, ())) = walkG (callR Tryz.prog papp4_C (drawF Tryz.prog tau) 12 0) 20 false [tv (.sl (.st .api_Parcel)) (l), tv (.st .api_Edit) (⟨day, known, 4, ps, rs⟩)] papp4_sp.rs post := by kernel_rfl
theorem papp4_of (h : ∀ x (post : dens (shT papp4_sp.rs []) → Prop), papp4_sp.pt x post → HoldW (walkG (callR Tryz.prog papp4_C (drawF Tryz.prog tau) 12 0) papp4_sp.f papp4_sp.tp (tvs papp4_sp.ts x) papp4_sp.rs post)) : SpecOK Tryz.prog papp4_sp := SpecOK.of_rules (C := papp4_C) (dr := drawF Tryz.prog tau) (n := 12) (fk := 0) (.cons (rule1_ok pedit_ok) (.cons (rule1_ok pallO_ok) (.cons (ruleMap_ok Forms.forms_mk) (.cons (rule1_ok pclI_ok) (.cons (rule1_ok pcpy_ok) (.cons (rule1_ok pjoin_ok) (.cons (rule1_ok pnow_ok) .nil))))))) (drawF_ok tau) h
theorem endL_len {day : Int} : ∀ {ps : List Int} {l : List Pc}, (endL day l ps).length = l.length
  | [], l => rfl
  | k :: ps, l => by
    show (endL day (endP day l k) ps).length = _
    rw [endL_len, endP_len]
set_option maxHeartbeats 1000000 in
theorem papp4_h (l : List api_Parcel) (day known : Int) (ps : List Int) (rs : List api_Region) (post : List api_Parcel → Int → Prop) (hsz : szL l) (hse : szE ⟨day, known, 4, ps, rs⟩) (hp : post (applyS l ⟨day, known, 4, ps, rs⟩).1 (applyS l ⟨day, known, 4, ps, rs⟩).2) : papp4_W l day known ps rs post := by
  unfold papp4_W
  refine ⟨⟨hsz, hse⟩, IFB.mk (fun hb => ⟨hsz, ?_⟩) (fun hb => ⟨hsz, ?_⟩)⟩
  · have hb : editS l ⟨day, known, 4, ps, rs⟩ ≠ 0 := by simpa using hb
    unfold applyS at hp
    rw [if_pos hb] at hp; exact hp
  have hb : editS l ⟨day, known, 4, ps, rs⟩ = 0 := by simpa using hb
  unfold applyS at hp
  rw [if_neg (fun h => h hb), if_neg (by decide : ¬ (4 : Int) = 1), if_neg (by decide : ¬ (4 : Int) = 2), if_neg (by decide : ¬ (4 : Int) = 3), if_pos rfl] at hp
  obtain ⟨e1, e2, e3, ⟨e4, e5⟩, e6, e7⟩ := editS_0.1 hb
  have e4 : 2 ≤ ps.length ∧ ps.length ≤ 8 := by
    unfold fitsP at e4
    dsimp only at e4
    omega
  have e6 : ∀ k ∈ ps, openP l k := e6
  obtain ⟨h60, hreg⟩ := checkS_0.1 e1
  have hl := hsz.len
  dsimp only at hp
  have hz : Int.NonNeg (0 : Int) := Int.NonNeg.mk 0
  refine JOIN.opq fun (J3 : Int → List api_Parcel → Prop) hJ3 => JOIN.opq fun (J6 : Int → List api_Parcel → Prop) hJ6 _ => ?_
  have bad : ∀ (c : Int) (z : List api_Parcel), c ≠ 0 → post l c → J6 c z := fun c z hc h => by
    rw [hJ6, hJ3]
    exact IFB.yes (by simpa using hc) ⟨hsz, h⟩
  have hop : ∀ i : Nat, i < ps.length → IntKind.i64.wrap (ix ps (i : Int) - 1) = ix ps (i : Int) - 1 ∧ 0 ≤ ix ps (i : Int) - 1 ∧ ix ps (i : Int) - 1 < (l.length : Int) := fun i hi => open_ix hl (e6 _ (ix_mem (l := ps) (i := (i : Int)) (by omega) (by omega)))
  have hnow : ∀ i : Nat, i < ps.length → 0 < (ix l (ix ps (i : Int) - 1)).6.length ∧ (ix l (ix ps (i : Int) - 1)).6.length ≤ 1000000 ∧ propR (nowR (ix l (ix ps (i : Int) - 1))) := fun i hi => by
    obtain ⟨_, w2, w3⟩ := hop i hi
    have hq := ix_mem (l := l) w2 w3
    have hq0 : 0 < (ix l (ix ps (i : Int) - 1)).6.length := by have := regP_days hreg _ hq; omega
    exact ⟨hq0, (hsz.all _ hq).regs, regP_prop hreg _ hq _ (now_mem hq0)⟩
  let g : Int → Rn := fun k => nowR (ix l (k - 1))
  have hmap : ∀ i : Nat, i < ps.length → ix (ps.map g) (i : Int) = g (ix ps (i : Int)) := fun i hi => by
    rw [ix_lt (by simpa using hi), ix_lt hi, List.getElem_map]
  refine LOOP.fuel2 (fun (z : Int) (b : List Rc) => ∃ i : Nat, z = (i : Int) ∧ i ≤ ps.length ∧ b = partsR ((ps.map g).take i) ∧ b.length ≤ 120 * i) (fun z _ => ps.length - Int.toNat z) ⟨0, rfl, Nat.zero_le _, rfl, Nat.le_refl _⟩ ?_
  rintro rec (z : Int) (b : List Rc) ⟨i, i1, i2, i3, i4⟩ hrec
  subst i1
  refine IFB.mk (fun hb => ?_) (fun hb => ?_)
  · have hb : (i : Int) < ps.length := of_decide_eq_true hb
    have hi : i < ps.length := by omega
    obtain ⟨w1, w2, w3⟩ := hop i hi
    obtain ⟨n1, n2, n3⟩ := hnow i hi
    rw [w1]
    have hlen : (nowR (ix l (ix ps (i : Int) - 1))).1.length ≤ 120 := n3.2.1
    refine ⟨by omega, ⟨w2, w3⟩, ⟨n1, n2⟩, ?_, ?_⟩
    · show (b.length + (nowR (ix l (ix ps (i : Int) - 1))).1.length) * 32 ≤ _
      omega
    · rw [wrapS (by omega)]
      refine hrec ((i + 1 : Nat) : Int) _ ⟨i + 1, rfl, hi, ?_, ?_⟩ (by show ps.length - ((i + 1 : Nat) : Int).toNat < ps.length - (i : Int).toNat; omega)
      · rw [partsR_take (by simpa using hi), ← i3, hmap i hi]
      · show (b ++ (nowR (ix l (ix ps (i : Int) - 1))).1).length ≤ _
        rw [List.length_append]; omega
  · have hb : ¬ (i : Int) < ps.length := of_decide_eq_false hb
    have hi : i = ps.length := by omega
    have hbe : b = outsL l ps := by rw [i3, hi, List.take_of_length_le (by simp)]; rfl
    have hpr : ∀ r ∈ b, proper r := by
      rw [hbe]
      refine partsR_proper fun a ha => ?_
      obtain ⟨k, hk, rfl⟩ := List.mem_map.1 ha
      obtain ⟨j, hj, rfl⟩ := ix_ex hk
      exact (hnow j hj).2.2
    refine ⟨⟨hpr, by omega⟩, fun r c hr => ?_⟩
    rw [hbe] at hr
    rcases hr with ⟨r1, r2, r3⟩ | ⟨r1, r2, r3⟩
    · rw [if_pos r1] at hp
      subst r3
      exact IFB.yes rfl (bad 1 l (by decide) hp)
    rw [if_neg (by omega)] at hp
    rw [← r2] at r1 hp
    subst r3
    refine IFB.no rfl fun _ => ?_
    refine LOOP.fuel2 (fun (z : Int) (c : List Pc) => ∃ j : Nat, z = (j : Int) ∧ j ≤ ps.length ∧ c = endL day l (ps.take j)) (fun z _ => ps.length - Int.toNat z) ⟨0, rfl, Nat.zero_le _, rfl⟩ ?_
    rintro rec2 (z2 : Int) (c : List Pc) ⟨j, j1, j2, j3⟩ hrec2
    subst j1
    have hcl : c.length = l.length := by rw [j3, endL_len]
    refine IFB.mk (fun hb => ?_) (fun hb => ?_)
    · have hb : (j : Int) < ps.length := of_decide_eq_true hb
      have hj : j < ps.length := by omega
      obtain ⟨w1, w2, w3⟩ := hop j hj
      rw [w1]
      refine ⟨by omega, by omega, ?_⟩
      rw [wrapS (by omega)]
      refine hrec2 ((j + 1 : Nat) : Int) _ ⟨j + 1, rfl, hj, ?_⟩ (by show ps.length - ((j + 1 : Nat) : Int).toNat < ps.length - (j : Int).toNat; omega)
      show endP day c (ix ps (j : Int)) = _
      unfold endL at j3 ⊢
      rw [fold_take hj, ← j3]
    · have hb : ¬ (j : Int) < ps.length := of_decide_eq_false hb
      have hj : j = ps.length := by omega
      rw [hj, List.take_length] at j3
      refine JOIN.opq fun (J18 : Int → List api_Parcel → Prop) hJ18 _ => IFB.mk (fun hc => ?_) (fun hc => JOIN.opq fun (J20 : List api_Parcel → Prop) hJ20 _ => ?_)
      · have hc : (c.length : Int) = 60 := of_decide_eq_true hc
        rw [if_pos (by omega)] at hp
        rw [hJ18]
        exact bad 1 c (by decide) hp
      · have hc : ¬ (c.length : Int) = 60 := of_decide_eq_false hc
        rw [if_neg (by omega)] at hp
        have hwr : IntKind.i64.wrap ((c.length : Int) + 1) = (c.length : Int) + 1 := wrap_in (by omega) (by omega)
        rw [hwr]
        have hA : r.length ≤ 4000000 := by omega
        have hA2 : ps.length ≤ 4000000 := by omega
        have hB : (c.length + [{ Number := (c.length : Int) + (1 : Int), From := day, Until := (36865 : Int), Parents := ps, Days := [day], Regions := [{ Rects := r : api_Region }] : api_Parcel }].length) * 96 ≤ 140737488355328 := by
          simp only [List.length_cons, List.length_nil]; omega
        have hJ : J20 (c ++ [{ Number := (c.length : Int) + (1 : Int), From := day, Until := (36865 : Int), Parents := ps, Days := [day], Regions := [{ Rects := r : api_Region }] : api_Parcel }]) := by
          rw [hJ20, hJ18, hJ6, hJ3]
          refine IFB.no rfl ?_
          rw [j3]
          exact hp
        repeat' (first | exact hA | exact hA2 | exact hB | exact hJ | with_reducible apply And.intro)

theorem papp4_ok : SpecOK Tryz.prog papp4_sp := papp4_of fun x post hp => by
  obtain ⟨l, e, u⟩ := x
  obtain ⟨day, known, kind, ps, rs⟩ := e
  obtain ⟨⟨hsz, hse, hk⟩, hp⟩ := hp
  have hk : kind = 4 := hk
  subst hk
  exact HoldW.of (papp4_w l day known ps rs post) (papp4_h l day known ps rs (fun y0 y1 => post (y0, y1, ())) hsz hse hp)

end RE
end Go.Proofs.YtpeggkeenboacaaGreat
set_option maxRecDepth 100000
set_option linter.unusedVariables false
namespace Go.Proofs.YtpeggkeenboacaaGreat
open Go.RowKit
namespace RE
open PL

def papp0_P (l : List (api_Parcel)) (e : api_Edit) (post : List (api_Parcel) → Int → Prop) : Prop := (szL l ∧ szE e ∧ editS l e ≠ 0) ∧ post l (editS l e)
def papp0_sp : Spec := ⟨20, false, true, [.sl (.st .api_Parcel), .st .api_Edit], .tup [.dat (.sl (.st .api_Parcel)), .dat (.int .i64)], fun x post => papp0_P (x.1 : List (api_Parcel)) (x.2.1 : api_Edit) (fun y0 y1 => post (y0, y1, ()))⟩
def papp0_C : CtxR := ⟨tau, [rule1 pedit_sp, rule1 pallO_sp, ruleNo 77], lookJ []⟩
def papp0_W (l : List (api_Parcel)) (e : api_Edit) (post : List (api_Parcel) → Int → Prop) : Prop := (szL l ∧ szE { Day := e.1, Known := e.2, Kind := e.3, Parcels := e.4, Regions := e.5 : api_Edit }) ∧ IFB (!decide (editS l { Day := e.1, Known := e.2, Kind := e.3, Parcels := e.4, Regions := e.5 : api_Edit } = (0 : Int))) (szL l ∧ post l (editS l { Day := e.1, Known := e.2, Kind := e.3, Parcels := e.4, Regions := e.5 : api_Edit })) (szL l ∧ False)
theorem papp0_w (l : List (api_Parcel)) (e : api_Edit) (post : dens (shT papp0_sp.rs []) → Prop) : papp0_W l e (fun y0 y1 => post (y0, y1, ())) = walkG (callR Tryz.prog papp0_C (drawF Tryz.prog tau) 12 0) 20 false [tv (.sl (.st .api_Parcel)) l, tv (.st .api_Edit) e] papp0_sp.rs post := by kernel_rfl
theorem papp0_of (h : ∀ (l : List (api_Parcel)) (e : api_Edit) (post : List (api_Parcel) → Int → Prop), papp0_P l e post → papp0_W l e post) : SpecOK Tryz.prog papp0_sp := SpecOK.of_rules (C := papp0_C) (dr := drawF Tryz.prog tau) (n := 12) (fk := 0) (.cons (rule1_ok pedit_ok) (.cons (rule1_ok pallO_ok) (.cons (ruleNo_ok 77) .nil))) (drawF_ok tau) fun x post hp => HoldW.of (papp0_w x.1 x.2.1 post) (h x.1 x.2.1 (fun y0 y1 => post (y0, y1, ())) hp)
theorem papp0_ok : SpecOK Tryz.prog papp0_sp := papp0_of fun l e post hp => by
  obtain ⟨⟨hsz, hse, hne⟩, hp⟩ := hp
  unfold papp0_W
  refine ⟨⟨hsz, hse⟩, IFB.mk (fun _ => ⟨hsz, hp⟩) (fun hb => absurd (by simpa using hb) hne)⟩
def pappN_P (l : List (api_Parcel)) (e : api_Edit) (post : List (api_Parcel) → Int → Prop) : Prop := (szL l ∧ szE e ∧ e.Kind ≠ 2) ∧ post (applyS l e).1 (applyS l e).2
def pappN_sp : Spec := ⟨20, false, true, [.sl (.st .api_Parcel), .st .api_Edit], .tup [.dat (.sl (.st .api_Parcel)), .dat (.int .i64)], fun x post => pappN_P (x.1 : List (api_Parcel)) (x.2.1 : api_Edit) (fun y0 y1 => post (y0, y1, ()))⟩
theorem applyS_err {l : List Pc} {e : Ed} (h : editS l e ≠ 0) : applyS l e = (l, editS l e) := by unfold applyS; rw [if_pos h]
theorem pappN_ok : SpecOK Tryz.prog pappN_sp := fun x post hp => by
  obtain ⟨l, e, u⟩ := x
  have hp : (szL l ∧ szE e ∧ e.Kind ≠ 2) ∧ post ((applyS l e).1, (applyS l e).2, ()) := hp
  obtain ⟨⟨hsz, hse, hk⟩, hp⟩ := hp
  by_cases h : editS l e = 0
  · have hk2 := (editS_0.1 h).2.1
    have : e.Kind = 1 ∨ e.Kind = 3 ∨ e.Kind = 4 ∨ e.Kind = 5 := by omega
    rcases this with h1 | h1 | h1 | h1
    · exact papp1_ok (l, e, ()) post ⟨⟨hsz, hse, h1⟩, hp⟩
    · exact papp3_ok (l, e, ()) post ⟨⟨hsz, hse, h1⟩, hp⟩
    · exact papp4_ok (l, e, ()) post ⟨⟨hsz, hse, h1⟩, hp⟩
    · exact papp5_ok (l, e, ()) post ⟨⟨hsz, hse, h1⟩, hp⟩
  · rw [applyS_err h] at hp
    exact papp0_ok (l, e, ()) post ⟨⟨hsz, hse, h⟩, hp⟩

end RE
end Go.Proofs.YtpeggkeenboacaaGreat
set_option linter.unusedVariables false
set_option maxRecDepth 100000
namespace Go.Proofs.YtpeggkeenboacaaGreat
open Go.RowKit
namespace RE
open PL
namespace PL
def thereP (p : Pc) (d : Int) : Prop := p.From ≤ d ∧ d < p.Until
instance (p : Pc) (d : Int) : Decidable (thereP p d) := by unfold thereP; infer_instance
def outlF (p : Pc) (d : Int) (n : Nat) : Rn := (List.range n).foldl (fun (r : Rn) (i : Nat) => if ix p.Days (i : Int) ≤ d then ix p.Regions (i : Int) else r) (ix p.Regions 0)
/-- The last outline on a day or before. -/
def outlS (p : Pc) (d : Int) : Rn := outlF p d p.Days.length
def onP (l : List Pc) (n d : Int) : Prop := 1 ≤ n ∧ n ≤ (l.length : Int) ∧ checkS l = 0 ∧ thereP (ix l (n - 1)) d
open Classical in
noncomputable def onS (l : List Pc) (n d : Int) : Rn := if onP l n d then outlS (ix l (n - 1)) d else ⟨[]⟩
/-- One parcel more: the family, and those of it that are there. -/
def hStep (d : Int) (s : List Int × List Int) (p : Pc) : List Int × List Int :=
  let fam := if ∃ k ∈ p.Parents, k ∈ s.1 then s.1 ++ [p.Number] else s.1
  (fam, if thereP p d ∧ p.Number ∈ fam then s.2 ++ [p.Number] else s.2)
def heirsL (l : List Pc) (n d : Int) : List Int := ((l.drop (n - 1).toNat).foldl (hStep d) ([n], [])).2
open Classical in
/-- The first error of a question for heirs. -/
noncomputable def heirE (l : List Pc) (n d : Int) : Int := if checkS l ≠ 0 then checkS l else if d < 0 ∨ 36864 < d then 9 else if n < 1 ∨ (l.length : Int) < n ∨ d < (ix l (n - 1)).From then 10 else 0
noncomputable def heirsS (l : List Pc) (n d : Int) : List Int := if heirE l n d = 0 then heirsL l n d else []
noncomputable def shareL (l : List Pc) (n d : Int) (h : List Int) : List arr2_i64 := h.map fun k => ⟨k, sizeS (canonF (comb (howS 2) (outlS (ix l (n - 1)) d).Rects (outlS (ix l (k - 1)) d).Rects))⟩
noncomputable def shareS (l : List Pc) (n d : Int) : List arr2_i64 := if heirE l n d = 0 then shareL l n d (heirsL l n d) else []
noncomputable def runG (x : List Pc) (i : Int) : List Ed → List Pc × Int × Int
  | [] => (x, i, 0)
  | e :: r => if (applyS x e).2 ≠ 0 then (x, i, (applyS x e).2) else runG (applyS x e).1 (i + 1) r
noncomputable def runS (l : List Ed) : List Pc × Int × Int := if 120 < l.length then ([], 0, 1) else runG [] 0 l
end PL
theorem outlF_succ {p : Pc} {d : Int} {n : Nat} : outlF p d (n + 1) = if ix p.Days (n : Int) ≤ d then ix p.Regions (n : Int) else outlF p d n := by
  unfold outlF; rw [List.range_succ, List.foldl_append]; rfl
theorem outlF_mem {p : Pc} {d : Int} (h : 0 < p.Regions.length) : ∀ {n : Nat}, n ≤ p.Regions.length → outlF p d n ∈ p.Regions
  | 0, _ => ix_mem (Int.le_refl 0) (by omega)
  | n + 1, hn => by
    rw [outlF_succ]
    split
    · exact ix_mem (by omega) (by omega)
    · exact outlF_mem h (by omega)
end RE
end Go.Proofs.YtpeggkeenboacaaGreat
set_option maxRecDepth 100000
set_option linter.unusedVariables false
namespace Go.Proofs.YtpeggkeenboacaaGreat
open Go.RowKit
namespace RE
open PL

def pthe_P (p : api_Parcel) (d : Int) (post : Bool → Prop) : Prop := ∀ q : Bool, (q = true ↔ thereP p d) → post q
def pthe_sp : Spec := ⟨87, false, false, [.st .api_Parcel, .int .i64], .dat (.bool), fun x post => pthe_P (x.1 : api_Parcel) (x.2.1 : Int) (fun y0 => post (y0, ()))⟩
def pthe_C : CtxR := ⟨tau, [], lookJ []⟩
def pthe_W (p : api_Parcel) (d : Int) (post : Bool → Prop) : Prop := post (decide (p.2 ≤ d) && decide (d < p.3))
theorem pthe_w (p : api_Parcel) (d : Int) (post : dens (shT pthe_sp.rs []) → Prop) : pthe_W p d (fun y0 => post (y0, ())) = walkG (callR Tryz.prog pthe_C (drawR Tryz.prog tau) 8 0) 87 false [tv (.st .api_Parcel) p, tv (.int .i64) d] pthe_sp.rs post := by kernel_rfl
theorem pthe_of (h : ∀ (p : api_Parcel) (d : Int) (post : Bool → Prop), pthe_P p d post → pthe_W p d post) : SpecOK Tryz.prog pthe_sp := SpecOK.of_rules (C := pthe_C) (dr := drawR Tryz.prog tau) (n := 8) (fk := 0) .nil (drawR_ok tau) fun x post hp => HoldW.of (pthe_w x.1 x.2.1 post) (h x.1 x.2.1 (fun y0 => post (y0, ())) hp)
theorem pthe_ok : SpecOK Tryz.prog pthe_sp := pthe_of fun p d post hp => hp _ (by
  unfold thereP
  rw [Bool.and_eq_true, decide_eq_true_iff, decide_eq_true_iff])

def pout_P (p : api_Parcel) (d : Int) (post : api_Region → Prop) : Prop := (p.Days.length = p.Regions.length ∧ 0 < p.Regions.length ∧ p.Regions.length ≤ 1000000) ∧ post (outlS p d)
def pout_sp : Spec := ⟨88, false, true, [.st .api_Parcel, .int .i64], .dat (.st .api_Region), fun x post => pout_P (x.1 : api_Parcel) (x.2.1 : Int) (fun y0 => post (y0, ()))⟩
def pout_C : CtxR := ⟨tau, [], lookJ [(0, 7, ⟨[(15, .dat (.int .i64))], [(2, [.dat (.sl (.st .api_Rect))])], [16, 27, 26, 25, 24, 23, 22, 21, 20, 7, 6, 19, 18, 17, 28], [], []⟩), (0, 14, ⟨[], [(2, [.dat (.sl (.st .api_Rect))])], [17, 18, 19, 6, 7, 20, 21, 22, 23, 24, 25, 26, 27], [], []⟩)]⟩
def pout_W (p : api_Parcel) (d : Int) (post : api_Region → Prop) : Prop := (Int.NonNeg (0 : Int) ∧ (0 : Int) < (↑p.6.length : Int)) ∧ ((↑p.5.length : Int) ≤ (9223372036854775807 : Int) → LOOP [Ty.int IntKind.i64, (Ty.st Sn.api_Rect).sl] (fun (rec1 : Int → List api_Rect → Prop) (z2 : Int) (z3 : List api_Rect) ↦ IFB (decide (z2 < (↑p.5.length : Int))) (JOIN [(Ty.st Sn.api_Rect).sl] (fun (y4 : List api_Rect) ↦ rec1 (IntKind.i64.wrap (z2 + (1 : Int))) y4) fun (J5 : List api_Rect → Prop) ↦ ((0 : Int) ≤ z2 ∧ z2 < (↑p.5.length : Int)) ∧ IFB (decide (ix p.5 z2 ≤ d)) (((0 : Int) ≤ z2 ∧ z2 < (↑p.6.length : Int)) ∧ J5 (ix p.6 z2).1) (J5 z3)) (post { Rects := z3 : api_Region })) ((0 : Int), (ix p.6 (0 : Int)).1, PUnit.unit))
theorem pout_w (p : api_Parcel) (d : Int) (post : dens (shT pout_sp.rs []) → Prop) : pout_W p d (fun y0 => post (y0, ())) = walkG (callR Tryz.prog pout_C (drawR Tryz.prog tau) 8 0) 88 false [tv (.st .api_Parcel) p, tv (.int .i64) d] pout_sp.rs post := by kernel_rfl
theorem pout_of (h : ∀ (p : api_Parcel) (d : Int) (post : api_Region → Prop), pout_P p d post → pout_W p d post) : SpecOK Tryz.prog pout_sp := SpecOK.of_rules (C := pout_C) (dr := drawR Tryz.prog tau) (n := 8) (fk := 0) .nil (drawR_ok tau) fun x post hp => HoldW.of (pout_w x.1 x.2.1 post) (h x.1 x.2.1 (fun y0 => post (y0, ())) hp)
theorem pout_ok : SpecOK Tryz.prog pout_sp := pout_of fun p d post hp => by
  obtain ⟨⟨h1, h2, h3⟩, hp⟩ := hp
  unfold pout_W
  have h1 : p.5.length = p.6.length := h1
  have h2 : 0 < p.6.length := h2
  have h3 : p.6.length ≤ 1000000 := h3
  refine ⟨⟨Int.NonNeg.mk 0, by omega⟩, fun _ => ?_⟩
  refine LOOP.fuel2 (fun (z : Int) (b : List Rc) => ∃ k : Nat, z = (k : Int) ∧ k ≤ p.5.length ∧ b = (outlF p d k).1) (fun z _ => p.5.length - Int.toNat z) ⟨0, rfl, Nat.zero_le _, rfl⟩ ?_
  rintro rec (z : Int) (b : List Rc) ⟨k, i1, i2, i3⟩ hrec
  subst i1
  refine IFB.mk (fun hb => ?_) (fun hb => ?_)
  · have hb : (k : Int) < p.5.length := of_decide_eq_true hb
    have hk : k < p.5.length := by omega
    refine JOIN.opq fun (J : List Rc → Prop) hJ => ⟨by omega, ?_⟩
    have fin : ∀ y : List Rc, y = (outlF p d (k + 1)).1 → J y := fun y hy => by
      rw [hJ]
      show rec (IntKind.i64.wrap ((k : Int) + 1)) y
      rw [wrapS (by omega)]
      exact hrec ((k + 1 : Nat) : Int) y ⟨k + 1, rfl, hk, hy⟩ (by show p.5.length - ((k + 1 : Nat) : Int).toNat < p.5.length - (k : Int).toNat; omega)
    refine IFB.mk (fun hc => ⟨by omega, fin _ ?_⟩) (fun hc => fin _ ?_)
    · rw [outlF_succ, if_pos (of_decide_eq_true hc)]
    · rw [outlF_succ, if_neg (of_decide_eq_false hc)]; exact i3
  · have hb : ¬ (k : Int) < p.5.length := of_decide_eq_false hb
    have hk : k = p.5.length := by omega
    rw [hk] at i3
    have e : ({ Rects := b } : api_Region) = outlS p d := by rw [i3]; rfl
    show post { Rects := b }
    rw [e]; exact hp

def pon_P (l : List (api_Parcel)) (n : Int) (d : Int) (post : List (api_Rect) → Bool → Prop) : Prop := szL l ∧ ∀ (r : List api_Rect) (q : Bool), (r = (onS l n d).Rects ∧ (q = true ↔ onP l n d)) → post r q
def pon_sp : Spec := ⟨27, false, true, [.sl (.st .api_Parcel), .int .i64, .int .i64], .tup [.agg [.dat (.sl (.st .api_Rect))], .dat (.bool)], fun x post => pon_P (x.1 : List (api_Parcel)) (x.2.1 : Int) (x.2.2.1 : Int) (fun y0 y1 => post (y0, y1, ()))⟩
def pon_C : CtxR := ⟨tau, [rule1 pchk_sp, rule1 pthe_sp, rule1 pout_sp, rule1 pcpy_sp], lookJ []⟩
def pon_W (l : List (api_Parcel)) (n : Int) (d : Int) (post : List (api_Rect) → Bool → Prop) : Prop := (gx false (decide (n < (1 : Int))) = true → (↑l.length : Int) ≤ (9223372036854775807 : Int)) → JOIN [Ty.int IntKind.i64] (fun (y1 : Int) ↦ (gx false (decide (n < (1 : Int)) || decide ((↑l.length : Int) < n) || !decide (y1 = (0 : Int))) = true → (0 : Int) ≤ IntKind.i64.wrap (n - (1 : Int)) ∧ IntKind.i64.wrap (n - (1 : Int)) < (↑l.length : Int)) ∧ JOIN [Ty.bool] (fun (y2 : Bool) ↦ IFB (decide (n < (1 : Int)) || decide ((↑l.length : Int) < n) || !decide (y1 = (0 : Int)) || !y2) (post [] false) (((0 : Int) ≤ IntKind.i64.wrap (n - (1 : Int)) ∧ IntKind.i64.wrap (n - (1 : Int)) < (↑l.length : Int)) ∧ ((ix l (IntKind.i64.wrap (n - (1 : Int)))).5.length = (ix l (IntKind.i64.wrap (n - (1 : Int)))).6.length ∧ (0 : Nat) < (ix l (IntKind.i64.wrap (n - (1 : Int)))).6.length ∧ (ix l (IntKind.i64.wrap (n - (1 : Int)))).6.length ≤ (1000000 : Nat)) ∧ (outlS { Number := (ix l (IntKind.i64.wrap (n - (1 : Int)))).1, From := (ix l (IntKind.i64.wrap (n - (1 : Int)))).2, Until := (ix l (IntKind.i64.wrap (n - (1 : Int)))).3, Parents := (ix l (IntKind.i64.wrap (n - (1 : Int)))).4, Days := (ix l (IntKind.i64.wrap (n - (1 : Int)))).5, Regions := (ix l (IntKind.i64.wrap (n - (1 : Int)))).6 : api_Parcel } d).1.length ≤ (4000000 : Nat) ∧ post (outlS { Number := (ix l (IntKind.i64.wrap (n - (1 : Int)))).1, From := (ix l (IntKind.i64.wrap (n - (1 : Int)))).2, Until := (ix l (IntKind.i64.wrap (n - (1 : Int)))).3, Parents := (ix l (IntKind.i64.wrap (n - (1 : Int)))).4, Days := (ix l (IntKind.i64.wrap (n - (1 : Int)))).5, Regions := (ix l (IntKind.i64.wrap (n - (1 : Int)))).6 : api_Parcel } d).1 true)) fun (J3 : Bool → Prop) ↦ IFB (gx false (decide (n < (1 : Int)) || decide ((↑l.length : Int) < n) || !decide (y1 = (0 : Int)))) (∀ (v4 : Bool), (v4 = true ↔ thereP { Number := (ix l (IntKind.i64.wrap (n - (1 : Int)))).1, From := (ix l (IntKind.i64.wrap (n - (1 : Int)))).2, Until := (ix l (IntKind.i64.wrap (n - (1 : Int)))).3, Parents := (ix l (IntKind.i64.wrap (n - (1 : Int)))).4, Days := (ix l (IntKind.i64.wrap (n - (1 : Int)))).5, Regions := (ix l (IntKind.i64.wrap (n - (1 : Int)))).6 : api_Parcel } d) → J3 v4) (J3 false)) fun (J5 : Int → Prop) ↦ IFB (gx false (decide (n < (1 : Int)) || decide ((↑l.length : Int) < n))) (szL l ∧ J5 (checkS l)) (J5 (0 : Int))
theorem pon_w (l : List (api_Parcel)) (n : Int) (d : Int) (post : dens (shT pon_sp.rs []) → Prop) : pon_W l n d (fun y0 y1 => post (y0, y1, ())) = walkG (callR Tryz.prog pon_C (drawF Tryz.prog tau) 8 0) 27 false [tv (.sl (.st .api_Parcel)) l, tv (.int .i64) n, tv (.int .i64) d] pon_sp.rs post := by kernel_rfl
theorem pon_of (h : ∀ (l : List (api_Parcel)) (n : Int) (d : Int) (post : List (api_Rect) → Bool → Prop), pon_P l n d post → pon_W l n d post) : SpecOK Tryz.prog pon_sp := SpecOK.of_rules (C := pon_C) (dr := drawF Tryz.prog tau) (n := 8) (fk := 0) (.cons (rule1_ok pchk_ok) (.cons (rule1_ok pthe_ok) (.cons (rule1_ok pout_ok) (.cons (rule1_ok pcpy_ok) .nil)))) (drawF_ok tau) fun x post hp => HoldW.of (pon_w x.1 x.2.1 x.2.2.1 post) (h x.1 x.2.1 x.2.2.1 (fun y0 y1 => post (y0, y1, ())) hp)
theorem reg_days {l : List Pc} (hsz : szL l) (h : checkS l = 0) {n : Int} (h1 : 1 ≤ n) (h2 : n ≤ (l.length : Int)) : ix l (n - 1) ∈ l ∧ (ix l (n - 1)).5.length = (ix l (n - 1)).6.length ∧ 0 < (ix l (n - 1)).6.length ∧ (ix l (n - 1)).6.length ≤ 1000000 ∧ IntKind.i64.wrap (n - 1) = n - 1 := by
  have hm := ix_mem (l := l) (i := n - 1) (by omega) (by omega)
  have hr := regP_days (checkS_0.1 h).2 _ hm
  have := hsz.len
  exact ⟨hm, hr.2, by have := hr.1; omega, (hsz.all _ hm).regs, wrap_in (by omega) (by omega)⟩
theorem pon_ok : SpecOK Tryz.prog pon_sp := pon_of fun l n d post hp => by
  obtain ⟨hsz, hp⟩ := hp
  have hl := hsz.len
  unfold pon_W
  refine fun _ => JOIN.opq fun (J : Int → Prop) hJ => ?_
  have k1 : ∀ y : Int, (1 ≤ n ∧ n ≤ (l.length : Int) → y = checkS l) → J y := fun y hy => by
    rw [hJ]
    refine ⟨fun h => ?_, JOIN.opq fun (J2 : Bool → Prop) hJ2 => ?_⟩
    · simp only [Bool.not_eq_true', Bool.not_eq_false', Bool.or_eq_false_iff, decide_eq_true_eq, decide_eq_false_iff_not, gx_f] at h
      rw [wrap_in (by omega) (by omega)]; omega
    have k2 : ∀ c : Bool, (1 ≤ n ∧ n ≤ (l.length : Int) ∧ checkS l = 0 → (c = true ↔ thereP (ix l (n - 1)) d)) → J2 c := fun c hc => by
      rw [hJ2]
      refine IFB.mk (fun h => ?_) (fun h => ?_)
      · simp only [Bool.or_eq_true, Bool.not_eq_true', decide_eq_true_eq, decide_eq_false_iff_not] at h
        have hn : ¬ onP l n d := by
          rintro ⟨o1, o2, o3, o4⟩
          rcases h with ((h | h) | h) | h
          · omega
          · omega
          · exact h ((hy ⟨o1, o2⟩).trans o3)
          · have := (hc ⟨o1, o2, o3⟩).2 o4; rw [h] at this; cases this
        refine hp [] false ⟨?_, fun h => (by cases h), fun h => absurd h hn⟩
        unfold onS; rw [if_neg hn]
      · simp only [Bool.not_eq_false', Bool.or_eq_false_iff, decide_eq_true_eq, decide_eq_false_iff_not] at h
        obtain ⟨⟨⟨b1, b2⟩, b3⟩, b4⟩ := h
        have hb : 1 ≤ n ∧ n ≤ (l.length : Int) := by omega
        have h0 : checkS l = 0 := (hy hb).symm.trans b3
        obtain ⟨m1, m2, m3, m4, m5⟩ := reg_days hsz h0 hb.1 hb.2
        have hon : onP l n d := ⟨hb.1, hb.2, h0, (hc ⟨hb.1, hb.2, h0⟩).1 b4⟩
        rw [m5]
        have hr : (outlS (ix l (n - 1)) d).Rects.length ≤ 1000000 := (hsz.all _ m1).rect _ (outlF_mem m3 (by rw [← m2]; exact Nat.le_refl _))
        have he : onS l n d = outlS (ix l (n - 1)) d := by unfold onS; rw [if_pos hon]
        have hpost : post (outlS (ix l (n - 1)) d).Rects true := hp _ true ⟨by rw [he], fun _ => hon, fun _ => rfl⟩
        have hA : 0 ≤ n - 1 ∧ n - 1 < (l.length : Int) := by omega
        have hB : (ix l (n - 1)).5.length = (ix l (n - 1)).6.length ∧ 0 < (ix l (n - 1)).6.length ∧ (ix l (n - 1)).6.length ≤ 1000000 := ⟨m2, m3, m4⟩
        have hC : (outlS (ix l (n - 1)) d).Rects.length ≤ 4000000 := by omega
        repeat' (first | exact hA | exact hB | exact hC | exact hpost | with_reducible apply And.intro)
    refine IFB.mk (fun hg => ?_) (fun hg => k2 false fun hc => ?_)
    · simp only [Bool.not_eq_true', Bool.not_eq_false', Bool.or_eq_false_iff, decide_eq_true_eq, decide_eq_false_iff_not, gx_f] at hg
      rw [wrap_in (by omega) (by omega)]
      exact fun v hv => k2 v fun _ => hv
    · simp only [Bool.or_eq_true, Bool.not_eq_true', Bool.not_eq_false', decide_eq_true_eq, decide_eq_false_iff_not, gx_f] at hg
      rcases hg with (hg | hg) | hg
      · omega
      · omega
      · exact absurd ((hy ⟨hc.1, hc.2.1⟩).trans hc.2.2) hg
  refine IFB.mk (fun hg => ⟨hsz, k1 _ fun _ => rfl⟩) (fun hg => k1 0 fun h => ?_)
  simp only [Bool.or_eq_true, Bool.not_eq_false', decide_eq_true_eq, gx_f] at hg
  omega

end RE
end Go.Proofs.YtpeggkeenboacaaGreat
set_option maxRecDepth 100000
set_option linter.unusedVariables false
namespace Go.Proofs.YtpeggkeenboacaaGreat
open Go.RowKit
namespace RE
open PL

def pheirs_P (l : List (api_Parcel)) (n : Int) (d : Int) (post : List (Int) → Int → Prop) : Prop := (szL l) ∧ post (heirsS l n d) (heirE l n d)
def pheirs_sp : Spec := ⟨25, false, true, [.sl (.st .api_Parcel), .int .i64, .int .i64], .tup [.dat (.sl (.int .i64)), .dat (.int .i64)], fun x post => pheirs_P (x.1 : List (api_Parcel)) (x.2.1 : Int) (x.2.2.1 : Int) (fun y0 y1 => post (y0, y1, ()))⟩
def pheirs_C : CtxR := ⟨tau, [rule1 pchk_sp, rule1 pthe_sp], lookJ [(0, 23, ⟨[(49, .dat (.int .i64)), (10, .own 3 (.int .i64))], [(1, [.own 3 (.int .i64)])], [50, 75, 74, 73, 72, 71, 69, 68, 67, 66, 70, 65, 64, 63, 62, 53, 54, 55, 56, 57, 58, 59, 60, 61, 12, 52, 51, 76], [0], []⟩), (0, 34, ⟨[(10, .own 3 (.int .i64))], [(1, [.own 3 (.int .i64)])], [51, 52, 12, 61, 60, 59, 58, 57, 56, 55, 54, 53, 62, 63, 64, 65, 70, 66, 67, 68, 69, 71, 72, 73, 74, 75], [3, 2], []⟩), (15973324467, 0, ⟨[(0, .dat (.int .i64))], [], [], [], []⟩), (15973324467, 5, ⟨[(8, .dat (.int .i64))], [], [9, 10, 5, 11, 12, 13, 14, 15, 16, 18], [], []⟩), (0, 30, ⟨[], [(1, [.own 3 (.int .i64)])], [53, 54, 55, 56, 57, 58, 59, 60, 61], [3], []⟩), (13840490181, 0, ⟨[(0, .dat (.int .i64))], [], [], [], []⟩), (13840490181, 5, ⟨[(8, .dat (.int .i64))], [], [9, 10, 5, 11, 12, 13, 14, 15, 16, 18], [], []⟩), (15678551037977451609264491799, 0, ⟨[(0, .dat (.int .i64))], [], [], [], []⟩), (15678551037977451609264491799, 5, ⟨[(8, .dat (.int .i64))], [], [9, 10, 5, 11, 12, 13, 14, 15, 16, 18], [], []⟩)]⟩
def pheirs_W (l : List (api_Parcel)) (n : Int) (d : Int) (post : List (Int) → Int → Prop) : Prop := szL l ∧ IFB (!decide (checkS l = (0 : Int))) (post [] (checkS l)) (IFB (decide (d < (0 : Int)) || decide ((36864 : Int) < d)) (post [] (9 : Int)) ((gx false (decide (n < (1 : Int))) = true → (↑l.length : Int) ≤ (9223372036854775807 : Int)) → (gx false (decide (n < (1 : Int)) || decide ((↑l.length : Int) < n)) = true → (0 : Int) ≤ IntKind.i64.wrap (n - (1 : Int)) ∧ IntKind.i64.wrap (n - (1 : Int)) < (↑l.length : Int)) ∧ IFB (decide (n < (1 : Int)) || decide ((↑l.length : Int) < n) || decide (d < (ix l (IntKind.i64.wrap (n - (1 : Int)))).2)) (post [] (10 : Int)) (((0 : Int) ≤ IntKind.i64.wrap (n - (1 : Int)) ∧ IntKind.i64.wrap (n - (1 : Int)) ≤ (↑l.length : Int) ∧ (↑l.length : Int) ≤ (↑l.length : Int)) ∧ ((↑(sub l (IntKind.i64.wrap (n - (1 : Int))) (↑l.length : Int)).length : Int) ≤ (9223372036854775807 : Int) → LOOP [Ty.int IntKind.i64, (Ty.int IntKind.i64).sl, (Ty.int IntKind.i64).sl] (fun (rec1 : Int → List Int → List Int → Prop) (z2 : Int) (z3 z4 : List Int) ↦ IFB (decide (z2 < (↑(sub l (IntKind.i64.wrap (n - (1 : Int))) (↑l.length : Int)).length : Int))) (JOIN [(Ty.int IntKind.i64).sl, (Ty.int IntKind.i64).sl] (fun (y5 y6 : List Int) ↦ rec1 (IntKind.i64.wrap (z2 + (1 : Int))) y5 y6) fun (J7 : List Int → List Int → Prop) ↦ ((0 : Int) ≤ z2 ∧ z2 < (↑(sub l (IntKind.i64.wrap (n - (1 : Int))) (↑l.length : Int)).length : Int)) ∧ JOIN [(Ty.int IntKind.i64).sl] (fun (y8 : List Int) ↦ ∀ (v9 : Bool), (v9 = true ↔ thereP { Number := (ix (sub l (IntKind.i64.wrap (n - (1 : Int))) (↑l.length : Int)) z2).1, From := (ix (sub l (IntKind.i64.wrap (n - (1 : Int))) (↑l.length : Int)) z2).2, Until := (ix (sub l (IntKind.i64.wrap (n - (1 : Int))) (↑l.length : Int)) z2).3, Parents := (ix (sub l (IntKind.i64.wrap (n - (1 : Int))) (↑l.length : Int)) z2).4, Days := (ix (sub l (IntKind.i64.wrap (n - (1 : Int))) (↑l.length : Int)) z2).5, Regions := (ix (sub l (IntKind.i64.wrap (n - (1 : Int))) (↑l.length : Int)) z2).6 : api_Parcel } d) → JOIN [Ty.bool] (fun (y10 : Bool) ↦ IFB (v9 && y10) ((z3.length + [(ix (sub l (IntKind.i64.wrap (n - (1 : Int))) (↑l.length : Int)) z2).1].length) * (8 : Nat) ≤ (140737488355328 : Nat) ∧ J7 (z3 ++ [(ix (sub l (IntKind.i64.wrap (n - (1 : Int))) (↑l.length : Int)) z2).1]) y8) (J7 z3 y8)) fun (J11 : Bool → Prop) ↦ IFB (gx true v9) (JOIN [Ty.int IntKind.i64] (fun (y12 : Int) ↦ J11 (decide ((0 : Int) ≤ y12))) fun (J13 : Int → Prop) ↦ (↑y8.length : Int) ≤ (9223372036854775807 : Int) → LOOP [Ty.int IntKind.i64] (fun (rec14 : Int → Prop) (z15 : Int) ↦ IFB (decide (z15 < (↑y8.length : Int))) (((0 : Int) ≤ z15 ∧ z15 < (↑y8.length : Int)) ∧ IFB (decide ((ix (sub l (IntKind.i64.wrap (n - (1 : Int))) (↑l.length : Int)) z2).1 = ix y8 z15)) (J13 z15) (rec14 (IntKind.i64.wrap (z15 + (1 : Int))))) (J13 (-1 : Int))) ((0 : Int), PUnit.unit)) (J11 false)) fun (J16 : List Int → Prop) ↦ JOIN [Ty.int IntKind.i64] (fun (y17 : Int) ↦ IFB (decide ((0 : Int) ≤ y17)) ((z4.length + [(ix (sub l (IntKind.i64.wrap (n - (1 : Int))) (↑l.length : Int)) z2).1].length) * (8 : Nat) ≤ (140737488355328 : Nat) ∧ J16 (z4 ++ [(ix (sub l (IntKind.i64.wrap (n - (1 : Int))) (↑l.length : Int)) z2).1])) (J16 z4)) fun (J18 : Int → Prop) ↦ (↑(ix (sub l (IntKind.i64.wrap (n - (1 : Int))) (↑l.length : Int)) z2).4.length : Int) ≤ (9223372036854775807 : Int) → LOOP [Ty.int IntKind.i64] (fun (rec19 : Int → Prop) (z20 : Int) ↦ IFB (decide (z20 < (↑(ix (sub l (IntKind.i64.wrap (n - (1 : Int))) (↑l.length : Int)) z2).4.length : Int))) (((0 : Int) ≤ z20 ∧ z20 < (↑(ix (sub l (IntKind.i64.wrap (n - (1 : Int))) (↑l.length : Int)) z2).4.length : Int)) ∧ JOIN [Ty.int IntKind.i64] (fun (y21 : Int) ↦ IFB (decide ((0 : Int) ≤ y21)) (J18 z20) (rec19 (IntKind.i64.wrap (z20 + (1 : Int))))) fun (J22 : Int → Prop) ↦ (↑z4.length : Int) ≤ (9223372036854775807 : Int) → LOOP [Ty.int IntKind.i64] (fun (rec23 : Int → Prop) (z24 : Int) ↦ IFB (decide (z24 < (↑z4.length : Int))) (((0 : Int) ≤ z24 ∧ z24 < (↑z4.length : Int)) ∧ IFB (decide (ix (ix (sub l (IntKind.i64.wrap (n - (1 : Int))) (↑l.length : Int)) z2).4 z20 = ix z4 z24)) (J22 z24) (rec23 (IntKind.i64.wrap (z24 + (1 : Int))))) (J22 (-1 : Int))) ((0 : Int), PUnit.unit)) (J18 (-1 : Int))) ((0 : Int), PUnit.unit)) (post z3 (0 : Int))) ((0 : Int), [], [n], PUnit.unit)))))
theorem pheirs_w (l : List (api_Parcel)) (n : Int) (d : Int) (post : dens (shT pheirs_sp.rs []) → Prop) : pheirs_W l n d (fun y0 y1 => post (y0, y1, ())) = walkG (callR Tryz.prog pheirs_C (drawF Tryz.prog tau) 10 0) 25 false [tv (.sl (.st .api_Parcel)) l, tv (.int .i64) n, tv (.int .i64) d] pheirs_sp.rs post := by kernel_rfl
theorem pheirs_of (h : ∀ (l : List (api_Parcel)) (n : Int) (d : Int) (post : List (Int) → Int → Prop), pheirs_P l n d post → pheirs_W l n d post) : SpecOK Tryz.prog pheirs_sp := SpecOK.of_rules (C := pheirs_C) (dr := drawF Tryz.prog tau) (n := 10) (fk := 0) (.cons (rule1_ok pchk_ok) (.cons (rule1_ok pthe_ok) .nil)) (drawF_ok tau) fun x post hp => HoldW.of (pheirs_w x.1 x.2.1 x.2.2.1 post) (h x.1 x.2.1 x.2.2.1 (fun y0 y1 => post (y0, y1, ())) hp)
theorem find_in {A : List Int} {x : Int} (hl : A.length ≤ 1000000000) {J : Int → Prop} (hy : x ∈ A → ∀ z : Int, 0 ≤ z → J z) (hn : x ∉ A → J (-1)) :
    LOOP [Ty.int IntKind.i64] (fun (rec14 : Int → Prop) (z15 : Int) => IFB (decide (z15 < (A.length : Int))) (((0 : Int) ≤ z15 ∧ z15 < (A.length : Int)) ∧ IFB (decide (x = ix A z15)) (J z15) (rec14 (IntKind.i64.wrap (z15 + (1 : Int))))) (J (-1 : Int))) ((0 : Int), PUnit.unit) := by
  refine loopCmp (n := A.length) hl (p := fun i => ¬ x = ix A (i : Int)) (fun rec k hk _ hrec => ⟨by omega, IFB.mk (fun hb => ?_) (fun hb => hrec (of_decide_eq_false hb))⟩) fun hall => hn fun hx => ?_
  · have hb : x = ix A (k : Int) := of_decide_eq_true hb
    exact hy (by rw [hb]; exact ix_mem (by omega) (by omega)) _ (by omega)
  · obtain ⟨i, hi, e⟩ := ix_ex hx
    exact hall i hi e.symm
set_option maxHeartbeats 1000000 in
theorem pheirs_ok : SpecOK Tryz.prog pheirs_sp := pheirs_of fun l n d post hp => by
  obtain ⟨hsz, hp⟩ := hp
  have hl := hsz.len
  unfold pheirs_W
  have bad : ∀ c : Int, heirE l n d = c → c ≠ 0 → post [] c := fun c he hc => by
    have h1 : heirsS l n d = [] := by unfold heirsS; rw [if_neg (by rw [he]; exact hc)]
    rw [h1, he] at hp; exact hp
  refine ⟨hsz, IFB.mk (fun hb => ?_) (fun hb => ?_)⟩
  · have hb : checkS l ≠ 0 := by simpa using hb
    exact bad _ (by unfold heirE; rw [if_pos hb]) hb
  have hb : checkS l = 0 := by simpa using hb
  refine IFB.mk (fun hd => ?_) (fun hd => ?_)
  · have hd : d < 0 ∨ 36864 < d := by simpa using hd
    exact bad 9 (by unfold heirE; rw [if_neg (fun h => h hb), if_pos hd]) (by decide)
  have hd : ¬ (d < 0 ∨ 36864 < d) := by
    intro h
    have : (decide (d < (0 : Int)) || decide ((36864 : Int) < d)) = true := by simpa using h
    rw [this] at hd; cases hd
  intro _
  have hw : 1 ≤ n → n ≤ (l.length : Int) → IntKind.i64.wrap (n - 1) = n - 1 := fun h1 h2 => wrap_in (by omega) (by omega)
  refine ⟨fun h => ?_, IFB.mk (fun hc => ?_) (fun hc => ?_)⟩
  · simp only [Bool.not_eq_true', Bool.or_eq_false_iff, decide_eq_false_iff_not, gx_f] at h
    rw [hw (by omega) (by omega)]; omega
  · refine bad 10 ?_ (by decide)
    unfold heirE
    rw [if_neg (fun h => h hb), if_neg hd, if_pos]
    simp only [Bool.or_eq_true, decide_eq_true_eq] at hc
    rcases hc with (hc | hc) | hc
    · exact .inl hc
    · exact .inr (.inl hc)
    · by_cases h1 : n < 1
      · exact .inl h1
      by_cases h2 : (l.length : Int) < n
      · exact .inr (.inl h2)
      rw [hw (by omega) (by omega)] at hc
      exact .inr (.inr hc)
  simp only [Bool.or_eq_false_iff, decide_eq_false_iff_not] at hc
  obtain ⟨⟨c1, c2⟩, c3⟩ := hc
  rw [hw (by omega) (by omega)] at c3
  have he : heirE l n d = 0 := by unfold heirE; rw [if_neg (fun h => h hb), if_neg hd, if_neg (by omega)]
  have hhs : heirsS l n d = heirsL l n d := by unfold heirsS; rw [if_pos he]
  rw [hhs, he] at hp
  rw [hw (by omega) (by omega)]
  obtain ⟨N, hN⟩ : ∃ N : Nat, n = (N : Int) + 1 := ⟨(n - 1).toNat, by omega⟩
  subst hN
  rw [show (N : Int) + 1 - 1 = (N : Int) by omega, sub_back]
  unfold heirsL at hp
  rw [show ((N : Int) + 1 - 1).toNat = N by omega] at hp
  refine ⟨by omega, fun _ => ?_⟩
  have hsd : ∀ p ∈ l.drop N, szP p := fun p hp => hsz.all p (List.mem_of_mem_drop hp)
  have hdl : (l.drop N).length ≤ 1000000 := by rw [List.length_drop]; omega
  generalize l.drop N = L at hsd hdl hp ⊢
  refine LOOP.fuel3 (fun (z : Int) (b c : List Int) => ∃ k : Nat, z = (k : Int) ∧ k ≤ L.length ∧ (c, b) = (L.take k).foldl (hStep d) ([(N : Int) + 1], []) ∧ b.length ≤ k ∧ c.length ≤ k + 1) (fun z _ _ => L.length - Int.toNat z) ⟨0, rfl, Nat.zero_le _, rfl, Nat.le_refl _, Nat.le_refl _⟩ ?_
  rintro rec (z : Int) (b : List Int) (c : List Int) ⟨k, i1, i2, i3, i4, i5⟩ hrec
  subst i1
  refine IFB.mk (fun hb => ?_) (fun hb => ?_)
  · have hb : (k : Int) < L.length := of_decide_eq_true hb
    have hk : k < L.length := by omega
    have hm := ix_mem (l := L) (i := (k : Int)) (by omega) (by omega)
    have hx := hsd _ hm
    have hst : (L.take (k + 1)).foldl (hStep d) ([(N : Int) + 1], []) = hStep d (c, b) (ix L (k : Int)) := by rw [fold_take hk, ← i3]
    refine JOIN.opq fun (J7 : List Int → List Int → Prop) hJ7 => ⟨by omega, ?_⟩
    have k7 : ∀ (u v : List Int), (v, u) = hStep d (c, b) (ix L (k : Int)) → u.length ≤ k + 1 → v.length ≤ k + 2 → J7 u v := fun u v h h1 h2 => by
      rw [hJ7]
      show rec (IntKind.i64.wrap ((k : Int) + 1)) u v
      rw [wrapS (by omega)]
      exact hrec ((k + 1 : Nat) : Int) u v ⟨k + 1, rfl, hk, h.trans hst.symm, h1, h2⟩ (by show L.length - ((k + 1 : Nat) : Int).toNat < L.length - (k : Int).toNat; omega)
    have hpl : (ix L (k : Int)).4.length ≤ 1000000 := hx.pars
    generalize ix L (k : Int) = p at k7 hpl ⊢
    refine JOIN.opq fun (J16 : List Int → Prop) hJ16 => ?_
    -- the family is known
    have k16 : ∀ v : List Int, v = (if ∃ q ∈ p.Parents, q ∈ c then c ++ [p.Number] else c) → v.length ≤ k + 2 → J16 v := fun v hv hvl => by
      rw [hJ16]
      intro v9 h9
      refine JOIN.opq fun (J10 : Bool → Prop) hJ10 => ?_
      have k10 : ∀ y : Bool, ((v9 && y) = true ↔ thereP p d ∧ p.Number ∈ v) → J10 y := fun y hy => by
        rw [hJ10]
        refine IFB.mk (fun h => ⟨by simp only [List.length_cons, List.length_nil]; omega, k7 _ v ?_ (by simp; omega) hvl⟩) (fun h => k7 b v ?_ (by omega) hvl)
        · unfold hStep; dsimp only; rw [← hv, if_pos (hy.1 h)]
        · unfold hStep; dsimp only; rw [← hv, if_neg (fun h2 => by have := hy.2 h2; rw [h] at this; cases this)]
      refine IFB.mk (fun hg => ?_) (fun hg => k10 false ?_)
      · have hg : v9 = true := by rw [gx_t] at hg; exact hg
        refine JOIN.opq fun (J13 : Int → Prop) hJ13 _ => ?_
        refine find_in (by omega) (fun hx z h0 => ?_) (fun hx => ?_)
        · rw [hJ13]
          refine k10 _ ?_
          rw [hg, Bool.true_and, decide_eq_true_iff]
          exact ⟨fun _ => ⟨h9.1 hg, hx⟩, fun _ => h0⟩
        · rw [hJ13]
          refine k10 _ ?_
          rw [hg, Bool.true_and]
          exact ⟨fun h => absurd (of_decide_eq_true h) (by decide), fun h => absurd h.2 hx⟩
      · have hg : v9 = false := by rw [gx_t] at hg; exact hg
        rw [Bool.and_false]
        exact ⟨fun h => (by cases h), fun h => by have := h9.2 h.1; rw [hg] at this; cases this⟩
    refine JOIN.opq fun (J17 : Int → Prop) hJ17 _ => ?_
    have yes : (∃ q ∈ p.Parents, q ∈ c) → ∀ z : Int, 0 ≤ z → J17 z := fun h z h0 => by
      rw [hJ17]
      refine IFB.yes (decide_eq_true h0) ⟨by simp only [List.length_cons, List.length_nil]; omega, k16 _ (by rw [if_pos h]) (by simp; omega)⟩
    refine loopCmp (n := p.4.length) (by omega) (p := fun i => ix p.4 (i : Int) ∉ c) (fun rec2 j hj _ hrec2 => ⟨by omega, ?_⟩) fun hall => ?_
    · refine JOIN.opq fun (J22 : Int → Prop) hJ22 _ => ?_
      refine find_in (by omega) (fun hx z h0 => ?_) (fun hx => ?_)
      · rw [hJ22]
        exact IFB.yes (decide_eq_true h0) (yes ⟨_, ix_mem (l := p.Parents) (i := (j : Int)) (by omega) (by omega), hx⟩ _ (by omega))
      · rw [hJ22]
        exact IFB.no rfl (hrec2 hx)
    · rw [hJ17]
      refine IFB.no rfl (k16 c ?_ (by omega))
      rw [if_neg]
      rintro ⟨q, hq, hqc⟩
      obtain ⟨i, hi, rfl⟩ := ix_ex hq
      exact hall i hi hqc
  · have hb : ¬ (k : Int) < L.length := of_decide_eq_false hb
    have hk : k = L.length := by omega
    rw [hk, List.take_length] at i3
    rw [← i3] at hp
    exact hp

end RE
end Go.Proofs.YtpeggkeenboacaaGreat
set_option linter.unusedVariables false
set_option maxRecDepth 100000
namespace Go.Proofs.YtpeggkeenboacaaGreat
open Go.RowKit
namespace RE
open PL
theorem asc_len {l : List Int} (h : asc l) {a b : Int} (h0 : 0 < l.length) (ha : a ≤ ix l 0) (hb : ix l ((l.length : Int) - 1) ≤ b) : (l.length : Int) ≤ b - a + 1 := by
  have key : ∀ k : Nat, k < l.length → a + (k : Int) ≤ ix l (k : Int) := fun k => by
    induction k with
    | zero => intro _; simpa using ha
    | succ k ih =>
      intro hk
      have := ih (by omega)
      have := h k hk
      push_cast
      push_cast at this
      omega
  have := key (l.length - 1) (by omega)
  rw [show ((l.length - 1 : Nat) : Int) = (l.length : Int) - 1 by omega] at this
  omega
theorem regP_num {l : List Pc} (h : regP l) {i : Nat} (hi : i < l.length) : (ix l (i : Int)).Number = (i : Int) + 1 := by
  have := (h.1 i hi).1
  rw [List.length_take] at this
  rw [this]; omega
theorem regP_out {l : List Pc} (h : regP l) : ∀ p ∈ l, outP p ∧ 0 ≤ p.From ∧ p.From ≤ p.Until ∧ p.Until ≤ 36865 := fun p hp => by
  obtain ⟨i, hi, rfl⟩ := ix_ex hp
  obtain ⟨_, h2, h3, h4, _, h5, _⟩ := h.1 i hi
  exact ⟨h5, h2, h3, h4⟩
theorem regP_dlen {l : List Pc} (h : regP l) : ∀ p ∈ l, p.Days.length ≤ 36865 := fun p hp => by
  obtain ⟨⟨o1, o2, o3, o4, o5, _⟩, f0, _⟩ := regP_out h p hp
  have := asc_len o4 (a := 0) (b := 36864) o1 (by rw [o3]; exact f0) (by omega)
  omega
theorem set_mem {α : Type} {l : List α} {k : Nat} {y x : α} (h : x ∈ l.set k y) : x ∈ l ∨ x = y := List.mem_or_eq_of_mem_set h
theorem endP_mem {day : Int} {l : List Pc} {k : Int} {p : Pc} (h1 : 1 ≤ k) (h2 : k ≤ (l.length : Int)) (h : p ∈ endP day l k) : ∃ q ∈ l, p.Number = q.Number ∧ p.From = q.From ∧ p.Parents = q.Parents ∧ p.Days = q.Days ∧ p.Regions = q.Regions := by
  rcases set_mem h with h | h
  · exact ⟨p, h, rfl, rfl, rfl, rfl, rfl⟩
  · exact ⟨_, ix_mem (l := l) (i := k - 1) (by omega) (by omega), by rw [h], by rw [h], by rw [h], by rw [h], by rw [h]⟩
theorem endL_mem {day : Int} : ∀ {ps : List Int} {l : List Pc} {p : Pc}, (∀ k ∈ ps, 1 ≤ k ∧ k ≤ (l.length : Int)) → p ∈ endL day l ps → ∃ q ∈ l, p.Number = q.Number ∧ p.From = q.From ∧ p.Parents = q.Parents ∧ p.Days = q.Days ∧ p.Regions = q.Regions
  | [], l, p, _, h => ⟨p, h, rfl, rfl, rfl, rfl, rfl⟩
  | k :: ps, l, p, hk, h => by
    obtain ⟨q, hq, a1, a2, a3, a4, a5⟩ := endL_mem (ps := ps) (l := endP day l k) (fun j hj => by rw [endP_len]; exact hk j (by simp [hj])) h
    obtain ⟨r, hr, b1, b2, b3, b4, b5⟩ := endP_mem (hk k (by simp)).1 (hk k (by simp)).2 hq
    exact ⟨r, hr, a1.trans b1, a2.trans b2, a3.trans b3, a4.trans b4, a5.trans b5⟩
theorem addL_mem {day : Int} {ps : List Int} : ∀ {rs : List Rn} {l : List Pc} {p : Pc}, p ∈ addL day ps l rs → p ∈ l ∨ ∃ (n : Int) (a : Rn), a ∈ rs ∧ p = newP n day ps a
  | [], l, p, h => .inl h
  | a :: rs, l, p, h => by
    rcases addL_mem (rs := rs) (l := l ++ [newP ((l.length : Int) + 1) day ps a]) h with h | ⟨n, b, hb, h⟩
    · rcases List.mem_append.1 h with h | h
      · exact .inl h
      · exact .inr ⟨_, a, by simp, by simpa using h⟩
    · exact .inr ⟨n, b, by simp [hb], h⟩
theorem szP_like {p q : Pc} (h : szP q) (h3 : p.Parents = q.Parents) (h4 : p.Days = q.Days) (h5 : p.Regions = q.Regions) : szP p := ⟨by rw [h4]; exact h.days, by rw [h5]; exact h.regs, by rw [h3]; exact h.pars, by rw [h5]; exact h.rect⟩
theorem szP_new {n day : Int} {ps : List Int} {a : Rn} (h1 : ps.length ≤ 1000000) (h2 : a.Rects.length ≤ 1000000) : szP (newP n day ps a) := ⟨by simp [newP], by simp [newP], h1, fun b hb => by
  have : b = a := by simpa [newP] using hb
  rw [this]; exact h2⟩
theorem szL_add {day : Int} {ps : List Int} {l : List Pc} {rs : List Rn} (h : szL l) (h1 : ps.length ≤ 1000000) (h2 : ∀ a ∈ rs, a.Rects.length ≤ 1000000) (h3 : l.length + rs.length ≤ 1000000) : szL (addL day ps l rs) := ⟨by rw [addL_len]; exact h3, fun p hp => by
  rcases addL_mem hp with hp | ⟨n, a, ha, rfl⟩
  · exact h.all p hp
  · exact szP_new h1 (h2 a ha)⟩
theorem szL_end {day : Int} {ps : List Int} {l : List Pc} (h : szL l) (h1 : ∀ k ∈ ps, 1 ≤ k ∧ k ≤ (l.length : Int)) : szL (endL day l ps) := ⟨by rw [endL_len]; exact h.len, fun p hp => by
  obtain ⟨q, hq, _, _, a3, a4, a5⟩ := endL_mem h1 hp
  exact szP_like (h.all q hq) a3 a4 a5⟩
/-- A register behind an edit is of moderate size. -/
theorem applyS_sz {l : List Pc} {e : Ed} (h : szL l) (he : szE e) : szL (applyS l e).1 := by
  by_cases h0 : editS l e = 0
  rotate_left
  · rw [applyS_err h0]; exact h
  obtain ⟨e1, e2, e3, ⟨e4, e5⟩, e6, e7⟩ := editS_0.1 h0
  obtain ⟨h60, hreg⟩ := checkS_0.1 e1
  have hop : ∀ k ∈ e.Parcels, 1 ≤ k ∧ k ≤ (l.length : Int) := fun k hk => ⟨(e6 k hk).1, (e6 k hk).2.1⟩
  unfold applyS
  rw [if_neg (fun h => h h0)]
  have hrs : e.Regions.length ≤ 8 := by unfold fitsP at e4; omega
  split
  · split
    · exact h
    · split
      · exact h
      · exact szL_add h (by simp) he.rect (by omega)
  split
  · rename_i hk
    split
    · exact h
    · have hps : e.Parcels.length = 1 := by unfold fitsP at e4; omega
      have hrs1 : e.Regions.length = 1 := by unfold fitsP at e4; omega
      have hm := ix_mem (l := e.Parcels) (i := 0) (by omega) (by omega)
      obtain ⟨o1, o2⟩ := hop _ hm
      have hq := ix_mem (l := l) (i := ix e.Parcels 0 - 1) (by omega) (by omega)
      have hs := h.all _ hq
      have hd := regP_dlen hreg _ hq
      have hdr := (regP_days hreg _ hq).2
      have hr0 := he.rect _ (ix_mem (l := e.Regions) (i := 0) (by omega) (by omega))
      refine ⟨by rw [List.length_set]; exact h.len, fun p hp => ?_⟩
      rcases set_mem hp with hp | rfl
      · exact h.all p hp
      · generalize ix l (ix e.Parcels 0 - 1) = q at hs hd hdr
        unfold drawnP
        split
        · exact ⟨hs.days, by show (List.set _ _ _).length ≤ _; rw [List.length_set]; exact hs.regs, hs.pars, fun a ha => by
            rcases set_mem ha with ha | rfl
            · exact hs.rect a ha
            · exact hr0⟩
        · refine ⟨by show (q.Days ++ [e.Day]).length ≤ _; rw [List.length_append, List.length_singleton]; omega, by show (q.Regions ++ [ix e.Regions 0]).length ≤ _; rw [List.length_append, List.length_singleton]; omega, hs.pars, fun a ha => ?_⟩
          rcases List.mem_append.1 ha with ha | ha
          · exact hs.rect a ha
          · rw [List.mem_singleton.1 ha]; exact hr0
  split
  · split
    · exact h
    · split
      · exact h
      · split
        · exact h
        · exact szL_add (szL_end h hop) he.pars he.rect (by rw [endL_len]; omega)
  split
  · split
    · exact h
    · split
      · exact h
      · rename_i hc _
        refine szL_add (szL_end h hop) he.pars (fun a ha => ?_) (by rw [endL_len]; simp; omega)
        rw [List.mem_singleton.1 ha]
        show (canonF _).length ≤ _
        omega
  · exact szL_end h hop
theorem szL_nil : szL [] := ⟨by simp, fun p hp => by cases hp⟩
theorem runG_take {x : List Pc} {i : Int} : ∀ {l : List Ed}, (∀ e ∈ l, szE e) → szL x → szL (runG x i l).1 := by
  intro l
  induction l generalizing x i with
  | nil => exact fun _ h => h
  | cons e r ih =>
    intro he hx
    unfold runG
    split
    · exact hx
    · exact ih (fun e' h' => he e' (by simp [h'])) (applyS_sz hx (he e (by simp)))
/-! ### heirs -/
theorem hStep_2 (d : Int) (s : List Int × List Int) (p : Pc) : (hStep d s p).2 = s.2 ++ [p.Number] ∨ (hStep d s p).2 = s.2 := by
  unfold hStep
  generalize (if ∃ k, k ∈ p.Parents ∧ k ∈ s.1 then s.1 ++ [p.Number] else s.1) = fam
  dsimp only
  split
  · exact .inl rfl
  · exact .inr rfl
theorem hStep_mem {d : Int} : ∀ {L : List Pc} {s : List Int × List Int} {k : Int}, k ∈ (L.foldl (hStep d) s).2 → k ∈ s.2 ∨ ∃ p ∈ L, p.Number = k
  | [], s, k, h => .inl h
  | p :: L, s, k, h => by
    rcases hStep_mem (L := L) (s := hStep d s p) h with h | ⟨q, hq, e⟩
    · rcases hStep_2 d s p with e | e <;> rw [e] at h
      · rcases List.mem_append.1 h with h | h
        · exact .inl h
        · exact .inr ⟨p, by simp, (List.mem_singleton.1 h).symm⟩
      · exact .inl h
    · exact .inr ⟨q, by simp [hq], e⟩
theorem hStep_len {d : Int} : ∀ {L : List Pc} {s : List Int × List Int}, (L.foldl (hStep d) s).2.length ≤ s.2.length + L.length
  | [], s => Nat.le_refl _
  | p :: L, s => by
    have h1 := hStep_len (d := d) (L := L) (s := hStep d s p)
    have h2 : (hStep d s p).2.length ≤ s.2.length + 1 := by
      rcases hStep_2 d s p with e | e <;> rw [e]
      · simp
      · omega
    rw [List.foldl_cons, List.length_cons]; omega
theorem heirsL_ok {l : List Pc} (h : regP l) {n d k : Int} (hk : k ∈ heirsL l n d) : 1 ≤ k ∧ k ≤ (l.length : Int) := by
  rcases hStep_mem hk with hk | ⟨p, hp, e⟩
  · cases hk
  · obtain ⟨i, hi, rfl⟩ := ix_ex (List.mem_of_mem_drop hp)
    rw [regP_num h hi] at e
    omega
theorem heirsL_len {l : List Pc} {n d : Int} : (heirsL l n d).length ≤ l.length := by
  have := hStep_len (d := d) (L := l.drop (n - 1).toNat) (s := ([n], []))
  rw [List.length_drop] at this
  unfold heirsL
  simp only [List.length_nil] at this
  omega
theorem heirE_0 {l : List Pc} {n d : Int} : heirE l n d = 0 ↔ checkS l = 0 ∧ 0 ≤ d ∧ d ≤ 36864 ∧ 1 ≤ n ∧ n ≤ (l.length : Int) ∧ (ix l (n - 1)).From ≤ d := by
  unfold heirE
  split
  · rename_i h; exact ⟨fun h2 => absurd h2 h, fun h2 => absurd h2.1 h⟩
  rename_i h1
  have h1 : checkS l = 0 := Classical.byContradiction h1
  split
  · exact ⟨fun h => (by cases h), fun h => by omega⟩
  split
  · exact ⟨fun h => (by cases h), fun h => by omega⟩
  · exact ⟨fun _ => ⟨h1, by omega, by omega, by omega, by omega, by omega⟩, fun _ => rfl⟩
end RE
end Go.Proofs.YtpeggkeenboacaaGreat
set_option maxRecDepth 100000
set_option linter.unusedVariables false
namespace Go.Proofs.YtpeggkeenboacaaGreat
open Go.RowKit
namespace RE
open PL

def pshare_P (l : List (api_Parcel)) (n : Int) (d : Int) (post : List (arr2_i64) → Int → Prop) : Prop := (szL l) ∧ post (shareS l n d) (heirE l n d)
def pshare_sp : Spec := ⟨26, false, true, [.sl (.st .api_Parcel), .int .i64, .int .i64], .tup [.dat (.sl (.st .arr2_i64)), .dat (.int .i64)], fun x post => pshare_P (x.1 : List (api_Parcel)) (x.2.1 : Int) (x.2.2.1 : Int) (fun y0 y1 => post (y0, y1, ()))⟩
def pshare_C : CtxR := ⟨tau, [rule1 pheirs_sp, rule1 pout_sp, ruleC pchoA_sp 90, rule1 psz_sp], lookJ [(0, 15, ⟨[(34, .dat (.int .i64)), (11, .own 59 (.st .arr2_i64))], [], [35, 36, 37, 13, 48, 47, 46, 45, 44, 43, 42, 41, 40, 39, 38, 14, 49, 50, 51, 52, 53, 54, 55, 56], [], []⟩), (0, 1000009, ⟨[(14, .dat (.sl (.st .api_Rect)))], [], [38, 39, 40, 41, 42, 43, 44, 45, 46, 47, 48], [], []⟩)]⟩
def pshare_W (l : List (api_Parcel)) (n : Int) (d : Int) (post : List (arr2_i64) → Int → Prop) : Prop := szL l ∧ IFB (!decide (heirE l n d = (0 : Int))) (post [] (heirE l n d)) (((0 : Int) ≤ IntKind.i64.wrap (n - (1 : Int)) ∧ IntKind.i64.wrap (n - (1 : Int)) < (↑l.length : Int)) ∧ ((ix l (IntKind.i64.wrap (n - (1 : Int)))).5.length = (ix l (IntKind.i64.wrap (n - (1 : Int)))).6.length ∧ (0 : Nat) < (ix l (IntKind.i64.wrap (n - (1 : Int)))).6.length ∧ (ix l (IntKind.i64.wrap (n - (1 : Int)))).6.length ≤ (1000000 : Nat)) ∧ ((↑(heirsS l n d).length : Int) ≤ (9223372036854775807 : Int) → LOOP [Ty.int IntKind.i64, (Ty.st Sn.arr2_i64).sl] (fun (rec1 : Int → List arr2_i64 → Prop) (z2 : Int) (z3 : List arr2_i64) ↦ IFB (decide (z2 < (↑(heirsS l n d).length : Int))) (((0 : Int) ≤ z2 ∧ z2 < (↑(heirsS l n d).length : Int)) ∧ JOIN [(Ty.st Sn.api_Rect).sl] (fun (y4 : List api_Rect) ↦ ((∀ (v5 : api_Rect), v5 ∈ y4 → (0 : Int) ≤ v5.1 ∧ v5.1 < v5.3 ∧ v5.3 ≤ (16384 : Int) ∧ (0 : Int) ≤ v5.2 ∧ v5.2 < v5.4 ∧ v5.4 ≤ (16384 : Int)) ∧ y4.length ≤ (268435456 : Nat)) ∧ (z3.length + [{ e0 := ix (heirsS l n d) z2, e1 := sizeS y4 : arr2_i64 }].length) * (16 : Nat) ≤ (140737488355328 : Nat) ∧ rec1 (IntKind.i64.wrap (z2 + (1 : Int))) (z3 ++ [{ e0 := ix (heirsS l n d) z2, e1 := sizeS y4 : arr2_i64 }])) fun (J6 : List api_Rect → Prop) ↦ ((0 : Int) ≤ IntKind.i64.wrap (ix (heirsS l n d) z2 - (1 : Int)) ∧ IntKind.i64.wrap (ix (heirsS l n d) z2 - (1 : Int)) < (↑l.length : Int)) ∧ ((ix l (IntKind.i64.wrap (ix (heirsS l n d) z2 - (1 : Int)))).5.length = (ix l (IntKind.i64.wrap (ix (heirsS l n d) z2 - (1 : Int)))).6.length ∧ (0 : Nat) < (ix l (IntKind.i64.wrap (ix (heirsS l n d) z2 - (1 : Int)))).6.length ∧ (ix l (IntKind.i64.wrap (ix (heirsS l n d) z2 - (1 : Int)))).6.length ≤ (1000000 : Nat)) ∧ (((∀ (v7 : api_Rect), v7 ∈ (outlS { Number := (ix l (IntKind.i64.wrap (n - (1 : Int)))).1, From := (ix l (IntKind.i64.wrap (n - (1 : Int)))).2, Until := (ix l (IntKind.i64.wrap (n - (1 : Int)))).3, Parents := (ix l (IntKind.i64.wrap (n - (1 : Int)))).4, Days := (ix l (IntKind.i64.wrap (n - (1 : Int)))).5, Regions := (ix l (IntKind.i64.wrap (n - (1 : Int)))).6 : api_Parcel } d).1 → (0 : Int) ≤ v7.1 ∧ v7.1 < v7.3 ∧ v7.3 ≤ (16384 : Int) ∧ (0 : Int) ≤ v7.2 ∧ v7.2 < v7.4 ∧ v7.4 ≤ (16384 : Int)) ∧ (outlS { Number := (ix l (IntKind.i64.wrap (n - (1 : Int)))).1, From := (ix l (IntKind.i64.wrap (n - (1 : Int)))).2, Until := (ix l (IntKind.i64.wrap (n - (1 : Int)))).3, Parents := (ix l (IntKind.i64.wrap (n - (1 : Int)))).4, Days := (ix l (IntKind.i64.wrap (n - (1 : Int)))).5, Regions := (ix l (IntKind.i64.wrap (n - (1 : Int)))).6 : api_Parcel } d).1.length ≤ (8000 : Nat)) ∧ (∀ (v8 : api_Rect), v8 ∈ (outlS { Number := (ix l (IntKind.i64.wrap (ix (heirsS l n d) z2 - (1 : Int)))).1, From := (ix l (IntKind.i64.wrap (ix (heirsS l n d) z2 - (1 : Int)))).2, Until := (ix l (IntKind.i64.wrap (ix (heirsS l n d) z2 - (1 : Int)))).3, Parents := (ix l (IntKind.i64.wrap (ix (heirsS l n d) z2 - (1 : Int)))).4, Days := (ix l (IntKind.i64.wrap (ix (heirsS l n d) z2 - (1 : Int)))).5, Regions := (ix l (IntKind.i64.wrap (ix (heirsS l n d) z2 - (1 : Int)))).6 : api_Parcel } d).1 → (0 : Int) ≤ v8.1 ∧ v8.1 < v8.3 ∧ v8.3 ≤ (16384 : Int) ∧ (0 : Int) ≤ v8.2 ∧ v8.2 < v8.4 ∧ v8.4 ≤ (16384 : Int)) ∧ (outlS { Number := (ix l (IntKind.i64.wrap (ix (heirsS l n d) z2 - (1 : Int)))).1, From := (ix l (IntKind.i64.wrap (ix (heirsS l n d) z2 - (1 : Int)))).2, Until := (ix l (IntKind.i64.wrap (ix (heirsS l n d) z2 - (1 : Int)))).3, Parents := (ix l (IntKind.i64.wrap (ix (heirsS l n d) z2 - (1 : Int)))).4, Days := (ix l (IntKind.i64.wrap (ix (heirsS l n d) z2 - (1 : Int)))).5, Regions := (ix l (IntKind.i64.wrap (ix (heirsS l n d) z2 - (1 : Int)))).6 : api_Parcel } d).1.length ≤ (8000 : Nat)) ∧ J6 (canonF fun (x y : Int) ↦ howS (2 : Int) (cov (outlS { Number := (ix l (IntKind.i64.wrap (n - (1 : Int)))).1, From := (ix l (IntKind.i64.wrap (n - (1 : Int)))).2, Until := (ix l (IntKind.i64.wrap (n - (1 : Int)))).3, Parents := (ix l (IntKind.i64.wrap (n - (1 : Int)))).4, Days := (ix l (IntKind.i64.wrap (n - (1 : Int)))).5, Regions := (ix l (IntKind.i64.wrap (n - (1 : Int)))).6 : api_Parcel } d).1 x y) (cov (outlS { Number := (ix l (IntKind.i64.wrap (ix (heirsS l n d) z2 - (1 : Int)))).1, From := (ix l (IntKind.i64.wrap (ix (heirsS l n d) z2 - (1 : Int)))).2, Until := (ix l (IntKind.i64.wrap (ix (heirsS l n d) z2 - (1 : Int)))).3, Parents := (ix l (IntKind.i64.wrap (ix (heirsS l n d) z2 - (1 : Int)))).4, Days := (ix l (IntKind.i64.wrap (ix (heirsS l n d) z2 - (1 : Int)))).5, Regions := (ix l (IntKind.i64.wrap (ix (heirsS l n d) z2 - (1 : Int)))).6 : api_Parcel } d).1 x y))) (post z3 (0 : Int))) ((0 : Int), [], PUnit.unit)))
theorem pshare_w (l : List (api_Parcel)) (n : Int) (d : Int) (post : dens (shT pshare_sp.rs []) → Prop) : pshare_W l n d (fun y0 y1 => post (y0, y1, ())) = walkG (callR Tryz.prog pshare_C (drawF Tryz.prog tau) 10 0) 26 false [tv (.sl (.st .api_Parcel)) l, tv (.int .i64) n, tv (.int .i64) d] pshare_sp.rs post := by kernel_rfl
theorem pshare_of (h : ∀ (l : List (api_Parcel)) (n : Int) (d : Int) (post : List (arr2_i64) → Int → Prop), pshare_P l n d post → pshare_W l n d post) : SpecOK Tryz.prog pshare_sp := SpecOK.of_rules (C := pshare_C) (dr := drawF Tryz.prog tau) (n := 10) (fk := 0) (.cons (rule1_ok pheirs_ok) (.cons (rule1_ok pout_ok) (.cons (ruleC_ok pchoA_ok) (.cons (rule1_ok psz_ok) .nil)))) (drawF_ok tau) fun x post hp => HoldW.of (pshare_w x.1 x.2.1 x.2.2.1 post) (h x.1 x.2.1 x.2.2.1 (fun y0 y1 => post (y0, y1, ())) hp)
set_option maxHeartbeats 1000000 in
theorem pshare_ok : SpecOK Tryz.prog pshare_sp := pshare_of fun l n d post hp => by
  obtain ⟨hsz, hp⟩ := hp
  have hl := hsz.len
  unfold pshare_W
  refine ⟨hsz, IFB.mk (fun hb => ?_) (fun hb => ?_)⟩
  · have hb : heirE l n d ≠ 0 := by simpa using hb
    have hs : shareS l n d = [] := by unfold shareS; rw [if_neg hb]
    rw [hs] at hp; exact hp
  have hb : heirE l n d = 0 := by simpa using hb
  obtain ⟨h0, d1, d2, n1, n2, n3⟩ := heirE_0.1 hb
  have hreg := (checkS_0.1 h0).2
  have hhs : heirsS l n d = heirsL l n d := by unfold heirsS; rw [if_pos hb]
  have hs : shareS l n d = shareL l n d (heirsL l n d) := by unfold shareS; rw [if_pos hb]
  rw [hs, hb] at hp
  rw [hhs]
  obtain ⟨m1, m2, m3, m4, m5⟩ := reg_days hsz h0 n1 n2
  rw [m5]
  have hhl := heirsL_len (l := l) (n := n) (d := d)
  have hpo : ∀ k : Int, 1 ≤ k → k ≤ (l.length : Int) → (∀ r ∈ (outlS (ix l (k - 1)) d).1, proper r) ∧ (outlS (ix l (k - 1)) d).1.length ≤ 120 := fun k k1 k2 => by
    obtain ⟨q1, q2, q3, q4, q5⟩ := reg_days hsz h0 k1 k2
    have := regP_prop hreg _ q1 _ (outlF_mem (d := d) (n := (ix l (k - 1)).5.length) q3 (by rw [q2]; exact Nat.le_refl _))
    exact ⟨this.2.2.1, this.2.1⟩
  have ho := hpo n n1 n2
  refine ⟨by omega, ⟨m2, m3, m4⟩, fun _ => ?_⟩
  generalize hHe : heirsL l n d = H at hp hhl ⊢
  refine LOOP.fuel2 (fun (z : Int) (b : List arr2_i64) => ∃ k : Nat, z = (k : Int) ∧ k ≤ H.length ∧ b = shareL l n d (H.take k)) (fun z _ => H.length - Int.toNat z) ⟨0, rfl, Nat.zero_le _, rfl⟩ ?_
  rintro rec (z : Int) (b : List arr2_i64) ⟨k, i1, i2, i3⟩ hrec
  subst i1
  refine IFB.mk (fun hb => ?_) (fun hb => ?_)
  · have hb : (k : Int) < H.length := of_decide_eq_true hb
    have hk : k < H.length := by omega
    have hbl : b.length = k := by rw [i3]; unfold shareL; rw [List.length_map, List.length_take]; omega
    obtain ⟨k1, k2⟩ := heirsL_ok hreg (n := n) (d := d) (k := ix H (k : Int)) (by rw [hHe]; exact ix_mem (by omega) (by omega))
    obtain ⟨q1, q2, q3, q4, q5⟩ := reg_days hsz h0 k1 k2
    have hq := hpo _ k1 k2
    rw [q5]
    refine ⟨by omega, JOIN.opq fun (J : List Rc → Prop) hJ => ⟨by omega, ⟨q2, q3, q4⟩, ⟨⟨ho.1, ?_⟩, hq.1, ?_⟩, ?_⟩⟩
    · have := ho.2; show (outlS (ix l (n - 1)) d).1.length ≤ _; omega
    · have := hq.2; show (outlS (ix l (ix H (k : Int) - 1)) d).1.length ≤ _; omega
    rw [hJ]
    have hc := comb_ok (howS_0 2) (outlS (ix l (n - 1)) d).1 (outlS (ix l (ix H (k : Int) - 1)) d).1
    have hbox : ∀ x y, cov (canonF (comb (howS 2) (outlS (ix l (n - 1)) d).1 (outlS (ix l (ix H (k : Int) - 1)) d).1)) x y = true → 0 ≤ x ∧ x < 16384 ∧ 0 ≤ y ∧ y < 16384 := fun x y h => by
      rw [hc.2] at h
      unfold comb howS at h
      have h : (cov (outlS (ix l (n - 1)) d).1 x y && cov (outlS (ix l (ix H (k : Int) - 1)) d).1 x y) = true := h
      exact proper_box ho.1 (Bool.and_eq_true_iff.1 h).1
    have hpr : ∀ r ∈ canonF (comb (howS 2) (outlS (ix l (n - 1)) d).1 (outlS (ix l (ix H (k : Int) - 1)) d).1), proper r := fun r hr => by
      have := canon_box hc.1 hbox r hr
      exact ⟨this.1, this.2.1, this.2.2.1, this.2.2.2.1, this.2.2.2.2.1, this.2.2.2.2.2⟩
    refine ⟨⟨hpr, box_len hc.1 hbox⟩, by simp only [List.length_cons, List.length_nil]; omega, ?_⟩
    rw [wrapS (by omega)]
    refine hrec ((k + 1 : Nat) : Int) _ ⟨k + 1, rfl, hk, ?_⟩ (by show H.length - ((k + 1 : Nat) : Int).toNat < H.length - (k : Int).toNat; omega)
    rw [i3]
    unfold shareL
    rw [List.take_succ_eq_append_getElem hk, List.map_append, ← ix_lt hk]
    rfl
  · have hb : ¬ (k : Int) < H.length := of_decide_eq_false hb
    have hk : k = H.length := by omega
    rw [hk, List.take_length] at i3
    show post b 0
    rw [i3]; exact hp

def prun_P (l : List (api_Edit)) (post : List (api_Parcel) → Int → Int → Prop) : Prop := (l.length ≤ 1000000 ∧ ∀ e ∈ l, szE e ∧ e.Kind ≠ 2) ∧ post ((runS l).1) ((runS l).2.1) ((runS l).2.2)
def prun_sp : Spec := ⟨33, false, true, [.sl (.st .api_Edit)], .tup [.dat (.sl (.st .api_Parcel)), .dat (.int .i64), .dat (.int .i64)], fun x post => prun_P (x.1 : List (api_Edit)) (fun y0 y1 y2 => post (y0, y1, y2, ()))⟩
def prun_C : CtxR := ⟨tau, [rule1 pappN_sp], lookJ [(0, 11, ⟨[(15, .dat (.int .i64)), (5, .dat (.sl (.st .api_Parcel)))], [], [16, 17, 18, 19, 7, 6, 21, 22, 23, 20, 24, 25, 8, 9, 26, 27, 31, 32], [], []⟩)]⟩
def prun_W (l : List (api_Edit)) (post : List (api_Parcel) → Int → Int → Prop) : Prop := (↑l.length : Int) ≤ (9223372036854775807 : Int) → IFB (decide ((120 : Int) < (↑l.length : Int))) (post [] (0 : Int) (1 : Int)) ((↑l.length : Int) ≤ (9223372036854775807 : Int) → LOOP [Ty.int IntKind.i64, (Ty.st Sn.api_Parcel).sl] (fun (rec1 : Int → List api_Parcel → Prop) (z2 : Int) (z3 : List api_Parcel) ↦ IFB (decide (z2 < (↑l.length : Int))) (((0 : Int) ≤ z2 ∧ z2 < (↑l.length : Int)) ∧ (szL z3 ∧ szE { Day := (ix l z2).1, Known := (ix l z2).2, Kind := (ix l z2).3, Parcels := (ix l z2).4, Regions := (ix l z2).5 : api_Edit } ∧ ((ix l z2).3 = (2 : Int) → False)) ∧ IFB (!decide ((applyS z3 { Day := (ix l z2).1, Known := (ix l z2).2, Kind := (ix l z2).3, Parcels := (ix l z2).4, Regions := (ix l z2).5 : api_Edit }).2 = (0 : Int))) (post z3 z2 (applyS z3 { Day := (ix l z2).1, Known := (ix l z2).2, Kind := (ix l z2).3, Parcels := (ix l z2).4, Regions := (ix l z2).5 : api_Edit }).2) (rec1 (IntKind.i64.wrap (z2 + (1 : Int))) (applyS z3 { Day := (ix l z2).1, Known := (ix l z2).2, Kind := (ix l z2).3, Parcels := (ix l z2).4, Regions := (ix l z2).5 : api_Edit }).1)) ((↑l.length : Int) ≤ (9223372036854775807 : Int) → post z3 (↑l.length : Int) (0 : Int))) ((0 : Int), [], PUnit.unit))
theorem prun_w (l : List (api_Edit)) (post : dens (shT prun_sp.rs []) → Prop) : prun_W l (fun y0 y1 y2 => post (y0, y1, y2, ())) = walkG (callR Tryz.prog prun_C (drawF Tryz.prog tau) 10 0) 33 false [tv (.sl (.st .api_Edit)) l] prun_sp.rs post := by kernel_rfl
theorem prun_of (h : ∀ (l : List (api_Edit)) (post : List (api_Parcel) → Int → Int → Prop), prun_P l post → prun_W l post) : SpecOK Tryz.prog prun_sp := SpecOK.of_rules (C := prun_C) (dr := drawF Tryz.prog tau) (n := 10) (fk := 0) (.cons (rule1_ok pappN_ok) .nil) (drawF_ok tau) fun x post hp => HoldW.of (prun_w x.1 post) (h x.1 (fun y0 y1 y2 => post (y0, y1, y2, ())) hp)
theorem runG_ok {l : List Ed} {K : List Pc → Int → Int → Prop} {x : List Pc} {k : Nat} (hk : k ≤ l.length) (h : K (runG x (k : Int) (l.drop k)).1 (runG x (k : Int) (l.drop k)).2.1 (runG x (k : Int) (l.drop k)).2.2) : (k = l.length → K x (l.length : Int) 0) ∧ (k < l.length → if (applyS x (ix l (k : Int))).2 ≠ 0 then K x (k : Int) (applyS x (ix l (k : Int))).2 else K (runG (applyS x (ix l (k : Int))).1 ((k + 1 : Nat) : Int) (l.drop (k + 1))).1 (runG (applyS x (ix l (k : Int))).1 ((k + 1 : Nat) : Int) (l.drop (k + 1))).2.1 (runG (applyS x (ix l (k : Int))).1 ((k + 1 : Nat) : Int) (l.drop (k + 1))).2.2) := by
  refine ⟨fun e => ?_, fun hlt => ?_⟩
  · subst e
    rw [List.drop_length] at h
    exact h
  · have hd : l.drop k = ix l (k : Int) :: l.drop (k + 1) := by rw [ix_lt hlt]; exact List.drop_eq_getElem_cons hlt
    rw [hd] at h
    unfold runG at h
    split
    · rename_i h0
      rw [if_pos h0] at h; exact h
    · rename_i h0
      rw [if_neg h0] at h
      exact h
theorem prun_ok : SpecOK Tryz.prog prun_sp := prun_of fun l post hp => by
  obtain ⟨⟨hl, he⟩, hp⟩ := hp
  unfold prun_W
  unfold runS at hp
  intro _
  refine IFB.mk (fun hb => ?_) (fun hb _ => ?_)
  · have hb : (120 : Int) < (l.length : Int) := of_decide_eq_true hb
    rw [if_pos (by omega)] at hp; exact hp
  have hb : ¬ (120 : Int) < (l.length : Int) := of_decide_eq_false hb
  rw [if_neg (by omega)] at hp
  refine LOOP.fuel2 (fun (z : Int) (x : List Pc) => ∃ k : Nat, z = (k : Int) ∧ k ≤ l.length ∧ szL x ∧ post (runG x (k : Int) (l.drop k)).1 (runG x (k : Int) (l.drop k)).2.1 (runG x (k : Int) (l.drop k)).2.2) (fun z _ => l.length - Int.toNat z) ⟨0, rfl, Nat.zero_le _, szL_nil, hp⟩ ?_
  rintro rec (z : Int) (x : List Pc) ⟨k, i1, i2, i3, i4⟩ hrec
  subst i1
  have h4 := runG_ok i2 i4
  refine IFB.mk (fun hb => ?_) (fun hb => ?_)
  · have hb : (k : Int) < l.length := of_decide_eq_true hb
    have hk : k < l.length := by omega
    have hm := he _ (ix_mem (l := l) (i := (k : Int)) (by omega) (by omega))
    have h4 := h4.2 hk
    refine ⟨by omega, ⟨i3, hm.1, hm.2⟩, IFB.mk (fun hc => ?_) (fun hc => ?_)⟩
    · rw [if_pos (by simpa using hc)] at h4; exact h4
    · rw [if_neg (by simpa using hc)] at h4
      rw [wrapS (by omega)]
      exact hrec ((k + 1 : Nat) : Int) _ ⟨k + 1, rfl, hk, applyS_sz i3 hm.1, h4⟩ (by show l.length - ((k + 1 : Nat) : Int).toNat < l.length - (k : Int).toNat; omega)
  · have hb : ¬ (k : Int) < l.length := of_decide_eq_false hb
    exact fun _ => h4.1 (by omega)

end RE
end Go.Proofs.YtpeggkeenboacaaGreat
set_option maxRecDepth 100000
set_option linter.unusedVariables false
namespace Go.Proofs.YtpeggkeenboacaaGreat
open Go.RowKit
namespace RE
open PL

def rints_P (x : List (Int)) (y : List (Int)) (post : Bool → Prop) : Prop := ∀ b : Bool, (b = true ↔ x = y) → post b
def rints_sp : Spec := ⟨28, false, false, [.sl (.int .i64), .sl (.int .i64)], .dat (.bool), fun x post => rints_P (x.1 : List (Int)) (x.2.1 : List (Int)) (fun y0 => post (y0, ()))⟩
def rints_C : CtxR := ⟨tau, [], lookJ [(0, 9, ⟨[(13, .dat (.int .i64))], [], [14, 15, 5, 16, 17, 18, 19, 20, 21, 22, 23, 24, 25], [], []⟩)]⟩
def rints_W (x : List (Int)) (y : List (Int)) (post : Bool → Prop) : Prop := (↑x.length : Int) ≤ (9223372036854775807 : Int) → (↑y.length : Int) ≤ (9223372036854775807 : Int) → IFB (!decide ((↑x.length : Int) = (↑y.length : Int))) (post false) ((↑x.length : Int) ≤ (9223372036854775807 : Int) → LOOP [Ty.int IntKind.i64] (fun (rec1 : Int → Prop) (z2 : Int) ↦ IFB (decide (z2 < (↑x.length : Int))) (((0 : Int) ≤ z2 ∧ z2 < (↑x.length : Int)) ∧ ((0 : Int) ≤ z2 ∧ z2 < (↑y.length : Int)) ∧ IFB (!decide (ix x z2 = ix y z2)) (post false) (rec1 (IntKind.i64.wrap (z2 + (1 : Int))))) (post true)) ((0 : Int), PUnit.unit))
theorem rints_w (x : List (Int)) (y : List (Int)) (post : dens (shT rints_sp.rs []) → Prop) : rints_W x y (fun y0 => post (y0, ())) = walkG (callR Tryz.prog rints_C (drawR Tryz.prog tau) 8 0) 28 false [tv (.sl (.int .i64)) x, tv (.sl (.int .i64)) y] rints_sp.rs post := by kernel_rfl
theorem rints_of (h : ∀ (x : List (Int)) (y : List (Int)) (post : Bool → Prop), rints_P x y post → rints_W x y post) : SpecOK Tryz.prog rints_sp := SpecOK.of_rules (C := rints_C) (dr := drawR Tryz.prog tau) (n := 8) (fk := 0) .nil (drawR_ok tau) fun x post hp => HoldW.of (rints_w x.1 x.2.1 post) (h x.1 x.2.1 (fun y0 => post (y0, ())) hp)
theorem rints_ok : SpecOK Tryz.prog rints_sp := rints_of fun l1 l2 post hp => by
  unfold rints_W
  intro _ _
  refine IFB.mk (fun h => hp _ ?_) (fun h => ?_)
  · constructor
    · intro h'; cases h'
    · intro h'; subst h'; simp at h
  have h3 : l1.length = l2.length := by simp at h; omega
  intro _
  refine LOOP.list l1 (fun k (s : Unit) => ((k : Int), ())) (fun u => u.1.toNat) (fun k r (s : Unit) => l1.take k = l2.take k) () rfl rfl (fun k s h => by simp) ?_ ?_
  · intro rec k y r s hd hk hkl hG hrec
    have hx := ix_of hk
    have hk2 := List.getElem?_eq_getElem (show k < l2.length by omega)
    have hx2 := ix_of hk2
    have w1 : IntKind.i64.wrap ((k : Int) + 1) = ((k + 1 : Nat) : Int) := by rw [wrap_in (by omega) (by omega)]; rfl
    show IFB _ _ _
    obtain ⟨v, hv⟩ : ∃ v, l2[k] = v := ⟨_, rfl⟩
    rw [hv] at hx2 hk2
    simp only [w1, hx, hx2]
    refine IFB.mk (fun _ => ⟨⟨by omega, by omega⟩, ⟨by omega, by omega⟩, IFB.mk (fun hb => hp _ ?_) (fun hb => hrec () ?_)⟩) (fun h => absurd (of_decide_eq_false h) (by omega))
    · constructor
      · intro h'; cases h'
      · intro h'
        subst h'
        rw [hk] at hk2
        injection hk2 with hk2
        subst hk2
        simp at hb
    · have hb : y = v := by simpa using hb
      subst hb
      rw [List.take_add_one, List.take_add_one, hG, hk, hk2]
  · intro rec s hG
    show IFB _ _ _
    refine IFB.mk (fun h => absurd (of_decide_eq_true h) (by omega)) (fun _ => hp _ ?_)
    rw [List.take_length, h3, List.take_length] at hG
    simp [hG]

namespace PL
noncomputable def notC (a b : List Rc) : List Rc := canonF (comb (howS 3) a b)
open Classical in
noncomputable def wouS (a b : List Rc) : List Rc × Int := if ¬ (validP a ∧ validP b) then ([], 7) else if 120 < (notC a b).length then ([], 1) else (notC a b, 0)
end PL

def rwou_P (a : api_Region) (b : api_Region) (post : List (api_Rect) → Int → Prop) : Prop := (True) ∧ post ((wouS a.1 b.1).1) ((wouS a.1 b.1).2)
def rwou_sp : Spec := ⟨32, false, true, [.st .api_Region, .st .api_Region], .tup [.agg [.dat (.sl (.st .api_Rect))], .dat (.int .i64)], fun x post => rwou_P (x.1 : api_Region) (x.2.1 : api_Region) (fun y0 y1 => post (y0, y1, ()))⟩
def rwou_C : CtxR := ⟨tau, [rule1 rval_sp, rule1 rcomb_sp], lookJ [(1024, 0, ⟨[(0, .tup [.agg [.dat (.sl (.st .api_Rect))], .dat (.int .i64)])], [], [], [], []⟩), (1067462654, 0, ⟨[(0, .tup [.agg [.dat (.sl (.st .api_Rect))], .dat (.int .i64)])], [], [], [], []⟩)]⟩
def rwou_W (a : api_Region) (b : api_Region) (post : List (api_Rect) → Int → Prop) : Prop := JOIN [(Ty.st Sn.api_Rect).sl, Ty.int IntKind.i64] (fun (y1 : List api_Rect) (y2 : Int) ↦ post y1 y2) fun (J3 : List api_Rect → Int → Prop) ↦ ∀ (v4 : Bool), (v4 = true ↔ validP a.1) → JOIN [Ty.bool] (fun (y5 : Bool) ↦ IFB (!v4 || !y5) (J3 [] (7 : Int)) ((a.1.length ≤ (1000 : Nat) ∧ b.1.length ≤ (1000 : Nat)) ∧ JOIN [(Ty.st Sn.api_Rect).sl, Ty.int IntKind.i64] (fun (y6 : List api_Rect) (y7 : Int) ↦ J3 y6 y7) fun (J8 : List api_Rect → Int → Prop) ↦ (↑(canonF fun (x y : Int) ↦ howS (3 : Int) (cov a.1 x y) (cov b.1 x y)).length : Int) ≤ (9223372036854775807 : Int) → IFB (decide ((120 : Int) < (↑(canonF fun (x y : Int) ↦ howS (3 : Int) (cov a.1 x y) (cov b.1 x y)).length : Int))) (J8 [] (1 : Int)) (J8 (canonF fun (x y : Int) ↦ howS (3 : Int) (cov a.1 x y) (cov b.1 x y)) (0 : Int)))) fun (J9 : Bool → Prop) ↦ IFB (gx false !v4) (∀ (v10 : Bool), (v10 = true ↔ validP b.1) → J9 v10) (J9 false)
theorem rwou_w (a : api_Region) (b : api_Region) (post : dens (shT rwou_sp.rs []) → Prop) : rwou_W a b (fun y0 y1 => post (y0, y1, ())) = walkG (callR Tryz.prog rwou_C (drawR Tryz.prog tau) 6 0) 32 false [tv (.st .api_Region) a, tv (.st .api_Region) b] rwou_sp.rs post := by kernel_rfl
theorem rwou_of (h : ∀ (a : api_Region) (b : api_Region) (post : List (api_Rect) → Int → Prop), rwou_P a b post → rwou_W a b post) : SpecOK Tryz.prog rwou_sp := SpecOK.of_rules (C := rwou_C) (dr := drawR Tryz.prog tau) (n := 6) (fk := 0) (.cons (rule1_ok rval_ok) (.cons (rule1_ok rcomb_ok) .nil)) (drawR_ok tau) fun x post hp => HoldW.of (rwou_w x.1 x.2.1 post) (h x.1 x.2.1 (fun y0 y1 => post (y0, y1, ())) hp)
theorem rwou_ok : SpecOK Tryz.prog rwou_sp := rwou_of fun a b post hp => by
  obtain ⟨l⟩ := a
  obtain ⟨m⟩ := b
  obtain ⟨_, hp⟩ := hp
  unfold rwou_W
  dsimp only at hp ⊢
  refine JOIN.opq fun (J3 : List Rc → Int → Prop) hJ3 => fun v4 h4 => JOIN.opq fun (J : Bool → Prop) hJ => ?_
  have hP : ∀ a b, (a, b) = wouS l m → J3 a b := fun a b h => by
    rw [hJ3]
    show post a b
    rw [← h] at hp; exact hp
  have main : ∀ y : Bool, ((v4 && y) = true ↔ validP l ∧ validP m) → J y := fun y h => by
    rw [hJ]
    dsimp only
    refine IFB.mk (fun hb => hP _ _ ?_) (fun hb => ?_)
    · have hb : (v4 && y) = false := by cases v4 <;> cases y <;> simp_all
      unfold wouS
      rw [if_pos (fun h2 => by have := h.2 h2; rw [hb] at this; cases this)]
    · have hb : (v4 && y) = true := by cases v4 <;> cases y <;> simp_all
      obtain ⟨g1, g2⟩ := h.1 hb
      refine ⟨⟨by have := g1.1; omega, by have := g2.1; omega⟩, JOIN.opq fun (J8 : List Rc → Int → Prop) hJ8 => fun _ => IFB.mk (fun hn => ?_) (fun hn => ?_)⟩
      · have hn : (120 : Int) < ((notC l m).length : Int) := of_decide_eq_true hn
        rw [hJ8]
        refine hP _ _ ?_
        unfold wouS
        rw [if_neg (not_not_intro ⟨g1, g2⟩), if_pos (by omega)]
      · have hn : ¬ (120 : Int) < ((notC l m).length : Int) := of_decide_eq_false hn
        rw [hJ8]
        refine hP _ _ ?_
        unfold wouS
        rw [if_neg (not_not_intro ⟨g1, g2⟩), if_neg (by omega)]; rfl
  refine IFB.mk (fun hb v6 h6 => main v6 ?_) (fun hb => main false ?_)
  · have hb : v4 = true := by cases v4 <;> simp_all [gx]
    rw [Bool.and_eq_true, h4, h6]
  · have hb : v4 = false := by cases v4 <;> simp_all [gx]
    rw [Bool.and_false]
    exact ⟨fun h => (by cases h), fun h => (by have := h4.2 h.1; rw [hb] at this; cases this)⟩

end RE
end Go.Proofs.YtpeggkeenboacaaGreat
set_option maxRecDepth 100000
set_option linter.unusedVariables false
namespace Go.Proofs.YtpeggkeenboacaaGreat
open Go.RowKit
namespace RE
open PL
theorem run_sz {l : List Ed} (h : ∀ e ∈ l, szE e) : szL (runS l).1 := by
  unfold runS
  split
  · exact szL_nil
  · exact runG_take h szL_nil
def prunV_P (l : List (api_Edit)) (post : List (api_Parcel) → Int → Int → Prop) : Prop := (l.length ≤ 1000000 ∧ ∀ e ∈ l, szE e ∧ e.Kind ≠ 2) ∧ ∀ (x : List Pc) (n g : Int), (szL x ∧ runS l = (x, n, g)) → post x n g
def prunV_sp : Spec := ⟨33, false, true, [.sl (.st .api_Edit)], .tup [.dat (.sl (.st .api_Parcel)), .dat (.int .i64), .dat (.int .i64)], fun x post => prunV_P (x.1 : List (api_Edit)) (fun y0 y1 y2 => post (y0, y1, y2, ()))⟩
theorem prunV_ok : SpecOK Tryz.prog prunV_sp := fun x post hp => prun_ok x post (⟨hp.1, hp.2 _ _ _ ⟨run_sz fun e he => (hp.1.2 e he).1, rfl⟩⟩)
def pheirsV_P (l : List (api_Parcel)) (n : Int) (d : Int) (post : List (Int) → Int → Prop) : Prop := szL l ∧ ∀ (h : List Int) (g : Int), (h = heirsS l n d ∧ g = heirE l n d) → post h g
def pheirsV_sp : Spec := ⟨25, false, true, [.sl (.st .api_Parcel), .int .i64, .int .i64], .tup [.dat (.sl (.int .i64)), .dat (.int .i64)], fun x post => pheirsV_P (x.1 : List (api_Parcel)) (x.2.1 : Int) (x.2.2.1 : Int) (fun y0 y1 => post (y0, y1, ()))⟩
theorem pheirsV_ok : SpecOK Tryz.prog pheirsV_sp := fun x post hp => pheirs_ok x post (⟨hp.1, hp.2 _ _ ⟨rfl, rfl⟩⟩)
def pshareV_P (l : List (api_Parcel)) (n : Int) (d : Int) (post : List (arr2_i64) → Int → Prop) : Prop := szL l ∧ ∀ (s : List arr2_i64) (g : Int), (s = shareS l n d ∧ g = heirE l n d) → post s g
def pshareV_sp : Spec := ⟨26, false, true, [.sl (.st .api_Parcel), .int .i64, .int .i64], .tup [.dat (.sl (.st .arr2_i64)), .dat (.int .i64)], fun x post => pshareV_P (x.1 : List (api_Parcel)) (x.2.1 : Int) (x.2.2.1 : Int) (fun y0 y1 => post (y0, y1, ()))⟩
theorem pshareV_ok : SpecOK Tryz.prog pshareV_sp := fun x post hp => pshare_ok x post (⟨hp.1, hp.2 _ _ ⟨rfl, rfl⟩⟩)

end RE
end Go.Proofs.YtpeggkeenboacaaGreat
set_option linter.unusedVariables false
set_option maxRecDepth 100000
namespace Go.Proofs.YtpeggkeenboacaaGreat
open Go.RowKit
namespace RE
open PL
namespace PL
/-- A parcel with one outline. -/
def pcl (n day u : Int) (ps : List Int) (a : Rn) : Pc := ⟨n, day, u, ps, [day], [a]⟩
end PL
theorem regP_nil : regP [] := ⟨fun i hi => absurd hi (Nat.not_lt_zero _), fun i j hi => absurd hi (Nat.not_lt_zero _)⟩
theorem ix_app1 {α : Type} [Inhabited α] {l : List α} {x : α} {i : Nat} (h : i < l.length) : ix (l ++ [x]) (i : Int) = ix l (i : Int) := by
  rw [ix_lt (by rw [List.length_append]; omega), ix_lt h, List.getElem_append_left h]
theorem ix_app2 {α : Type} [Inhabited α] {l : List α} {x : α} : ix (l ++ [x]) (l.length : Int) = x := by
  rw [ix_lt (by rw [List.length_append, List.length_singleton]; omega)]; simp
theorem regP_snoc {l : List Pc} {p : Pc} (h : regP l) (hr : rightP l p) (hm : ∀ q ∈ l, ¬ meetPc p q) : regP (l ++ [p]) := by
  refine ⟨fun i hi => ?_, fun i j hi hj => ?_⟩
  · rw [List.length_append, List.length_singleton] at hi
    rcases Nat.lt_or_ge i l.length with hlt | hge
    · rw [ix_app1 hlt, List.take_append_of_le_length (by omega)]; exact h.1 i hlt
    · have : i = l.length := by omega
      subst this
      rw [ix_app2, List.take_left' rfl]; exact hr
  · rw [List.length_append, List.length_singleton] at hi
    rcases Nat.lt_or_ge i l.length with hlt | hge
    · rw [ix_app1 hlt, ix_app1 (by omega)]; exact h.2 i j hlt hj
    · have : i = l.length := by omega
      subst this
      rw [ix_app2, ix_app1 hj]
      exact hm _ (ix_mem (by omega) (by omega))
theorem right_pcl {l : List Pc} {n d u : Int} {ps : List Int} {a : Rn} (hn : n = (l.length : Int) + 1) (h0 : 0 ≤ d) (hd : d ≤ u) (hu : u ≤ 36865) (hd2 : d ≤ 36864) (hl : 0 < l.length → (ix l ((l.length : Int) - 1)).From ≤ d) (ha : propR a) (hp : asc ps) (hq : ∀ k ∈ ps, 1 ≤ k ∧ k ≤ (l.length : Int) ∧ (ix l (k - 1)).Until = d) : rightP l (pcl n d u ps a) :=
  ⟨hn, h0, hd, hu, hl, ⟨Nat.zero_lt_one, rfl, rfl, fun i hi => absurd hi (by show ¬ i + 1 < 1; omega), (by show d ≤ min u 36864; omega), fun b hb => by
    have : b = a := by simpa [pcl] using hb
    rw [this]; exact ha⟩, hp, hq⟩
theorem meet_pcl {n m d e u v : Int} {ps qs : List Int} {a b : Rn} : meetPc (pcl n d u ps a) (pcl m e v qs b) ↔ max d e < min u v ∧ meetP a.Rects b.Rects := by
  constructor
  · rintro ⟨i, j, hi, hj, h1, h2⟩
    have hi : i < 1 := hi
    have hj : j < 1 := hj
    have hi : i = 0 := by omega
    have hj : j = 0 := by omega
    subst hi hj
    exact ⟨h1, h2⟩
  · rintro ⟨h1, h2⟩
    exact ⟨0, 0, Nat.zero_lt_one, Nat.zero_lt_one, h1, h2⟩
theorem asc_1 (k : Int) : asc [k] := fun i hi => absurd hi (by show ¬ i + 1 < 1; omega)
theorem asc_0 : asc [] := fun i hi => absurd hi (by show ¬ i + 1 < 0; omega)
theorem asc_2 {j k : Int} (h : j < k) : asc [j, k] := fun i hi => by
  have hi : i + 1 < 2 := hi
  have hi : i = 0 := by omega
  subst hi; exact h
namespace PL
def L1 (a : Rn) : List Pc := [pcl 1 0 36865 [] a]
def L2 (d u : Int) (a b c : Rn) : List Pc := [pcl 1 0 d [] a, pcl 2 d u [1] b, pcl 3 d u [1] c]
def L3 (d : Int) (a b c : Rn) : List Pc := [pcl 1 0 d [] a, pcl 2 d (d + 1) [1] b, pcl 3 d (d + 1) [1] c, pcl 4 (d + 1) 36865 [2, 3] a]
/-- What is asked of the parts. -/
structure Parts (a b c : Rn) : Prop where
  pa : propR a
  pb : propR b
  pc : propR c
  dis : ∀ x y, ¬ (cov b.Rects x y = true ∧ cov c.Rects x y = true)
  all : ∀ x y, cov a.Rects x y = (cov b.Rects x y || cov c.Rects x y)
end PL
theorem reg_L1 {a : Rn} (ha : propR a) : regP (L1 a) :=
  regP_snoc (l := []) regP_nil (right_pcl rfl (by decide) (by decide) (by decide) (by decide) (fun h => absurd h (by decide)) ha asc_0 (fun k hk => by cases hk)) (fun q hq => by cases hq)
theorem reg_L2 {a b c : Rn} {d u : Int} (h : Parts a b c) (h0 : 0 ≤ d) (h1 : d ≤ u) (h2 : u ≤ 36865) (h3 : d ≤ 36864) : regP (L2 d u a b c) := by
  have r1 : regP [pcl 1 0 d [] a] := regP_snoc (l := []) regP_nil (right_pcl rfl (by decide) h0 (by omega) (by decide) (fun h => absurd h (by decide)) h.pa asc_0 (fun k hk => by cases hk)) (fun q hq => by cases hq)
  have r2 : regP ([pcl 1 0 d [] a] ++ [pcl 2 d u [1] b]) := regP_snoc r1 (right_pcl rfl h0 h1 h2 h3 (fun _ => h0) h.pb (asc_1 1) (fun k hk => by
    rw [List.mem_singleton.1 hk]; exact ⟨by decide, by show (1 : Int) ≤ 1; decide, rfl⟩)) (fun q hq => by
    rw [List.mem_singleton.1 hq, meet_pcl]; rintro ⟨h, _⟩; omega)
  exact regP_snoc (l := [pcl 1 0 d [] a, pcl 2 d u [1] b]) r2 (right_pcl rfl h0 h1 h2 h3 (fun _ => Int.le_refl d) h.pc (asc_1 1) (fun k hk => by
    rw [List.mem_singleton.1 hk]; exact ⟨by decide, by show (1 : Int) ≤ 2; decide, rfl⟩)) (fun q hq => by
    simp only [List.mem_cons, List.not_mem_nil, or_false] at hq
    rcases hq with rfl | rfl
    · rw [meet_pcl]; rintro ⟨h, _⟩; omega
    · rw [meet_pcl]; rintro ⟨_, _, _, x, y, h1, h2⟩; exact h.dis x y ⟨h2, h1⟩)
theorem reg_L3 {a b c : Rn} {d : Int} (h : Parts a b c) (h0 : 0 ≤ d) (h3 : d + 1 ≤ 36864) : regP (L3 d a b c) :=
  regP_snoc (l := L2 d (d + 1) a b c) (reg_L2 h h0 (by omega) (by omega) (by omega)) (right_pcl rfl (by omega) (by omega) (by omega) h3 (fun _ => by show d ≤ d + 1; omega) h.pa (asc_2 (by decide)) (fun k hk => by
    simp only [List.mem_cons, List.not_mem_nil, or_false] at hk
    rcases hk with rfl | rfl
    · exact ⟨by decide, by show (2 : Int) ≤ 3; decide, rfl⟩
    · exact ⟨by decide, by show (3 : Int) ≤ 3; decide, rfl⟩)) (fun q hq => by
    unfold L2 at hq
    simp only [List.mem_cons, List.not_mem_nil, or_false] at hq
    rcases hq with rfl | rfl | rfl
    · rw [meet_pcl]; rintro ⟨h, _⟩; omega
    · rw [meet_pcl]; rintro ⟨h, _⟩; omega
    · rw [meet_pcl]; rintro ⟨h, _⟩; omega)
theorem check_reg {l : List Pc} (h : regP l) (h2 : l.length ≤ 60) : checkS l = 0 := checkS_0.2 ⟨h2, h⟩
theorem step_1 {a : Rn} (ha : propR a) : applyS [] ⟨0, 0, 1, [], [a]⟩ = (L1 a, 0) := by
  have he : editS [] ⟨0, 0, 1, [], [a]⟩ = 0 := editS_0.2 ⟨check_reg regP_nil (by decide), ⟨by show (1 : Int) ≤ 1; decide, by show (1 : Int) ≤ 5; decide⟩, ⟨Int.le_refl 0, by show (0 : Int) ≤ 36864; decide⟩, ⟨.inl ⟨rfl, rfl, rfl⟩, asc_0⟩, fun k hk => (by cases hk), fun b hb => by rw [List.mem_singleton.1 hb]; exact ha⟩
  unfold applyS
  rw [if_neg (fun h => h he), if_pos rfl, if_neg (fun h => by obtain ⟨p, hp, _⟩ := h; cases hp), if_neg (by decide)]
  rfl
theorem day_L1 {a : Rn} : dayS (L1 a) = 0 := rfl
theorem step_2 {a b c : Rn} {d : Int} (h : Parts a b c) (h0 : 0 ≤ d) (h3 : d ≤ 36864) : applyS (L1 a) ⟨d, 0, 3, [1], [b, c]⟩ = (L2 d 36865 a b c, 0) := by
  have he : editS (L1 a) ⟨d, 0, 3, [1], [b, c]⟩ = 0 := editS_0.2 ⟨check_reg (reg_L1 h.pa) (by show 1 ≤ 60; omega), ⟨by show (1 : Int) ≤ 3; decide, by show (3 : Int) ≤ 5; decide⟩, ⟨by rw [day_L1]; exact h0, h3⟩, ⟨.inr (.inr (.inl ⟨rfl, rfl, by show 2 ≤ 2; omega, by show 2 ≤ 8; omega⟩)), asc_1 1⟩, fun k hk => (by
    rw [List.mem_singleton.1 hk]; exact ⟨by decide, by show (1 : Int) ≤ 1; decide, rfl⟩), fun x hx => by
    simp only [List.mem_cons, List.not_mem_nil, or_false] at hx
    rcases hx with rfl | rfl
    · exact h.pb
    · exact h.pc⟩
  have hap : apartP [b, c] := (apart_pw fun x hx => (by
    simp only [List.mem_cons, List.not_mem_nil, or_false] at hx
    rcases hx with rfl | rfl
    · exact h.pb.2
    · exact h.pc.2)).2 (List.pairwise_pair.2 h.dis)
  have hal : ∀ x y, cov (partsR [b, c]) x y = cov (nowR (ix (L1 a) (ix [1] 0 - 1))).Rects x y := fun x y => by
    rw [partsR_cons, partsR_cons, cov_app, cov_app]
    show (cov b.Rects x y || (cov c.Rects x y || cov [] x y)) = cov a.Rects x y
    rw [h.all, cov_nil, Bool.or_false]
  unfold applyS
  rw [if_neg (fun h => h he), if_neg (show ¬ (3 : Int) = 1 by decide), if_neg (show ¬ (3 : Int) = 2 by decide), if_pos rfl, if_neg (fun h => h hap), if_neg (fun h => h hal), if_neg (show ¬ 60 < (L1 a).length + [b, c].length by show ¬ 60 < 1 + 2; omega)]
  rfl
theorem day_L2 {a b c : Rn} {d : Int} (h0 : 0 ≤ d) (hd : d ≠ 36865) : dayS (L2 d 36865 a b c) = d := by
  have e : dayS (L2 d 36865 a b c) = max (max (if d = 36865 then max 0 0 else max (max 0 0) d) d) d := rfl
  rw [e, if_neg hd]; omega
theorem step_3 {a b c : Rn} {d : Int} (h : Parts a b c) (h0 : 0 ≤ d) (h3 : d + 1 ≤ 36864) : applyS (L2 d 36865 a b c) ⟨d + 1, 0, 4, [2, 3], []⟩ = (L3 d a b c, 0) := by
  have he : editS (L2 d 36865 a b c) ⟨d + 1, 0, 4, [2, 3], []⟩ = 0 := editS_0.2 ⟨check_reg (reg_L2 h h0 (by omega) (by omega) (by omega)) (by show 3 ≤ 60; omega), ⟨by show (1 : Int) ≤ 4; decide, by show (4 : Int) ≤ 5; decide⟩, ⟨by rw [day_L2 h0 (by omega)]; show d ≤ d + 1; omega, h3⟩, ⟨.inr (.inr (.inr (.inl ⟨rfl, by show 2 ≤ 2; omega, by show 2 ≤ 8; omega, rfl⟩))), asc_2 (by decide)⟩, fun k hk => (by
    simp only [List.mem_cons, List.not_mem_nil, or_false] at hk
    rcases hk with rfl | rfl
    · exact ⟨by decide, by show (2 : Int) ≤ 3; decide, rfl⟩
    · exact ⟨by decide, by show (3 : Int) ≤ 3; decide, rfl⟩), fun x hx => by cases hx⟩
  have hcn : canonF (cov (outsL (L2 d 36865 a b c) [2, 3])) = a.Rects := canonF_eq h.pa.2.2.2 fun x y => by
    rw [h.all]
    show _ = cov (b.Rects ++ (c.Rects ++ [])) x y
    rw [cov_app, cov_app, cov_nil, Bool.or_false]
  unfold applyS
  rw [if_neg (fun h => h he), if_neg (show ¬ (4 : Int) = 1 by decide), if_neg (show ¬ (4 : Int) = 2 by decide), if_neg (show ¬ (4 : Int) = 3 by decide), if_pos rfl]
  dsimp only
  rw [hcn, if_neg (by have := h.pa.2.1; omega), if_neg (by show ¬ 3 = 60; omega)]
  rfl
theorem run_2 {a b c : Rn} {d : Int} (h : Parts a b c) (h0 : 0 ≤ d) (h3 : d ≤ 36864) : runS [⟨0, 0, 1, [], [a]⟩, ⟨d, 0, 3, [1], [b, c]⟩] = (L2 d 36865 a b c, 2, 0) := by
  unfold runS
  rw [if_neg (by show ¬ 120 < 2; omega)]
  unfold runG
  rw [step_1 h.pa, if_neg (fun h => h rfl)]
  unfold runG
  rw [step_2 h h0 h3, if_neg (fun h => h rfl)]
  rfl
theorem run_3 {a b c : Rn} {d : Int} (h : Parts a b c) (h0 : 0 ≤ d) (h3 : d + 1 ≤ 36864) : runS [⟨0, 0, 1, [], [a]⟩, ⟨d, 0, 3, [1], [b, c]⟩, ⟨d + 1, 0, 4, [2, 3], []⟩] = (L3 d a b c, 3, 0) := by
  unfold runS
  rw [if_neg (by show ¬ 120 < 3; omega)]
  unfold runG
  rw [step_1 h.pa, if_neg (fun h => h rfl)]
  unfold runG
  rw [step_2 h h0 (by omega), if_neg (fun h => h rfl)]
  unfold runG
  rw [step_3 h h0 h3, if_neg (fun h => h rfl)]
  rfl
end RE
end Go.Proofs.YtpeggkeenboacaaGreat
set_option maxRecDepth 100000
set_option linter.unusedVariables false
namespace Go.Proofs.YtpeggkeenboacaaGreat
open Go.RowKit
namespace RE
open PL

def pawake_P  (post : Bool → Prop) : Prop := post true
def pawake_sp : Spec := ⟨11, false, false, [], .dat (.bool), fun x post => pawake_P  (fun y0 => post (y0, ()))⟩
def pawake_C : CtxR := ⟨tau, [rule1 prunV_sp, rule1 pheirsV_sp, rule1 pshareV_sp, rule1 rints_sp], lookJ []⟩
def pawake_W  (post : Bool → Prop) : Prop := (Nat.le ((2 : Nat)) ((1000000 : Nat)) ∧ ∀ (v1 : api_Edit), v1 ∈ [{ Day := (0 : Int), Known := (0 : Int), Kind := (1 : Int), Parcels := [], Regions := [{ Rects := [{ Left := (0 : Int), Low := (0 : Int), Right := (4 : Int), High := (1 : Int) : api_Rect }] : api_Region }] : api_Edit }, { Day := (5 : Int), Known := (0 : Int), Kind := (3 : Int), Parcels := [(1 : Int)], Regions := [{ Rects := [{ Left := (0 : Int), Low := (0 : Int), Right := (1 : Int), High := (1 : Int) : api_Rect }] : api_Region }, { Rects := [{ Left := (1 : Int), Low := (0 : Int), Right := (4 : Int), High := (1 : Int) : api_Rect }] : api_Region }] : api_Edit }] → szE v1 ∧ (v1.3 = (2 : Int) → False)) ∧ ∀ (v2 : List api_Parcel) (v3 v4 : Int), szL v2 ∧ runS [{ Day := (0 : Int), Known := (0 : Int), Kind := (1 : Int), Parcels := [], Regions := [{ Rects := [{ Left := (0 : Int), Low := (0 : Int), Right := (4 : Int), High := (1 : Int) : api_Rect }] : api_Region }] : api_Edit }, { Day := (5 : Int), Known := (0 : Int), Kind := (3 : Int), Parcels := [(1 : Int)], Regions := [{ Rects := [{ Left := (0 : Int), Low := (0 : Int), Right := (1 : Int), High := (1 : Int) : api_Rect }] : api_Region }, { Rects := [{ Left := (1 : Int), Low := (0 : Int), Right := (4 : Int), High := (1 : Int) : api_Rect }] : api_Region }] : api_Edit }] = (v2, v3, v4) → szL v2 ∧ ∀ (v5 : List Int) (v6 : Int), v5 = heirsS v2 (1 : Int) (9 : Int) ∧ v6 = heirE v2 (1 : Int) (9 : Int) → szL v2 ∧ ∀ (v7 : List arr2_i64) (v8 : Int), v7 = shareS v2 (1 : Int) (5 : Int) ∧ v8 = heirE v2 (1 : Int) (5 : Int) → IFB (gx true (decide (v4 = (0 : Int)) && decide (v3 = (2 : Int)) && decide (v6 = (0 : Int)))) (JOIN [Ty.bool] (fun (y9 : Bool) ↦ (gx true (decide (v4 = (0 : Int)) && decide (v3 = (2 : Int)) && decide (v6 = (0 : Int)) && y9 && decide (v8 = (0 : Int))) = true → (↑v7.length : Int) ≤ (9223372036854775807 : Int)) → (gx true (decide (v4 = (0 : Int)) && decide (v3 = (2 : Int)) && decide (v6 = (0 : Int)) && y9 && decide (v8 = (0 : Int)) && decide ((↑v7.length : Int) = (2 : Int))) = true → Int.NonNeg (1 : Int) ∧ (1 : Int) < (↑v7.length : Int)) ∧ post (decide (v4 = (0 : Int)) && decide (v3 = (2 : Int)) && decide (v6 = (0 : Int)) && y9 && decide (v8 = (0 : Int)) && decide ((↑v7.length : Int) = (2 : Int)) && (decide ((ix v7 (1 : Int)).1 = (3 : Int)) && (decide ((ix v7 (1 : Int)).2 = (3 : Int)) && true)))) fun (J10 : Bool → Prop) ↦ IFB (gx true (decide (v4 = (0 : Int)) && decide (v3 = (2 : Int)) && decide (v6 = (0 : Int)))) (∀ (v11 : Bool), (v11 = true ↔ v5 = [(2 : Int), (3 : Int)]) → J10 v11) (J10 false)) (JOIN [Ty.bool] (fun (y12 : Bool) ↦ (gx true (decide (v4 = (0 : Int)) && decide (v3 = (2 : Int)) && decide (v6 = (0 : Int)) && y12 && decide (v8 = (0 : Int))) = true → (↑v7.length : Int) ≤ (9223372036854775807 : Int)) → (gx true (decide (v4 = (0 : Int)) && decide (v3 = (2 : Int)) && decide (v6 = (0 : Int)) && y12 && decide (v8 = (0 : Int)) && decide ((↑v7.length : Int) = (2 : Int))) = true → Int.NonNeg (1 : Int) ∧ (1 : Int) < (↑v7.length : Int)) ∧ post (decide (v4 = (0 : Int)) && decide (v3 = (2 : Int)) && decide (v6 = (0 : Int)) && y12 && decide (v8 = (0 : Int)) && decide ((↑v7.length : Int) = (2 : Int)) && (decide ((ix v7 (1 : Int)).1 = (3 : Int)) && (decide ((ix v7 (1 : Int)).2 = (3 : Int)) && true)))) fun (J13 : Bool → Prop) ↦ IFB (gx true (decide (v4 = (0 : Int)) && decide (v3 = (2 : Int)) && decide (v6 = (0 : Int)))) False (J13 false))
theorem pawake_w  (post : dens (shT pawake_sp.rs []) → Prop) : pawake_W  (fun y0 => post (y0, ())) = walkG (callR Tryz.prog pawake_C (drawF Tryz.prog tau) 10 0) 11 false [] pawake_sp.rs post := by kernel_rfl
theorem pawake_of (h : ∀  (post : Bool → Prop), pawake_P  post → pawake_W  post) : SpecOK Tryz.prog pawake_sp := SpecOK.of_rules (C := pawake_C) (dr := drawF Tryz.prog tau) (n := 10) (fk := 0) (.cons (rule1_ok prunV_ok) (.cons (rule1_ok pheirsV_ok) (.cons (rule1_ok pshareV_ok) (.cons (rule1_ok rints_ok) .nil)))) (drawF_ok tau) fun x post hp => HoldW.of (pawake_w  post) (h  (fun y0 => post (y0, ())) hp)
theorem heirs_go {l : List Pc} {n d : Int} (h : regP l) (h2 : l.length ≤ 60) (h3 : 0 ≤ d) (h4 : d ≤ 36864) (h5 : 1 ≤ n) (h6 : n ≤ (l.length : Int)) (h7 : (ix l (n - 1)).From ≤ d) : heirE l n d = 0 ∧ heirsS l n d = heirsL l n d ∧ shareS l n d = shareL l n d (heirsL l n d) := by
  have e : heirE l n d = 0 := heirE_0.2 ⟨check_reg h h2, h3, h4, h5, h6, h7⟩
  refine ⟨e, ?_, ?_⟩
  · unfold heirsS; rw [if_pos e]
  · unfold shareS; rw [if_pos e]
theorem hs_yes {d n s u : Int} {ps f r : List Int} {a : Rn} (h : ∃ k ∈ ps, k ∈ f) : hStep d (f, r) (pcl n s u ps a) = (f ++ [n], if s ≤ d ∧ d < u then r ++ [n] else r) := by
  unfold hStep
  rw [if_pos (show ∃ k ∈ (pcl n s u ps a).Parents, k ∈ (f, r).1 from h)]
  dsimp only
  have hn : n ∈ f ++ [n] := by simp
  by_cases h1 : s ≤ d ∧ d < u
  · rw [if_pos (show thereP (pcl n s u ps a) d ∧ (pcl n s u ps a).Number ∈ f ++ [(pcl n s u ps a).Number] from ⟨h1, hn⟩), if_pos h1]; rfl
  · rw [if_neg (show ¬ (thereP (pcl n s u ps a) d ∧ (pcl n s u ps a).Number ∈ f ++ [(pcl n s u ps a).Number]) from fun h => h1 h.1), if_neg h1]; rfl
theorem hs_no {d n s u : Int} {ps f r : List Int} {a : Rn} (h : ¬ ∃ k ∈ ps, k ∈ f) (h2 : ¬ (s ≤ d ∧ d < u)) : hStep d (f, r) (pcl n s u ps a) = (f, r) := by
  unfold hStep
  rw [if_neg (show ¬ ∃ k ∈ (pcl n s u ps a).Parents, k ∈ (f, r).1 from h)]
  dsimp only
  rw [if_neg (fun h => h2 h.1)]
theorem heirs_L2 {a b c : Rn} {d e : Int} (h0 : 0 ≤ d) (h1 : d ≤ e) (h2 : e < 36865) : heirsL (L2 d 36865 a b c) 1 e = [2, 3] := by
  have q : heirsL (L2 d 36865 a b c) 1 e = (hStep e (hStep e (hStep e ([1], []) (pcl 1 0 d [] a)) (pcl 2 d 36865 [1] b)) (pcl 3 d 36865 [1] c)).2 := rfl
  rw [q, hs_no (d := e) (n := 1) (s := 0) (u := d) (ps := []) (f := [1]) (r := []) (by simp) (by omega), hs_yes (f := [1]) ⟨1, by simp, by simp⟩, if_pos ⟨h1, h2⟩, hs_yes (f := [1] ++ [2]) ⟨1, by simp, by simp⟩, if_pos ⟨h1, h2⟩]
  rfl
theorem heirs_L3 {a b c : Rn} {d e : Int} (h0 : 0 ≤ d) (h1 : d + 1 ≤ e) (h2 : e < 36865) : heirsL (L3 d a b c) 1 e = [4] := by
  have q : heirsL (L3 d a b c) 1 e = (hStep e (hStep e (hStep e (hStep e ([1], []) (pcl 1 0 d [] a)) (pcl 2 d (d + 1) [1] b)) (pcl 3 d (d + 1) [1] c)) (pcl 4 (d + 1) 36865 [2, 3] a)).2 := rfl
  rw [q, hs_no (d := e) (n := 1) (s := 0) (u := d) (ps := []) (f := [1]) (r := []) (by simp) (by omega), hs_yes (f := [1]) ⟨1, by simp, by simp⟩, if_neg (by omega), hs_yes (f := [1] ++ [2]) ⟨1, by simp, by simp⟩, if_neg (by omega), hs_yes (f := [1] ++ [2] ++ [3]) ⟨2, by simp, by simp⟩, if_pos ⟨h1, h2⟩]
  rfl
theorem heirs_L3b {a b c : Rn} {d e : Int} (h0 : 0 ≤ d) (h1 : d + 1 ≤ e) (h2 : e < 36865) : heirsL (L3 d a b c) 3 e = [4] := by
  have q : heirsL (L3 d a b c) 3 e = (hStep e (hStep e ([3], []) (pcl 3 d (d + 1) [1] c)) (pcl 4 (d + 1) 36865 [2, 3] a)).2 := rfl
  rw [q, hs_no (d := e) (n := 3) (s := d) (u := d + 1) (ps := [1]) (f := [3]) (r := []) (by simp) (by omega), hs_yes (f := [3]) ⟨3, by simp, by simp⟩, if_pos ⟨h1, h2⟩]
  rfl
namespace PL
def exA : Rn := ⟨[⟨0, 0, 4, 1⟩]⟩
def exB : Rn := ⟨[⟨0, 0, 1, 1⟩]⟩
def exC : Rn := ⟨[⟨1, 0, 4, 1⟩]⟩
end PL
theorem cov_one {r : Rc} {x y : Int} : cov [r] x y = true ↔ r.Left ≤ x ∧ x < r.Right ∧ r.Low ≤ y ∧ y < r.High := by
  rw [cov_mem]
  constructor
  · rintro ⟨q, hq, h⟩; rw [List.mem_singleton.1 hq] at h; exact hit_iff.1 h
  · exact fun h => ⟨r, by simp, hit_iff.2 h⟩
theorem prop_one {r : Rc} (h : proper r) : propR ⟨[r]⟩ := ⟨by simp, by simp, fun q hq => by
  have hq : q ∈ [r] := hq
  rw [List.mem_singleton.1 hq]; exact h, canon_one h⟩
theorem ex_parts : Parts exA exB exC where
  pa := prop_one (by unfold proper; decide)
  pb := prop_one (by unfold proper; decide)
  pc := prop_one (by unfold proper; decide)
  dis := fun x y h => by
    have h1 := cov_one.1 h.1
    have h2 := cov_one.1 h.2
    dsimp only at h1 h2
    omega
  all := fun x y => by
    rw [Bool.eq_iff_iff, Bool.or_eq_true]
    unfold exA exB exC
    rw [cov_one, cov_one, cov_one]
    dsimp only
    omega
theorem ex_share : ix (shareL (L2 5 36865 exA exB exC) 1 5 [2, 3]) 1 = ⟨3, 3⟩ := by
  have e : ix (shareL (L2 5 36865 exA exB exC) 1 5 [2, 3]) 1 = ⟨3, sizeS (canonF (comb (howS 2) exA.Rects exC.Rects))⟩ := rfl
  rw [e, canonF_eq (l := exC.Rects) ex_parts.pc.2.2.2 fun x y => by
    show _ = howS 2 (cov exA.Rects x y) (cov exC.Rects x y)
    rw [ex_parts.all]
    cases cov exB.Rects x y <;> cases cov exC.Rects x y <;> rfl]
  rfl
theorem pawake_ok : SpecOK Tryz.prog pawake_sp := pawake_of fun post hp => by
  unfold pawake_W
  refine ⟨⟨by show 2 ≤ 1000000; omega, fun v h => ?_⟩, fun v2 v3 v4 ⟨hz, hr⟩ => ⟨hz, fun v5 v6 ⟨h5, h6⟩ => ⟨hz, fun v7 v8 ⟨h7, h8⟩ => ?_⟩⟩⟩
  · simp only [List.mem_cons, List.not_mem_nil, or_false] at h
    rcases h with rfl | rfl
    · exact ⟨⟨by show 0 ≤ 1000000; omega, by show 1 ≤ 1000000; omega, fun a ha => by rw [List.mem_singleton.1 ha]; show 1 ≤ 1000000; omega⟩, by show (1 : Int) = 2 → False; decide⟩
    · exact ⟨⟨by show 1 ≤ 1000000; omega, by show 2 ≤ 1000000; omega, fun a ha => by
        simp only [List.mem_cons, List.not_mem_nil, or_false] at ha
        rcases ha with rfl | rfl
        · show 1 ≤ 1000000; omega
        · show 1 ≤ 1000000; omega⟩, by show (3 : Int) = 2 → False; decide⟩
  · have hr0 := run_2 (d := 5) ex_parts (by decide) (by decide)
    have hr : runS [⟨0, 0, 1, [], [exA]⟩, ⟨5, 0, 3, [1], [exB, exC]⟩] = (v2, v3, v4) := hr
    rw [hr0] at hr
    injection hr with e2 e34
    injection e34 with e3 e4
    subst e2 e3 e4
    have hreg := reg_L2 (d := 5) (u := 36865) ex_parts (by decide) (by decide) (by decide) (by decide)
    have hl3 : (L2 5 36865 exA exB exC).length = 3 := rfl
    obtain ⟨g1, g2, _⟩ := heirs_go (n := 1) (d := 9) hreg (by omega) (by decide) (by decide) (by decide) (by rw [hl3]; decide) (by show (0 : Int) ≤ 9; decide)
    obtain ⟨g4, _, g6⟩ := heirs_go (n := 1) (d := 5) hreg (by omega) (by decide) (by decide) (by decide) (by rw [hl3]; decide) (by show (0 : Int) ≤ 5; decide)
    rw [heirs_L2 (by decide) (by decide) (by decide)] at g2
    rw [heirs_L2 (by decide) (by decide) (by decide)] at g6
    rw [g1] at h6
    rw [g2] at h5
    rw [g6] at h7
    rw [g4] at h8
    have hx := ex_share
    subst h5 h6 h8
    rw [← h7] at hx
    have hl7 : v7.length = 2 := by rw [h7]; rfl
    clear h7 g6 g4 g1 g2 hr0 hreg hl3
    refine IFB.yes rfl ?_
    refine JOIN.opq fun (J : Bool → Prop) hJ => ?_
    refine IFB.yes rfl fun v11 h11 => ?_
    have h11 : v11 = true := h11.2 rfl
    subst h11
    rw [hJ]
    dsimp only
    refine fun _ => ⟨fun _ => ⟨Int.NonNeg.mk 1, by omega⟩, ?_⟩
    rw [hx, hl7]
    exact hp

end RE
end Go.Proofs.YtpeggkeenboacaaGreat
set_option maxRecDepth 100000
set_option linter.unusedVariables false
namespace Go.Proofs.YtpeggkeenboacaaGreat
open Go.RowKit
namespace RE
open PL

def lMerges_C : CtxR := ⟨tau, [ruleN 12, rule1 kland_sp, rule1 rboth_sp, rule1 rwou_sp, rule1 prunV_sp, rule1 pon_sp, rule1 rsame_sp, rule1 pheirsV_sp, rule1 rints_sp, rule1 pawake_sp], lookJ []⟩
def lMerges_W (l : List (Int)) (cut : Int) (day : Int) (post : Bool → Prop) : Prop := (Int.NonNeg (8 : Int) ∧ Int.NonNeg (16375 : Int) ∧ Int.NonNeg (3 : Int) ∧ (3 : Int) ≤ (100 : Int)) ∧ ∀ (v1 : api_Region), (validP v1.1 ∧ (v1.1 = [] → False) ∧ ∀ (x y : Int), cov v1.1 x y = true → x < (9 : Int) ∧ y < (9 : Int)) → ((9 : Int) = (0 : Int) → False) ∧ True ∧ ((↑(bothS v1.1 [{ Left := (0 : Int), Low := (0 : Int), Right := IntKind.i64.wrap ((1 : Int) + (IntKind.i64.wrap cut).tmod (9 : Int)), High := (20 : Int) : api_Rect }]).1.length : Int) ≤ (9223372036854775807 : Int) → (gx false (decide ((↑(bothS v1.1 [{ Left := (0 : Int), Low := (0 : Int), Right := IntKind.i64.wrap ((1 : Int) + (IntKind.i64.wrap cut).tmod (9 : Int)), High := (20 : Int) : api_Rect }]).1.length : Int) = (0 : Int))) = true → (↑(wouS v1.1 (bothS v1.1 [{ Left := (0 : Int), Low := (0 : Int), Right := IntKind.i64.wrap ((1 : Int) + (IntKind.i64.wrap cut).tmod (9 : Int)), High := (20 : Int) : api_Rect }]).1).1.length : Int) ≤ (9223372036854775807 : Int)) → IFB (decide ((↑(bothS v1.1 [{ Left := (0 : Int), Low := (0 : Int), Right := IntKind.i64.wrap ((1 : Int) + (IntKind.i64.wrap cut).tmod (9 : Int)), High := (20 : Int) : api_Rect }]).1.length : Int) = (0 : Int)) || decide ((↑(wouS v1.1 (bothS v1.1 [{ Left := (0 : Int), Low := (0 : Int), Right := IntKind.i64.wrap ((1 : Int) + (IntKind.i64.wrap cut).tmod (9 : Int)), High := (20 : Int) : api_Rect }]).1).1.length : Int) = (0 : Int))) (post true) (((20 : Int) = (0 : Int) → False) ∧ ([{ Day := (0 : Int), Known := (0 : Int), Kind := (1 : Int), Parcels := [], Regions := [{ Rects := v1.1 : api_Region }] : api_Edit }, { Day := IntKind.i64.wrap ((1 : Int) + (IntKind.i64.wrap day).tmod (20 : Int)), Known := (0 : Int), Kind := (3 : Int), Parcels := [(1 : Int)], Regions := [{ Rects := (bothS v1.1 [{ Left := (0 : Int), Low := (0 : Int), Right := IntKind.i64.wrap ((1 : Int) + (IntKind.i64.wrap cut).tmod (9 : Int)), High := (20 : Int) : api_Rect }]).1 : api_Region }, { Rects := (wouS v1.1 (bothS v1.1 [{ Left := (0 : Int), Low := (0 : Int), Right := IntKind.i64.wrap ((1 : Int) + (IntKind.i64.wrap cut).tmod (9 : Int)), High := (20 : Int) : api_Rect }]).1).1 : api_Region }] : api_Edit }, { Day := IntKind.i64.wrap (IntKind.i64.wrap ((1 : Int) + (IntKind.i64.wrap day).tmod (20 : Int)) + (1 : Int)), Known := (0 : Int), Kind := (4 : Int), Parcels := [(2 : Int), (3 : Int)], Regions := [] : api_Edit }].length ≤ (1000000 : Nat) ∧ ∀ (v2 : api_Edit), v2 ∈ [{ Day := (0 : Int), Known := (0 : Int), Kind := (1 : Int), Parcels := [], Regions := [{ Rects := v1.1 : api_Region }] : api_Edit }, { Day := IntKind.i64.wrap ((1 : Int) + (IntKind.i64.wrap day).tmod (20 : Int)), Known := (0 : Int), Kind := (3 : Int), Parcels := [(1 : Int)], Regions := [{ Rects := (bothS v1.1 [{ Left := (0 : Int), Low := (0 : Int), Right := IntKind.i64.wrap ((1 : Int) + (IntKind.i64.wrap cut).tmod (9 : Int)), High := (20 : Int) : api_Rect }]).1 : api_Region }, { Rects := (wouS v1.1 (bothS v1.1 [{ Left := (0 : Int), Low := (0 : Int), Right := IntKind.i64.wrap ((1 : Int) + (IntKind.i64.wrap cut).tmod (9 : Int)), High := (20 : Int) : api_Rect }]).1).1 : api_Region }] : api_Edit }, { Day := IntKind.i64.wrap (IntKind.i64.wrap ((1 : Int) + (IntKind.i64.wrap day).tmod (20 : Int)) + (1 : Int)), Known := (0 : Int), Kind := (4 : Int), Parcels := [(2 : Int), (3 : Int)], Regions := [] : api_Edit }] → szE v2 ∧ (v2.3 = (2 : Int) → False)) ∧ ∀ (v3 : List api_Parcel) (v4 v5 : Int), szL v3 ∧ runS [{ Day := (0 : Int), Known := (0 : Int), Kind := (1 : Int), Parcels := [], Regions := [{ Rects := v1.1 : api_Region }] : api_Edit }, { Day := IntKind.i64.wrap ((1 : Int) + (IntKind.i64.wrap day).tmod (20 : Int)), Known := (0 : Int), Kind := (3 : Int), Parcels := [(1 : Int)], Regions := [{ Rects := (bothS v1.1 [{ Left := (0 : Int), Low := (0 : Int), Right := IntKind.i64.wrap ((1 : Int) + (IntKind.i64.wrap cut).tmod (9 : Int)), High := (20 : Int) : api_Rect }]).1 : api_Region }, { Rects := (wouS v1.1 (bothS v1.1 [{ Left := (0 : Int), Low := (0 : Int), Right := IntKind.i64.wrap ((1 : Int) + (IntKind.i64.wrap cut).tmod (9 : Int)), High := (20 : Int) : api_Rect }]).1).1 : api_Region }] : api_Edit }, { Day := IntKind.i64.wrap (IntKind.i64.wrap ((1 : Int) + (IntKind.i64.wrap day).tmod (20 : Int)) + (1 : Int)), Known := (0 : Int), Kind := (4 : Int), Parcels := [(2 : Int), (3 : Int)], Regions := [] : api_Edit }] = (v3, v4, v5) → szL v3 ∧ ∀ (v6 : List api_Rect) (v7 : Bool), v6 = (onS v3 (4 : Int) (IntKind.i64.wrap (IntKind.i64.wrap ((1 : Int) + (IntKind.i64.wrap day).tmod (20 : Int)) + (1 : Int)))).1 ∧ (v7 = true ↔ onP v3 (4 : Int) (IntKind.i64.wrap (IntKind.i64.wrap ((1 : Int) + (IntKind.i64.wrap day).tmod (20 : Int)) + (1 : Int)))) → szL v3 ∧ ∀ (v8 : List api_Rect) (v9 : Bool), v8 = (onS v3 (2 : Int) (IntKind.i64.wrap ((1 : Int) + (IntKind.i64.wrap day).tmod (20 : Int)))).1 ∧ (v9 = true ↔ onP v3 (2 : Int) (IntKind.i64.wrap ((1 : Int) + (IntKind.i64.wrap day).tmod (20 : Int)))) → szL v3 ∧ ∀ (v10 : List Int) (v11 : Int), v10 = heirsS v3 (1 : Int) (IntKind.i64.wrap (IntKind.i64.wrap ((1 : Int) + (IntKind.i64.wrap day).tmod (20 : Int)) + (5 : Int))) ∧ v11 = heirE v3 (1 : Int) (IntKind.i64.wrap (IntKind.i64.wrap ((1 : Int) + (IntKind.i64.wrap day).tmod (20 : Int)) + (5 : Int))) → szL v3 ∧ ∀ (v12 : List Int) (v13 : Int), v12 = heirsS v3 (3 : Int) (IntKind.i64.wrap (IntKind.i64.wrap ((1 : Int) + (IntKind.i64.wrap day).tmod (20 : Int)) + (1 : Int))) ∧ v13 = heirE v3 (3 : Int) (IntKind.i64.wrap (IntKind.i64.wrap ((1 : Int) + (IntKind.i64.wrap day).tmod (20 : Int)) + (1 : Int))) → JOIN [Ty.bool] (fun (y14 : Bool) ↦ JOIN [Ty.bool] (fun (y15 : Bool) ↦ IFB (gx true (decide (v5 = (0 : Int)) && decide (v4 = (3 : Int)) && v7 && y14 && v9 && y15 && decide (v11 = (0 : Int)))) (JOIN [Ty.bool] (fun (y16 : Bool) ↦ IFB (gx true (decide (v5 = (0 : Int)) && decide (v4 = (3 : Int)) && v7 && y14 && v9 && y15 && decide (v11 = (0 : Int)) && y16 && decide (v13 = (0 : Int)))) (JOIN [Ty.bool] (fun (y17 : Bool) ↦ JOIN [Ty.bool] (fun (y18 : Bool) ↦ post (decide (v5 = (0 : Int)) && decide (v4 = (3 : Int)) && v7 && y14 && v9 && y15 && decide (v11 = (0 : Int)) && y16 && decide (v13 = (0 : Int)) && y17 && y18)) fun (J19 : Bool → Prop) ↦ IFB (gx true (decide (v5 = (0 : Int)) && decide (v4 = (3 : Int)) && v7 && y14 && v9 && y15 && decide (v11 = (0 : Int)) && y16 && decide (v13 = (0 : Int)) && y17)) (J19 true) (J19 false)) fun (J20 : Bool → Prop) ↦ IFB (gx true (decide (v5 = (0 : Int)) && decide (v4 = (3 : Int)) && v7 && y14 && v9 && y15 && decide (v11 = (0 : Int)) && y16 && decide (v13 = (0 : Int)))) (∀ (v21 : Bool), (v21 = true ↔ v12 = [(4 : Int)]) → J20 v21) (J20 false)) (JOIN [Ty.bool] (fun (y22 : Bool) ↦ JOIN [Ty.bool] (fun (y23 : Bool) ↦ post (decide (v5 = (0 : Int)) && decide (v4 = (3 : Int)) && v7 && y14 && v9 && y15 && decide (v11 = (0 : Int)) && y16 && decide (v13 = (0 : Int)) && y22 && y23)) fun (J24 : Bool → Prop) ↦ IFB (gx true (decide (v5 = (0 : Int)) && decide (v4 = (3 : Int)) && v7 && y14 && v9 && y15 && decide (v11 = (0 : Int)) && y16 && decide (v13 = (0 : Int)) && y22)) (J24 true) (J24 false)) fun (J25 : Bool → Prop) ↦ IFB (gx true (decide (v5 = (0 : Int)) && decide (v4 = (3 : Int)) && v7 && y14 && v9 && y15 && decide (v11 = (0 : Int)) && y16 && decide (v13 = (0 : Int)))) False (J25 false))) fun (J26 : Bool → Prop) ↦ IFB (gx true (decide (v5 = (0 : Int)) && decide (v4 = (3 : Int)) && v7 && y14 && v9 && y15 && decide (v11 = (0 : Int)))) (∀ (v27 : Bool), (v27 = true ↔ v10 = [(4 : Int)]) → J26 v27) (J26 false)) (JOIN [Ty.bool] (fun (y28 : Bool) ↦ IFB (gx true (decide (v5 = (0 : Int)) && decide (v4 = (3 : Int)) && v7 && y14 && v9 && y15 && decide (v11 = (0 : Int)) && y28 && decide (v13 = (0 : Int)))) (JOIN [Ty.bool] (fun (y29 : Bool) ↦ JOIN [Ty.bool] (fun (y30 : Bool) ↦ post (decide (v5 = (0 : Int)) && decide (v4 = (3 : Int)) && v7 && y14 && v9 && y15 && decide (v11 = (0 : Int)) && y28 && decide (v13 = (0 : Int)) && y29 && y30)) fun (J31 : Bool → Prop) ↦ IFB (gx true (decide (v5 = (0 : Int)) && decide (v4 = (3 : Int)) && v7 && y14 && v9 && y15 && decide (v11 = (0 : Int)) && y28 && decide (v13 = (0 : Int)) && y29)) (J31 true) (J31 false)) fun (J32 : Bool → Prop) ↦ IFB (gx true (decide (v5 = (0 : Int)) && decide (v4 = (3 : Int)) && v7 && y14 && v9 && y15 && decide (v11 = (0 : Int)) && y28 && decide (v13 = (0 : Int)))) (∀ (v33 : Bool), (v33 = true ↔ v12 = [(4 : Int)]) → J32 v33) (J32 false)) (JOIN [Ty.bool] (fun (y34 : Bool) ↦ JOIN [Ty.bool] (fun (y35 : Bool) ↦ post (decide (v5 = (0 : Int)) && decide (v4 = (3 : Int)) && v7 && y14 && v9 && y15 && decide (v11 = (0 : Int)) && y28 && decide (v13 = (0 : Int)) && y34 && y35)) fun (J36 : Bool → Prop) ↦ IFB (gx true (decide (v5 = (0 : Int)) && decide (v4 = (3 : Int)) && v7 && y14 && v9 && y15 && decide (v11 = (0 : Int)) && y28 && decide (v13 = (0 : Int)) && y34)) (J36 true) (J36 false)) fun (J37 : Bool → Prop) ↦ IFB (gx true (decide (v5 = (0 : Int)) && decide (v4 = (3 : Int)) && v7 && y14 && v9 && y15 && decide (v11 = (0 : Int)) && y28 && decide (v13 = (0 : Int)))) False (J37 false))) fun (J38 : Bool → Prop) ↦ IFB (gx true (decide (v5 = (0 : Int)) && decide (v4 = (3 : Int)) && v7 && y14 && v9 && y15 && decide (v11 = (0 : Int)))) False (J38 false))) fun (J39 : Bool → Prop) ↦ IFB (gx true (decide (v5 = (0 : Int)) && decide (v4 = (3 : Int)) && v7 && y14 && v9)) (v8.length ≤ (1000000000 : Nat) ∧ ∀ (v40 : Bool), (v40 = true ↔ { Rects := v8 : api_Region } = { Rects := (bothS v1.1 [{ Left := (0 : Int), Low := (0 : Int), Right := IntKind.i64.wrap ((1 : Int) + (IntKind.i64.wrap cut).tmod (9 : Int)), High := (20 : Int) : api_Rect }]).1 : api_Region }) → J39 v40) (J39 false)) fun (J41 : Bool → Prop) ↦ IFB (gx true (decide (v5 = (0 : Int)) && decide (v4 = (3 : Int)) && v7)) (v6.length ≤ (1000000000 : Nat) ∧ ∀ (v42 : Bool), (v42 = true ↔ { Rects := v6 : api_Region } = { Rects := v1.1 : api_Region }) → J41 v42) (J41 false)))
theorem lMerges_w (l : List (Int)) (cut : Int) (day : Int) (post : Bool → Prop) : lMerges_W l cut day post = lawG (callR Tryz.prog lMerges_C (drawF Tryz.prog tau) 10 0) 5 [tv (.sl (.int .i64)) l, tv (.int .u8) cut, tv (.int .u8) day] post := by kernel_rfl
theorem lMerges_calls (l : List (Int)) (cut : Int) (day : Int) (h : lMerges_W l cut day fun b => b = true) {w : World} {S : Cells} {us : List Value} (h1 : ∀ b o, S b o → b < w.heap.size) (h3 : us.length = 3) (h4 : ∀ (i : Nat) (d : D) (u : Value), [tv (.sl (.int .i64)) l, tv (.int .u8) cut, tv (.int .u8) day][i]? = some d → us[i]? = some u → Rd S w d u) : Calls Tryz.prog 5 us.toArray w fun e w' => (∃ b, e = .returned (.bool b) ∧ b = true) ∧ Below w.heap.size w w' := lawG_okH (cp := callR Tryz.prog lMerges_C (drawF Tryz.prog tau) 10 0) (callR_ok (C := lMerges_C) (dr := drawF Tryz.prog tau) (.cons (ruleN_ok knew_ok) (.cons (rule1_ok kland_ok) (.cons (rule1_ok rboth_ok) (.cons (rule1_ok rwou_ok) (.cons (rule1_ok prunV_ok) (.cons (rule1_ok pon_ok) (.cons (rule1_ok rsame_ok) (.cons (rule1_ok pheirsV_ok) (.cons (rule1_ok rints_ok) (.cons (rule1_ok pawake_ok) .nil)))))))))) (drawF_ok tau) 10 0) (HoldW.of (lMerges_w l cut day fun b => b = true) h) h1 h3 h4
theorem wf_u8 {a : Int} (h : (Lit.int .u8 a).wf = true) : 0 ≤ a ∧ a ≤ 255 := by
  simp [Lit.wf, IntKind.min, IntKind.max, IntKind.bits, IntKind.signed] at h; omega
theorem small_valid {l : List Rc} (h : Canon l) (hb : ∀ x y, cov l x y = true → 0 ≤ x ∧ x < 9 ∧ 0 ≤ y ∧ y < 9) : validP l := by
  have hl := canon_len h (x0 := 0) (x1 := 9) (y0 := 0) (y1 := 9) (by omega) (by omega) hb
  have e : (9 - 0 : Int) * (9 - 0) = 81 := rfl
  rw [e] at hl
  exact ⟨by omega, canon_proper h (n := 9) (m := 9) (by omega) (by omega) hb, h⟩
theorem proper_nn {l : List Rc} (h : ∀ r ∈ l, proper r) {x y : Int} (hc : cov l x y = true) : 0 ≤ x ∧ 0 ≤ y := by
  obtain ⟨r, hr, hh⟩ := cov_mem.1 hc
  have := hit_iff.1 hh
  obtain ⟨p1, p2, p3, p4, p5, p6⟩ := h r hr
  omega
theorem out_pcl {n s u d : Int} {ps : List Int} {a : Rn} : outlS (pcl n s u ps a) d = a := by
  have e : outlS (pcl n s u ps a) d = if s ≤ d then a else a := rfl
  rw [e]; split <;> rfl
theorem on_go {l : List Pc} {n d : Int} (h : onP l n d) : onS l n d = outlS (ix l (n - 1)) d := by unfold onS; rw [if_pos h]
set_option maxHeartbeats 1000000 in
theorem lMerges_h (l : List Int) (cut day : Int) (w1 : (Lit.int .u8 cut).wf = true) (w2 : (Lit.int .u8 day).wf = true) : lMerges_W l cut day fun b => b = true := by
  obtain ⟨b1, b2⟩ := wf_u8 w1
  obtain ⟨b3, b4⟩ := wf_u8 w2
  have ec : ∃ c : Int, IntKind.i64.wrap ((1 : Int) + (IntKind.i64.wrap cut).tmod (9 : Int)) = c ∧ 1 ≤ c ∧ c ≤ 9 := ⟨1 + cut % 9, by rw [wrap_in (z := cut) (by omega) (by omega), Int.tmod_eq_emod_of_nonneg b1, wrap_in (by omega) (by omega)], by omega, by omega⟩
  have ed : ∃ d : Int, IntKind.i64.wrap ((1 : Int) + (IntKind.i64.wrap day).tmod (20 : Int)) = d ∧ 1 ≤ d ∧ d ≤ 20 := ⟨1 + day % 20, by rw [wrap_in (z := day) (by omega) (by omega), Int.tmod_eq_emod_of_nonneg b3, wrap_in (by omega) (by omega)], by omega, by omega⟩
  obtain ⟨c, ec, c1, c2⟩ := ec
  obtain ⟨d, ed, d1, d2⟩ := ed
  unfold lMerges_W
  rw [ec, ed, wrap_in (z := d + 1) (by omega) (by omega), wrap_in (z := d + 5) (by omega) (by omega)]
  clear ec ed w1 w2 b1 b2 b3 b4
  refine ⟨⟨Int.NonNeg.mk 8, Int.NonNeg.mk 16375, Int.NonNeg.mk 3, by decide⟩, fun v1 ⟨hv, hne, hbox⟩ => ⟨by decide, trivial, ?_⟩⟩
  obtain ⟨A⟩ := v1
  dsimp only at hv hne hbox ⊢
  have hb9 : ∀ x y, cov A x y = true → 0 ≤ x ∧ x < 9 ∧ 0 ≤ y ∧ y < 9 := fun x y h => by
    have := proper_nn hv.2.1 h
    have := hbox x y h
    omega
  have hR : validP [(⟨0, 0, c, 20⟩ : Rc)] := (prop_one (r := ⟨0, 0, c, 20⟩) ⟨by show (0 : Int) ≤ 0; decide, by show 0 < c; omega, by show c ≤ 16384; omega, by show (0 : Int) ≤ 0; decide, by show (0 : Int) < 20; decide, by show (20 : Int) ≤ 16384; decide⟩).2
  obtain ⟨q1, q2⟩ := comb_ok (howS_0 2) A [(⟨0, 0, c, 20⟩ : Rc)]
  have eb : (bothS A [(⟨0, 0, c, 20⟩ : Rc)]).1 = canonF (comb (howS 2) A [(⟨0, 0, c, 20⟩ : Rc)]) := by
    unfold bothS
    rw [if_neg (fun h => h ⟨hv, hR⟩)]
    split
    · rename_i h
      have := (small_valid q1 fun x y hc => hb9 x y (by
        rw [q2] at hc
        unfold comb howS at hc
        simp at hc; exact hc.1)).1
      omega
    · rfl
  rw [eb]
  have cb : ∀ x y, cov (canonF (comb (howS 2) A [(⟨0, 0, c, 20⟩ : Rc)])) x y = (cov A x y && cov [(⟨0, 0, c, 20⟩ : Rc)] x y) := fun x y => by
    rw [q2]; rfl
  generalize canonF (comb (howS 2) A [(⟨0, 0, c, 20⟩ : Rc)]) = B at *
  clear q2 eb
  have vB : validP B := small_valid q1 fun x y hc => hb9 x y (by
    rw [cb, Bool.and_eq_true] at hc; exact hc.1)
  obtain ⟨r1, r2⟩ := comb_ok (howS_0 3) A B
  have cc : ∀ x y, cov (canonF (comb (howS 3) A B)) x y = (cov A x y && !cov B x y) := fun x y => by
    rw [r2]; rfl
  have vC : validP (canonF (comb (howS 3) A B)) := small_valid r1 fun x y hc => hb9 x y (by
    rw [cc, Bool.and_eq_true] at hc; exact hc.1)
  have ew : (wouS A B).1 = canonF (comb (howS 3) A B) := by
    unfold wouS notC
    rw [if_neg (fun h => h ⟨hv, vB⟩), if_neg (by have := vC.1; omega)]
  rw [ew]
  generalize canonF (comb (howS 3) A B) = C at *
  clear r2 ew
  intro _ _
  refine IFB.mk (fun _ => rfl) (fun hc => ?_)
  have hc : ¬ (B.length = 0 ∨ C.length = 0) := by
    intro h
    have : (decide ((B.length : Int) = 0) || decide ((C.length : Int) = 0)) = true := by
      rw [Bool.or_eq_true, decide_eq_true_eq, decide_eq_true_eq]; omega
    rw [this] at hc; cases hc
  have hP : Parts ⟨A⟩ ⟨B⟩ ⟨C⟩ := ⟨⟨fun h => hne h, hv⟩, ⟨fun h => hc (.inl (by rw [show B = [] from h]; rfl)), vB⟩, ⟨fun h => hc (.inr (by rw [show C = [] from h]; rfl)), vC⟩, fun x y ⟨h1, h2⟩ => by
    have h1 : cov B x y = true := h1
    have h2 : cov C x y = true := h2
    rw [cc, h1] at h2; simp at h2, fun x y => by
    show cov A x y = (cov B x y || cov C x y)
    rw [cc, cb]
    cases cov A x y <;> cases cov [(⟨0, 0, c, 20⟩ : Rc)] x y <;> rfl⟩
  have nA : A.length ≤ 1000000 := by have := hv.1; omega
  have nB : B.length ≤ 1000000 := by have := vB.1; omega
  have nC : C.length ≤ 1000000 := by have := vC.1; omega
  refine ⟨by decide, ⟨by show 3 ≤ 1000000; omega, fun v h => ?_⟩, fun v3 v4 v5 ⟨hz, hr⟩ => ?_⟩
  · simp only [List.mem_cons, List.not_mem_nil, or_false] at h
    rcases h with rfl | rfl | rfl
    · exact ⟨⟨by show 0 ≤ 1000000; omega, by show 1 ≤ 1000000; omega, fun a ha => by rw [List.mem_singleton.1 ha]; exact nA⟩, by show (1 : Int) = 2 → False; decide⟩
    · exact ⟨⟨by show 1 ≤ 1000000; omega, by show 2 ≤ 1000000; omega, fun a ha => by
        simp only [List.mem_cons, List.not_mem_nil, or_false] at ha
        rcases ha with rfl | rfl
        · exact nB
        · exact nC⟩, by show (3 : Int) = 2 → False; decide⟩
    · exact ⟨⟨by show 2 ≤ 1000000; omega, by show 0 ≤ 1000000; omega, fun a ha => by cases ha⟩, by show (4 : Int) = 2 → False; decide⟩
  rw [run_3 hP (by omega) (by omega)] at hr
  injection hr with e2 e34
  injection e34 with e3 e4
  subst e2 e3 e4
  have hreg := reg_L3 (d := d) hP (by omega) (by omega)
  have hl4 : (L3 d ⟨A⟩ ⟨B⟩ ⟨C⟩).length = 4 := rfl
  have hck := check_reg hreg (by omega)
  have on4 : onP (L3 d ⟨A⟩ ⟨B⟩ ⟨C⟩) 4 (d + 1) := ⟨by decide, by rw [hl4]; decide, hck, (by show d + 1 ≤ d + 1; omega), (by show d + 1 < 36865; omega)⟩
  have on2 : onP (L3 d ⟨A⟩ ⟨B⟩ ⟨C⟩) 2 d := ⟨by decide, by rw [hl4]; decide, hck, (by show d ≤ d; omega), (by show d < d + 1; omega)⟩
  have o4 : onS (L3 d ⟨A⟩ ⟨B⟩ ⟨C⟩) 4 (d + 1) = ⟨A⟩ := by rw [on_go on4]; exact out_pcl
  have o2 : onS (L3 d ⟨A⟩ ⟨B⟩ ⟨C⟩) 2 d = ⟨B⟩ := by rw [on_go on2]; exact out_pcl
  obtain ⟨g1, g2, _⟩ := heirs_go (n := 1) (d := d + 5) hreg (by omega) (by omega) (by omega) (by decide) (by rw [hl4]; decide) (by show (0 : Int) ≤ d + 5; omega)
  obtain ⟨g3, g4, _⟩ := heirs_go (n := 3) (d := d + 1) hreg (by omega) (by omega) (by omega) (by decide) (by rw [hl4]; decide) (by show d ≤ d + 1; omega)
  rw [heirs_L3 (by omega) (by omega) (by omega)] at g2
  rw [heirs_L3b (by omega) (by omega) (by omega)] at g4
  refine ⟨hz, fun v6 v7 ⟨h6, h7⟩ => ⟨hz, fun v8 v9 ⟨h8, h9⟩ => ⟨hz, fun v10 v11 ⟨h10, h11⟩ => ⟨hz, fun v12 v13 ⟨h12, h13⟩ => ?_⟩⟩⟩⟩
  have h7 : v7 = true := h7.2 on4
  have h9 : v9 = true := h9.2 on2
  rw [o4] at h6
  rw [o2] at h8
  rw [g2] at h10
  rw [g1] at h11
  rw [g4] at h12
  rw [g3] at h13
  have h6 : v6 = A := h6
  have h8 : v8 = B := h8
  subst h7
  subst h9
  subst h6
  subst h8
  subst h10
  subst h11
  subst h12
  subst h13
  clear g1 g2 g3 g4 o4 o2 on4 on2 hck hreg hz
  refine JOIN.opq fun (J1 : Bool → Prop) hJ1 => IFB.yes rfl ⟨by omega, fun x hx => ?_⟩
  have hx : x = true := hx.2 rfl
  subst hx
  rw [hJ1]; dsimp only
  refine JOIN.opq fun (J2 : Bool → Prop) hJ2 => IFB.yes rfl ⟨by omega, fun x hx => ?_⟩
  have hx : x = true := hx.2 rfl
  subst hx
  rw [hJ2]; dsimp only
  refine IFB.yes rfl ?_
  refine JOIN.opq fun (J3 : Bool → Prop) hJ3 => IFB.yes rfl (fun x hx => ?_)
  have hx : x = true := hx.2 rfl
  subst hx
  rw [hJ3]; dsimp only
  refine IFB.yes rfl ?_
  refine JOIN.opq fun (J4 : Bool → Prop) hJ4 => IFB.yes rfl (fun x hx => ?_)
  have hx : x = true := hx.2 rfl
  subst hx
  rw [hJ4]; dsimp only
  refine JOIN.opq fun (J5 : Bool → Prop) hJ5 => IFB.yes rfl ?_
  rw [hJ5]
  rfl

end RE
end Go.Proofs.YtpeggkeenboacaaGreat
