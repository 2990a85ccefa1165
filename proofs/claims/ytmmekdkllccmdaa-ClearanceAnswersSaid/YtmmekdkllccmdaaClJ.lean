/-
  Chapter 41: the walk of ClearanceAnswers.
-/
import Derived.Test.YtmmekdkllccmdaaClG
namespace Go.Proofs.Ytmmekdkllccmdaa
open Go.RowKit
set_option linter.unusedVariables false
namespace Eng
namespace Clr
open Est (upV err rat)
def ans_l5b (Post : Bool → Prop) (x3 : List api_Finding) (x4 : List api_Spent) (rec5 : Unit → Prop) (x5 : Int) (v5 : Unit) : Prop :=
  (((!decide ((namE x3 x4 x5) = (namE x3 x4 x5))) == false) = true → (namS x3 x4 x5).length ≤ 4611686018427387903) ∧ (if ((!decide ((namE x3 x4 x5) = (namE x3 x4 x5))) || (!(decide ((namS x3 x4 x5) = (namS x3 x4 x5))))) = true then Post false else rec5 ())
def ans_l5e (rec4 : Unit → Prop) (v5 : Unit) : Prop :=
  rec4 ()
def ans_l4b (p3 : Int) (Post : Bool → Prop) (x3 : List api_Finding) (rec4 : Unit → Prop) (x4 : List api_Spent) (v4 : Unit) : Prop :=
  ((((!decide ((chkC x3 x4) = (chkC x3 x4))) || (!decide ((chkC x3 x4) = (chkC x3 x4)))) == false) = true → (corS x3 x4).length ≤ 4611686018427387903) ∧ (if (((!decide ((chkC x3 x4) = (chkC x3 x4))) || (!decide ((chkC x3 x4) = (chkC x3 x4)))) || (!(decide ((corS x3 x4) = (corS x3 x4))))) = true then Post false else ((w64 (((x4.length : Nat) : Int) + 1)) ≤ 9223372036854775807) ∧ forL (ans_l5b Post x3 x4) (ans_l5e rec4) ([p3, (Keep.md p3 (w64 (((x4.length : Nat) : Int) + 1)))] : List Int) ())
def ans_l4e (rec3 : Unit → Prop) (v4 : Unit) : Prop :=
  rec3 ()
def ans_l3b (p2 : List api_Spent) (p3 : Int) (Post : Bool → Prop) (z2 : List api_Spent) (v2 : List api_Spent) (rec3 : Unit → Prop) (x3 : List api_Finding) (v3 : Unit) : Prop :=
  forL (ans_l4b p3 Post x3) (ans_l4e rec3) ([z2, v2, p2] : List (List api_Spent)) ()
def ans_l3e (p4 : Int) (p5 : Int) (p6 : Int) (p7 : Int) (Post : Bool → Prop) (v3 : Unit) : Prop :=
  ∀ b1 : Bool, b1 = (((decide ((extV p4 p5 p6 p7) = (extV p4 p5 p6 p7)) && decide ((extE p4 p5 p6 p7) = (extE p4 p5 p6 p7))) && decide ((flatI p4) = (flatI p4))) && decide ((flatI (w64 ((Keep.md p4 8) - 1))) = (flatI (w64 ((Keep.md p4 8) - 1))))) → Post (b1 && true)
def ans_j2 (p1 : List api_Finding) (p2 : List api_Spent) (p3 : Int) (p4 : Int) (p5 : Int) (p6 : Int) (p7 : Int) (Post : Bool → Prop) (z1 : List api_Finding) (z2 : List api_Spent) (v1 : List api_Finding) (v2 : List api_Spent) : Prop :=
  forL (ans_l3b p2 p3 Post z2 v2) (ans_l3e p4 p5 p6 p7 Post) ([z1, v1, p1] : List (List api_Finding)) ()
def ans_j1 (p1 : List api_Finding) (p2 : List api_Spent) (p3 : Int) (p4 : Int) (p5 : Int) (p6 : Int) (p7 : Int) (Post : Bool → Prop) (z1 : List api_Finding) (z2 : List api_Spent) (v1 : List api_Finding) : Prop :=
  (if decide (0 < ((z2.length : Nat) : Int)) = true then (((z2.length : Nat) : Int) ≤ 9223372036854775807) ∧ ∀ z3 : Int, (0 ≤ z3) → (z3 < ((z2.length : Nat) : Int) ∨ z3 = 0) → (inb z2 z3) ∧ ∀ z4 : Int, (0 ≤ z4) → (z4 < 3 ∨ z4 = 0) → (if decide (z4 = 0) = true then ans_j2 p1 p2 p3 p4 p5 p6 p7 Post z1 z2 v1 (List.set z2 (Int.toNat z3) (⟨p4, (ix z2 z3).Scheme, (ix z2 z3).Amount⟩ : api_Spent)) else (if decide (z4 = 1) = true then ans_j2 p1 p2 p3 p4 p5 p6 p7 Post z1 z2 v1 (List.set z2 (Int.toNat z3) (⟨(ix z2 z3).Year, p4, (ix z2 z3).Amount⟩ : api_Spent)) else (if decide (z4 = 2) = true then ans_j2 p1 p2 p3 p4 p5 p6 p7 Post z1 z2 v1 (List.set z2 (Int.toNat z3) (⟨(ix z2 z3).Year, (ix z2 z3).Scheme, p4⟩ : api_Spent)) else ans_j2 p1 p2 p3 p4 p5 p6 p7 Post z1 z2 v1 z2))) else ans_j2 p1 p2 p3 p4 p5 p6 p7 Post z1 z2 v1 z2)
def ans_W (p1 : List api_Finding) (p2 : List api_Spent) (p3 : Int) (p4 : Int) (p5 : Int) (p6 : Int) (p7 : Int) (Post : Bool → Prop) : Prop :=
  (if (decide (30 < ((p1.length : Nat) : Int)) || decide (80 < ((p2.length : Nat) : Int))) = true then Post true else ∀ z1 : List api_Finding, (FGood z1) → ∀ z2 : List api_Spent, (SGood z2) → (apOK 40 ([] : List api_Finding).length z1.length) ∧ (apOK 24 ([] : List api_Spent).length z2.length) ∧ (if decide (0 < ((z1.length : Nat) : Int)) = true then (((z1.length : Nat) : Int) ≤ 9223372036854775807) ∧ ∀ z3 : Int, (0 ≤ z3) → (z3 < ((z1.length : Nat) : Int) ∨ z3 = 0) → (inb z1 z3) ∧ ∀ z4 : Int, (0 ≤ z4) → (z4 < 5 ∨ z4 = 0) → (if decide (z4 = 0) = true then ans_j1 p1 p2 p3 p4 p5 p6 p7 Post z1 z2 (List.set z1 (Int.toNat z3) (⟨p4, (ix z1 z3).Schemes, (ix z1 z3).From, (ix z1 z3).Until, (ix z1 z3).Mille⟩ : api_Finding)) else (if decide (z4 = 1) = true then ans_j1 p1 p2 p3 p4 p5 p6 p7 Post z1 z2 (List.set z1 (Int.toNat z3) (⟨(ix z1 z3).Number, p4, (ix z1 z3).From, (ix z1 z3).Until, (ix z1 z3).Mille⟩ : api_Finding)) else (if decide (z4 = 2) = true then ans_j1 p1 p2 p3 p4 p5 p6 p7 Post z1 z2 (List.set z1 (Int.toNat z3) (⟨(ix z1 z3).Number, (ix z1 z3).Schemes, p4, (ix z1 z3).Until, (ix z1 z3).Mille⟩ : api_Finding)) else (if decide (z4 = 3) = true then ans_j1 p1 p2 p3 p4 p5 p6 p7 Post z1 z2 (List.set z1 (Int.toNat z3) (⟨(ix z1 z3).Number, (ix z1 z3).Schemes, (ix z1 z3).From, p4, (ix z1 z3).Mille⟩ : api_Finding)) else (if decide (z4 = 4) = true then ans_j1 p1 p2 p3 p4 p5 p6 p7 Post z1 z2 (List.set z1 (Int.toNat z3) (⟨(ix z1 z3).Number, (ix z1 z3).Schemes, (ix z1 z3).From, (ix z1 z3).Until, p4⟩ : api_Finding)) else ans_j1 p1 p2 p3 p4 p5 p6 p7 Post z1 z2 z1))))) else ans_j1 p1 p2 p3 p4 p5 p6 p7 Post z1 z2 z1))
set_option maxRecDepth 100000 in
set_option maxHeartbeats 4000000 in
theorem ans_w (w : World) (a : Option Addr) (len cap : Nat) (hi : Keep.IntsAt w a len cap) (p1 : List api_Finding) (u1 : Value) (h1 : Rd (allS w) w (.sl 5 (p1.map api_Finding.av)) u1) (p2 : List api_Spent) (u2 : Value) (h2 : Rd (allS w) w (.sl 3 (p2.map api_Spent.av)) u2) (p3 : Int) (p4 : Int) (p5 : Int) (p6 : Int) (p7 : Int) (H : ans_W p1 p2 p3 p4 p5 p6 p7 (fun r => r = true)) : Calls Try.prog 3 #[.slice a len cap, u1, u2, .int .i64 p3, .int .i64 p4, .int .i64 p5, .int .i64 p6, .int .i64 p7] w fun e w' => e = .returned (.bool true) ∧ Below w.heap.size w w' := by
  have hsrc := src_all hi
  obtain ⟨Post, hPost⟩ : ∃ Q : Bool → Prop, Q = (fun r => r = true) := ⟨_, rfl⟩
  rw [← hPost] at H
  refine law_of (S := allS w) (args := [.d (.v (.slice a len cap)), .d (.sl 5 (p1.map api_Finding.av)), .d (.sl 3 (p2.map api_Spent.av)), .d (iD p3), .d (iD p4), .d (iD p5), .d (iD p6), .d (iD p7)]) (vals := [.slice a len cap, u1, u2, .int .i64 p3, .int .i64 p4, .int .i64 p5, .int .i64 p6, .int .i64 p7]) Try.func3 rfl rfl rfl rfl rfl (fun _ _ h => h) rfl (fun i s u hs hu => ?_) ?_
  · match i, hs, hu with
    | 0, hs, hu =>
      have e1 := Option.some.inj hs; have e2 := Option.some.inj hu; subst e1 e2; exact .d _ _ (.v _)
    | 1, hs, hu =>
      have e1 := Option.some.inj hs; have e2 := Option.some.inj hu; subst e1 e2; exact .d _ _ h1
    | 2, hs, hu =>
      have e1 := Option.some.inj hs; have e2 := Option.some.inj hu; subst e1 e2; exact .d _ _ h2
    | 3, hs, hu =>
      have e1 := Option.some.inj hs; have e2 := Option.some.inj hu; subst e1 e2; exact .d _ _ (.v _)
    | 4, hs, hu =>
      have e1 := Option.some.inj hs; have e2 := Option.some.inj hu; subst e1 e2; exact .d _ _ (.v _)
    | 5, hs, hu =>
      have e1 := Option.some.inj hs; have e2 := Option.some.inj hu; subst e1 e2; exact .d _ _ (.v _)
    | 6, hs, hu =>
      have e1 := Option.some.inj hs; have e2 := Option.some.inj hu; subst e1 e2; exact .d _ _ (.v _)
    | 7, hs, hu =>
      have e1 := Option.some.inj hs; have e2 := Option.some.inj hu; subst e1 e2; exact .d _ _ (.v _)
    | n + 8, hs, hu => simp at hs
  unfold ans_W at H
  refine AC.seq ?_
  refine AC.region ?_
  refine AO.pure (PureOp.assignD (SLe.eq rfl)) rfl rfl ?_
  refine AO.nil ?_
  refine thenQ_normal ?_
  refine AC.seq ?_
  refine AC.seq ?_
  refine AC.region ?_
  refine AO.pure (PureOp.moveD (SLe.eq rfl)) rfl rfl ?_
  refine AO.pure (PureOp.lenL (e := 32) (s' := 5) (sz := 5) (l := p1) (av := api_Finding.av) (SLe.eq rfl) (by kernel_rfl)) rfl rfl ?_
  refine AO.pure (PureOp.gtr (SLe.eq rfl) (SLe.eq rfl)) rfl rfl ?_
  refine AO.pure (PureOp.moveD (SLe.eq rfl)) rfl rfl ?_
  refine AO.guarded rfl rfl (fun hG => PureOp.moveD (SLe.eq rfl)) rfl rfl ?_
  refine AO.guarded rfl rfl (fun hG => PureOp.lenL (e := 36) (s' := 3) (sz := 3) (l := p2) (av := api_Spent.av) (SLe.cnd rfl hG) (by kernel_rfl)) rfl rfl ?_
  refine AO.guarded rfl rfl (fun hG => PureOp.gtr (SLe.cnd rfl hG) (SLe.eq rfl)) rfl rfl ?_
  refine AO.pure (PureOp.pickOr (SLe.eq rfl) rfl rfl (fun h => beq_f h)) rfl rfl ?_
  refine AO.nil ?_
  refine thenQ_normal ?_
  refine AC.cond (SLe.eq rfl) (fun hb => ?_) (fun hb => ?_)
  · skip
    replace H := ite_t H hb
    refine AC.seq ?_
    refine AC.region ?_
    refine AO.pure (PureOp.callS .nil (b_awake) (by kernel_rfl)) rfl rfl ?_
    refine AO.pure (PureOp.assignD (SLe.eq rfl)) rfl rfl ?_
    refine AO.nil ?_
    refine thenQ_normal ?_
    refine AC.ret ?_
    refine thenQ_ret ?_
    refine ⟨rfl, _, ?_, ResOf.one (GetR.flat (SLe.eq rfl) rfl)⟩
    exact congrArg (fun b => D.v (.bool b)) (lawpost hPost H)
  · skip
    replace H := ite_f H hb
    refine AC.skip ?_
    refine thenQ_normal ?_
    refine AC.seq ?_
    refine AC.region ?_
    refine AO.pure (PureOp.moveD (SLe.eq rfl)) rfl rfl ?_
    refine AO.newT (SLe.eq rfl) hsrc (fun b hb => hb) (fun b hb => hb) rfl rfl rfl rfl ?_
    refine AO.pure (PureOp.assignT (SLe.eq rfl)) rfl rfl ?_
    refine AO.nil ?_
    refine thenQ_normal ?_
    refine AC.seq ?_
    refine AC.region ?_
    refine AO.pure (PureOp.moveT (SLe.eq rfl)) rfl rfl ?_
    refine AO.tcallS (.tp (SLe.eq rfl) .nil) (b_fin) rfl (by kernel_rfl) rfl ?_
    rintro _ ⟨z1, rfl, h1⟩
    replace H := H z1 h1
    refine AO.pure (PureOp.moveT (SLe.eq rfl)) rfl rfl ?_
    refine AO.tcallS (.tp (SLe.eq rfl) .nil) (b_spe) rfl (by kernel_rfl) rfl ?_
    rintro _ ⟨z2, rfl, h2⟩
    replace H := H z2 h2
    refine AO.pure (PureOp.assignD (SLe.eq rfl)) rfl rfl ?_
    refine AO.pure (PureOp.assignD (SLe.eq rfl)) rfl rfl ?_
    refine AO.nil ?_
    refine thenQ_normal ?_
    refine AC.seq ?_
    refine AC.region ?_
    refine AO.buildOwn (e := 32) (sz := 5) (z := .agg #[.int .i64 0, .int .i64 0, .int .i64 0, .int .i64 0, .int .i64 0]) (rows := []) (by kernel_rfl) (by kernel_rfl) rfl rfl rfl .nil rfl rfl rfl rfl rfl rfl ?_
    refine AO.pure (PureOp.moveD (SLe.eq rfl)) rfl rfl ?_
    obtain ⟨g1, H⟩ := H
    refine AO.appendL (e := 32) (sz := 5) (bs := 40) (av := api_Finding.av) ([] : List api_Finding) z1 (SLe.eq rfl) rfl (SLe.eq rfl) (by kernel_rfl) g1 rfl ?_
    refine AO.buildOwn (e := 36) (sz := 3) (z := .agg #[.int .i64 0, .int .i64 0, .int .i64 0]) (rows := []) (by kernel_rfl) (by kernel_rfl) rfl rfl rfl .nil rfl rfl rfl rfl rfl rfl ?_
    refine AO.pure (PureOp.moveD (SLe.eq rfl)) rfl rfl ?_
    obtain ⟨g2, H⟩ := H
    refine AO.appendL (e := 36) (sz := 3) (bs := 24) (av := api_Spent.av) ([] : List api_Spent) z2 (SLe.eq rfl) rfl (SLe.eq rfl) (by kernel_rfl) g2 rfl ?_
    refine AO.pure (PureOp.assignO (SLe.eq rfl)) rfl rfl ?_
    refine AO.pure (PureOp.assignO (SLe.eq rfl)) rfl rfl ?_
    refine AO.nil ?_
    refine thenQ_normal ?_
    refine AC.seqJ (ι := List api_Finding) (fun v1 => ⟨[(1, .d (.sl 5 (p1.map api_Finding.av))), (2, .d (.sl 3 (p2.map api_Spent.av))), (3, .d (iD p3)), (4, .d (iD p4)), (5, .d (iD p5)), (6, .d (iD p6)), (7, .d (iD p7)), (17, .tp), (18, .d (.sl 5 (z1.map api_Finding.av))), (19, .d (.sl 3 (z2.map api_Spent.av))), (20, .os 1), (21, .os 3)], [], [(1, ⟨32, 5, v1.map api_Finding.av⟩), (3, ⟨36, 3, z2.map api_Spent.av⟩)], 4, true, 264⟩) (fun v1 => ans_j1 p1 p2 p3 p4 p5 p6 p7 Post z1 z2 v1) ?_ ?_
    · skip
      refine AC.seq ?_
      refine AC.region ?_
      refine AO.pure (PureOp.moveO (SLe.eq rfl)) rfl rfl ?_
      refine AO.pure (PureOp.lenOL (e := 32) (s' := 5) (sz := 5) (l := z1) (av := api_Finding.av) (SLe.eq rfl) rfl rfl (by kernel_rfl)) rfl rfl ?_
      refine AO.pure (PureOp.gtr (SLe.eq rfl) (SLe.eq rfl)) rfl rfl ?_
      refine AO.nil ?_
      refine thenQ_normal ?_
      refine AC.cond (SLe.eq rfl) (fun hb => ?_) (fun hb => ?_)
      · skip
        replace H := ite_t H hb
        refine AC.seq ?_
        refine AC.region ?_
        refine AO.pure (PureOp.moveO (SLe.eq rfl)) rfl rfl ?_
        refine AO.pure (PureOp.moveT (SLe.eq rfl)) rfl rfl ?_
        refine AO.pure (PureOp.moveO (SLe.eq rfl)) rfl rfl ?_
        refine AO.pure (PureOp.lenOL (e := 32) (s' := 5) (sz := 5) (l := z1) (av := api_Finding.av) (SLe.eq rfl) rfl rfl (by kernel_rfl)) rfl rfl ?_
        obtain ⟨g3, H⟩ := H
        refine AO.tcallS (.tp (SLe.eq rfl) (.cons (SLe.eq rfl) .nil)) ((next_c ((z1.length : Nat) : Int) g3).any) rfl (by kernel_rfl) rfl ?_
        rintro _ ⟨z3, rfl, h3, h4⟩
        replace H := H z3 h3 h4
        obtain ⟨g4, H⟩ := H
        refine AO.pure (PureOp.idxOI (e := 32) (sz := 5) (l := z1) (SLe.eq rfl) rfl (SLe.eq rfl) g4 rfl (by kernel_rfl)) rfl rfl ?_
        refine AO.pure (PureOp.assignP (SLe.eq rfl)) rfl rfl ?_
        refine AO.nil ?_
        refine thenQ_normal ?_
        refine AC.seq ?_
        refine AC.region ?_
        refine AO.pure (PureOp.moveT (SLe.eq rfl)) rfl rfl ?_
        refine AO.tcallS (.tp (SLe.eq rfl) (.cons (SLe.eq rfl) .nil)) ((next_c 5 (by decide)).any) rfl (by kernel_rfl) rfl ?_
        rintro _ ⟨z4, rfl, h5, h6⟩
        replace H := H z4 h5 h6
        refine AO.nil ?_
        refine thenQ_normal ?_
        refine AC.block ?_
        refine AC.seq ?_
        refine AC.region ?_
        refine AO.pure (PureOp.eql (SLe.eq rfl) (SLe.eq rfl)) rfl rfl ?_
        refine AO.pure (PureOp.assignD (SLe.eq rfl)) rfl rfl ?_
        refine AO.nil ?_
        refine thenQ_normal ?_
        refine AC.cond (SLe.eq rfl) (fun hb => ?_) (fun hb => ?_)
        · skip
          replace H := ite_t H hb
          refine AC.region ?_
          refine AO.pure (PureOp.moveP (SLe.eq rfl)) rfl rfl ?_
          refine AO.pure (PureOp.moveD (SLe.eq rfl)) rfl rfl ?_
          refine AO.pure (PureOp.nilCheckO (SLe.eq rfl)) rfl rfl ?_
          refine AO.pure (PureOp.fldOK (off := (Int.toNat z3) * 5) (j := 0) (k := 0) (SLe.eq rfl) (by kernel_rfl)) rfl rfl ?_
          refine AO.storeL (n := (Int.toNat z3)) (j := 0) (ks := [(iD p4)]) z1 (z := (ix z1 z3)) (⟨p4, (ix z1 z3).Schemes, (ix z1 z3).From, (ix z1 z3).Until, (ix z1 z3).Mille⟩ : api_Finding) (SLe.eq rfl) (SLe.eq rfl) rfl rfl rfl (by kernel_rfl) (ix_get g4).1 rfl rfl rfl ?_
          refine AO.nil ?_
          refine blockQ_normal ?_
          refine thenQ_normal ?_
          refine ⟨(List.set z1 (Int.toNat z3) (⟨p4, (ix z1 z3).Schemes, (ix z1 z3).From, (ix z1 z3).Until, (ix z1 z3).Mille⟩ : api_Finding)), H, ?_⟩
          exact Le.mk [(1, 1), (3, 3)] ⟨⟨SLe.eq rfl, rfl⟩, ⟨SLe.eq rfl, rfl⟩, ⟨SLe.eq rfl, rfl⟩, ⟨SLe.eq rfl, rfl⟩, ⟨SLe.eq rfl, rfl⟩, ⟨SLe.eq rfl, rfl⟩, ⟨SLe.eq rfl, rfl⟩, ⟨SLe.eq rfl, rfl⟩, ⟨SLe.eq rfl, rfl⟩, ⟨SLe.eq rfl, rfl⟩, rfl, rfl, trivial⟩ trivial ⟨⟨_, rfl, rfl⟩, ⟨_, rfl, rfl⟩, trivial⟩ rfl rfl rfl rfl rfl
        · skip
          replace H := ite_f H hb
          refine AC.seq ?_
          refine AC.region ?_
          refine AO.pure (PureOp.eql (SLe.eq rfl) (SLe.eq rfl)) rfl rfl ?_
          refine AO.pure (PureOp.assignD (SLe.eq rfl)) rfl rfl ?_
          refine AO.nil ?_
          refine thenQ_normal ?_
          refine AC.cond (SLe.eq rfl) (fun hb => ?_) (fun hb => ?_)
          · skip
            replace H := ite_t H hb
            refine AC.region ?_
            refine AO.pure (PureOp.moveP (SLe.eq rfl)) rfl rfl ?_
            refine AO.pure (PureOp.moveD (SLe.eq rfl)) rfl rfl ?_
            refine AO.pure (PureOp.nilCheckO (SLe.eq rfl)) rfl rfl ?_
            refine AO.pure (PureOp.fldOK (off := (Int.toNat z3) * 5) (j := 0) (k := 1) (SLe.eq rfl) (by kernel_rfl)) rfl rfl ?_
            refine AO.storeL (n := (Int.toNat z3)) (j := 1) (ks := [(iD p4)]) z1 (z := (ix z1 z3)) (⟨(ix z1 z3).Number, p4, (ix z1 z3).From, (ix z1 z3).Until, (ix z1 z3).Mille⟩ : api_Finding) (SLe.eq rfl) (SLe.eq rfl) rfl rfl rfl (by kernel_rfl) (ix_get g4).1 rfl rfl rfl ?_
            refine AO.nil ?_
            refine blockQ_normal ?_
            refine thenQ_normal ?_
            refine ⟨(List.set z1 (Int.toNat z3) (⟨(ix z1 z3).Number, p4, (ix z1 z3).From, (ix z1 z3).Until, (ix z1 z3).Mille⟩ : api_Finding)), H, ?_⟩
            exact Le.mk [(1, 1), (3, 3)] ⟨⟨SLe.eq rfl, rfl⟩, ⟨SLe.eq rfl, rfl⟩, ⟨SLe.eq rfl, rfl⟩, ⟨SLe.eq rfl, rfl⟩, ⟨SLe.eq rfl, rfl⟩, ⟨SLe.eq rfl, rfl⟩, ⟨SLe.eq rfl, rfl⟩, ⟨SLe.eq rfl, rfl⟩, ⟨SLe.eq rfl, rfl⟩, ⟨SLe.eq rfl, rfl⟩, rfl, rfl, trivial⟩ trivial ⟨⟨_, rfl, rfl⟩, ⟨_, rfl, rfl⟩, trivial⟩ rfl rfl rfl rfl rfl
          · skip
            replace H := ite_f H hb
            refine AC.seq ?_
            refine AC.region ?_
            refine AO.pure (PureOp.eql (SLe.eq rfl) (SLe.eq rfl)) rfl rfl ?_
            refine AO.pure (PureOp.assignD (SLe.eq rfl)) rfl rfl ?_
            refine AO.nil ?_
            refine thenQ_normal ?_
            refine AC.cond (SLe.eq rfl) (fun hb => ?_) (fun hb => ?_)
            · skip
              replace H := ite_t H hb
              refine AC.region ?_
              refine AO.pure (PureOp.moveP (SLe.eq rfl)) rfl rfl ?_
              refine AO.pure (PureOp.moveD (SLe.eq rfl)) rfl rfl ?_
              refine AO.pure (PureOp.nilCheckO (SLe.eq rfl)) rfl rfl ?_
              refine AO.pure (PureOp.fldOK (off := (Int.toNat z3) * 5) (j := 0) (k := 2) (SLe.eq rfl) (by kernel_rfl)) rfl rfl ?_
              refine AO.storeL (n := (Int.toNat z3)) (j := 2) (ks := [(iD p4)]) z1 (z := (ix z1 z3)) (⟨(ix z1 z3).Number, (ix z1 z3).Schemes, p4, (ix z1 z3).Until, (ix z1 z3).Mille⟩ : api_Finding) (SLe.eq rfl) (SLe.eq rfl) rfl rfl rfl (by kernel_rfl) (ix_get g4).1 rfl rfl rfl ?_
              refine AO.nil ?_
              refine blockQ_normal ?_
              refine thenQ_normal ?_
              refine ⟨(List.set z1 (Int.toNat z3) (⟨(ix z1 z3).Number, (ix z1 z3).Schemes, p4, (ix z1 z3).Until, (ix z1 z3).Mille⟩ : api_Finding)), H, ?_⟩
              exact Le.mk [(1, 1), (3, 3)] ⟨⟨SLe.eq rfl, rfl⟩, ⟨SLe.eq rfl, rfl⟩, ⟨SLe.eq rfl, rfl⟩, ⟨SLe.eq rfl, rfl⟩, ⟨SLe.eq rfl, rfl⟩, ⟨SLe.eq rfl, rfl⟩, ⟨SLe.eq rfl, rfl⟩, ⟨SLe.eq rfl, rfl⟩, ⟨SLe.eq rfl, rfl⟩, ⟨SLe.eq rfl, rfl⟩, rfl, rfl, trivial⟩ trivial ⟨⟨_, rfl, rfl⟩, ⟨_, rfl, rfl⟩, trivial⟩ rfl rfl rfl rfl rfl
            · skip
              replace H := ite_f H hb
              refine AC.seq ?_
              refine AC.region ?_
              refine AO.pure (PureOp.eql (SLe.eq rfl) (SLe.eq rfl)) rfl rfl ?_
              refine AO.pure (PureOp.assignD (SLe.eq rfl)) rfl rfl ?_
              refine AO.nil ?_
              refine thenQ_normal ?_
              refine AC.cond (SLe.eq rfl) (fun hb => ?_) (fun hb => ?_)
              · skip
                replace H := ite_t H hb
                refine AC.region ?_
                refine AO.pure (PureOp.moveP (SLe.eq rfl)) rfl rfl ?_
                refine AO.pure (PureOp.moveD (SLe.eq rfl)) rfl rfl ?_
                refine AO.pure (PureOp.nilCheckO (SLe.eq rfl)) rfl rfl ?_
                refine AO.pure (PureOp.fldOK (off := (Int.toNat z3) * 5) (j := 0) (k := 3) (SLe.eq rfl) (by kernel_rfl)) rfl rfl ?_
                refine AO.storeL (n := (Int.toNat z3)) (j := 3) (ks := [(iD p4)]) z1 (z := (ix z1 z3)) (⟨(ix z1 z3).Number, (ix z1 z3).Schemes, (ix z1 z3).From, p4, (ix z1 z3).Mille⟩ : api_Finding) (SLe.eq rfl) (SLe.eq rfl) rfl rfl rfl (by kernel_rfl) (ix_get g4).1 rfl rfl rfl ?_
                refine AO.nil ?_
                refine blockQ_normal ?_
                refine thenQ_normal ?_
                refine ⟨(List.set z1 (Int.toNat z3) (⟨(ix z1 z3).Number, (ix z1 z3).Schemes, (ix z1 z3).From, p4, (ix z1 z3).Mille⟩ : api_Finding)), H, ?_⟩
                exact Le.mk [(1, 1), (3, 3)] ⟨⟨SLe.eq rfl, rfl⟩, ⟨SLe.eq rfl, rfl⟩, ⟨SLe.eq rfl, rfl⟩, ⟨SLe.eq rfl, rfl⟩, ⟨SLe.eq rfl, rfl⟩, ⟨SLe.eq rfl, rfl⟩, ⟨SLe.eq rfl, rfl⟩, ⟨SLe.eq rfl, rfl⟩, ⟨SLe.eq rfl, rfl⟩, ⟨SLe.eq rfl, rfl⟩, rfl, rfl, trivial⟩ trivial ⟨⟨_, rfl, rfl⟩, ⟨_, rfl, rfl⟩, trivial⟩ rfl rfl rfl rfl rfl
              · skip
                replace H := ite_f H hb
                refine AC.seq ?_
                refine AC.region ?_
                refine AO.pure (PureOp.eql (SLe.eq rfl) (SLe.eq rfl)) rfl rfl ?_
                refine AO.pure (PureOp.assignD (SLe.eq rfl)) rfl rfl ?_
                refine AO.nil ?_
                refine thenQ_normal ?_
                refine AC.cond (SLe.eq rfl) (fun hb => ?_) (fun hb => ?_)
                · skip
                  replace H := ite_t H hb
                  refine AC.region ?_
                  refine AO.pure (PureOp.moveP (SLe.eq rfl)) rfl rfl ?_
                  refine AO.pure (PureOp.moveD (SLe.eq rfl)) rfl rfl ?_
                  refine AO.pure (PureOp.nilCheckO (SLe.eq rfl)) rfl rfl ?_
                  refine AO.pure (PureOp.fldOK (off := (Int.toNat z3) * 5) (j := 0) (k := 4) (SLe.eq rfl) (by kernel_rfl)) rfl rfl ?_
                  refine AO.storeL (n := (Int.toNat z3)) (j := 4) (ks := [(iD p4)]) z1 (z := (ix z1 z3)) (⟨(ix z1 z3).Number, (ix z1 z3).Schemes, (ix z1 z3).From, (ix z1 z3).Until, p4⟩ : api_Finding) (SLe.eq rfl) (SLe.eq rfl) rfl rfl rfl (by kernel_rfl) (ix_get g4).1 rfl rfl rfl ?_
                  refine AO.nil ?_
                  refine blockQ_normal ?_
                  refine thenQ_normal ?_
                  refine ⟨(List.set z1 (Int.toNat z3) (⟨(ix z1 z3).Number, (ix z1 z3).Schemes, (ix z1 z3).From, (ix z1 z3).Until, p4⟩ : api_Finding)), H, ?_⟩
                  exact Le.mk [(1, 1), (3, 3)] ⟨⟨SLe.eq rfl, rfl⟩, ⟨SLe.eq rfl, rfl⟩, ⟨SLe.eq rfl, rfl⟩, ⟨SLe.eq rfl, rfl⟩, ⟨SLe.eq rfl, rfl⟩, ⟨SLe.eq rfl, rfl⟩, ⟨SLe.eq rfl, rfl⟩, ⟨SLe.eq rfl, rfl⟩, ⟨SLe.eq rfl, rfl⟩, ⟨SLe.eq rfl, rfl⟩, rfl, rfl, trivial⟩ trivial ⟨⟨_, rfl, rfl⟩, ⟨_, rfl, rfl⟩, trivial⟩ rfl rfl rfl rfl rfl
                · skip
                  replace H := ite_f H hb
                  refine AC.skip ?_
                  refine blockQ_normal ?_
                  refine thenQ_normal ?_
                  refine ⟨z1, H, ?_⟩
                  exact Le.mk [(1, 1), (3, 3)] ⟨⟨SLe.eq rfl, rfl⟩, ⟨SLe.eq rfl, rfl⟩, ⟨SLe.eq rfl, rfl⟩, ⟨SLe.eq rfl, rfl⟩, ⟨SLe.eq rfl, rfl⟩, ⟨SLe.eq rfl, rfl⟩, ⟨SLe.eq rfl, rfl⟩, ⟨SLe.eq rfl, rfl⟩, ⟨SLe.eq rfl, rfl⟩, ⟨SLe.eq rfl, rfl⟩, rfl, rfl, trivial⟩ trivial ⟨⟨_, rfl, rfl⟩, ⟨_, rfl, rfl⟩, trivial⟩ rfl rfl rfl rfl rfl
      · skip
        replace H := ite_f H hb
        refine AC.skip ?_
        refine thenQ_normal ?_
        refine ⟨z1, H, ?_⟩
        exact Le.mk [(1, 1), (3, 3)] ⟨⟨SLe.eq rfl, rfl⟩, ⟨SLe.eq rfl, rfl⟩, ⟨SLe.eq rfl, rfl⟩, ⟨SLe.eq rfl, rfl⟩, ⟨SLe.eq rfl, rfl⟩, ⟨SLe.eq rfl, rfl⟩, ⟨SLe.eq rfl, rfl⟩, ⟨SLe.eq rfl, rfl⟩, ⟨SLe.eq rfl, rfl⟩, ⟨SLe.eq rfl, rfl⟩, rfl, rfl, trivial⟩ trivial ⟨⟨_, rfl, rfl⟩, ⟨_, rfl, rfl⟩, trivial⟩ rfl rfl rfl rfl rfl
    · intro v1 H
      unfold ans_j1 at H
      change AC _ _ _ _ _ ⟨[(1, .d (.sl 5 (p1.map api_Finding.av))), (2, .d (.sl 3 (p2.map api_Spent.av))), (3, .d (iD p3)), (4, .d (iD p4)), (5, .d (iD p5)), (6, .d (iD p6)), (7, .d (iD p7)), (17, .tp), (18, .d (.sl 5 (z1.map api_Finding.av))), (19, .d (.sl 3 (z2.map api_Spent.av))), (20, .os 1), (21, .os 3)], [], [(1, ⟨32, 5, v1.map api_Finding.av⟩), (3, ⟨36, 3, z2.map api_Spent.av⟩)], 4, true, 264⟩ _
      refine AC.seqJ (ι := List api_Spent) (fun v2 => ⟨[(1, .d (.sl 5 (p1.map api_Finding.av))), (2, .d (.sl 3 (p2.map api_Spent.av))), (3, .d (iD p3)), (4, .d (iD p4)), (5, .d (iD p5)), (6, .d (iD p6)), (7, .d (iD p7)), (18, .d (.sl 5 (z1.map api_Finding.av))), (19, .d (.sl 3 (z2.map api_Spent.av))), (20, .os 1), (21, .os 3)], [], [(1, ⟨32, 5, v1.map api_Finding.av⟩), (3, ⟨36, 3, v2.map api_Spent.av⟩)], 4, true, 264⟩) (fun v2 => ans_j2 p1 p2 p3 p4 p5 p6 p7 Post z1 z2 v1 v2) ?_ ?_
      · skip
        refine AC.seq ?_
        refine AC.region ?_
        refine AO.pure (PureOp.moveO (SLe.eq rfl)) rfl rfl ?_
        refine AO.pure (PureOp.lenOL (e := 36) (s' := 3) (sz := 3) (l := z2) (av := api_Spent.av) (SLe.eq rfl) rfl rfl (by kernel_rfl)) rfl rfl ?_
        refine AO.pure (PureOp.gtr (SLe.eq rfl) (SLe.eq rfl)) rfl rfl ?_
        refine AO.nil ?_
        refine thenQ_normal ?_
        refine AC.cond (SLe.eq rfl) (fun hb => ?_) (fun hb => ?_)
        · skip
          replace H := ite_t H hb
          refine AC.seq ?_
          refine AC.region ?_
          refine AO.pure (PureOp.moveO (SLe.eq rfl)) rfl rfl ?_
          refine AO.pure (PureOp.moveT (SLe.eq rfl)) rfl rfl ?_
          refine AO.pure (PureOp.moveO (SLe.eq rfl)) rfl rfl ?_
          refine AO.pure (PureOp.lenOL (e := 36) (s' := 3) (sz := 3) (l := z2) (av := api_Spent.av) (SLe.eq rfl) rfl rfl (by kernel_rfl)) rfl rfl ?_
          obtain ⟨g5, H⟩ := H
          refine AO.tcallS (.tp (SLe.eq rfl) (.cons (SLe.eq rfl) .nil)) ((next_c ((z2.length : Nat) : Int) g5).any) rfl (by kernel_rfl) rfl ?_
          rintro _ ⟨z5, rfl, h7, h8⟩
          replace H := H z5 h7 h8
          obtain ⟨g6, H⟩ := H
          refine AO.pure (PureOp.idxOI (e := 36) (sz := 3) (l := z2) (SLe.eq rfl) rfl (SLe.eq rfl) g6 rfl (by kernel_rfl)) rfl rfl ?_
          refine AO.pure (PureOp.assignP (SLe.eq rfl)) rfl rfl ?_
          refine AO.nil ?_
          refine thenQ_normal ?_
          refine AC.seq ?_
          refine AC.region ?_
          refine AO.pure (PureOp.moveT (SLe.eq rfl)) rfl rfl ?_
          refine AO.tcallS (.tp (SLe.eq rfl) (.cons (SLe.eq rfl) .nil)) ((next_c 3 (by decide)).any) rfl (by kernel_rfl) rfl ?_
          rintro _ ⟨z6, rfl, h9, h10⟩
          replace H := H z6 h9 h10
          refine AO.nil ?_
          refine thenQ_normal ?_
          refine AC.block ?_
          refine AC.seq ?_
          refine AC.region ?_
          refine AO.pure (PureOp.eql (SLe.eq rfl) (SLe.eq rfl)) rfl rfl ?_
          refine AO.pure (PureOp.assignD (SLe.eq rfl)) rfl rfl ?_
          refine AO.nil ?_
          refine thenQ_normal ?_
          refine AC.cond (SLe.eq rfl) (fun hb => ?_) (fun hb => ?_)
          · skip
            replace H := ite_t H hb
            refine AC.region ?_
            refine AO.pure (PureOp.moveP (SLe.eq rfl)) rfl rfl ?_
            refine AO.pure (PureOp.moveD (SLe.eq rfl)) rfl rfl ?_
            refine AO.pure (PureOp.nilCheckO (SLe.eq rfl)) rfl rfl ?_
            refine AO.pure (PureOp.fldOK (off := (Int.toNat z5) * 3) (j := 0) (k := 0) (SLe.eq rfl) (by kernel_rfl)) rfl rfl ?_
            refine AO.storeL (n := (Int.toNat z5)) (j := 0) (ks := [(iD p4)]) z2 (z := (ix z2 z5)) (⟨p4, (ix z2 z5).Scheme, (ix z2 z5).Amount⟩ : api_Spent) (SLe.eq rfl) (SLe.eq rfl) rfl rfl rfl (by kernel_rfl) (ix_get g6).1 rfl rfl rfl ?_
            refine AO.nil ?_
            refine blockQ_normal ?_
            refine thenQ_normal ?_
            refine ⟨(List.set z2 (Int.toNat z5) (⟨p4, (ix z2 z5).Scheme, (ix z2 z5).Amount⟩ : api_Spent)), H, ?_⟩
            exact Le.mk [(1, 1), (3, 3)] ⟨⟨SLe.eq rfl, rfl⟩, ⟨SLe.eq rfl, rfl⟩, ⟨SLe.eq rfl, rfl⟩, ⟨SLe.eq rfl, rfl⟩, ⟨SLe.eq rfl, rfl⟩, ⟨SLe.eq rfl, rfl⟩, ⟨SLe.eq rfl, rfl⟩, ⟨SLe.eq rfl, rfl⟩, ⟨SLe.eq rfl, rfl⟩, rfl, rfl, trivial⟩ trivial ⟨⟨_, rfl, rfl⟩, ⟨_, rfl, rfl⟩, trivial⟩ rfl rfl rfl rfl rfl
          · skip
            replace H := ite_f H hb
            refine AC.seq ?_
            refine AC.region ?_
            refine AO.pure (PureOp.eql (SLe.eq rfl) (SLe.eq rfl)) rfl rfl ?_
            refine AO.pure (PureOp.assignD (SLe.eq rfl)) rfl rfl ?_
            refine AO.nil ?_
            refine thenQ_normal ?_
            refine AC.cond (SLe.eq rfl) (fun hb => ?_) (fun hb => ?_)
            · skip
              replace H := ite_t H hb
              refine AC.region ?_
              refine AO.pure (PureOp.moveP (SLe.eq rfl)) rfl rfl ?_
              refine AO.pure (PureOp.moveD (SLe.eq rfl)) rfl rfl ?_
              refine AO.pure (PureOp.nilCheckO (SLe.eq rfl)) rfl rfl ?_
              refine AO.pure (PureOp.fldOK (off := (Int.toNat z5) * 3) (j := 0) (k := 1) (SLe.eq rfl) (by kernel_rfl)) rfl rfl ?_
              refine AO.storeL (n := (Int.toNat z5)) (j := 1) (ks := [(iD p4)]) z2 (z := (ix z2 z5)) (⟨(ix z2 z5).Year, p4, (ix z2 z5).Amount⟩ : api_Spent) (SLe.eq rfl) (SLe.eq rfl) rfl rfl rfl (by kernel_rfl) (ix_get g6).1 rfl rfl rfl ?_
              refine AO.nil ?_
              refine blockQ_normal ?_
              refine thenQ_normal ?_
              refine ⟨(List.set z2 (Int.toNat z5) (⟨(ix z2 z5).Year, p4, (ix z2 z5).Amount⟩ : api_Spent)), H, ?_⟩
              exact Le.mk [(1, 1), (3, 3)] ⟨⟨SLe.eq rfl, rfl⟩, ⟨SLe.eq rfl, rfl⟩, ⟨SLe.eq rfl, rfl⟩, ⟨SLe.eq rfl, rfl⟩, ⟨SLe.eq rfl, rfl⟩, ⟨SLe.eq rfl, rfl⟩, ⟨SLe.eq rfl, rfl⟩, ⟨SLe.eq rfl, rfl⟩, ⟨SLe.eq rfl, rfl⟩, rfl, rfl, trivial⟩ trivial ⟨⟨_, rfl, rfl⟩, ⟨_, rfl, rfl⟩, trivial⟩ rfl rfl rfl rfl rfl
            · skip
              replace H := ite_f H hb
              refine AC.seq ?_
              refine AC.region ?_
              refine AO.pure (PureOp.eql (SLe.eq rfl) (SLe.eq rfl)) rfl rfl ?_
              refine AO.pure (PureOp.assignD (SLe.eq rfl)) rfl rfl ?_
              refine AO.nil ?_
              refine thenQ_normal ?_
              refine AC.cond (SLe.eq rfl) (fun hb => ?_) (fun hb => ?_)
              · skip
                replace H := ite_t H hb
                refine AC.region ?_
                refine AO.pure (PureOp.moveP (SLe.eq rfl)) rfl rfl ?_
                refine AO.pure (PureOp.moveD (SLe.eq rfl)) rfl rfl ?_
                refine AO.pure (PureOp.nilCheckO (SLe.eq rfl)) rfl rfl ?_
                refine AO.pure (PureOp.fldOK (off := (Int.toNat z5) * 3) (j := 0) (k := 2) (SLe.eq rfl) (by kernel_rfl)) rfl rfl ?_
                refine AO.storeL (n := (Int.toNat z5)) (j := 2) (ks := [(iD p4)]) z2 (z := (ix z2 z5)) (⟨(ix z2 z5).Year, (ix z2 z5).Scheme, p4⟩ : api_Spent) (SLe.eq rfl) (SLe.eq rfl) rfl rfl rfl (by kernel_rfl) (ix_get g6).1 rfl rfl rfl ?_
                refine AO.nil ?_
                refine blockQ_normal ?_
                refine thenQ_normal ?_
                refine ⟨(List.set z2 (Int.toNat z5) (⟨(ix z2 z5).Year, (ix z2 z5).Scheme, p4⟩ : api_Spent)), H, ?_⟩
                exact Le.mk [(1, 1), (3, 3)] ⟨⟨SLe.eq rfl, rfl⟩, ⟨SLe.eq rfl, rfl⟩, ⟨SLe.eq rfl, rfl⟩, ⟨SLe.eq rfl, rfl⟩, ⟨SLe.eq rfl, rfl⟩, ⟨SLe.eq rfl, rfl⟩, ⟨SLe.eq rfl, rfl⟩, ⟨SLe.eq rfl, rfl⟩, ⟨SLe.eq rfl, rfl⟩, rfl, rfl, trivial⟩ trivial ⟨⟨_, rfl, rfl⟩, ⟨_, rfl, rfl⟩, trivial⟩ rfl rfl rfl rfl rfl
              · skip
                replace H := ite_f H hb
                refine AC.skip ?_
                refine blockQ_normal ?_
                refine thenQ_normal ?_
                refine ⟨z2, H, ?_⟩
                exact Le.mk [(1, 1), (3, 3)] ⟨⟨SLe.eq rfl, rfl⟩, ⟨SLe.eq rfl, rfl⟩, ⟨SLe.eq rfl, rfl⟩, ⟨SLe.eq rfl, rfl⟩, ⟨SLe.eq rfl, rfl⟩, ⟨SLe.eq rfl, rfl⟩, ⟨SLe.eq rfl, rfl⟩, ⟨SLe.eq rfl, rfl⟩, ⟨SLe.eq rfl, rfl⟩, rfl, rfl, trivial⟩ trivial ⟨⟨_, rfl, rfl⟩, ⟨_, rfl, rfl⟩, trivial⟩ rfl rfl rfl rfl rfl
        · skip
          replace H := ite_f H hb
          refine AC.skip ?_
          refine thenQ_normal ?_
          refine ⟨z2, H, ?_⟩
          exact Le.mk [(1, 1), (3, 3)] ⟨⟨SLe.eq rfl, rfl⟩, ⟨SLe.eq rfl, rfl⟩, ⟨SLe.eq rfl, rfl⟩, ⟨SLe.eq rfl, rfl⟩, ⟨SLe.eq rfl, rfl⟩, ⟨SLe.eq rfl, rfl⟩, ⟨SLe.eq rfl, rfl⟩, ⟨SLe.eq rfl, rfl⟩, ⟨SLe.eq rfl, rfl⟩, rfl, rfl, trivial⟩ trivial ⟨⟨_, rfl, rfl⟩, ⟨_, rfl, rfl⟩, trivial⟩ rfl rfl rfl rfl rfl
      · intro v2 H
        unfold ans_j2 at H
        change AC _ _ _ _ _ ⟨[(1, .d (.sl 5 (p1.map api_Finding.av))), (2, .d (.sl 3 (p2.map api_Spent.av))), (3, .d (iD p3)), (4, .d (iD p4)), (5, .d (iD p5)), (6, .d (iD p6)), (7, .d (iD p7)), (18, .d (.sl 5 (z1.map api_Finding.av))), (19, .d (.sl 3 (z2.map api_Spent.av))), (20, .os 1), (21, .os 3)], [], [(1, ⟨32, 5, v1.map api_Finding.av⟩), (3, ⟨36, 3, v2.map api_Spent.av⟩)], 4, true, 264⟩ _
        refine AC.seq ?_
        refine AC.seq ?_
        refine AC.region ?_
        refine AO.pure (PureOp.moveD (SLe.eq rfl)) rfl rfl ?_
        refine AO.pure (PureOp.moveO (SLe.eq rfl)) rfl rfl ?_
        refine AO.pure (PureOp.moveD (SLe.eq rfl)) rfl rfl ?_
        refine AO.le (Le.frz 1 32 5 (v1.map api_Finding.av) rfl rfl) ?_
        refine AO.pure (PureOp.buildSlice (e := 23) (sz := 1) (z := .slice none 0 0) (rows := [[(.sl 5 (z1.map api_Finding.av))], [(.sl 5 (v1.map api_Finding.av))], [(.sl 5 (p1.map api_Finding.av))]]) (by kernel_rfl) (by kernel_rfl) rfl rfl rfl (.cons (SLe.eq rfl) rfl (.cons (SLe.eq rfl) rfl (.cons (SLe.eq rfl) rfl .nil))) rfl rfl rfl rfl) rfl rfl ?_
        refine AO.pure (PureOp.lenL (e := 23) (s' := 1) (sz := 1) (l := ([z1, v1, p1] : List (List api_Finding))) (av := (fun z => [.sl 5 (z.map api_Finding.av)])) (SLe.eq rfl) (by kernel_rfl)) rfl rfl ?_
        refine AO.pure (PureOp.moveD (SLe.eq rfl)) rfl rfl ?_
        refine AO.nil ?_
        refine thenQ_normal ?_
        refine AC.block ?_
        refine AC.loop (ι := Nat × Unit) (fun q => ⟨[(2, .d (.sl 3 (p2.map api_Spent.av))), (3, .d (iD p3)), (4, .d (iD p4)), (5, .d (iD p5)), (6, .d (iD p6)), (7, .d (iD p7)), (19, .d (.sl 3 (z2.map api_Spent.av))), (21, .d (.sl 3 (v2.map api_Spent.av))), (136, .d (.sl 1 (([z1, v1, p1] : List (List api_Finding)).map (fun z => [.sl 5 (z.map api_Finding.av)])))), (137, .d (iD ((([z1, v1, p1] : List (List api_Finding)).length : Nat) : Int))), (138, .d (iD ((q.1 : Nat) : Int)))], [], [], 4, true, 264⟩) (fun q => q.1 ≤ ([z1, v1, p1] : List (List api_Finding)).length ∧ forL (ans_l3b p2 p3 Post z2 v2) (ans_l3e p4 p5 p6 p7 Post) (([z1, v1, p1] : List (List api_Finding)).drop q.1) q.2) (fun q => ([z1, v1, p1] : List (List api_Finding)).length - q.1) (0, ()) ?_ ⟨Nat.zero_le _, H⟩ ?_
        · skip
          refine Le.trans (Le.frz 3 36 3 (v2.map api_Spent.av) rfl rfl) ?_
          exact Le.mk [] ⟨⟨SLe.eq rfl, rfl⟩, ⟨SLe.eq rfl, rfl⟩, ⟨SLe.eq rfl, rfl⟩, ⟨SLe.eq rfl, rfl⟩, ⟨SLe.eq rfl, rfl⟩, ⟨SLe.eq rfl, rfl⟩, ⟨SLe.eq rfl, rfl⟩, ⟨SLe.eq rfl, rfl⟩, ⟨SLe.eq rfl, rfl⟩, ⟨SLe.eq rfl, rfl⟩, (by first | exact ⟨SLe.eq rfl, rfl⟩ | exact ⟨SLe.int rfl (by omega), rfl⟩), trivial⟩ trivial trivial rfl rfl rfl rfl rfl
        · rintro ⟨i3, v3⟩ ⟨hi3, H⟩
          dsimp only at hi3 H
          change AC _ _ _ _ _ ⟨[(2, .d (.sl 3 (p2.map api_Spent.av))), (3, .d (iD p3)), (4, .d (iD p4)), (5, .d (iD p5)), (6, .d (iD p6)), (7, .d (iD p7)), (19, .d (.sl 3 (z2.map api_Spent.av))), (21, .d (.sl 3 (v2.map api_Spent.av))), (136, .d (.sl 1 (([z1, v1, p1] : List (List api_Finding)).map (fun z => [.sl 5 (z.map api_Finding.av)])))), (137, .d (iD ((([z1, v1, p1] : List (List api_Finding)).length : Nat) : Int))), (138, .d (iD ((i3 : Nat) : Int)))], [], [], 4, true, 264⟩ _
          obtain ⟨rec3, hrec3⟩ : ∃ r, r = forL (ans_l3b p2 p3 Post z2 v2) (ans_l3e p4 p5 p6 p7 Post) (([z1, v1, p1] : List (List api_Finding)).drop (i3 + 1)) := ⟨_, rfl⟩
          refine AC.seq ?_
          refine AC.region ?_
          refine AO.pure (PureOp.lss (SLe.eq rfl) (SLe.eq rfl)) rfl rfl ?_
          refine AO.nil ?_
          refine thenQ_normal ?_
          refine AC.seq ?_
          refine AC.cond (SLe.eq rfl) (fun hb => ?_) (fun hb => ?_)
          · skip
            obtain ⟨x3, hx3, hd3, hlt3⟩ := drop_at (l := ([z1, v1, p1] : List (List api_Finding))) (i := i3) hb
            rw [hd3] at H
            replace H := forL_step H
            rw [← hrec3] at H
            unfold ans_l3b at H
            refine AC.len (av := (fun z => [.sl 5 (z.map api_Finding.av)])) (l := ([z1, v1, p1] : List (List api_Finding))) (t := 136) (SLe.eq rfl) (fun hL3 => ?_)
            refine AC.skip ?_
            refine thenQ_normal ?_
            refine AC.seq ?_
            refine AC.block ?_
            refine AC.seq ?_
            refine AC.region ?_
            refine AO.pure (PureOp.idxE (e := 23) (sz := 1) (av := (fun z => [.sl 5 (z.map api_Finding.av)])) (l := ([z1, v1, p1] : List (List api_Finding))) (n := i3) (z := x3) (SLe.eq rfl) (SLe.eq rfl) rfl hx3 (by kernel_rfl)) rfl rfl ?_
            refine AO.pure (PureOp.load1 (c := (.sl 5 (x3.map api_Finding.av))) (SLe.eq rfl) rfl (by kernel_rfl)) rfl rfl ?_
            refine AO.pure (PureOp.assignD (SLe.eq rfl)) rfl rfl ?_
            refine AO.nil ?_
            refine thenQ_normal ?_
            refine AC.seq ?_
            refine AC.region ?_
            refine AO.pure (PureOp.moveD (SLe.eq rfl)) rfl rfl ?_
            refine AO.pure (PureOp.moveD (SLe.eq rfl)) rfl rfl ?_
            refine AO.pure (PureOp.moveD (SLe.eq rfl)) rfl rfl ?_
            refine AO.pure (PureOp.buildSlice (e := 24) (sz := 1) (z := .slice none 0 0) (rows := [[(.sl 3 (z2.map api_Spent.av))], [(.sl 3 (v2.map api_Spent.av))], [(.sl 3 (p2.map api_Spent.av))]]) (by kernel_rfl) (by kernel_rfl) rfl rfl rfl (.cons (SLe.eq rfl) rfl (.cons (SLe.eq rfl) rfl (.cons (SLe.eq rfl) rfl .nil))) rfl rfl rfl rfl) rfl rfl ?_
            refine AO.pure (PureOp.lenL (e := 24) (s' := 1) (sz := 1) (l := ([z2, v2, p2] : List (List api_Spent))) (av := (fun z => [.sl 3 (z.map api_Spent.av)])) (SLe.eq rfl) (by kernel_rfl)) rfl rfl ?_
            refine AO.pure (PureOp.moveD (SLe.eq rfl)) rfl rfl ?_
            refine AO.nil ?_
            refine thenQ_normal ?_
            refine AC.block ?_
            refine AC.loop (ι := Nat × Unit) (fun q => ⟨[(2, .d (.sl 3 (p2.map api_Spent.av))), (3, .d (iD p3)), (4, .d (iD p4)), (5, .d (iD p5)), (6, .d (iD p6)), (7, .d (iD p7)), (19, .d (.sl 3 (z2.map api_Spent.av))), (21, .d (.sl 3 (v2.map api_Spent.av))), (25, .d (.sl 5 (x3.map api_Finding.av))), (136, .d (.sl 1 (([z1, v1, p1] : List (List api_Finding)).map (fun z => [.sl 5 (z.map api_Finding.av)])))), (137, .d (iD ((([z1, v1, p1] : List (List api_Finding)).length : Nat) : Int))), (138, .d (iD ((i3 : Nat) : Int))), (145, .d (.sl 1 (([z2, v2, p2] : List (List api_Spent)).map (fun z => [.sl 3 (z.map api_Spent.av)])))), (146, .d (iD ((([z2, v2, p2] : List (List api_Spent)).length : Nat) : Int))), (147, .d (iD ((q.1 : Nat) : Int)))], [], [], 4, true, 264⟩) (fun q => q.1 ≤ ([z2, v2, p2] : List (List api_Spent)).length ∧ forL (ans_l4b p3 Post x3) (ans_l4e rec3) (([z2, v2, p2] : List (List api_Spent)).drop q.1) q.2) (fun q => ([z2, v2, p2] : List (List api_Spent)).length - q.1) (0, ()) ?_ ⟨Nat.zero_le _, H⟩ ?_
            · skip
              exact Le.mk [] ⟨⟨SLe.eq rfl, rfl⟩, ⟨SLe.eq rfl, rfl⟩, ⟨SLe.eq rfl, rfl⟩, ⟨SLe.eq rfl, rfl⟩, ⟨SLe.eq rfl, rfl⟩, ⟨SLe.eq rfl, rfl⟩, ⟨SLe.eq rfl, rfl⟩, ⟨SLe.eq rfl, rfl⟩, ⟨SLe.eq rfl, rfl⟩, ⟨SLe.eq rfl, rfl⟩, ⟨SLe.eq rfl, rfl⟩, ⟨SLe.eq rfl, rfl⟩, ⟨SLe.eq rfl, rfl⟩, ⟨SLe.eq rfl, rfl⟩, (by first | exact ⟨SLe.eq rfl, rfl⟩ | exact ⟨SLe.int rfl (by omega), rfl⟩), trivial⟩ trivial trivial rfl rfl rfl rfl rfl
            · rintro ⟨i4, v4⟩ ⟨hi4, H⟩
              dsimp only at hi4 H
              change AC _ _ _ _ _ ⟨[(2, .d (.sl 3 (p2.map api_Spent.av))), (3, .d (iD p3)), (4, .d (iD p4)), (5, .d (iD p5)), (6, .d (iD p6)), (7, .d (iD p7)), (19, .d (.sl 3 (z2.map api_Spent.av))), (21, .d (.sl 3 (v2.map api_Spent.av))), (25, .d (.sl 5 (x3.map api_Finding.av))), (136, .d (.sl 1 (([z1, v1, p1] : List (List api_Finding)).map (fun z => [.sl 5 (z.map api_Finding.av)])))), (137, .d (iD ((([z1, v1, p1] : List (List api_Finding)).length : Nat) : Int))), (138, .d (iD ((i3 : Nat) : Int))), (145, .d (.sl 1 (([z2, v2, p2] : List (List api_Spent)).map (fun z => [.sl 3 (z.map api_Spent.av)])))), (146, .d (iD ((([z2, v2, p2] : List (List api_Spent)).length : Nat) : Int))), (147, .d (iD ((i4 : Nat) : Int)))], [], [], 4, true, 264⟩ _
              obtain ⟨rec4, hrec4⟩ : ∃ r, r = forL (ans_l4b p3 Post x3) (ans_l4e rec3) (([z2, v2, p2] : List (List api_Spent)).drop (i4 + 1)) := ⟨_, rfl⟩
              refine AC.seq ?_
              refine AC.region ?_
              refine AO.pure (PureOp.lss (SLe.eq rfl) (SLe.eq rfl)) rfl rfl ?_
              refine AO.nil ?_
              refine thenQ_normal ?_
              refine AC.seq ?_
              refine AC.cond (SLe.eq rfl) (fun hb => ?_) (fun hb => ?_)
              · skip
                obtain ⟨x4, hx4, hd4, hlt4⟩ := drop_at (l := ([z2, v2, p2] : List (List api_Spent))) (i := i4) hb
                rw [hd4] at H
                replace H := forL_step H
                rw [← hrec4] at H
                unfold ans_l4b at H
                refine AC.len (av := (fun z => [.sl 3 (z.map api_Spent.av)])) (l := ([z2, v2, p2] : List (List api_Spent))) (t := 145) (SLe.eq rfl) (fun hL4 => ?_)
                refine AC.skip ?_
                refine thenQ_normal ?_
                refine AC.seq ?_
                refine AC.block ?_
                refine AC.seq ?_
                refine AC.region ?_
                refine AO.pure (PureOp.idxE (e := 24) (sz := 1) (av := (fun z => [.sl 3 (z.map api_Spent.av)])) (l := ([z2, v2, p2] : List (List api_Spent))) (n := i4) (z := x4) (SLe.eq rfl) (SLe.eq rfl) rfl hx4 (by kernel_rfl)) rfl rfl ?_
                refine AO.pure (PureOp.load1 (c := (.sl 3 (x4.map api_Spent.av))) (SLe.eq rfl) rfl (by kernel_rfl)) rfl rfl ?_
                refine AO.pure (PureOp.assignD (SLe.eq rfl)) rfl rfl ?_
                refine AO.nil ?_
                refine thenQ_normal ?_
                refine AC.seq ?_
                refine AC.region ?_
                refine AO.pure (PureOp.moveD (SLe.eq rfl)) rfl rfl ?_
                refine AO.pure (PureOp.moveD (SLe.eq rfl)) rfl rfl ?_
                refine AO.pure (PureOp.callS (.cons (SLe.eq rfl) (.cons (SLe.eq rfl) .nil)) (bc_cor x3 x4) (by kernel_rfl)) rfl rfl ?_
                refine AO.pure (PureOp.moveD (SLe.eq rfl)) rfl rfl ?_
                refine AO.pure (PureOp.extract (c := (.sl 1 ((corS x3 x4).map avI))) (SLe.eq rfl) rfl) rfl rfl ?_
                refine AO.pure (PureOp.extract (c := (iD (chkC x3 x4))) (SLe.eq rfl) rfl) rfl rfl ?_
                refine AO.pure (PureOp.assignD (SLe.eq rfl)) rfl rfl ?_
                refine AO.pure (PureOp.assignD (SLe.eq rfl)) rfl rfl ?_
                refine AO.nil ?_
                refine thenQ_normal ?_
                refine AC.seq ?_
                refine AC.region ?_
                refine AO.pure (PureOp.moveD (SLe.eq rfl)) rfl rfl ?_
                refine AO.pure (PureOp.moveD (SLe.eq rfl)) rfl rfl ?_
                refine AO.pure (PureOp.callS (.cons (SLe.eq rfl) (.cons (SLe.eq rfl) .nil)) (br_cor x3 x4) (by kernel_rfl)) rfl rfl ?_
                refine AO.pure (PureOp.moveD (SLe.eq rfl)) rfl rfl ?_
                refine AO.pure (PureOp.extract (c := (.sl 1 ((corS x3 x4).map avI))) (SLe.eq rfl) rfl) rfl rfl ?_
                refine AO.pure (PureOp.extract (c := (iD (chkC x3 x4))) (SLe.eq rfl) rfl) rfl rfl ?_
                refine AO.pure (PureOp.assignD (SLe.eq rfl)) rfl rfl ?_
                refine AO.pure (PureOp.assignD (SLe.eq rfl)) rfl rfl ?_
                refine AO.nil ?_
                refine thenQ_normal ?_
                refine AC.seq ?_
                refine AC.seq ?_
                refine AC.region ?_
                refine AO.pure (PureOp.moveD (SLe.eq rfl)) rfl rfl ?_
                refine AO.pure (PureOp.moveD (SLe.eq rfl)) rfl rfl ?_
                refine AO.pure (PureOp.callS (.cons (SLe.eq rfl) (.cons (SLe.eq rfl) .nil)) (bc_chk x3 x4) (by kernel_rfl)) rfl rfl ?_
                refine AO.pure (PureOp.moveD (SLe.eq rfl)) rfl rfl ?_
                refine AO.pure (PureOp.moveD (SLe.eq rfl)) rfl rfl ?_
                refine AO.pure (PureOp.callS (.cons (SLe.eq rfl) (.cons (SLe.eq rfl) .nil)) (br_chk x3 x4) (by kernel_rfl)) rfl rfl ?_
                refine AO.pure (PureOp.neq (SLe.eq rfl) (SLe.eq rfl)) rfl rfl ?_
                refine AO.pure (PureOp.moveD (SLe.eq rfl)) rfl rfl ?_
                refine AO.guarded rfl rfl (fun hG => PureOp.moveD (SLe.eq rfl)) rfl rfl ?_
                refine AO.guarded rfl rfl (fun hG => PureOp.moveD (SLe.eq rfl)) rfl rfl ?_
                refine AO.guarded rfl rfl (fun hG => PureOp.neq (SLe.cnd rfl hG) (SLe.cnd rfl hG)) rfl rfl ?_
                refine AO.pure (PureOp.pickOr (SLe.eq rfl) rfl rfl (fun h => beq_f h)) rfl rfl ?_
                refine AO.pure (PureOp.moveD (SLe.eq rfl)) rfl rfl ?_
                refine AO.guarded rfl rfl (fun hG => PureOp.moveD (SLe.eq rfl)) rfl rfl ?_
                refine AO.guarded rfl rfl (fun hG => PureOp.moveD (SLe.eq rfl)) rfl rfl ?_
                obtain ⟨g7, H⟩ := H
                refine AO.guarded rfl rfl (fun hG => PureOp.callS (.cons (SLe.cnd rfl hG) (.cons (SLe.cnd rfl hG) .nil)) ((Vis.ints_any (corS x3 x4) (corS x3 x4) (g7 hG) (g7 hG)).any) (by kernel_rfl)) rfl rfl ?_
                refine AO.guarded rfl rfl (fun hG => PureOp.not (SLe.cnd rfl hG)) rfl rfl ?_
                refine AO.pure (PureOp.pickOr (SLe.eq rfl) rfl rfl (fun h => beq_f h)) rfl rfl ?_
                refine AO.nil ?_
                refine thenQ_normal ?_
                refine AC.cond (SLe.eq rfl) (fun hb => ?_) (fun hb => ?_)
                · skip
                  replace H := ite_t H hb
                  refine AC.seq ?_
                  refine AC.region ?_
                  refine AO.pure (PureOp.assignD (SLe.eq rfl)) rfl rfl ?_
                  refine AO.nil ?_
                  refine thenQ_normal ?_
                  refine AC.ret ?_
                  refine thenQ_ret ?_
                  refine blockQ_ret ?_
                  refine thenQ_ret ?_
                  refine thenQ_ret ?_
                  refine blockQ_ret ?_
                  refine blockQ_ret ?_
                  refine thenQ_ret ?_
                  refine thenQ_ret ?_
                  refine blockQ_ret ?_
                  refine thenQ_ret ?_
                  refine ⟨rfl, _, ?_, ResOf.one (GetR.flat (SLe.eq rfl) rfl)⟩
                  exact congrArg (fun b => D.v (.bool b)) (lawpost hPost H)
                · skip
                  replace H := ite_f H hb
                  refine AC.skip ?_
                  refine thenQ_normal ?_
                  refine AC.seq ?_
                  refine AC.region ?_
                  refine AO.pure (PureOp.moveD (SLe.eq rfl)) rfl rfl ?_
                  refine AO.pure (PureOp.moveD (SLe.eq rfl)) rfl rfl ?_
                  refine AO.pure (PureOp.moveD (SLe.eq rfl)) rfl rfl ?_
                  refine AO.pure (PureOp.lenL (e := 36) (s' := 3) (sz := 3) (l := x4) (av := api_Spent.av) (SLe.eq rfl) (by kernel_rfl)) rfl rfl ?_
                  refine AO.pure (PureOp.addW (SLe.eq rfl) (SLe.eq rfl)) rfl rfl ?_
                  obtain ⟨g8, H⟩ := H
                  refine AO.pure (PureOp.callS (.cons (SLe.eq rfl) (.cons (SLe.eq rfl) .nil)) (mod_fc p3 (w64 (((x4.length : Nat) : Int) + 1)) g8) (by kernel_rfl)) rfl rfl ?_
                  refine AO.pure (PureOp.buildSlice (e := 3) (sz := 1) (z := .int .i64 0) (rows := [[(iD p3)], [(iD (Keep.md p3 (w64 (((x4.length : Nat) : Int) + 1))))]]) (by kernel_rfl) (by kernel_rfl) rfl rfl rfl (.cons (SLe.eq rfl) rfl (.cons (SLe.eq rfl) rfl .nil)) rfl rfl rfl rfl) rfl rfl ?_
                  refine AO.pure (PureOp.lenL (e := 3) (s' := 1) (sz := 1) (l := ([p3, (Keep.md p3 (w64 (((x4.length : Nat) : Int) + 1)))] : List Int)) (av := avI) (SLe.eq rfl) (by kernel_rfl)) rfl rfl ?_
                  refine AO.pure (PureOp.moveD (SLe.eq rfl)) rfl rfl ?_
                  refine AO.nil ?_
                  refine thenQ_normal ?_
                  refine AC.block ?_
                  refine AC.loop (ι := Nat × Unit) (fun q => ⟨[(2, .d (.sl 3 (p2.map api_Spent.av))), (3, .d (iD p3)), (4, .d (iD p4)), (5, .d (iD p5)), (6, .d (iD p6)), (7, .d (iD p7)), (19, .d (.sl 3 (z2.map api_Spent.av))), (21, .d (.sl 3 (v2.map api_Spent.av))), (25, .d (.sl 5 (x3.map api_Finding.av))), (27, .d (.sl 3 (x4.map api_Spent.av))), (136, .d (.sl 1 (([z1, v1, p1] : List (List api_Finding)).map (fun z => [.sl 5 (z.map api_Finding.av)])))), (137, .d (iD ((([z1, v1, p1] : List (List api_Finding)).length : Nat) : Int))), (138, .d (iD ((i3 : Nat) : Int))), (145, .d (.sl 1 (([z2, v2, p2] : List (List api_Spent)).map (fun z => [.sl 3 (z.map api_Spent.av)])))), (146, .d (iD ((([z2, v2, p2] : List (List api_Spent)).length : Nat) : Int))), (147, .d (iD ((i4 : Nat) : Int))), (187, .d (.sl 1 (([p3, (Keep.md p3 (w64 (((x4.length : Nat) : Int) + 1)))] : List Int).map avI))), (188, .d (iD ((([p3, (Keep.md p3 (w64 (((x4.length : Nat) : Int) + 1)))] : List Int).length : Nat) : Int))), (189, .d (iD ((q.1 : Nat) : Int)))], [], [], 4, true, 264⟩) (fun q => q.1 ≤ ([p3, (Keep.md p3 (w64 (((x4.length : Nat) : Int) + 1)))] : List Int).length ∧ forL (ans_l5b Post x3 x4) (ans_l5e rec4) (([p3, (Keep.md p3 (w64 (((x4.length : Nat) : Int) + 1)))] : List Int).drop q.1) q.2) (fun q => ([p3, (Keep.md p3 (w64 (((x4.length : Nat) : Int) + 1)))] : List Int).length - q.1) (0, ()) ?_ ⟨Nat.zero_le _, H⟩ ?_
                  · skip
                    exact Le.mk [] ⟨⟨SLe.eq rfl, rfl⟩, ⟨SLe.eq rfl, rfl⟩, ⟨SLe.eq rfl, rfl⟩, ⟨SLe.eq rfl, rfl⟩, ⟨SLe.eq rfl, rfl⟩, ⟨SLe.eq rfl, rfl⟩, ⟨SLe.eq rfl, rfl⟩, ⟨SLe.eq rfl, rfl⟩, ⟨SLe.eq rfl, rfl⟩, ⟨SLe.eq rfl, rfl⟩, ⟨SLe.eq rfl, rfl⟩, ⟨SLe.eq rfl, rfl⟩, ⟨SLe.eq rfl, rfl⟩, ⟨SLe.eq rfl, rfl⟩, ⟨SLe.eq rfl, rfl⟩, ⟨SLe.eq rfl, rfl⟩, ⟨SLe.eq rfl, rfl⟩, ⟨SLe.eq rfl, rfl⟩, (by first | exact ⟨SLe.eq rfl, rfl⟩ | exact ⟨SLe.int rfl (by omega), rfl⟩), trivial⟩ trivial trivial rfl rfl rfl rfl rfl
                  · rintro ⟨i5, v5⟩ ⟨hi5, H⟩
                    dsimp only at hi5 H
                    change AC _ _ _ _ _ ⟨[(2, .d (.sl 3 (p2.map api_Spent.av))), (3, .d (iD p3)), (4, .d (iD p4)), (5, .d (iD p5)), (6, .d (iD p6)), (7, .d (iD p7)), (19, .d (.sl 3 (z2.map api_Spent.av))), (21, .d (.sl 3 (v2.map api_Spent.av))), (25, .d (.sl 5 (x3.map api_Finding.av))), (27, .d (.sl 3 (x4.map api_Spent.av))), (136, .d (.sl 1 (([z1, v1, p1] : List (List api_Finding)).map (fun z => [.sl 5 (z.map api_Finding.av)])))), (137, .d (iD ((([z1, v1, p1] : List (List api_Finding)).length : Nat) : Int))), (138, .d (iD ((i3 : Nat) : Int))), (145, .d (.sl 1 (([z2, v2, p2] : List (List api_Spent)).map (fun z => [.sl 3 (z.map api_Spent.av)])))), (146, .d (iD ((([z2, v2, p2] : List (List api_Spent)).length : Nat) : Int))), (147, .d (iD ((i4 : Nat) : Int))), (187, .d (.sl 1 (([p3, (Keep.md p3 (w64 (((x4.length : Nat) : Int) + 1)))] : List Int).map avI))), (188, .d (iD ((([p3, (Keep.md p3 (w64 (((x4.length : Nat) : Int) + 1)))] : List Int).length : Nat) : Int))), (189, .d (iD ((i5 : Nat) : Int)))], [], [], 4, true, 264⟩ _
                    obtain ⟨rec5, hrec5⟩ : ∃ r, r = forL (ans_l5b Post x3 x4) (ans_l5e rec4) (([p3, (Keep.md p3 (w64 (((x4.length : Nat) : Int) + 1)))] : List Int).drop (i5 + 1)) := ⟨_, rfl⟩
                    refine AC.seq ?_
                    refine AC.region ?_
                    refine AO.pure (PureOp.lss (SLe.eq rfl) (SLe.eq rfl)) rfl rfl ?_
                    refine AO.nil ?_
                    refine thenQ_normal ?_
                    refine AC.seq ?_
                    refine AC.cond (SLe.eq rfl) (fun hb => ?_) (fun hb => ?_)
                    · skip
                      obtain ⟨x5, hx5, hd5, hlt5⟩ := drop_at (l := ([p3, (Keep.md p3 (w64 (((x4.length : Nat) : Int) + 1)))] : List Int)) (i := i5) hb
                      rw [hd5] at H
                      replace H := forL_step H
                      rw [← hrec5] at H
                      unfold ans_l5b at H
                      refine AC.len (av := avI) (l := ([p3, (Keep.md p3 (w64 (((x4.length : Nat) : Int) + 1)))] : List Int)) (t := 187) (SLe.eq rfl) (fun hL5 => ?_)
                      refine AC.skip ?_
                      refine thenQ_normal ?_
                      refine AC.seq ?_
                      refine AC.block ?_
                      refine AC.seq ?_
                      refine AC.region ?_
                      refine AO.pure (PureOp.idxE (e := 3) (sz := 1) (av := avI) (l := ([p3, (Keep.md p3 (w64 (((x4.length : Nat) : Int) + 1)))] : List Int)) (n := i5) (z := x5) (SLe.eq rfl) (SLe.eq rfl) rfl hx5 (by kernel_rfl)) rfl rfl ?_
                      refine AO.pure (PureOp.load1 (c := (iD x5)) (SLe.eq rfl) rfl (by kernel_rfl)) rfl rfl ?_
                      refine AO.pure (PureOp.assignD (SLe.eq rfl)) rfl rfl ?_
                      refine AO.nil ?_
                      refine thenQ_normal ?_
                      refine AC.seq ?_
                      refine AC.region ?_
                      refine AO.pure (PureOp.moveD (SLe.eq rfl)) rfl rfl ?_
                      refine AO.pure (PureOp.moveD (SLe.eq rfl)) rfl rfl ?_
                      refine AO.pure (PureOp.moveD (SLe.eq rfl)) rfl rfl ?_
                      refine AO.pure (PureOp.callS (.cons (SLe.eq rfl) (.cons (SLe.eq rfl) (.cons (SLe.eq rfl) .nil))) (bc_nam x3 x4 x5) (by kernel_rfl)) rfl rfl ?_
                      refine AO.pure (PureOp.moveD (SLe.eq rfl)) rfl rfl ?_
                      refine AO.pure (PureOp.extract (c := (.sl 1 ((namS x3 x4 x5).map avI))) (SLe.eq rfl) rfl) rfl rfl ?_
                      refine AO.pure (PureOp.extract (c := (iD (namE x3 x4 x5))) (SLe.eq rfl) rfl) rfl rfl ?_
                      refine AO.pure (PureOp.assignD (SLe.eq rfl)) rfl rfl ?_
                      refine AO.pure (PureOp.assignD (SLe.eq rfl)) rfl rfl ?_
                      refine AO.nil ?_
                      refine thenQ_normal ?_
                      refine AC.seq ?_
                      refine AC.region ?_
                      refine AO.pure (PureOp.moveD (SLe.eq rfl)) rfl rfl ?_
                      refine AO.pure (PureOp.moveD (SLe.eq rfl)) rfl rfl ?_
                      refine AO.pure (PureOp.moveD (SLe.eq rfl)) rfl rfl ?_
                      refine AO.pure (PureOp.callS (.cons (SLe.eq rfl) (.cons (SLe.eq rfl) (.cons (SLe.eq rfl) .nil))) (br_nam x3 x4 x5) (by kernel_rfl)) rfl rfl ?_
                      refine AO.pure (PureOp.moveD (SLe.eq rfl)) rfl rfl ?_
                      refine AO.pure (PureOp.extract (c := (.sl 1 ((namS x3 x4 x5).map avI))) (SLe.eq rfl) rfl) rfl rfl ?_
                      refine AO.pure (PureOp.extract (c := (iD (namE x3 x4 x5))) (SLe.eq rfl) rfl) rfl rfl ?_
                      refine AO.pure (PureOp.assignD (SLe.eq rfl)) rfl rfl ?_
                      refine AO.pure (PureOp.assignD (SLe.eq rfl)) rfl rfl ?_
                      refine AO.nil ?_
                      refine thenQ_normal ?_
                      refine AC.seq ?_
                      refine AC.region ?_
                      refine AO.pure (PureOp.moveD (SLe.eq rfl)) rfl rfl ?_
                      refine AO.pure (PureOp.moveD (SLe.eq rfl)) rfl rfl ?_
                      refine AO.pure (PureOp.neq (SLe.eq rfl) (SLe.eq rfl)) rfl rfl ?_
                      refine AO.pure (PureOp.moveD (SLe.eq rfl)) rfl rfl ?_
                      refine AO.guarded rfl rfl (fun hG => PureOp.moveD (SLe.eq rfl)) rfl rfl ?_
                      refine AO.guarded rfl rfl (fun hG => PureOp.moveD (SLe.eq rfl)) rfl rfl ?_
                      obtain ⟨g9, H⟩ := H
                      refine AO.guarded rfl rfl (fun hG => PureOp.callS (.cons (SLe.cnd rfl hG) (.cons (SLe.cnd rfl hG) .nil)) ((Vis.ints_any (namS x3 x4 x5) (namS x3 x4 x5) (g9 hG) (g9 hG)).any) (by kernel_rfl)) rfl rfl ?_
                      refine AO.guarded rfl rfl (fun hG => PureOp.not (SLe.cnd rfl hG)) rfl rfl ?_
                      refine AO.pure (PureOp.pickOr (SLe.eq rfl) rfl rfl (fun h => beq_f h)) rfl rfl ?_
                      refine AO.nil ?_
                      refine thenQ_normal ?_
                      refine AC.cond (SLe.eq rfl) (fun hb => ?_) (fun hb => ?_)
                      · skip
                        replace H := ite_t H hb
                        refine AC.seq ?_
                        refine AC.region ?_
                        refine AO.pure (PureOp.assignD (SLe.eq rfl)) rfl rfl ?_
                        refine AO.nil ?_
                        refine thenQ_normal ?_
                        refine AC.ret ?_
                        refine blockQ_ret ?_
                        refine thenQ_ret ?_
                        refine thenQ_ret ?_
                        refine blockQ_ret ?_
                        refine blockQ_ret ?_
                        refine thenQ_ret ?_
                        refine thenQ_ret ?_
                        refine blockQ_ret ?_
                        refine blockQ_ret ?_
                        refine thenQ_ret ?_
                        refine thenQ_ret ?_
                        refine blockQ_ret ?_
                        refine thenQ_ret ?_
                        refine ⟨rfl, _, ?_, ResOf.one (GetR.flat (SLe.eq rfl) rfl)⟩
                        exact congrArg (fun b => D.v (.bool b)) (lawpost hPost H)
                      · skip
                        replace H := ite_f H hb
                        refine AC.skip ?_
                        refine blockQ_normal ?_
                        refine thenQ_normal ?_
                        refine AC.region ?_
                        refine AO.pure (PureOp.add (SLe.eq rfl) (SLe.eq rfl) (by omega) (by omega)) rfl rfl ?_
                        refine AO.pure (PureOp.moveD (SLe.eq rfl)) rfl rfl ?_
                        refine AO.nil ?_
                        refine thenQ_normal ?_
                        refine ⟨(i5 + 1, ()), ⟨hlt5, by rw [hrec5] at H; exact H⟩, (by show ([p3, (Keep.md p3 (w64 (((x4.length : Nat) : Int) + 1)))] : List Int).length - (i5 + 1) < ([p3, (Keep.md p3 (w64 (((x4.length : Nat) : Int) + 1)))] : List Int).length - i5; omega), ?_⟩
                        exact Le.mk [] ⟨⟨SLe.eq rfl, rfl⟩, ⟨SLe.eq rfl, rfl⟩, ⟨SLe.eq rfl, rfl⟩, ⟨SLe.eq rfl, rfl⟩, ⟨SLe.eq rfl, rfl⟩, ⟨SLe.eq rfl, rfl⟩, ⟨SLe.eq rfl, rfl⟩, ⟨SLe.eq rfl, rfl⟩, ⟨SLe.eq rfl, rfl⟩, ⟨SLe.eq rfl, rfl⟩, ⟨SLe.eq rfl, rfl⟩, ⟨SLe.eq rfl, rfl⟩, ⟨SLe.eq rfl, rfl⟩, ⟨SLe.eq rfl, rfl⟩, ⟨SLe.eq rfl, rfl⟩, ⟨SLe.eq rfl, rfl⟩, ⟨SLe.eq rfl, rfl⟩, ⟨SLe.eq rfl, rfl⟩, (by first | exact ⟨SLe.eq rfl, rfl⟩ | exact ⟨SLe.int rfl (by omega), rfl⟩), trivial⟩ trivial trivial rfl rfl rfl rfl rfl
                    · skip
                      obtain ⟨hd5, _⟩ := drop_end (l := ([p3, (Keep.md p3 (w64 (((x4.length : Nat) : Int) + 1)))] : List Int)) (i := i5) hi5 hb
                      rw [hd5] at H
                      replace H := forL_end H
                      unfold ans_l5e at H
                      refine AC.exit ?_
                      refine thenQ_exit ?_
                      refine thenQ_exit ?_
                      refine blockQ_hit ?_
                      refine blockQ_normal ?_
                      refine thenQ_normal ?_
                      refine AC.region ?_
                      refine AO.pure (PureOp.add (SLe.eq rfl) (SLe.eq rfl) (by omega) (by omega)) rfl rfl ?_
                      refine AO.pure (PureOp.moveD (SLe.eq rfl)) rfl rfl ?_
                      refine AO.nil ?_
                      refine thenQ_normal ?_
                      refine ⟨(i4 + 1, ()), ⟨hlt4, by rw [hrec4] at H; exact H⟩, (by show ([z2, v2, p2] : List (List api_Spent)).length - (i4 + 1) < ([z2, v2, p2] : List (List api_Spent)).length - i4; omega), ?_⟩
                      exact Le.mk [] ⟨⟨SLe.eq rfl, rfl⟩, ⟨SLe.eq rfl, rfl⟩, ⟨SLe.eq rfl, rfl⟩, ⟨SLe.eq rfl, rfl⟩, ⟨SLe.eq rfl, rfl⟩, ⟨SLe.eq rfl, rfl⟩, ⟨SLe.eq rfl, rfl⟩, ⟨SLe.eq rfl, rfl⟩, ⟨SLe.eq rfl, rfl⟩, ⟨SLe.eq rfl, rfl⟩, ⟨SLe.eq rfl, rfl⟩, ⟨SLe.eq rfl, rfl⟩, ⟨SLe.eq rfl, rfl⟩, ⟨SLe.eq rfl, rfl⟩, (by first | exact ⟨SLe.eq rfl, rfl⟩ | exact ⟨SLe.int rfl (by omega), rfl⟩), trivial⟩ trivial trivial rfl rfl rfl rfl rfl
              · skip
                obtain ⟨hd4, _⟩ := drop_end (l := ([z2, v2, p2] : List (List api_Spent))) (i := i4) hi4 hb
                rw [hd4] at H
                replace H := forL_end H
                unfold ans_l4e at H
                refine AC.exit ?_
                refine thenQ_exit ?_
                refine thenQ_exit ?_
                refine blockQ_hit ?_
                refine blockQ_normal ?_
                refine thenQ_normal ?_
                refine AC.region ?_
                refine AO.pure (PureOp.add (SLe.eq rfl) (SLe.eq rfl) (by omega) (by omega)) rfl rfl ?_
                refine AO.pure (PureOp.moveD (SLe.eq rfl)) rfl rfl ?_
                refine AO.nil ?_
                refine thenQ_normal ?_
                refine ⟨(i3 + 1, ()), ⟨hlt3, by rw [hrec3] at H; exact H⟩, (by show ([z1, v1, p1] : List (List api_Finding)).length - (i3 + 1) < ([z1, v1, p1] : List (List api_Finding)).length - i3; omega), ?_⟩
                exact Le.mk [] ⟨⟨SLe.eq rfl, rfl⟩, ⟨SLe.eq rfl, rfl⟩, ⟨SLe.eq rfl, rfl⟩, ⟨SLe.eq rfl, rfl⟩, ⟨SLe.eq rfl, rfl⟩, ⟨SLe.eq rfl, rfl⟩, ⟨SLe.eq rfl, rfl⟩, ⟨SLe.eq rfl, rfl⟩, ⟨SLe.eq rfl, rfl⟩, ⟨SLe.eq rfl, rfl⟩, (by first | exact ⟨SLe.eq rfl, rfl⟩ | exact ⟨SLe.int rfl (by omega), rfl⟩), trivial⟩ trivial trivial rfl rfl rfl rfl rfl
          · skip
            obtain ⟨hd3, _⟩ := drop_end (l := ([z1, v1, p1] : List (List api_Finding))) (i := i3) hi3 hb
            rw [hd3] at H
            replace H := forL_end H
            unfold ans_l3e at H
            refine AC.exit ?_
            refine thenQ_exit ?_
            refine thenQ_exit ?_
            refine blockQ_hit ?_
            refine thenQ_normal ?_
            refine AC.seq ?_
            refine AC.region ?_
            refine AO.pure (PureOp.moveD (SLe.eq rfl)) rfl rfl ?_
            refine AO.pure (PureOp.moveD (SLe.eq rfl)) rfl rfl ?_
            refine AO.pure (PureOp.moveD (SLe.eq rfl)) rfl rfl ?_
            refine AO.pure (PureOp.moveD (SLe.eq rfl)) rfl rfl ?_
            refine AO.pure (PureOp.callS (.cons (SLe.eq rfl) (.cons (SLe.eq rfl) (.cons (SLe.eq rfl) (.cons (SLe.eq rfl) .nil)))) (bc_ext p4 p5 p6 p7) (by kernel_rfl)) rfl rfl ?_
            refine AO.pure (PureOp.moveD (SLe.eq rfl)) rfl rfl ?_
            refine AO.pure (PureOp.extract (c := (iD (extV p4 p5 p6 p7))) (SLe.eq rfl) rfl) rfl rfl ?_
            refine AO.pure (PureOp.extract (c := (iD (extE p4 p5 p6 p7))) (SLe.eq rfl) rfl) rfl rfl ?_
            refine AO.pure (PureOp.assignD (SLe.eq rfl)) rfl rfl ?_
            refine AO.pure (PureOp.assignD (SLe.eq rfl)) rfl rfl ?_
            refine AO.nil ?_
            refine thenQ_normal ?_
            refine AC.seq ?_
            refine AC.region ?_
            refine AO.pure (PureOp.moveD (SLe.eq rfl)) rfl rfl ?_
            refine AO.pure (PureOp.moveD (SLe.eq rfl)) rfl rfl ?_
            refine AO.pure (PureOp.moveD (SLe.eq rfl)) rfl rfl ?_
            refine AO.pure (PureOp.moveD (SLe.eq rfl)) rfl rfl ?_
            refine AO.pure (PureOp.callS (.cons (SLe.eq rfl) (.cons (SLe.eq rfl) (.cons (SLe.eq rfl) (.cons (SLe.eq rfl) .nil)))) (br_ext p4 p5 p6 p7) (by kernel_rfl)) rfl rfl ?_
            refine AO.pure (PureOp.moveD (SLe.eq rfl)) rfl rfl ?_
            refine AO.pure (PureOp.extract (c := (iD (extV p4 p5 p6 p7))) (SLe.eq rfl) rfl) rfl rfl ?_
            refine AO.pure (PureOp.extract (c := (iD (extE p4 p5 p6 p7))) (SLe.eq rfl) rfl) rfl rfl ?_
            refine AO.pure (PureOp.assignD (SLe.eq rfl)) rfl rfl ?_
            refine AO.pure (PureOp.assignD (SLe.eq rfl)) rfl rfl ?_
            refine AO.nil ?_
            refine thenQ_normal ?_
            refine AC.seq ?_
            refine AC.region ?_
            refine AO.pure (PureOp.moveD (SLe.eq rfl)) rfl rfl ?_
            refine AO.pure (PureOp.moveD (SLe.eq rfl)) rfl rfl ?_
            refine AO.pure (PureOp.eql (SLe.eq rfl) (SLe.eq rfl)) rfl rfl ?_
            refine AO.pure (PureOp.moveD (SLe.eq rfl)) rfl rfl ?_
            refine AO.guarded rfl rfl (fun hG => PureOp.moveD (SLe.eq rfl)) rfl rfl ?_
            refine AO.guarded rfl rfl (fun hG => PureOp.moveD (SLe.eq rfl)) rfl rfl ?_
            refine AO.guarded rfl rfl (fun hG => PureOp.eql (SLe.cnd rfl hG) (SLe.cnd rfl hG)) rfl rfl ?_
            refine AO.pure (PureOp.pickAnd (SLe.eq rfl) rfl rfl (fun h => beq_t h)) rfl rfl ?_
            refine AO.pure (PureOp.moveD (SLe.eq rfl)) rfl rfl ?_
            refine AO.guarded rfl rfl (fun hG => PureOp.moveD (SLe.eq rfl)) rfl rfl ?_
            refine AO.guarded rfl rfl (fun hG => PureOp.callS (.cons (SLe.cnd rfl hG) .nil) (bc_flat p4) (by kernel_rfl)) rfl rfl ?_
            refine AO.guarded rfl rfl (fun hG => PureOp.moveD (SLe.eq rfl)) rfl rfl ?_
            refine AO.guarded rfl rfl (fun hG => PureOp.callS (.cons (SLe.cnd rfl hG) .nil) (br_flat p4) (by kernel_rfl)) rfl rfl ?_
            refine AO.guarded rfl rfl (fun hG => PureOp.eql (SLe.cnd rfl hG) (SLe.cnd rfl hG)) rfl rfl ?_
            refine AO.pure (PureOp.pickAnd (SLe.eq rfl) rfl rfl (fun h => beq_t h)) rfl rfl ?_
            refine AO.pure (PureOp.moveD (SLe.eq rfl)) rfl rfl ?_
            refine AO.guarded rfl rfl (fun hG => PureOp.moveD (SLe.eq rfl)) rfl rfl ?_
            refine AO.guarded rfl rfl (fun hG => PureOp.callS (.cons (SLe.cnd rfl hG) (.cons (SLe.eq rfl) .nil)) (mod_fc p4 8 (by decide)) (by kernel_rfl)) rfl rfl ?_
            refine AO.guarded rfl rfl (fun hG => PureOp.subW (SLe.cnd rfl hG) (SLe.eq rfl)) rfl rfl ?_
            refine AO.guarded rfl rfl (fun hG => PureOp.callS (.cons (SLe.cnd rfl hG) .nil) (bc_flat (w64 ((Keep.md p4 8) - 1))) (by kernel_rfl)) rfl rfl ?_
            refine AO.guarded rfl rfl (fun hG => PureOp.moveD (SLe.eq rfl)) rfl rfl ?_
            refine AO.guarded rfl rfl (fun hG => PureOp.callS (.cons (SLe.cnd rfl hG) (.cons (SLe.eq rfl) .nil)) (mod_fc p4 8 (by decide)) (by kernel_rfl)) rfl rfl ?_
            refine AO.guarded rfl rfl (fun hG => PureOp.subW (SLe.cnd rfl hG) (SLe.eq rfl)) rfl rfl ?_
            refine AO.guarded rfl rfl (fun hG => PureOp.callS (.cons (SLe.cnd rfl hG) .nil) (br_flat (w64 ((Keep.md p4 8) - 1))) (by kernel_rfl)) rfl rfl ?_
            refine AO.guarded rfl rfl (fun hG => PureOp.eql (SLe.cnd rfl hG) (SLe.cnd rfl hG)) rfl rfl ?_
            obtain ⟨b1, hb1⟩ : ∃ b : Bool, b = (((decide ((extV p4 p5 p6 p7) = (extV p4 p5 p6 p7)) && decide ((extE p4 p5 p6 p7) = (extE p4 p5 p6 p7))) && decide ((flatI p4) = (flatI p4))) && decide ((flatI (w64 ((Keep.md p4 8) - 1))) = (flatI (w64 ((Keep.md p4 8) - 1))))) := ⟨_, rfl⟩
            replace H := H b1 hb1
            refine AO.pure (r := .d (bD b1)) (by rw [hb1]; exact PureOp.pickAnd (SLe.eq rfl) rfl rfl (fun h => beq_t h)) rfl rfl ?_
            refine AO.pure (PureOp.moveD (SLe.eq rfl)) rfl rfl ?_
            refine AO.guarded rfl rfl (fun hG => PureOp.callS .nil (b_awake) (by kernel_rfl)) rfl rfl ?_
            refine AO.pure (PureOp.pickAnd (SLe.eq rfl) rfl rfl (fun h => beq_t h)) rfl rfl ?_
            refine AO.pure (PureOp.assignD (SLe.eq rfl)) rfl rfl ?_
            refine AO.nil ?_
            refine thenQ_normal ?_
            refine AC.ret ?_
            refine ⟨rfl, _, ?_, ResOf.one (GetR.flat (SLe.eq rfl) rfl)⟩
            exact congrArg (fun b => D.v (.bool b)) (lawpost hPost H)
end Clr
end Eng
end Go.Proofs.Ytmmekdkllccmdaa
