/-
  Chapter 27: the walk of VisitAnswers.
-/
import Derived.Test.YtmmekdkllccmdaaViB
namespace Go.Proofs.Ytmmekdkllccmdaa
open Go.RowKit
set_option linter.unusedVariables false
namespace Eng
namespace Vis
def visAns_l3b (p3 : Int) (Post : Bool → Prop) (x2 : List api_Report) (rec3 : Unit → Prop) (x3 : Int) (v3 : Unit) : Prop :=
  (x2.length ≤ 4611686018427387903) ∧ ∀ b1 : Bool, b1 = (!(decide ((ofSeen (lineS (x2.map toRep) x3 p3)).Kind = (ofSeen (lineS (x2.map toRep) x3 p3)).Kind) && (decide (((ofSeen (lineS (x2.map toRep) x3 p3)).Measured).Area = ((ofSeen (lineS (x2.map toRep) x3 p3)).Measured).Area) && (decide (((ofSeen (lineS (x2.map toRep) x3 p3)).Measured).Border = ((ofSeen (lineS (x2.map toRep) x3 p3)).Measured).Border) && true)))) → ∀ b2 : Bool, b2 = (!(decide ((ofSeen (lineS (x2.map toRep) x3 (Keep.md p3 3))).Kind = (ofSeen (lineS (x2.map toRep) x3 (Keep.md p3 3))).Kind) && (decide (((ofSeen (lineS (x2.map toRep) x3 (Keep.md p3 3))).Measured).Area = ((ofSeen (lineS (x2.map toRep) x3 (Keep.md p3 3))).Measured).Area) && (decide (((ofSeen (lineS (x2.map toRep) x3 (Keep.md p3 3))).Measured).Border = ((ofSeen (lineS (x2.map toRep) x3 (Keep.md p3 3))).Measured).Border) && true)))) → ((((((!decide ((chkE (x2.map toRep)) = (chkE (x2.map toRep)))) || (!(((x2.map toRep).any (refP x3)) == ((x2.map toRep).any (refP x3))))) || b1) || b2) == false) = true → (linesS (x2.map toRep) x3).length ≤ 4611686018427387903) ∧ ∀ b3 : Bool, b3 = (((((!decide ((chkE (x2.map toRep)) = (chkE (x2.map toRep)))) || (!(((x2.map toRep).any (refP x3)) == ((x2.map toRep).any (refP x3))))) || b1) || b2) || (!(decide ((linesS (x2.map toRep) x3) = (linesS (x2.map toRep) x3))))) → (if (b3 || (!decide ((lastS (x2.map toRep) x3) = (lastS (x2.map toRep) x3)))) = true then Post false else rec3 ())
def visAns_l3e (rec2 : Unit → Prop) (v3 : Unit) : Prop :=
  rec2 ()
def visAns_l2b (p2 : Int) (p3 : Int) (Post : Bool → Prop) (rec2 : Unit → Prop) (x2 : List api_Report) (v2 : Unit) : Prop :=
  forL (visAns_l3b p3 Post x2) (visAns_l3e rec2) ([p2, (Keep.md p2 4)] : List Int) ()
def visAns_l2e (Post : Bool → Prop) (v2 : Unit) : Prop :=
  Post true
def visAns_j1 (p1 : List api_Report) (p2 : Int) (p3 : Int) (Post : Bool → Prop) (z1 : List Rep) (v1 : List api_Report) : Prop :=
  forL (visAns_l2b p2 p3 Post) (visAns_l2e Post) ([(z1.map ofRep), v1, p1] : List (List api_Report)) ()
def visAns_W (p1 : List api_Report) (p2 : Int) (p3 : Int) (p4 : Int) (Post : Bool → Prop) : Prop :=
  (if decide (110 < ((p1.length : Nat) : Int)) = true then Post true else ∀ z1 : List Rep, (RepOK 8 z1) → (apOK 56 ([] : List api_Report).length (z1.map ofRep).length) ∧ (if decide (0 < (((([] : List api_Report) ++ (z1.map ofRep)).length : Nat) : Int)) = true then ((((([] : List api_Report) ++ (z1.map ofRep)).length : Nat) : Int) ≤ 9223372036854775807) ∧ ∀ z2 : Int, (0 ≤ z2) → (z2 < (((([] : List api_Report) ++ (z1.map ofRep)).length : Nat) : Int) ∨ z2 = 0) → (inb (([] : List api_Report) ++ (z1.map ofRep)) z2) ∧ ∀ z3 : Int, (0 ≤ z3) → (z3 < 8 ∨ z3 = 0) → (if decide (z3 = 0) = true then visAns_j1 p1 p2 p3 Post z1 (List.set (([] : List api_Report) ++ (z1.map ofRep)) (Int.toNat z2) (⟨p4, (ix (([] : List api_Report) ++ (z1.map ofRep)) z2).Farm, (ix (([] : List api_Report) ++ (z1.map ofRep)) z2).Day, (ix (([] : List api_Report) ++ (z1.map ofRep)) z2).Kind, (ix (([] : List api_Report) ++ (z1.map ofRep)) z2).Line, ((ix (([] : List api_Report) ++ (z1.map ofRep)) z2).Measured)⟩ : api_Report)) else (if decide (z3 = 1) = true then visAns_j1 p1 p2 p3 Post z1 (List.set (([] : List api_Report) ++ (z1.map ofRep)) (Int.toNat z2) (⟨(ix (([] : List api_Report) ++ (z1.map ofRep)) z2).Number, p4, (ix (([] : List api_Report) ++ (z1.map ofRep)) z2).Day, (ix (([] : List api_Report) ++ (z1.map ofRep)) z2).Kind, (ix (([] : List api_Report) ++ (z1.map ofRep)) z2).Line, ((ix (([] : List api_Report) ++ (z1.map ofRep)) z2).Measured)⟩ : api_Report)) else (if decide (z3 = 2) = true then visAns_j1 p1 p2 p3 Post z1 (List.set (([] : List api_Report) ++ (z1.map ofRep)) (Int.toNat z2) (⟨(ix (([] : List api_Report) ++ (z1.map ofRep)) z2).Number, (ix (([] : List api_Report) ++ (z1.map ofRep)) z2).Farm, p4, (ix (([] : List api_Report) ++ (z1.map ofRep)) z2).Kind, (ix (([] : List api_Report) ++ (z1.map ofRep)) z2).Line, ((ix (([] : List api_Report) ++ (z1.map ofRep)) z2).Measured)⟩ : api_Report)) else (if decide (z3 = 3) = true then visAns_j1 p1 p2 p3 Post z1 (List.set (([] : List api_Report) ++ (z1.map ofRep)) (Int.toNat z2) (⟨(ix (([] : List api_Report) ++ (z1.map ofRep)) z2).Number, (ix (([] : List api_Report) ++ (z1.map ofRep)) z2).Farm, (ix (([] : List api_Report) ++ (z1.map ofRep)) z2).Day, w64 ((Keep.md p4 7) - 1), (ix (([] : List api_Report) ++ (z1.map ofRep)) z2).Line, ((ix (([] : List api_Report) ++ (z1.map ofRep)) z2).Measured)⟩ : api_Report)) else (if decide (z3 = 4) = true then visAns_j1 p1 p2 p3 Post z1 (List.set (([] : List api_Report) ++ (z1.map ofRep)) (Int.toNat z2) (⟨(ix (([] : List api_Report) ++ (z1.map ofRep)) z2).Number, (ix (([] : List api_Report) ++ (z1.map ofRep)) z2).Farm, (ix (([] : List api_Report) ++ (z1.map ofRep)) z2).Day, (ix (([] : List api_Report) ++ (z1.map ofRep)) z2).Kind, p4, ((ix (([] : List api_Report) ++ (z1.map ofRep)) z2).Measured)⟩ : api_Report)) else (if decide (z3 = 5) = true then visAns_j1 p1 p2 p3 Post z1 (List.set (([] : List api_Report) ++ (z1.map ofRep)) (Int.toNat z2) (⟨(ix (([] : List api_Report) ++ (z1.map ofRep)) z2).Number, (ix (([] : List api_Report) ++ (z1.map ofRep)) z2).Farm, (ix (([] : List api_Report) ++ (z1.map ofRep)) z2).Day, (ix (([] : List api_Report) ++ (z1.map ofRep)) z2).Kind, (ix (([] : List api_Report) ++ (z1.map ofRep)) z2).Line, (⟨p4, ((ix (([] : List api_Report) ++ (z1.map ofRep)) z2).Measured).Border⟩ : api_Measured)⟩ : api_Report)) else (if decide (z3 = 6) = true then (inb (([] : List api_Report) ++ (z1.map ofRep)) 0) ∧ visAns_j1 p1 p2 p3 Post z1 (List.set (([] : List api_Report) ++ (z1.map ofRep)) (Int.toNat z2) (⟨(ix (([] : List api_Report) ++ (z1.map ofRep)) 0).Number, (ix (([] : List api_Report) ++ (z1.map ofRep)) z2).Farm, (ix (([] : List api_Report) ++ (z1.map ofRep)) z2).Day, (ix (([] : List api_Report) ++ (z1.map ofRep)) z2).Kind, (ix (([] : List api_Report) ++ (z1.map ofRep)) z2).Line, ((ix (([] : List api_Report) ++ (z1.map ofRep)) z2).Measured)⟩ : api_Report)) else visAns_j1 p1 p2 p3 Post z1 (([] : List api_Report) ++ (z1.map ofRep))))))))) else visAns_j1 p1 p2 p3 Post z1 (([] : List api_Report) ++ (z1.map ofRep))))
set_option maxRecDepth 100000 in
set_option maxHeartbeats 4000000 in
theorem visAns_w (w : World) (a : Option Addr) (len cap : Nat) (hi : Keep.IntsAt w a len cap) (p1 : List api_Report) (u1 : Value) (h1 : Rd (allS w) w (.sl 7 (p1.map api_Report.av)) u1) (p2 : Int) (p3 : Int) (p4 : Int) (H : visAns_W p1 p2 p3 p4 (fun r => r = true)) : Calls Try.prog 13 #[.slice a len cap, u1, .int .i64 p2, .int .i64 p3, .int .i64 p4] w fun e w' => e = .returned (.bool true) ∧ Below w.heap.size w w' := by
  have hsrc := src_all hi
  obtain ⟨Post, hPost⟩ : ∃ Q : Bool → Prop, Q = (fun r => r = true) := ⟨_, rfl⟩
  rw [← hPost] at H
  refine law_of (S := allS w) (args := [.d (.v (.slice a len cap)), .d (.sl 7 (p1.map api_Report.av)), .d (iD p2), .d (iD p3), .d (iD p4)]) (vals := [.slice a len cap, u1, .int .i64 p2, .int .i64 p3, .int .i64 p4]) Try.func13 rfl rfl rfl rfl rfl (fun _ _ h => h) rfl (fun i s u hs hu => ?_) ?_
  · match i, hs, hu with
    | 0, hs, hu =>
      have e1 := Option.some.inj hs; have e2 := Option.some.inj hu; subst e1 e2; exact .d _ _ (.v _)
    | 1, hs, hu =>
      have e1 := Option.some.inj hs; have e2 := Option.some.inj hu; subst e1 e2; exact .d _ _ h1
    | 2, hs, hu =>
      have e1 := Option.some.inj hs; have e2 := Option.some.inj hu; subst e1 e2; exact .d _ _ (.v _)
    | 3, hs, hu =>
      have e1 := Option.some.inj hs; have e2 := Option.some.inj hu; subst e1 e2; exact .d _ _ (.v _)
    | 4, hs, hu =>
      have e1 := Option.some.inj hs; have e2 := Option.some.inj hu; subst e1 e2; exact .d _ _ (.v _)
    | n + 5, hs, hu => simp at hs
  unfold visAns_W at H
  refine AC.seq ?_
  refine AC.region ?_
  refine AO.pure (PureOp.assignD (SLe.eq rfl)) rfl rfl ?_
  refine AO.nil ?_
  refine thenQ_normal ?_
  refine AC.seq ?_
  refine AC.seq ?_
  refine AC.region ?_
  refine AO.pure (PureOp.moveD (SLe.eq rfl)) rfl rfl ?_
  refine AO.pure (PureOp.lenL (e := 78) (s' := 7) (sz := 7) (l := p1) (av := api_Report.av) (SLe.eq rfl) (by kernel_rfl)) rfl rfl ?_
  refine AO.pure (PureOp.gtr (SLe.eq rfl) (SLe.eq rfl)) rfl rfl ?_
  refine AO.nil ?_
  refine thenQ_normal ?_
  refine AC.cond (SLe.eq rfl) (fun hb => ?_) (fun hb => ?_)
  · skip
    replace H := ite_t H hb
    refine AC.seq ?_
    refine AC.region ?_
    refine AO.pure (PureOp.callS .nil (awake_any.any) (by kernel_rfl)) rfl rfl ?_
    refine AO.pure (PureOp.assignD (SLe.eq rfl)) rfl rfl ?_
    refine AO.nil ?_
    refine thenQ_normal ?_
    refine AC.ret ?_
    refine thenQ_ret ?_
    refine ⟨rfl, _, ?_, ResOf.one (GetR.flat (SLe.eq rfl) rfl)⟩
    exact congrArg (fun b => D.v (.bool b)) (lawpost hPost H)
  · skip
    replace H := ite_f H hb
    refine AC.skip ?_
    refine thenQ_normal ?_
    refine AC.seq ?_
    refine AC.region ?_
    refine AO.pure (PureOp.moveD (SLe.eq rfl)) rfl rfl ?_
    refine AO.newT (SLe.eq rfl) hsrc (fun b hb => hb) (fun b hb => hb) rfl rfl rfl rfl ?_
    refine AO.pure (PureOp.assignT (SLe.eq rfl)) rfl rfl ?_
    refine AO.nil ?_
    refine thenQ_normal ?_
    refine AC.seq ?_
    refine AC.region ?_
    refine AO.pure (PureOp.moveT (SLe.eq rfl)) rfl rfl ?_
    refine AO.tcallS (.tp (SLe.eq rfl) (.cons (SLe.eq rfl) .nil)) (breports) rfl (by kernel_rfl) rfl ?_
    rintro _ ⟨z1, rfl, h1⟩
    replace H := H z1 h1
    refine AO.pure (PureOp.assignD (SLe.eq rfl)) rfl rfl ?_
    refine AO.nil ?_
    refine thenQ_normal ?_
    refine AC.seq ?_
    refine AC.region ?_
    refine AO.buildOwn (e := 78) (sz := 7) (z := .agg #[.int .i64 0, .int .i64 0, .int .i64 0, .int .i64 0, .int .i64 0, .int .i64 0, .int .i64 0]) (rows := []) (by kernel_rfl) (by kernel_rfl) rfl rfl rfl .nil rfl rfl rfl rfl rfl rfl ?_
    refine AO.pure (PureOp.moveD (SLe.eq rfl)) rfl rfl ?_
    obtain ⟨g1, H⟩ := H
    refine AO.appendL (e := 78) (sz := 7) (bs := 56) (av := api_Report.av) ([] : List api_Report) (z1.map ofRep) (SLe.eq rfl) rfl (SLe.eq rfl) (by kernel_rfl) g1 rfl ?_
    refine AO.pure (PureOp.assignO (SLe.eq rfl)) rfl rfl ?_
    refine AO.nil ?_
    refine thenQ_normal ?_
    refine AC.seqJ (ι := List api_Report) (fun v1 => ⟨[(1, .d (.sl 7 (p1.map api_Report.av))), (2, .d (iD p2)), (3, .d (iD p3)), (12, .d (.sl 7 ((z1.map ofRep).map api_Report.av))), (13, .os 1)], [], [(1, ⟨78, 7, v1.map api_Report.av⟩)], 2, true, 167⟩) (fun v1 => visAns_j1 p1 p2 p3 Post z1 v1) ?_ ?_
    · skip
      refine AC.seq ?_
      refine AC.region ?_
      refine AO.pure (PureOp.moveO (SLe.eq rfl)) rfl rfl ?_
      refine AO.pure (PureOp.lenOL (e := 78) (s' := 7) (sz := 7) (l := (([] : List api_Report) ++ (z1.map ofRep))) (av := api_Report.av) (SLe.eq rfl) rfl rfl (by kernel_rfl)) rfl rfl ?_
      refine AO.pure (PureOp.gtr (SLe.eq rfl) (SLe.eq rfl)) rfl rfl ?_
      refine AO.nil ?_
      refine thenQ_normal ?_
      refine AC.cond (SLe.eq rfl) (fun hb => ?_) (fun hb => ?_)
      · skip
        replace H := ite_t H hb
        refine AC.seq ?_
        refine AC.region ?_
        refine AO.pure (PureOp.moveO (SLe.eq rfl)) rfl rfl ?_
        refine AO.pure (PureOp.moveT (SLe.eq rfl)) rfl rfl ?_
        refine AO.pure (PureOp.moveO (SLe.eq rfl)) rfl rfl ?_
        refine AO.pure (PureOp.lenOL (e := 78) (s' := 7) (sz := 7) (l := (([] : List api_Report) ++ (z1.map ofRep))) (av := api_Report.av) (SLe.eq rfl) rfl rfl (by kernel_rfl)) rfl rfl ?_
        obtain ⟨g2, H⟩ := H
        refine AO.tcallS (.tp (SLe.eq rfl) (.cons (SLe.eq rfl) .nil)) ((next_c (((([] : List api_Report) ++ (z1.map ofRep)).length : Nat) : Int) g2).any) rfl (by kernel_rfl) rfl ?_
        rintro _ ⟨z2, rfl, h2, h3⟩
        replace H := H z2 h2 h3
        obtain ⟨g3, H⟩ := H
        refine AO.pure (PureOp.idxOI (e := 78) (sz := 7) (l := (([] : List api_Report) ++ (z1.map ofRep))) (SLe.eq rfl) rfl (SLe.eq rfl) g3 rfl (by kernel_rfl)) rfl rfl ?_
        refine AO.pure (PureOp.assignP (SLe.eq rfl)) rfl rfl ?_
        refine AO.nil ?_
        refine thenQ_normal ?_
        refine AC.seq ?_
        refine AC.region ?_
        refine AO.pure (PureOp.moveT (SLe.eq rfl)) rfl rfl ?_
        refine AO.tcallS (.tp (SLe.eq rfl) (.cons (SLe.eq rfl) .nil)) ((next_c 8 (by decide)).any) rfl (by kernel_rfl) rfl ?_
        rintro _ ⟨z3, rfl, h4, h5⟩
        replace H := H z3 h4 h5
        refine AO.nil ?_
        refine thenQ_normal ?_
        refine AC.block ?_
        refine AC.seq ?_
        refine AC.region ?_
        refine AO.pure (PureOp.eql (SLe.eq rfl) (SLe.eq rfl)) rfl rfl ?_
        refine AO.pure (PureOp.assignD (SLe.eq rfl)) rfl rfl ?_
        refine AO.nil ?_
        refine thenQ_normal ?_
        refine AC.cond (SLe.eq rfl) (fun hb => ?_) (fun hb => ?_)
        · skip
          replace H := ite_t H hb
          refine AC.region ?_
          refine AO.pure (PureOp.moveP (SLe.eq rfl)) rfl rfl ?_
          refine AO.pure (PureOp.moveD (SLe.eq rfl)) rfl rfl ?_
          refine AO.pure (PureOp.nilCheckO (SLe.eq rfl)) rfl rfl ?_
          refine AO.pure (PureOp.fldOK (off := (Int.toNat z2) * 7) (j := 0) (k := 0) (SLe.eq rfl) (by kernel_rfl)) rfl rfl ?_
          refine AO.storeL (n := (Int.toNat z2)) (j := 0) (ks := [(iD p4)]) (([] : List api_Report) ++ (z1.map ofRep)) (z := (ix (([] : List api_Report) ++ (z1.map ofRep)) z2)) (⟨p4, (ix (([] : List api_Report) ++ (z1.map ofRep)) z2).Farm, (ix (([] : List api_Report) ++ (z1.map ofRep)) z2).Day, (ix (([] : List api_Report) ++ (z1.map ofRep)) z2).Kind, (ix (([] : List api_Report) ++ (z1.map ofRep)) z2).Line, ((ix (([] : List api_Report) ++ (z1.map ofRep)) z2).Measured)⟩ : api_Report) (SLe.eq rfl) (SLe.eq rfl) rfl rfl rfl (by kernel_rfl) (ix_get g3).1 rfl rfl rfl ?_
          refine AO.nil ?_
          refine blockQ_normal ?_
          refine thenQ_normal ?_
          refine ⟨(List.set (([] : List api_Report) ++ (z1.map ofRep)) (Int.toNat z2) (⟨p4, (ix (([] : List api_Report) ++ (z1.map ofRep)) z2).Farm, (ix (([] : List api_Report) ++ (z1.map ofRep)) z2).Day, (ix (([] : List api_Report) ++ (z1.map ofRep)) z2).Kind, (ix (([] : List api_Report) ++ (z1.map ofRep)) z2).Line, ((ix (([] : List api_Report) ++ (z1.map ofRep)) z2).Measured)⟩ : api_Report)), H, ?_⟩
          exact Le.mk [(1, 1)] ⟨⟨SLe.eq rfl, rfl⟩, ⟨SLe.eq rfl, rfl⟩, ⟨SLe.eq rfl, rfl⟩, ⟨SLe.eq rfl, rfl⟩, rfl, trivial⟩ trivial ⟨⟨_, rfl, rfl⟩, trivial⟩ rfl rfl rfl rfl rfl
        · skip
          replace H := ite_f H hb
          refine AC.seq ?_
          refine AC.region ?_
          refine AO.pure (PureOp.eql (SLe.eq rfl) (SLe.eq rfl)) rfl rfl ?_
          refine AO.pure (PureOp.assignD (SLe.eq rfl)) rfl rfl ?_
          refine AO.nil ?_
          refine thenQ_normal ?_
          refine AC.cond (SLe.eq rfl) (fun hb => ?_) (fun hb => ?_)
          · skip
            replace H := ite_t H hb
            refine AC.region ?_
            refine AO.pure (PureOp.moveP (SLe.eq rfl)) rfl rfl ?_
            refine AO.pure (PureOp.moveD (SLe.eq rfl)) rfl rfl ?_
            refine AO.pure (PureOp.nilCheckO (SLe.eq rfl)) rfl rfl ?_
            refine AO.pure (PureOp.fldOK (off := (Int.toNat z2) * 7) (j := 0) (k := 1) (SLe.eq rfl) (by kernel_rfl)) rfl rfl ?_
            refine AO.storeL (n := (Int.toNat z2)) (j := 1) (ks := [(iD p4)]) (([] : List api_Report) ++ (z1.map ofRep)) (z := (ix (([] : List api_Report) ++ (z1.map ofRep)) z2)) (⟨(ix (([] : List api_Report) ++ (z1.map ofRep)) z2).Number, p4, (ix (([] : List api_Report) ++ (z1.map ofRep)) z2).Day, (ix (([] : List api_Report) ++ (z1.map ofRep)) z2).Kind, (ix (([] : List api_Report) ++ (z1.map ofRep)) z2).Line, ((ix (([] : List api_Report) ++ (z1.map ofRep)) z2).Measured)⟩ : api_Report) (SLe.eq rfl) (SLe.eq rfl) rfl rfl rfl (by kernel_rfl) (ix_get g3).1 rfl rfl rfl ?_
            refine AO.nil ?_
            refine blockQ_normal ?_
            refine thenQ_normal ?_
            refine ⟨(List.set (([] : List api_Report) ++ (z1.map ofRep)) (Int.toNat z2) (⟨(ix (([] : List api_Report) ++ (z1.map ofRep)) z2).Number, p4, (ix (([] : List api_Report) ++ (z1.map ofRep)) z2).Day, (ix (([] : List api_Report) ++ (z1.map ofRep)) z2).Kind, (ix (([] : List api_Report) ++ (z1.map ofRep)) z2).Line, ((ix (([] : List api_Report) ++ (z1.map ofRep)) z2).Measured)⟩ : api_Report)), H, ?_⟩
            exact Le.mk [(1, 1)] ⟨⟨SLe.eq rfl, rfl⟩, ⟨SLe.eq rfl, rfl⟩, ⟨SLe.eq rfl, rfl⟩, ⟨SLe.eq rfl, rfl⟩, rfl, trivial⟩ trivial ⟨⟨_, rfl, rfl⟩, trivial⟩ rfl rfl rfl rfl rfl
          · skip
            replace H := ite_f H hb
            refine AC.seq ?_
            refine AC.region ?_
            refine AO.pure (PureOp.eql (SLe.eq rfl) (SLe.eq rfl)) rfl rfl ?_
            refine AO.pure (PureOp.assignD (SLe.eq rfl)) rfl rfl ?_
            refine AO.nil ?_
            refine thenQ_normal ?_
            refine AC.cond (SLe.eq rfl) (fun hb => ?_) (fun hb => ?_)
            · skip
              replace H := ite_t H hb
              refine AC.region ?_
              refine AO.pure (PureOp.moveP (SLe.eq rfl)) rfl rfl ?_
              refine AO.pure (PureOp.moveD (SLe.eq rfl)) rfl rfl ?_
              refine AO.pure (PureOp.nilCheckO (SLe.eq rfl)) rfl rfl ?_
              refine AO.pure (PureOp.fldOK (off := (Int.toNat z2) * 7) (j := 0) (k := 2) (SLe.eq rfl) (by kernel_rfl)) rfl rfl ?_
              refine AO.storeL (n := (Int.toNat z2)) (j := 2) (ks := [(iD p4)]) (([] : List api_Report) ++ (z1.map ofRep)) (z := (ix (([] : List api_Report) ++ (z1.map ofRep)) z2)) (⟨(ix (([] : List api_Report) ++ (z1.map ofRep)) z2).Number, (ix (([] : List api_Report) ++ (z1.map ofRep)) z2).Farm, p4, (ix (([] : List api_Report) ++ (z1.map ofRep)) z2).Kind, (ix (([] : List api_Report) ++ (z1.map ofRep)) z2).Line, ((ix (([] : List api_Report) ++ (z1.map ofRep)) z2).Measured)⟩ : api_Report) (SLe.eq rfl) (SLe.eq rfl) rfl rfl rfl (by kernel_rfl) (ix_get g3).1 rfl rfl rfl ?_
              refine AO.nil ?_
              refine blockQ_normal ?_
              refine thenQ_normal ?_
              refine ⟨(List.set (([] : List api_Report) ++ (z1.map ofRep)) (Int.toNat z2) (⟨(ix (([] : List api_Report) ++ (z1.map ofRep)) z2).Number, (ix (([] : List api_Report) ++ (z1.map ofRep)) z2).Farm, p4, (ix (([] : List api_Report) ++ (z1.map ofRep)) z2).Kind, (ix (([] : List api_Report) ++ (z1.map ofRep)) z2).Line, ((ix (([] : List api_Report) ++ (z1.map ofRep)) z2).Measured)⟩ : api_Report)), H, ?_⟩
              exact Le.mk [(1, 1)] ⟨⟨SLe.eq rfl, rfl⟩, ⟨SLe.eq rfl, rfl⟩, ⟨SLe.eq rfl, rfl⟩, ⟨SLe.eq rfl, rfl⟩, rfl, trivial⟩ trivial ⟨⟨_, rfl, rfl⟩, trivial⟩ rfl rfl rfl rfl rfl
            · skip
              replace H := ite_f H hb
              refine AC.seq ?_
              refine AC.region ?_
              refine AO.pure (PureOp.eql (SLe.eq rfl) (SLe.eq rfl)) rfl rfl ?_
              refine AO.pure (PureOp.assignD (SLe.eq rfl)) rfl rfl ?_
              refine AO.nil ?_
              refine thenQ_normal ?_
              refine AC.cond (SLe.eq rfl) (fun hb => ?_) (fun hb => ?_)
              · skip
                replace H := ite_t H hb
                refine AC.region ?_
                refine AO.pure (PureOp.moveP (SLe.eq rfl)) rfl rfl ?_
                refine AO.pure (PureOp.moveD (SLe.eq rfl)) rfl rfl ?_
                refine AO.pure (PureOp.callS (.cons (SLe.eq rfl) (.cons (SLe.eq rfl) .nil)) (mod_fc p4 7 (by decide)) (by kernel_rfl)) rfl rfl ?_
                refine AO.pure (PureOp.subW (SLe.eq rfl) (SLe.eq rfl)) rfl rfl ?_
                refine AO.pure (PureOp.nilCheckO (SLe.eq rfl)) rfl rfl ?_
                refine AO.pure (PureOp.fldOK (off := (Int.toNat z2) * 7) (j := 0) (k := 3) (SLe.eq rfl) (by kernel_rfl)) rfl rfl ?_
                refine AO.storeL (n := (Int.toNat z2)) (j := 3) (ks := [(iD (w64 ((Keep.md p4 7) - 1)))]) (([] : List api_Report) ++ (z1.map ofRep)) (z := (ix (([] : List api_Report) ++ (z1.map ofRep)) z2)) (⟨(ix (([] : List api_Report) ++ (z1.map ofRep)) z2).Number, (ix (([] : List api_Report) ++ (z1.map ofRep)) z2).Farm, (ix (([] : List api_Report) ++ (z1.map ofRep)) z2).Day, w64 ((Keep.md p4 7) - 1), (ix (([] : List api_Report) ++ (z1.map ofRep)) z2).Line, ((ix (([] : List api_Report) ++ (z1.map ofRep)) z2).Measured)⟩ : api_Report) (SLe.eq rfl) (SLe.eq rfl) rfl rfl rfl (by kernel_rfl) (ix_get g3).1 rfl rfl rfl ?_
                refine AO.nil ?_
                refine blockQ_normal ?_
                refine thenQ_normal ?_
                refine ⟨(List.set (([] : List api_Report) ++ (z1.map ofRep)) (Int.toNat z2) (⟨(ix (([] : List api_Report) ++ (z1.map ofRep)) z2).Number, (ix (([] : List api_Report) ++ (z1.map ofRep)) z2).Farm, (ix (([] : List api_Report) ++ (z1.map ofRep)) z2).Day, w64 ((Keep.md p4 7) - 1), (ix (([] : List api_Report) ++ (z1.map ofRep)) z2).Line, ((ix (([] : List api_Report) ++ (z1.map ofRep)) z2).Measured)⟩ : api_Report)), H, ?_⟩
                exact Le.mk [(1, 1)] ⟨⟨SLe.eq rfl, rfl⟩, ⟨SLe.eq rfl, rfl⟩, ⟨SLe.eq rfl, rfl⟩, ⟨SLe.eq rfl, rfl⟩, rfl, trivial⟩ trivial ⟨⟨_, rfl, rfl⟩, trivial⟩ rfl rfl rfl rfl rfl
              · skip
                replace H := ite_f H hb
                refine AC.seq ?_
                refine AC.region ?_
                refine AO.pure (PureOp.eql (SLe.eq rfl) (SLe.eq rfl)) rfl rfl ?_
                refine AO.pure (PureOp.assignD (SLe.eq rfl)) rfl rfl ?_
                refine AO.nil ?_
                refine thenQ_normal ?_
                refine AC.cond (SLe.eq rfl) (fun hb => ?_) (fun hb => ?_)
                · skip
                  replace H := ite_t H hb
                  refine AC.region ?_
                  refine AO.pure (PureOp.moveP (SLe.eq rfl)) rfl rfl ?_
                  refine AO.pure (PureOp.moveD (SLe.eq rfl)) rfl rfl ?_
                  refine AO.pure (PureOp.nilCheckO (SLe.eq rfl)) rfl rfl ?_
                  refine AO.pure (PureOp.fldOK (off := (Int.toNat z2) * 7) (j := 0) (k := 4) (SLe.eq rfl) (by kernel_rfl)) rfl rfl ?_
                  refine AO.storeL (n := (Int.toNat z2)) (j := 4) (ks := [(iD p4)]) (([] : List api_Report) ++ (z1.map ofRep)) (z := (ix (([] : List api_Report) ++ (z1.map ofRep)) z2)) (⟨(ix (([] : List api_Report) ++ (z1.map ofRep)) z2).Number, (ix (([] : List api_Report) ++ (z1.map ofRep)) z2).Farm, (ix (([] : List api_Report) ++ (z1.map ofRep)) z2).Day, (ix (([] : List api_Report) ++ (z1.map ofRep)) z2).Kind, p4, ((ix (([] : List api_Report) ++ (z1.map ofRep)) z2).Measured)⟩ : api_Report) (SLe.eq rfl) (SLe.eq rfl) rfl rfl rfl (by kernel_rfl) (ix_get g3).1 rfl rfl rfl ?_
                  refine AO.nil ?_
                  refine blockQ_normal ?_
                  refine thenQ_normal ?_
                  refine ⟨(List.set (([] : List api_Report) ++ (z1.map ofRep)) (Int.toNat z2) (⟨(ix (([] : List api_Report) ++ (z1.map ofRep)) z2).Number, (ix (([] : List api_Report) ++ (z1.map ofRep)) z2).Farm, (ix (([] : List api_Report) ++ (z1.map ofRep)) z2).Day, (ix (([] : List api_Report) ++ (z1.map ofRep)) z2).Kind, p4, ((ix (([] : List api_Report) ++ (z1.map ofRep)) z2).Measured)⟩ : api_Report)), H, ?_⟩
                  exact Le.mk [(1, 1)] ⟨⟨SLe.eq rfl, rfl⟩, ⟨SLe.eq rfl, rfl⟩, ⟨SLe.eq rfl, rfl⟩, ⟨SLe.eq rfl, rfl⟩, rfl, trivial⟩ trivial ⟨⟨_, rfl, rfl⟩, trivial⟩ rfl rfl rfl rfl rfl
                · skip
                  replace H := ite_f H hb
                  refine AC.seq ?_
                  refine AC.region ?_
                  refine AO.pure (PureOp.eql (SLe.eq rfl) (SLe.eq rfl)) rfl rfl ?_
                  refine AO.pure (PureOp.assignD (SLe.eq rfl)) rfl rfl ?_
                  refine AO.nil ?_
                  refine thenQ_normal ?_
                  refine AC.cond (SLe.eq rfl) (fun hb => ?_) (fun hb => ?_)
                  · skip
                    replace H := ite_t H hb
                    refine AC.region ?_
                    refine AO.pure (PureOp.moveP (SLe.eq rfl)) rfl rfl ?_
                    refine AO.pure (PureOp.moveD (SLe.eq rfl)) rfl rfl ?_
                    refine AO.pure (PureOp.nilCheckO (SLe.eq rfl)) rfl rfl ?_
                    refine AO.pure (PureOp.fldOK (off := (Int.toNat z2) * 7) (j := 0) (k := 5) (SLe.eq rfl) (by kernel_rfl)) rfl rfl ?_
                    refine AO.pure (PureOp.fldOK (off := (Int.toNat z2) * 7) (j := 5) (k := 0) (SLe.eq rfl) (by kernel_rfl)) rfl rfl ?_
                    refine AO.storeL (n := (Int.toNat z2)) (j := 5) (ks := [(iD p4)]) (([] : List api_Report) ++ (z1.map ofRep)) (z := (ix (([] : List api_Report) ++ (z1.map ofRep)) z2)) (⟨(ix (([] : List api_Report) ++ (z1.map ofRep)) z2).Number, (ix (([] : List api_Report) ++ (z1.map ofRep)) z2).Farm, (ix (([] : List api_Report) ++ (z1.map ofRep)) z2).Day, (ix (([] : List api_Report) ++ (z1.map ofRep)) z2).Kind, (ix (([] : List api_Report) ++ (z1.map ofRep)) z2).Line, (⟨p4, ((ix (([] : List api_Report) ++ (z1.map ofRep)) z2).Measured).Border⟩ : api_Measured)⟩ : api_Report) (SLe.eq rfl) (SLe.eq rfl) rfl rfl rfl (by kernel_rfl) (ix_get g3).1 rfl rfl rfl ?_
                    refine AO.nil ?_
                    refine blockQ_normal ?_
                    refine thenQ_normal ?_
                    refine ⟨(List.set (([] : List api_Report) ++ (z1.map ofRep)) (Int.toNat z2) (⟨(ix (([] : List api_Report) ++ (z1.map ofRep)) z2).Number, (ix (([] : List api_Report) ++ (z1.map ofRep)) z2).Farm, (ix (([] : List api_Report) ++ (z1.map ofRep)) z2).Day, (ix (([] : List api_Report) ++ (z1.map ofRep)) z2).Kind, (ix (([] : List api_Report) ++ (z1.map ofRep)) z2).Line, (⟨p4, ((ix (([] : List api_Report) ++ (z1.map ofRep)) z2).Measured).Border⟩ : api_Measured)⟩ : api_Report)), H, ?_⟩
                    exact Le.mk [(1, 1)] ⟨⟨SLe.eq rfl, rfl⟩, ⟨SLe.eq rfl, rfl⟩, ⟨SLe.eq rfl, rfl⟩, ⟨SLe.eq rfl, rfl⟩, rfl, trivial⟩ trivial ⟨⟨_, rfl, rfl⟩, trivial⟩ rfl rfl rfl rfl rfl
                  · skip
                    replace H := ite_f H hb
                    refine AC.seq ?_
                    refine AC.region ?_
                    refine AO.pure (PureOp.eql (SLe.eq rfl) (SLe.eq rfl)) rfl rfl ?_
                    refine AO.pure (PureOp.assignD (SLe.eq rfl)) rfl rfl ?_
                    refine AO.nil ?_
                    refine thenQ_normal ?_
                    refine AC.cond (SLe.eq rfl) (fun hb => ?_) (fun hb => ?_)
                    · skip
                      replace H := ite_t H hb
                      refine AC.region ?_
                      refine AO.pure (PureOp.moveP (SLe.eq rfl)) rfl rfl ?_
                      refine AO.pure (PureOp.moveO (SLe.eq rfl)) rfl rfl ?_
                      obtain ⟨g4, H⟩ := H
                      refine AO.pure (PureOp.idxOI (e := 78) (sz := 7) (l := (([] : List api_Report) ++ (z1.map ofRep))) (SLe.eq rfl) rfl (SLe.eq rfl) g4 rfl (by kernel_rfl)) rfl rfl ?_
                      refine AO.pure (PureOp.fldOK (off := (Int.toNat 0) * 7) (j := 0) (k := 0) (SLe.eq rfl) (by kernel_rfl)) rfl rfl ?_
                      refine AO.pure (PureOp.loadO1L (n := (Int.toNat 0)) (j := 0) (z := (ix (([] : List api_Report) ++ (z1.map ofRep)) 0)) (c := (iD ((ix (([] : List api_Report) ++ (z1.map ofRep)) 0).Number))) (SLe.eq rfl) rfl (ix_get g4).1 rfl (by kernel_rfl)) rfl rfl ?_
                      refine AO.pure (PureOp.nilCheckO (SLe.eq rfl)) rfl rfl ?_
                      refine AO.pure (PureOp.fldOK (off := (Int.toNat z2) * 7) (j := 0) (k := 0) (SLe.eq rfl) (by kernel_rfl)) rfl rfl ?_
                      refine AO.storeL (n := (Int.toNat z2)) (j := 0) (ks := [(iD ((ix (([] : List api_Report) ++ (z1.map ofRep)) 0).Number))]) (([] : List api_Report) ++ (z1.map ofRep)) (z := (ix (([] : List api_Report) ++ (z1.map ofRep)) z2)) (⟨(ix (([] : List api_Report) ++ (z1.map ofRep)) 0).Number, (ix (([] : List api_Report) ++ (z1.map ofRep)) z2).Farm, (ix (([] : List api_Report) ++ (z1.map ofRep)) z2).Day, (ix (([] : List api_Report) ++ (z1.map ofRep)) z2).Kind, (ix (([] : List api_Report) ++ (z1.map ofRep)) z2).Line, ((ix (([] : List api_Report) ++ (z1.map ofRep)) z2).Measured)⟩ : api_Report) (SLe.eq rfl) (SLe.eq rfl) rfl rfl rfl (by kernel_rfl) (ix_get g3).1 rfl rfl rfl ?_
                      refine AO.nil ?_
                      refine blockQ_normal ?_
                      refine thenQ_normal ?_
                      refine ⟨(List.set (([] : List api_Report) ++ (z1.map ofRep)) (Int.toNat z2) (⟨(ix (([] : List api_Report) ++ (z1.map ofRep)) 0).Number, (ix (([] : List api_Report) ++ (z1.map ofRep)) z2).Farm, (ix (([] : List api_Report) ++ (z1.map ofRep)) z2).Day, (ix (([] : List api_Report) ++ (z1.map ofRep)) z2).Kind, (ix (([] : List api_Report) ++ (z1.map ofRep)) z2).Line, ((ix (([] : List api_Report) ++ (z1.map ofRep)) z2).Measured)⟩ : api_Report)), H, ?_⟩
                      exact Le.mk [(1, 1)] ⟨⟨SLe.eq rfl, rfl⟩, ⟨SLe.eq rfl, rfl⟩, ⟨SLe.eq rfl, rfl⟩, ⟨SLe.eq rfl, rfl⟩, rfl, trivial⟩ trivial ⟨⟨_, rfl, rfl⟩, trivial⟩ rfl rfl rfl rfl rfl
                    · skip
                      replace H := ite_f H hb
                      refine AC.skip ?_
                      refine blockQ_normal ?_
                      refine thenQ_normal ?_
                      refine ⟨(([] : List api_Report) ++ (z1.map ofRep)), H, ?_⟩
                      exact Le.mk [(1, 1)] ⟨⟨SLe.eq rfl, rfl⟩, ⟨SLe.eq rfl, rfl⟩, ⟨SLe.eq rfl, rfl⟩, ⟨SLe.eq rfl, rfl⟩, rfl, trivial⟩ trivial ⟨⟨_, rfl, rfl⟩, trivial⟩ rfl rfl rfl rfl rfl
      · skip
        replace H := ite_f H hb
        refine AC.skip ?_
        refine thenQ_normal ?_
        refine ⟨(([] : List api_Report) ++ (z1.map ofRep)), H, ?_⟩
        exact Le.mk [(1, 1)] ⟨⟨SLe.eq rfl, rfl⟩, ⟨SLe.eq rfl, rfl⟩, ⟨SLe.eq rfl, rfl⟩, ⟨SLe.eq rfl, rfl⟩, rfl, trivial⟩ trivial ⟨⟨_, rfl, rfl⟩, trivial⟩ rfl rfl rfl rfl rfl
    · intro v1 H
      unfold visAns_j1 at H
      change AC _ _ _ _ _ ⟨[(1, .d (.sl 7 (p1.map api_Report.av))), (2, .d (iD p2)), (3, .d (iD p3)), (12, .d (.sl 7 ((z1.map ofRep).map api_Report.av))), (13, .os 1)], [], [(1, ⟨78, 7, v1.map api_Report.av⟩)], 2, true, 167⟩ _
      refine AC.seq ?_
      refine AC.seq ?_
      refine AC.region ?_
      refine AO.pure (PureOp.moveD (SLe.eq rfl)) rfl rfl ?_
      refine AO.pure (PureOp.moveO (SLe.eq rfl)) rfl rfl ?_
      refine AO.pure (PureOp.moveD (SLe.eq rfl)) rfl rfl ?_
      refine AO.le (Le.frz 1 78 7 (v1.map api_Report.av) rfl rfl) ?_
      refine AO.pure (PureOp.buildSlice (e := 72) (sz := 1) (z := .slice none 0 0) (rows := [[(.sl 7 ((z1.map ofRep).map api_Report.av))], [(.sl 7 (v1.map api_Report.av))], [(.sl 7 (p1.map api_Report.av))]]) (by kernel_rfl) (by kernel_rfl) rfl rfl rfl (.cons (SLe.eq rfl) rfl (.cons (SLe.eq rfl) rfl (.cons (SLe.eq rfl) rfl .nil))) rfl rfl rfl rfl) rfl rfl ?_
      refine AO.pure (PureOp.lenL (e := 72) (s' := 1) (sz := 1) (l := ([(z1.map ofRep), v1, p1] : List (List api_Report))) (av := (fun z => [.sl 7 (z.map api_Report.av)])) (SLe.eq rfl) (by kernel_rfl)) rfl rfl ?_
      refine AO.pure (PureOp.moveD (SLe.eq rfl)) rfl rfl ?_
      refine AO.nil ?_
      refine thenQ_normal ?_
      refine AC.block ?_
      refine AC.loop (ι := Nat × Unit) (fun q => ⟨[(2, .d (iD p2)), (3, .d (iD p3)), (92, .d (.sl 1 (([(z1.map ofRep), v1, p1] : List (List api_Report)).map (fun z => [.sl 7 (z.map api_Report.av)])))), (93, .d (iD ((([(z1.map ofRep), v1, p1] : List (List api_Report)).length : Nat) : Int))), (94, .d (iD ((q.1 : Nat) : Int)))], [], [], 2, true, 167⟩) (fun q => q.1 ≤ ([(z1.map ofRep), v1, p1] : List (List api_Report)).length ∧ forL (visAns_l2b p2 p3 Post) (visAns_l2e Post) (([(z1.map ofRep), v1, p1] : List (List api_Report)).drop q.1) q.2) (fun q => ([(z1.map ofRep), v1, p1] : List (List api_Report)).length - q.1) (0, ()) ?_ ⟨Nat.zero_le _, H⟩ ?_
      · skip
        exact Le.mk [] ⟨⟨SLe.eq rfl, rfl⟩, ⟨SLe.eq rfl, rfl⟩, ⟨SLe.eq rfl, rfl⟩, ⟨SLe.eq rfl, rfl⟩, (by first | exact ⟨SLe.eq rfl, rfl⟩ | exact ⟨SLe.int rfl (by omega), rfl⟩), trivial⟩ trivial trivial rfl rfl rfl rfl rfl
      · rintro ⟨i2, v2⟩ ⟨hi2, H⟩
        dsimp only at hi2 H
        change AC _ _ _ _ _ ⟨[(2, .d (iD p2)), (3, .d (iD p3)), (92, .d (.sl 1 (([(z1.map ofRep), v1, p1] : List (List api_Report)).map (fun z => [.sl 7 (z.map api_Report.av)])))), (93, .d (iD ((([(z1.map ofRep), v1, p1] : List (List api_Report)).length : Nat) : Int))), (94, .d (iD ((i2 : Nat) : Int)))], [], [], 2, true, 167⟩ _
        obtain ⟨rec2, hrec2⟩ : ∃ r, r = forL (visAns_l2b p2 p3 Post) (visAns_l2e Post) (([(z1.map ofRep), v1, p1] : List (List api_Report)).drop (i2 + 1)) := ⟨_, rfl⟩
        refine AC.seq ?_
        refine AC.region ?_
        refine AO.pure (PureOp.lss (SLe.eq rfl) (SLe.eq rfl)) rfl rfl ?_
        refine AO.nil ?_
        refine thenQ_normal ?_
        refine AC.seq ?_
        refine AC.cond (SLe.eq rfl) (fun hb => ?_) (fun hb => ?_)
        · skip
          obtain ⟨x2, hx2, hd2, hlt2⟩ := drop_at (l := ([(z1.map ofRep), v1, p1] : List (List api_Report))) (i := i2) hb
          rw [hd2] at H
          replace H := forL_step H
          rw [← hrec2] at H
          unfold visAns_l2b at H
          refine AC.len (av := (fun z => [.sl 7 (z.map api_Report.av)])) (l := ([(z1.map ofRep), v1, p1] : List (List api_Report))) (t := 92) (SLe.eq rfl) (fun hL2 => ?_)
          refine AC.skip ?_
          refine thenQ_normal ?_
          refine AC.seq ?_
          refine AC.block ?_
          refine AC.seq ?_
          refine AC.region ?_
          refine AO.pure (PureOp.idxE (e := 72) (sz := 1) (l := ([(z1.map ofRep), v1, p1] : List (List api_Report))) (n := i2) (z := x2) (SLe.eq rfl) (SLe.eq rfl) rfl hx2 (by kernel_rfl)) rfl rfl ?_
          refine AO.pure (PureOp.load1 (c := (.sl 7 (x2.map api_Report.av))) (SLe.eq rfl) rfl (by kernel_rfl)) rfl rfl ?_
          refine AO.pure (PureOp.assignD (SLe.eq rfl)) rfl rfl ?_
          refine AO.nil ?_
          refine thenQ_normal ?_
          refine AC.seq ?_
          refine AC.region ?_
          refine AO.pure (PureOp.moveD (SLe.eq rfl)) rfl rfl ?_
          refine AO.pure (PureOp.moveD (SLe.eq rfl)) rfl rfl ?_
          refine AO.pure (PureOp.callS (.cons (SLe.eq rfl) (.cons (SLe.eq rfl) .nil)) (mod_fc p2 4 (by decide)) (by kernel_rfl)) rfl rfl ?_
          refine AO.pure (PureOp.buildSlice (e := 3) (sz := 1) (z := .int .i64 0) (rows := [[(iD p2)], [(iD (Keep.md p2 4))]]) (by kernel_rfl) (by kernel_rfl) rfl rfl rfl (.cons (SLe.eq rfl) rfl (.cons (SLe.eq rfl) rfl .nil)) rfl rfl rfl rfl) rfl rfl ?_
          refine AO.pure (PureOp.lenL (e := 3) (s' := 1) (sz := 1) (l := ([p2, (Keep.md p2 4)] : List Int)) (av := avI) (SLe.eq rfl) (by kernel_rfl)) rfl rfl ?_
          refine AO.pure (PureOp.moveD (SLe.eq rfl)) rfl rfl ?_
          refine AO.nil ?_
          refine thenQ_normal ?_
          refine AC.block ?_
          refine AC.loop (ι := Nat × Unit) (fun q => ⟨[(2, .d (iD p2)), (3, .d (iD p3)), (16, .d (.sl 7 (x2.map api_Report.av))), (92, .d (.sl 1 (([(z1.map ofRep), v1, p1] : List (List api_Report)).map (fun z => [.sl 7 (z.map api_Report.av)])))), (93, .d (iD ((([(z1.map ofRep), v1, p1] : List (List api_Report)).length : Nat) : Int))), (94, .d (iD ((i2 : Nat) : Int))), (101, .d (.sl 1 (([p2, (Keep.md p2 4)] : List Int).map avI))), (102, .d (iD ((([p2, (Keep.md p2 4)] : List Int).length : Nat) : Int))), (103, .d (iD ((q.1 : Nat) : Int)))], [], [], 2, true, 167⟩) (fun q => q.1 ≤ ([p2, (Keep.md p2 4)] : List Int).length ∧ forL (visAns_l3b p3 Post x2) (visAns_l3e rec2) (([p2, (Keep.md p2 4)] : List Int).drop q.1) q.2) (fun q => ([p2, (Keep.md p2 4)] : List Int).length - q.1) (0, ()) ?_ ⟨Nat.zero_le _, H⟩ ?_
          · skip
            exact Le.mk [] ⟨⟨SLe.eq rfl, rfl⟩, ⟨SLe.eq rfl, rfl⟩, ⟨SLe.eq rfl, rfl⟩, ⟨SLe.eq rfl, rfl⟩, ⟨SLe.eq rfl, rfl⟩, ⟨SLe.eq rfl, rfl⟩, ⟨SLe.eq rfl, rfl⟩, ⟨SLe.eq rfl, rfl⟩, (by first | exact ⟨SLe.eq rfl, rfl⟩ | exact ⟨SLe.int rfl (by omega), rfl⟩), trivial⟩ trivial trivial rfl rfl rfl rfl rfl
          · rintro ⟨i3, v3⟩ ⟨hi3, H⟩
            dsimp only at hi3 H
            change AC _ _ _ _ _ ⟨[(2, .d (iD p2)), (3, .d (iD p3)), (16, .d (.sl 7 (x2.map api_Report.av))), (92, .d (.sl 1 (([(z1.map ofRep), v1, p1] : List (List api_Report)).map (fun z => [.sl 7 (z.map api_Report.av)])))), (93, .d (iD ((([(z1.map ofRep), v1, p1] : List (List api_Report)).length : Nat) : Int))), (94, .d (iD ((i2 : Nat) : Int))), (101, .d (.sl 1 (([p2, (Keep.md p2 4)] : List Int).map avI))), (102, .d (iD ((([p2, (Keep.md p2 4)] : List Int).length : Nat) : Int))), (103, .d (iD ((i3 : Nat) : Int)))], [], [], 2, true, 167⟩ _
            obtain ⟨rec3, hrec3⟩ : ∃ r, r = forL (visAns_l3b p3 Post x2) (visAns_l3e rec2) (([p2, (Keep.md p2 4)] : List Int).drop (i3 + 1)) := ⟨_, rfl⟩
            refine AC.seq ?_
            refine AC.region ?_
            refine AO.pure (PureOp.lss (SLe.eq rfl) (SLe.eq rfl)) rfl rfl ?_
            refine AO.nil ?_
            refine thenQ_normal ?_
            refine AC.seq ?_
            refine AC.cond (SLe.eq rfl) (fun hb => ?_) (fun hb => ?_)
            · skip
              obtain ⟨x3, hx3, hd3, hlt3⟩ := drop_at (l := ([p2, (Keep.md p2 4)] : List Int)) (i := i3) hb
              rw [hd3] at H
              replace H := forL_step H
              rw [← hrec3] at H
              unfold visAns_l3b at H
              refine AC.len (av := avI) (l := ([p2, (Keep.md p2 4)] : List Int)) (t := 101) (SLe.eq rfl) (fun hL3 => ?_)
              refine AC.skip ?_
              refine thenQ_normal ?_
              refine AC.seq ?_
              refine AC.block ?_
              refine AC.seq ?_
              refine AC.region ?_
              refine AO.pure (PureOp.idxE (e := 3) (sz := 1) (l := ([p2, (Keep.md p2 4)] : List Int)) (n := i3) (z := x3) (SLe.eq rfl) (SLe.eq rfl) rfl hx3 (by kernel_rfl)) rfl rfl ?_
              refine AO.pure (PureOp.load1 (c := (iD x3)) (SLe.eq rfl) rfl (by kernel_rfl)) rfl rfl ?_
              refine AO.pure (PureOp.assignD (SLe.eq rfl)) rfl rfl ?_
              refine AO.nil ?_
              refine thenQ_normal ?_
              refine AC.seq ?_
              refine AC.region ?_
              refine AO.pure (PureOp.moveD (SLe.eq rfl)) rfl rfl ?_
              obtain ⟨g5, H⟩ := H
              refine AO.pure (PureOp.callS (.cons (SLe.eq rfl) .nil) (bp_check x2 g5) (by kernel_rfl)) rfl rfl ?_
              refine AO.pure (PureOp.moveD (SLe.eq rfl)) rfl rfl ?_
              refine AO.pure (PureOp.callS (.cons (SLe.eq rfl) .nil) (br_check x2 g5) (by kernel_rfl)) rfl rfl ?_
              refine AO.pure (PureOp.neq (SLe.eq rfl) (SLe.eq rfl)) rfl rfl ?_
              refine AO.pure (PureOp.moveD (SLe.eq rfl)) rfl rfl ?_
              refine AO.guarded rfl rfl (fun hG => PureOp.moveD (SLe.eq rfl)) rfl rfl ?_
              refine AO.guarded rfl rfl (fun hG => PureOp.moveD (SLe.eq rfl)) rfl rfl ?_
              refine AO.guarded rfl rfl (fun hG => PureOp.callS (.cons (SLe.cnd rfl hG) (.cons (SLe.cnd rfl hG) .nil)) (bp_refused x2 x3 g5) (by kernel_rfl)) rfl rfl ?_
              refine AO.guarded rfl rfl (fun hG => PureOp.moveD (SLe.eq rfl)) rfl rfl ?_
              refine AO.guarded rfl rfl (fun hG => PureOp.moveD (SLe.eq rfl)) rfl rfl ?_
              refine AO.guarded rfl rfl (fun hG => PureOp.callS (.cons (SLe.cnd rfl hG) (.cons (SLe.cnd rfl hG) .nil)) (br_refused x2 x3 g5) (by kernel_rfl)) rfl rfl ?_
              refine AO.guarded rfl rfl (fun hG => PureOp.neqB (SLe.cnd rfl hG) (SLe.cnd rfl hG) (by kernel_rfl)) rfl rfl ?_
              refine AO.pure (PureOp.pickOr (SLe.eq rfl) rfl rfl (fun h => beq_f h)) rfl rfl ?_
              refine AO.pure (PureOp.moveD (SLe.eq rfl)) rfl rfl ?_
              refine AO.guarded rfl rfl (fun hG => PureOp.moveD (SLe.eq rfl)) rfl rfl ?_
              refine AO.guarded rfl rfl (fun hG => PureOp.moveD (SLe.eq rfl)) rfl rfl ?_
              refine AO.guarded rfl rfl (fun hG => PureOp.moveD (SLe.eq rfl)) rfl rfl ?_
              refine AO.guarded rfl rfl (fun hG => PureOp.callS (.cons (SLe.cnd rfl hG) (.cons (SLe.cnd rfl hG) (.cons (SLe.cnd rfl hG) .nil))) (bp_line x2 x3 p3 g5) (by kernel_rfl)) rfl rfl ?_
              refine AO.guarded rfl rfl (fun hG => PureOp.moveD (SLe.eq rfl)) rfl rfl ?_
              refine AO.guarded rfl rfl (fun hG => PureOp.moveD (SLe.eq rfl)) rfl rfl ?_
              refine AO.guarded rfl rfl (fun hG => PureOp.moveD (SLe.eq rfl)) rfl rfl ?_
              refine AO.guarded rfl rfl (fun hG => PureOp.callS (.cons (SLe.cnd rfl hG) (.cons (SLe.cnd rfl hG) (.cons (SLe.cnd rfl hG) .nil))) (br_line x2 x3 p3 g5) (by kernel_rfl)) rfl rfl ?_
              obtain ⟨b1, hb1⟩ : ∃ b : Bool, b = (!(decide ((ofSeen (lineS (x2.map toRep) x3 p3)).Kind = (ofSeen (lineS (x2.map toRep) x3 p3)).Kind) && (decide (((ofSeen (lineS (x2.map toRep) x3 p3)).Measured).Area = ((ofSeen (lineS (x2.map toRep) x3 p3)).Measured).Area) && (decide (((ofSeen (lineS (x2.map toRep) x3 p3)).Measured).Border = ((ofSeen (lineS (x2.map toRep) x3 p3)).Measured).Border) && true)))) := ⟨_, rfl⟩
              replace H := H b1 hb1
              refine AO.guarded (r := .d (bD b1)) rfl rfl (fun hG => by rw [hb1]; exact PureOp.neqA (ks := [false, false, false]) (r := (decide ((ofSeen (lineS (x2.map toRep) x3 p3)).Kind = (ofSeen (lineS (x2.map toRep) x3 p3)).Kind) && (decide (((ofSeen (lineS (x2.map toRep) x3 p3)).Measured).Area = ((ofSeen (lineS (x2.map toRep) x3 p3)).Measured).Area) && (decide (((ofSeen (lineS (x2.map toRep) x3 p3)).Measured).Border = ((ofSeen (lineS (x2.map toRep) x3 p3)).Measured).Border) && true)))) (by kernel_rfl) (SLe.cnd rfl hG) (SLe.cnd rfl hG) rfl) rfl rfl ?_
              refine AO.pure (PureOp.pickOr (SLe.eq rfl) rfl rfl (fun h => beq_f h)) rfl rfl ?_
              refine AO.pure (PureOp.moveD (SLe.eq rfl)) rfl rfl ?_
              refine AO.guarded rfl rfl (fun hG => PureOp.moveD (SLe.eq rfl)) rfl rfl ?_
              refine AO.guarded rfl rfl (fun hG => PureOp.moveD (SLe.eq rfl)) rfl rfl ?_
              refine AO.guarded rfl rfl (fun hG => PureOp.moveD (SLe.eq rfl)) rfl rfl ?_
              refine AO.guarded rfl rfl (fun hG => PureOp.callS (.cons (SLe.cnd rfl hG) (.cons (SLe.eq rfl) .nil)) (mod_fc p3 3 (by decide)) (by kernel_rfl)) rfl rfl ?_
              refine AO.guarded rfl rfl (fun hG => PureOp.callS (.cons (SLe.cnd rfl hG) (.cons (SLe.cnd rfl hG) (.cons (SLe.cnd rfl hG) .nil))) (bp_line x2 x3 (Keep.md p3 3) g5) (by kernel_rfl)) rfl rfl ?_
              refine AO.guarded rfl rfl (fun hG => PureOp.moveD (SLe.eq rfl)) rfl rfl ?_
              refine AO.guarded rfl rfl (fun hG => PureOp.moveD (SLe.eq rfl)) rfl rfl ?_
              refine AO.guarded rfl rfl (fun hG => PureOp.moveD (SLe.eq rfl)) rfl rfl ?_
              refine AO.guarded rfl rfl (fun hG => PureOp.callS (.cons (SLe.cnd rfl hG) (.cons (SLe.eq rfl) .nil)) (mod_fc p3 3 (by decide)) (by kernel_rfl)) rfl rfl ?_
              refine AO.guarded rfl rfl (fun hG => PureOp.callS (.cons (SLe.cnd rfl hG) (.cons (SLe.cnd rfl hG) (.cons (SLe.cnd rfl hG) .nil))) (br_line x2 x3 (Keep.md p3 3) g5) (by kernel_rfl)) rfl rfl ?_
              obtain ⟨b2, hb2⟩ : ∃ b : Bool, b = (!(decide ((ofSeen (lineS (x2.map toRep) x3 (Keep.md p3 3))).Kind = (ofSeen (lineS (x2.map toRep) x3 (Keep.md p3 3))).Kind) && (decide (((ofSeen (lineS (x2.map toRep) x3 (Keep.md p3 3))).Measured).Area = ((ofSeen (lineS (x2.map toRep) x3 (Keep.md p3 3))).Measured).Area) && (decide (((ofSeen (lineS (x2.map toRep) x3 (Keep.md p3 3))).Measured).Border = ((ofSeen (lineS (x2.map toRep) x3 (Keep.md p3 3))).Measured).Border) && true)))) := ⟨_, rfl⟩
              replace H := H b2 hb2
              refine AO.guarded (r := .d (bD b2)) rfl rfl (fun hG => by rw [hb2]; exact PureOp.neqA (ks := [false, false, false]) (r := (decide ((ofSeen (lineS (x2.map toRep) x3 (Keep.md p3 3))).Kind = (ofSeen (lineS (x2.map toRep) x3 (Keep.md p3 3))).Kind) && (decide (((ofSeen (lineS (x2.map toRep) x3 (Keep.md p3 3))).Measured).Area = ((ofSeen (lineS (x2.map toRep) x3 (Keep.md p3 3))).Measured).Area) && (decide (((ofSeen (lineS (x2.map toRep) x3 (Keep.md p3 3))).Measured).Border = ((ofSeen (lineS (x2.map toRep) x3 (Keep.md p3 3))).Measured).Border) && true)))) (by kernel_rfl) (SLe.cnd rfl hG) (SLe.cnd rfl hG) rfl) rfl rfl ?_
              refine AO.pure (PureOp.pickOr (SLe.eq rfl) rfl rfl (fun h => beq_f h)) rfl rfl ?_
              refine AO.pure (PureOp.moveD (SLe.eq rfl)) rfl rfl ?_
              refine AO.guarded rfl rfl (fun hG => PureOp.moveD (SLe.eq rfl)) rfl rfl ?_
              refine AO.guarded rfl rfl (fun hG => PureOp.moveD (SLe.eq rfl)) rfl rfl ?_
              refine AO.guarded rfl rfl (fun hG => PureOp.callS (.cons (SLe.cnd rfl hG) (.cons (SLe.cnd rfl hG) .nil)) (bp_lines x2 x3 g5) (by kernel_rfl)) rfl rfl ?_
              refine AO.guarded rfl rfl (fun hG => PureOp.moveD (SLe.eq rfl)) rfl rfl ?_
              refine AO.guarded rfl rfl (fun hG => PureOp.moveD (SLe.eq rfl)) rfl rfl ?_
              refine AO.guarded rfl rfl (fun hG => PureOp.callS (.cons (SLe.cnd rfl hG) (.cons (SLe.cnd rfl hG) .nil)) (br_lines x2 x3 g5) (by kernel_rfl)) rfl rfl ?_
              obtain ⟨g6, H⟩ := H
              refine AO.guarded rfl rfl (fun hG => PureOp.callS (.cons (SLe.cnd rfl hG) (.cons (SLe.cnd rfl hG) .nil)) ((ints_any (linesS (x2.map toRep) x3) (linesS (x2.map toRep) x3) (g6 hG) (g6 hG)).any) (by kernel_rfl)) rfl rfl ?_
              refine AO.guarded rfl rfl (fun hG => PureOp.not (SLe.cnd rfl hG)) rfl rfl ?_
              obtain ⟨b3, hb3⟩ : ∃ b : Bool, b = (((((!decide ((chkE (x2.map toRep)) = (chkE (x2.map toRep)))) || (!(((x2.map toRep).any (refP x3)) == ((x2.map toRep).any (refP x3))))) || b1) || b2) || (!(decide ((linesS (x2.map toRep) x3) = (linesS (x2.map toRep) x3))))) := ⟨_, rfl⟩
              replace H := H b3 hb3
              refine AO.pure (r := .d (bD b3)) (by rw [hb3]; exact PureOp.pickOr (SLe.eq rfl) rfl rfl (fun h => beq_f h)) rfl rfl ?_
              refine AO.pure (PureOp.moveD (SLe.eq rfl)) rfl rfl ?_
              refine AO.guarded rfl rfl (fun hG => PureOp.moveD (SLe.eq rfl)) rfl rfl ?_
              refine AO.guarded rfl rfl (fun hG => PureOp.moveD (SLe.eq rfl)) rfl rfl ?_
              refine AO.guarded rfl rfl (fun hG => PureOp.callS (.cons (SLe.cnd rfl hG) (.cons (SLe.cnd rfl hG) .nil)) (bp_last x2 x3 g5) (by kernel_rfl)) rfl rfl ?_
              refine AO.guarded rfl rfl (fun hG => PureOp.moveD (SLe.eq rfl)) rfl rfl ?_
              refine AO.guarded rfl rfl (fun hG => PureOp.moveD (SLe.eq rfl)) rfl rfl ?_
              refine AO.guarded rfl rfl (fun hG => PureOp.callS (.cons (SLe.cnd rfl hG) (.cons (SLe.cnd rfl hG) .nil)) (br_last x2 x3 g5) (by kernel_rfl)) rfl rfl ?_
              refine AO.guarded rfl rfl (fun hG => PureOp.neq (SLe.cnd rfl hG) (SLe.cnd rfl hG)) rfl rfl ?_
              refine AO.pure (PureOp.pickOr (SLe.eq rfl) rfl rfl (fun h => beq_f h)) rfl rfl ?_
              refine AO.nil ?_
              refine thenQ_normal ?_
              refine AC.cond (SLe.eq rfl) (fun hb => ?_) (fun hb => ?_)
              · skip
                replace H := ite_t H hb
                refine AC.seq ?_
                refine AC.region ?_
                refine AO.pure (PureOp.assignD (SLe.eq rfl)) rfl rfl ?_
                refine AO.nil ?_
                refine thenQ_normal ?_
                refine AC.ret ?_
                refine blockQ_ret ?_
                refine thenQ_ret ?_
                refine thenQ_ret ?_
                refine blockQ_ret ?_
                refine blockQ_ret ?_
                refine thenQ_ret ?_
                refine thenQ_ret ?_
                refine blockQ_ret ?_
                refine thenQ_ret ?_
                refine ⟨rfl, _, ?_, ResOf.one (GetR.flat (SLe.eq rfl) rfl)⟩
                exact congrArg (fun b => D.v (.bool b)) (lawpost hPost H)
              · skip
                replace H := ite_f H hb
                refine AC.skip ?_
                refine blockQ_normal ?_
                refine thenQ_normal ?_
                refine AC.region ?_
                refine AO.pure (PureOp.add (SLe.eq rfl) (SLe.eq rfl) (by omega) (by omega)) rfl rfl ?_
                refine AO.pure (PureOp.moveD (SLe.eq rfl)) rfl rfl ?_
                refine AO.nil ?_
                refine thenQ_normal ?_
                refine ⟨(i3 + 1, ()), ⟨hlt3, by rw [hrec3] at H; exact H⟩, (by show ([p2, (Keep.md p2 4)] : List Int).length - (i3 + 1) < ([p2, (Keep.md p2 4)] : List Int).length - i3; omega), ?_⟩
                exact Le.mk [] ⟨⟨SLe.eq rfl, rfl⟩, ⟨SLe.eq rfl, rfl⟩, ⟨SLe.eq rfl, rfl⟩, ⟨SLe.eq rfl, rfl⟩, ⟨SLe.eq rfl, rfl⟩, ⟨SLe.eq rfl, rfl⟩, ⟨SLe.eq rfl, rfl⟩, ⟨SLe.eq rfl, rfl⟩, (by first | exact ⟨SLe.eq rfl, rfl⟩ | exact ⟨SLe.int rfl (by omega), rfl⟩), trivial⟩ trivial trivial rfl rfl rfl rfl rfl
            · skip
              obtain ⟨hd3, _⟩ := drop_end (l := ([p2, (Keep.md p2 4)] : List Int)) (i := i3) hi3 hb
              rw [hd3] at H
              replace H := forL_end H
              unfold visAns_l3e at H
              refine AC.exit ?_
              refine thenQ_exit ?_
              refine thenQ_exit ?_
              refine blockQ_hit ?_
              refine blockQ_normal ?_
              refine thenQ_normal ?_
              refine AC.region ?_
              refine AO.pure (PureOp.add (SLe.eq rfl) (SLe.eq rfl) (by omega) (by omega)) rfl rfl ?_
              refine AO.pure (PureOp.moveD (SLe.eq rfl)) rfl rfl ?_
              refine AO.nil ?_
              refine thenQ_normal ?_
              refine ⟨(i2 + 1, ()), ⟨hlt2, by rw [hrec2] at H; exact H⟩, (by show ([(z1.map ofRep), v1, p1] : List (List api_Report)).length - (i2 + 1) < ([(z1.map ofRep), v1, p1] : List (List api_Report)).length - i2; omega), ?_⟩
              exact Le.mk [] ⟨⟨SLe.eq rfl, rfl⟩, ⟨SLe.eq rfl, rfl⟩, ⟨SLe.eq rfl, rfl⟩, ⟨SLe.eq rfl, rfl⟩, (by first | exact ⟨SLe.eq rfl, rfl⟩ | exact ⟨SLe.int rfl (by omega), rfl⟩), trivial⟩ trivial trivial rfl rfl rfl rfl rfl
        · skip
          obtain ⟨hd2, _⟩ := drop_end (l := ([(z1.map ofRep), v1, p1] : List (List api_Report))) (i := i2) hi2 hb
          rw [hd2] at H
          replace H := forL_end H
          unfold visAns_l2e at H
          refine AC.exit ?_
          refine thenQ_exit ?_
          refine thenQ_exit ?_
          refine blockQ_hit ?_
          refine thenQ_normal ?_
          refine AC.seq ?_
          refine AC.region ?_
          refine AO.pure (PureOp.callS .nil (awake_any.any) (by kernel_rfl)) rfl rfl ?_
          refine AO.pure (PureOp.assignD (SLe.eq rfl)) rfl rfl ?_
          refine AO.nil ?_
          refine thenQ_normal ?_
          refine AC.ret ?_
          refine ⟨rfl, _, ?_, ResOf.one (GetR.flat (SLe.eq rfl) rfl)⟩
          exact congrArg (fun b => D.v (.bool b)) (lawpost hPost H)
end Vis
end Eng
end Go.Proofs.Ytmmekdkllccmdaa
