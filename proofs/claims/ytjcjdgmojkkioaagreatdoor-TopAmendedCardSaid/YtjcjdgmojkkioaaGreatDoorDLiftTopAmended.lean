/-
  'TopAmended' returns true for every input, and leaves its input as it was. No condition.
-/
import Derived.Test.YtjcjdgmojkkioaaGreatDoorRows
import Derived.Test.YtjcjdgmojkkioaaGreatDoorDGF
import Derived.WalkKit
import Derived.ProofKit
import Derived.OpenShut
import Derived.ShutString
import Derived.ChangeOld
import Derived.Below
import Derived.Lay
import Derived.LaidMore
import Derived.Stop.Joined
import Derived.SevenTiedAt
import Derived.Test.YtjcjdgmojkkioaaGreatDoorTie
import Derived.Test.YtjcjdgmojkkioaaGreatDoorCards
namespace Go.Proofs.YtjcjdgmojkkioaaGreatDoor.topAmended
open Go.ChangeShapes Go.WideShapes Go.ChangeAt Go.RowKit
open Go.ChangeMaps (open_string shut_string)
open RE
set_option linter.unusedVariables false
theorem own:ownKnob Tryz.prog.godebug=none:=by kernel_rfl
theorem laidOut:laidOutB Tryz.prog=true:=by kernel_rfl
theorem walk (b0:Option Addr)(len0 cap0:Nat)(x0:List (Int))(a1:Int)(w:World)(ok0:OkD (tv (.sl (.int .i64)) x0))(w0:Rd (allS w) w (tv (.sl (.int .i64)) x0) (.slice b0 len0 cap0))(w1:(Lit.int .u8 a1).wf=true):
 Calls Tryz.prog 3 #[.slice b0 len0 cap0,.int .u8 a1] w λe w'=>e= .returned (.bool true)/\Below w.heap.size w w':=by
 exact (lAmd_calls x0 a1 (lAmd_h x0 a1 w1) (w:=w) (S:=allS w) (us:=[.slice b0 len0 cap0,.int .u8 a1]) (λ_ _ h=>h) rfl (RdL.get ⟨w0,⟨.v _,trivial⟩⟩)).mono λe w2 h=>⟨by obtain⟨⟨b,hb,ht⟩,_⟩:=h;rw[hb,ht],h.2⟩
set_option maxRecDepth 100000 in
theorem lifted (os:Os)(started:os.Started)(H:Type)(enc:TypeId×Value->H):
 ReturnsInHanded {} Tryz.checked os 3 .any (λw args=>(Rows.topAmendedSpec.pre enc Tryz.prog Tryz.f3 [] false w args/\laidMetH Tryz.prog Rows.topAmendedRow.laid w)/\sizedMet enc Tryz.prog Tryz.f3 (OpenSpec.ofChange Rows.topAmendedSpec) false w args) (Rows.topAmendedSpec.post enc Tryz.prog Tryz.f3 false true false false):=by
 refine returnsInHanded_of_change_and (C:=Tryz.checked) (X:=λw _=>laidMetH Tryz.prog Rows.topAmendedRow.laid w) (λ_ _ _ hh h=>h.of_heap hh) own started (by kernel_rfl) Tryz.func3
  (ChangeSpec.witness_shaped (enc:=enc) (C:=Tryz.checked) (os:=os) (X:=λw _=>laidMetH Tryz.prog Rows.topAmendedRow.laid w) false (World.laidAll Tryz.prog os Rows.topAmendedRow.laid) #[.slice none 0 0,.int .u8 0] 8 (World.laidAll_os _ _ _)
   (World.shaped_of_ZipB (by kernel_rfl) (by kernel_rfl)) (by kernel_rfl) (by kernel_rfl) (by kernel_rfl)
   (by rw[MakeChecks.laidMetH_plain _ _ _ (by kernel_rfl)];exact laidMet_laidAll _ (by kernel_rfl) (by kernel_rfl))) ?_
 intro W base args ds gs before hval0 hW _ _ hL _
 have hval:∀(j:Nat)t v,Tryz.f3.params[j]? =some t->args[j]? =some v->Value.okWide Tryz.prog W .any base t v:=hval0
 have hW':=hW
 obtain⟨p,q,hA0,hV,rfl,hfz,hnd⟩:=hW
 have hA:DataW.TrodAll enc Tryz.prog W 0 (λ_=>true) true Tryz.f3.params.toList args.toList ds p:=hA0
 rw[Tryz.params3] at hA hval
 obtain⟨v0,vs0,d0,ds0,p0,q0,hargs,rfl,rfl,h0,r0⟩:=trodAll_cons hA
 obtain⟨v1,vs1,d1,ds1,p1,q1,rfl,rfl,rfl,h1,r1⟩:=trodAll_cons r0
 obtain⟨rfl,rfl,rfl⟩:=trodAll_nil r1
 obtain rfl:args= #[v0,v1]:=by cases args;simp_all
 obtain⟨rfl,rfl⟩:=trodVars_none hV
 obtain⟨b0,len0,cap0,rfl⟩:=okWide_slice Tryz.underlying22 (hval 0 22 v0 rfl rfl)
 have k0:=h0
 have lt0:∀x∈p0,x.block<W.heap.size:=by obtain⟨m,hm⟩:=k0;exact DataW.trod_lt m _ _ _ hm
 obtain⟨x0,ok0,w0⟩:=rd_one (opnC_ok (P:=Tryz.prog) (τ:=tau) (n:=12) (t:=22) (ts:=[.sl (.int .i64)]) (by kernel_rfl)) rfl h0
 obtain⟨a1,rfl,rfl,rfl,w1⟩:=open_int Tryz.underlying5 (hval 1 5 v1 rfl rfl) h1
 clear hA0 hval0
 refine (walk b0 len0 cap0 x0 a1 W ok0 w0 w1).mono λe W' ⟨he,bel⟩=> ?_
 subst he
 exact⟨_,rfl,_,_,_,[],_,[],hW',trodAll_mk1 (shut_bool Tryz.underlying4 _),(trodAll_cons_mk (Below.trod laidOut (by kernel_rfl) (of_decide_eq_true (by kernel_rfl)) k0 bel lt0) (trodAll_cons_mk (shut_int Tryz.underlying5 w1) trodAll_mk0)),rfl,bel.frame _,λh=>by cases h⟩
end Go.Proofs.YtjcjdgmojkkioaaGreatDoor.topAmended
