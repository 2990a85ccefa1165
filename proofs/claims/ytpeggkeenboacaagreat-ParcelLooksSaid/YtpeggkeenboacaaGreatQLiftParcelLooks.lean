/-
  'ParcelLooks' returns true for every input, and leaves its input as it was. No condition.
-/
import Derived.Test.YtpeggkeenboacaaGreatRows
import Derived.Test.YtpeggkeenboacaaGreatQGC
import Derived.Test.YtpeggkeenboacaaGreatQGF
import Derived.WalkKit
import Derived.ProofKit
import Derived.OpenShut
import Derived.ShutString
import Derived.ChangeOld
import Derived.Below
namespace Go.Proofs.YtpeggkeenboacaaGreat.parcelLooks
open Go.ChangeShapes Go.WideShapes Go.ChangeAt Go.RowKit
open Go.ChangeMaps (open_string shut_string)
open RE
set_option linter.unusedVariables false
theorem own:ownKnob Tryz.prog.godebug=none:=by kernel_rfl
theorem laidOut:laidOutB Tryz.prog=true:=by kernel_rfl
theorem walk (a0:Int)(a1:Int)(b2:Option Addr)(len2 cap2:Nat)(x2:List (Int))(w:World)(w0:(Lit.int .i64 a0).wf=true)(w1:(Lit.int .i64 a1).wf=true)(ok2:OkD (tv (.sl (.int .i64)) x2))(w2:Rd (allS w) w (tv (.sl (.int .i64)) x2) (.slice b2 len2 cap2)):
 Calls Tryz.prog 9 #[.int .i64 a0,.int .i64 a1,.slice b2 len2 cap2] w λe w'=>e= .returned (.bool true)/\Below w.heap.size w w':=by
 exact (lLooks_calls a0 a1 x2 (lLooks_h a0 a1 x2 w0 w1) (w:=w) (S:=allS w) (us:=[.int .i64 a0,.int .i64 a1,.slice b2 len2 cap2]) (λ_ _ h=>h) rfl (RdL.get ⟨.v _,⟨.v _,⟨w2,trivial⟩⟩⟩)).mono λe w2 h=>⟨by obtain⟨⟨b,hb,ht⟩,_⟩:=h;rw[hb,ht],h.2⟩
set_option maxRecDepth 100000 in
theorem lifted (os:Os)(started:os.Started)(H:Type)(enc:TypeId×Value->H):
 ReturnsInHanded {} Tryz.checked os 9 .any (Rows.parcelLooksSpec.pre6 enc Tryz.prog Tryz.f9 Rows.parcelLooksRow.domain false) (Rows.parcelLooksSpec.post enc Tryz.prog Tryz.f9 false true false false):=by
 refine returnsInHanded_of_change (C:=Tryz.checked) own started (by kernel_rfl) Tryz.func9
  (ChangeSpec.witness6 (enc:=enc) (C:=Tryz.checked) false ⟨#[],#[.int .i64 0,.int .i64 0,.slice none 0 0],[]⟩ 8 (by kernel_rfl) (by kernel_rfl) (by kernel_rfl) (by kernel_rfl)) ?_
 intro W base args ds gs before hval0 hW hcnd _
 have hval:∀(j:Nat)t v,Tryz.f9.params[j]? =some t->args[j]? =some v->Value.okWide Tryz.prog W .any base t v:=hval0
 have hW':=hW
 obtain⟨p,q,hA0,hV,rfl,hfz,hnd⟩:=hW
 have hA:DataW.TrodAll enc Tryz.prog W 0 (λ_=>true) true Tryz.f9.params.toList args.toList ds p:=hA0
 rw[Tryz.params9] at hA hval
 obtain⟨v0,vs0,d0,ds0,p0,q0,hargs,rfl,rfl,h0,r0⟩:=trodAll_cons hA
 obtain⟨v1,vs1,d1,ds1,p1,q1,rfl,rfl,rfl,h1,r1⟩:=trodAll_cons r0
 obtain⟨v2,vs2,d2,ds2,p2,q2,rfl,rfl,rfl,h2,r2⟩:=trodAll_cons r1
 obtain⟨rfl,rfl,rfl⟩:=trodAll_nil r2
 obtain rfl:args= #[v0,v1,v2]:=by cases args;simp_all
 obtain⟨rfl,rfl⟩:=trodVars_none hV
 obtain⟨a0,rfl,rfl,rfl,w0⟩:=open_int Tryz.underlying3 (hval 0 3 v0 rfl rfl) h0
 obtain⟨a1,rfl,rfl,rfl,w1⟩:=open_int Tryz.underlying3 (hval 1 3 v1 rfl rfl) h1
 obtain⟨b2,len2,cap2,rfl⟩:=okWide_slice Tryz.underlying22 (hval 2 22 v2 rfl rfl)
 have k2:=h2
 have lt2:∀x∈p2,x.block<W.heap.size:=by obtain⟨m,hm⟩:=k2;exact DataW.trod_lt m _ _ _ hm
 obtain⟨x2,ok2,w2⟩:=rd_one (opnC_ok (P:=Tryz.prog) (τ:=tau) (n:=12) (t:=22) (ts:=[.sl (.int .i64)]) (by kernel_rfl)) rfl h2
 clear hA0 hval0
 refine (walk a0 a1 b2 len2 cap2 x2 W w0 w1 ok2 w2).mono λe W' ⟨he,bel⟩=> ?_
 subst he
 exact⟨_,rfl,_,_,_,[],_,[],hW',trodAll_mk1 (shut_bool Tryz.underlying4 _),(trodAll_cons_mk (shut_int Tryz.underlying3 w0) (trodAll_cons_mk (shut_int Tryz.underlying3 w1) (trodAll_cons_mk (Below.trod laidOut (by kernel_rfl) (of_decide_eq_true (by kernel_rfl)) k2 bel lt2) trodAll_mk0))),rfl,bel.frame _,λh=>by cases h⟩
end Go.Proofs.YtpeggkeenboacaaGreat.parcelLooks
