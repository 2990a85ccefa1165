/-
  'ParcelApart' returns true for every input, and leaves its input as it was. No condition.
-/
import Derived.Test.YtpeggkeenboacaaGreatRows
import Derived.Test.YtpeggkeenboacaaGreatAGC
import Derived.Test.YtpeggkeenboacaaGreatAGF
import Derived.WalkKit
import Derived.ProofKit
import Derived.OpenShut
import Derived.ShutString
import Derived.ChangeOld
import Derived.Below
namespace Go.Proofs.YtpeggkeenboacaaGreat.parcelApart
open Go.ChangeShapes Go.WideShapes Go.ChangeAt Go.RowKit
open Go.ChangeMaps (open_string shut_string)
open RE
set_option linter.unusedVariables false
theorem own:ownKnob Tryz.prog.godebug=none:=by kernel_rfl
theorem laidOut:laidOutB Tryz.prog=true:=by kernel_rfl
theorem walk (b0:Option Addr)(len0 cap0:Nat)(x0:List (Int))(w:World)(ok0:OkD (tv (.sl (.int .i64)) x0))(w0:Rd (allS w) w (tv (.sl (.int .i64)) x0) (.slice b0 len0 cap0)):
 Calls Tryz.prog 6 #[.slice b0 len0 cap0] w λe w'=>e= .returned (.bool true)/\Below w.heap.size w w':=by
 exact (lApart_calls x0 (lApart_h x0) (w:=w) (S:=allS w) (us:=[.slice b0 len0 cap0]) (λ_ _ h=>h) rfl (RdL.get ⟨w0,trivial⟩)).mono λe w2 h=>⟨by obtain⟨⟨b,hb,ht⟩,_⟩:=h;rw[hb,ht],h.2⟩
set_option maxRecDepth 100000 in
theorem lifted (os:Os)(started:os.Started)(H:Type)(enc:TypeId×Value->H):
 ReturnsInHanded {} Tryz.checked os 6 .any (Rows.parcelApartSpec.pre6 enc Tryz.prog Tryz.f6 Rows.parcelApartRow.domain false) (Rows.parcelApartSpec.post enc Tryz.prog Tryz.f6 false true false false):=by
 refine returnsInHanded_of_change (C:=Tryz.checked) own started (by kernel_rfl) Tryz.func6
  (ChangeSpec.witness6 (enc:=enc) (C:=Tryz.checked) false ⟨#[],#[.slice none 0 0],[]⟩ 8 (by kernel_rfl) (by kernel_rfl) (by kernel_rfl) (by kernel_rfl)) ?_
 intro W base args ds gs before hval0 hW hcnd _
 have hval:∀(j:Nat)t v,Tryz.f6.params[j]? =some t->args[j]? =some v->Value.okWide Tryz.prog W .any base t v:=hval0
 have hW':=hW
 obtain⟨p,q,hA0,hV,rfl,hfz,hnd⟩:=hW
 have hA:DataW.TrodAll enc Tryz.prog W 0 (λ_=>true) true Tryz.f6.params.toList args.toList ds p:=hA0
 rw[Tryz.params6] at hA hval
 obtain⟨v0,vs0,d0,ds0,p0,q0,hargs,rfl,rfl,h0,r0⟩:=trodAll_cons hA
 obtain⟨rfl,rfl,rfl⟩:=trodAll_nil r0
 obtain rfl:args= #[v0]:=by cases args;simp_all
 obtain⟨rfl,rfl⟩:=trodVars_none hV
 obtain⟨b0,len0,cap0,rfl⟩:=okWide_slice Tryz.underlying22 (hval 0 22 v0 rfl rfl)
 have k0:=h0
 have lt0:∀x∈p0,x.block<W.heap.size:=by obtain⟨m,hm⟩:=k0;exact DataW.trod_lt m _ _ _ hm
 obtain⟨x0,ok0,w0⟩:=rd_one (opnC_ok (P:=Tryz.prog) (τ:=tau) (n:=12) (t:=22) (ts:=[.sl (.int .i64)]) (by kernel_rfl)) rfl h0
 clear hA0 hval0
 refine (walk b0 len0 cap0 x0 W ok0 w0).mono λe W' ⟨he,bel⟩=> ?_
 subst he
 exact⟨_,rfl,_,_,_,[],_,[],hW',trodAll_mk1 (shut_bool Tryz.underlying4 _),(trodAll_cons_mk (Below.trod laidOut (by kernel_rfl) (of_decide_eq_true (by kernel_rfl)) k0 bel lt0) trodAll_mk0),rfl,bel.frame _,λh=>by cases h⟩
end Go.Proofs.YtpeggkeenboacaaGreat.parcelApart
