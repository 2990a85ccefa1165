/-
  'CrosscheckAnswers' returns true for every input, and leaves its input as it was. No condition.
-/
import Derived.Test.YtpeggkeenboacaaGreatRows
import Derived.Test.YtpeggkeenboacaaGreatNGC
import Derived.Test.YtpeggkeenboacaaGreatNGF
import Derived.WalkKit
import Derived.ProofKit
import Derived.OpenShut
import Derived.ShutString
import Derived.ChangeOld
import Derived.Below
namespace Go.Proofs.YtpeggkeenboacaaGreat.crosscheckAnswers
open Go.ChangeShapes Go.WideShapes Go.ChangeAt Go.RowKit
open Go.ChangeMaps (open_string shut_string)
open RE
set_option linter.unusedVariables false
theorem own:ownKnob Tryz.prog.godebug=none:=by kernel_rfl
theorem laidOut:laidOutB Tryz.prog=true:=by kernel_rfl
theorem walk (b0:Option Addr)(len0 cap0:Nat)(x0:List (api_Double))(cs1:Array Value)(x1:api_Yield)(a2:Int)(a3:Int)(b4:Option Addr)(len4 cap4:Nat)(x4:List (Int))(w:World)(ok0:OkD (tv (.sl (.st .api_Double)) x0))(w0:Rd (allS w) w (tv (.sl (.st .api_Double)) x0) (.slice b0 len0 cap0))(ok1:∀c∈enc (.st .api_Yield) x1,OkD c)(w1:Rd (allS w) w (tv (.st .api_Yield) x1) (.agg cs1))(w2:(Lit.int .i64 a2).wf=true)(w3:(Lit.int .i64 a3).wf=true)(ok4:OkD (tv (.sl (.int .i64)) x4))(w4:Rd (allS w) w (tv (.sl (.int .i64)) x4) (.slice b4 len4 cap4)):
 Calls Tryz.prog 10 #[.slice b0 len0 cap0,.agg cs1,.int .i64 a2,.int .i64 a3,.slice b4 len4 cap4] w λe w'=>e= .returned (.bool true)/\Below w.heap.size w w':=by
 exact (lAns_calls x0 x1 a2 a3 x4 (lAns_h x0 x1 a2 a3 x4) (w:=w) (S:=allS w) (us:=[.slice b0 len0 cap0,.agg cs1,.int .i64 a2,.int .i64 a3,.slice b4 len4 cap4]) (λ_ _ h=>h) rfl (RdL.get ⟨w0,⟨w1,⟨.v _,⟨.v _,⟨w4,trivial⟩⟩⟩⟩⟩)).mono λe w2 h=>⟨by obtain⟨⟨b,hb,ht⟩,_⟩:=h;rw[hb,ht],h.2⟩
set_option maxRecDepth 100000 in
theorem lifted (os:Os)(started:os.Started)(H:Type)(enc:TypeId×Value->H):
 ReturnsInHanded {} Tryz.checked os 10 .any (Rows.crosscheckAnswersSpec.pre6 enc Tryz.prog Tryz.f10 Rows.crosscheckAnswersRow.domain false) (Rows.crosscheckAnswersSpec.post enc Tryz.prog Tryz.f10 false true false false):=by
 refine returnsInHanded_of_change (C:=Tryz.checked) own started (by kernel_rfl) Tryz.func10
  (ChangeSpec.witness6 (enc:=enc) (C:=Tryz.checked) false ⟨#[],#[.slice none 0 0,.agg #[.int .i64 0,.int .i64 0,.slice none 0 0],.int .i64 0,.int .i64 0,.slice none 0 0],[]⟩ 8 (by kernel_rfl) (by kernel_rfl) (by kernel_rfl) (by kernel_rfl)) ?_
 intro W base args ds gs before hval0 hW hcnd _
 have hval:∀(j:Nat)t v,Tryz.f10.params[j]? =some t->args[j]? =some v->Value.okWide Tryz.prog W .any base t v:=hval0
 have hW':=hW
 obtain⟨p,q,hA0,hV,rfl,hfz,hnd⟩:=hW
 have hA:DataW.TrodAll enc Tryz.prog W 0 (λ_=>true) true Tryz.f10.params.toList args.toList ds p:=hA0
 rw[Tryz.params10] at hA hval
 obtain⟨v0,vs0,d0,ds0,p0,q0,hargs,rfl,rfl,h0,r0⟩:=trodAll_cons hA
 obtain⟨v1,vs1,d1,ds1,p1,q1,rfl,rfl,rfl,h1,r1⟩:=trodAll_cons r0
 obtain⟨v2,vs2,d2,ds2,p2,q2,rfl,rfl,rfl,h2,r2⟩:=trodAll_cons r1
 obtain⟨v3,vs3,d3,ds3,p3,q3,rfl,rfl,rfl,h3,r3⟩:=trodAll_cons r2
 obtain⟨v4,vs4,d4,ds4,p4,q4,rfl,rfl,rfl,h4,r4⟩:=trodAll_cons r3
 obtain⟨rfl,rfl,rfl⟩:=trodAll_nil r4
 obtain rfl:args= #[v0,v1,v2,v3,v4]:=by cases args;simp_all
 obtain⟨rfl,rfl⟩:=trodVars_none hV
 obtain⟨b0,len0,cap0,rfl⟩:=okWide_slice Tryz.underlying80 (hval 0 80 v0 rfl rfl)
 have k0:=h0
 have lt0:∀x∈p0,x.block<W.heap.size:=by obtain⟨m,hm⟩:=k0;exact DataW.trod_lt m _ _ _ hm
 obtain⟨x0,ok0,w0⟩:=rd_one (opnC_ok (P:=Tryz.prog) (τ:=tau) (n:=12) (t:=80) (ts:=[.sl (.st .api_Double)]) (by kernel_rfl)) rfl h0
 obtain⟨cs1,rfl,_⟩:=okWide_struct Tryz.underlying84 (hval 1 84 v1 rfl rfl)
 have k1:=h1
 have lt1:∀x∈p1,x.block<W.heap.size:=by obtain⟨m,hm⟩:=k1;exact DataW.trod_lt m _ _ _ hm
 obtain⟨x1,ok1,w1⟩:=rd_st (s:= .api_Yield) (opnC_ok (P:=Tryz.prog) (τ:=tau) (n:=12) (t:=84) (ts:=flds .api_Yield) (by kernel_rfl)) h1
 obtain⟨a2,rfl,rfl,rfl,w2⟩:=open_int Tryz.underlying3 (hval 2 3 v2 rfl rfl) h2
 obtain⟨a3,rfl,rfl,rfl,w3⟩:=open_int Tryz.underlying3 (hval 3 3 v3 rfl rfl) h3
 obtain⟨b4,len4,cap4,rfl⟩:=okWide_slice Tryz.underlying22 (hval 4 22 v4 rfl rfl)
 have k4:=h4
 have lt4:∀x∈p4,x.block<W.heap.size:=by obtain⟨m,hm⟩:=k4;exact DataW.trod_lt m _ _ _ hm
 obtain⟨x4,ok4,w4⟩:=rd_one (opnC_ok (P:=Tryz.prog) (τ:=tau) (n:=12) (t:=22) (ts:=[.sl (.int .i64)]) (by kernel_rfl)) rfl h4
 clear hA0 hval0
 refine (walk b0 len0 cap0 x0 cs1 x1 a2 a3 b4 len4 cap4 x4 W ok0 w0 ok1 w1 w2 w3 ok4 w4).mono λe W' ⟨he,bel⟩=> ?_
 subst he
 exact⟨_,rfl,_,_,_,[],_,[],hW',trodAll_mk1 (shut_bool Tryz.underlying4 _),(trodAll_cons_mk (Below.trod laidOut (by kernel_rfl) (of_decide_eq_true (by kernel_rfl)) k0 bel lt0) (trodAll_cons_mk (Below.trod laidOut (by kernel_rfl) (of_decide_eq_true (by kernel_rfl)) k1 bel lt1) (trodAll_cons_mk (shut_int Tryz.underlying3 w2) (trodAll_cons_mk (shut_int Tryz.underlying3 w3) (trodAll_cons_mk (Below.trod laidOut (by kernel_rfl) (of_decide_eq_true (by kernel_rfl)) k4 bel lt4) trodAll_mk0))))),rfl,bel.frame _,λh=>by cases h⟩
end Go.Proofs.YtpeggkeenboacaaGreat.crosscheckAnswers
