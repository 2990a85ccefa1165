/-
  Texts of the proof of ParcelSteps, part GF.
-/
import Derived.Test.YtpeggkeenboacaaGreatSGE
import Derived.Test.YtpeggkeenboacaaGreatSGW
set_option linter.unusedVariables false
noncomputable section
namespace Go.Proofs.YtpeggkeenboacaaGreat
namespace RE
set_option maxRecDepth 100000
open Go.RowKit
open PL
def kedits_P (most:Int)(step:Int)(post:List (api_Edit)->List (api_Parcel)->Prop):Prop:=(0<=most/\most<=8/\0<=step/\step<=10)/\∀(es:List Ed)(x:List Pc),Hist most.toNat es x->post es x
def kedits_sp:Spec:=⟨23,true,true,[.int .i64,.int .i64],.tup [.dat (.sl (.st .api_Edit)),.dat (.sl (.st .api_Parcel))],λx post=>kedits_P (x.1:Int) (x.2.1:Int) (λy0 y1=>post (y0,y1,()))⟩
def kedits_C:CtxR:=⟨tau,[rule1 knext_sp,rule1 kedit_sp,rule1 rappA_sp],lookJ [(0,11,⟨[(11,.dat (.int .i64)),(8,.own 25 (.st .api_Edit)),(9,.dat (.sl (.st .api_Parcel))),(10,.dat (.int .i64))],[],(List.range' 21 27++[12,13,14]),[],[]⟩),(0,12,⟨[(8,.own 25 (.st .api_Edit)),(9,.dat (.sl (.st .api_Parcel))),(10,.dat (.int .i64))],[],(List.range' 25 23++[12,13,14]),[0],[]⟩)]⟩
abbrev kedits_a0 (v13:api_Edit):={Day:=v13.1,Known:=v13.2,Kind:=v13.3,Parcels:=v13.4,Regions:=v13.5:api_Edit}
def kedits_W (most:Int)(step:Int)(post:List (api_Edit)->List (api_Parcel)->Prop):Prop:=Int.NonNeg 9223372036854775802/\∀(v1:Int),0<=v1->v1<5\/v1=0->IntKind.i64.wrap (most+1)<=9223372036854775807/\∀(v2:Int),0<=v2->v2<IntKind.i64.wrap (most+1)\/v2=0->LOOP [Ty.int IntKind.i64,(Ty.st Sn.api_Edit).sl,(Ty.st Sn.api_Parcel).sl,Ty.int IntKind.i64] (λ(rec3:Int->List api_Edit->List api_Parcel->Int->Prop) (z4:Int) (z5:List api_Edit) (z6:List api_Parcel) (z7:Int)=>IFB (decide ((0:Int)<z4)) (JOIN [(Ty.st Sn.api_Edit).sl,(Ty.st Sn.api_Parcel).sl,Ty.int IntKind.i64] (λ(y8:List api_Edit) (y9:List api_Parcel) (y10:Int)=>rec3 (IntKind.i64.wrap (z4-1)) y8 y9 y10) λ(J11:List api_Edit->List api_Parcel->Int->Prop)=>IntKind.i64.wrap (step+1)<=9223372036854775807/\∀(v12:Int),0<=v12->v12<IntKind.i64.wrap (step+1)\/v12=0->(szL z6/\z6.length<=15)/\∀(v13:api_Edit),edQ z6 (IntKind.i64.wrap (z7+v12)) v13->(szL z6/\szE (kedits_a0 v13)/\((v13.3=2->False)->editS z6 (kedits_a0 v13)=0->(∀(v14:Nat),v14<=v13.5.length->(canonF (cov (partsR (List.take v14 v13.5)))).length<=10000)/\∀(v15:Nat),v15<=v13.4.length->(canonF (cov (outsL z6 (List.take v15 v13.4)))).length<=10000))/\IFB (decide ((applyS z6 (kedits_a0 v13)).2=0)) ((z5.length+[(kedits_a0 v13)].length) * (72:Nat)<=140737488355328/\J11 (z5++[(kedits_a0 v13)]) (applyS z6 (kedits_a0 v13)).1 (IntKind.i64.wrap (z7+v12))) (J11 z5 z6 (IntKind.i64.wrap (z7+v12)))) (post z5 z6)) (v2,[],[],v1,PUnit.unit)
theorem kedits_w (most:Int)(step:Int)(post:dens (shT kedits_sp.rs [])->Prop):kedits_W most step (λy0 y1=>post (y0,y1,()))=walkG (callR Tryz.prog kedits_C (drawF Tryz.prog tau) 8 0) 23 true [tv (.int .i64) most,tv (.int .i64) step] kedits_sp.rs post:=by kernel_rfl
theorem kedits_of (h:∀most step post,kedits_P most step post->kedits_W most step post):SpecOK Tryz.prog kedits_sp:=SpecOK.of_rules (C:=kedits_C) (dr:=drawF Tryz.prog tau) (n:=8) (fk:=0) (.cons (rule1_ok knext_ok) (.cons (rule1_ok kedit_ok) (.cons (rule1_ok rappA_ok) .nil))) (drawF_ok tau) λx post hp=>HoldW.of (kedits_w x.1 x.2.1 post) (h x.1 x.2.1 (λy0 y1=>post (y0,y1,())) hp)
theorem kedits_ok:SpecOK Tryz.prog kedits_sp:=kedits_of λmost step post hp=>by
 obtain⟨⟨m0,m1,s0,s1⟩,hp⟩:=hp
 unfold kedits_W kedits_a0
 have w1:IntKind.i64.wrap (most+1)=most+1:=wrap_in (by omega) (by omega)
 have w2:IntKind.i64.wrap (step+1)=step+1:=wrap_in (by omega) (by omega)
 rw[w1,w2]
 refine⟨.mk _,λd hd0 hd1=>⟨by omega,λn hn0 hn1=> ?_⟩⟩
 refine LOOP.fuel (λu=>∃i:Nat,u.1=n-(i:Int)/\(i:Int)<=n/\Hist i u.2.1 u.2.2.1/\ @LE.le Int _ 0 u.2.2.2.1/\ @LE.le Int _ u.2.2.2.1 (4+10 * (i:Int))) (λu=>Int.toNat u.1) ⟨0,by show n=n-((0:Nat):Int);omega,by omega,hist_nil,hd0,by show d<=_;omega⟩ ?_
 rintro rec ⟨(z4:Int),(z5:List Ed),(z6:List Pc),(z7:Int),⟨⟩⟩ ⟨i,f1,i2,f3,f4,f5⟩ hrec
 have e1:z4=n-(i:Int):=f1
 have hh:Hist i z5 z6:=f3
 have d0:0<=z7:=f4
 have d1:z7<=4+10 * (i:Int):=f5
 clear f1 f3 f4 f5
 subst e1
 refine IFB.mk (λhb=> ?_) (λhb=> ?_)
 ·have hb:0<n-(i:Int):=of_decide_eq_true hb
  have hi:i<=7:=by omega
  have hlen:=hh.len
  have hxl:=hh.xl
  have hx15:z6.length<=15:=by omega
  have hz5:(z5.length+1) * 72<=140737488355328:=by omega
  refine JOIN.opq λ(J:List api_Edit->List api_Parcel->Int->Prop) hJ=>⟨by omega,λv v0 v1=>⟨⟨hh.sz,hx15⟩,λe he=> ?_⟩⟩
  have w3:IntKind.i64.wrap (z7+v)=z7+v:=wrap_in (by omega) (by omega)
  rw[w3] at he ⊢
  have w4:IntKind.i64.wrap (n-(i:Int)-1)=n-((i+1:Nat):Int):=by rw[wrap_in (by omega) (by omega)];omega
  obtain⟨r1,r2⟩:=hh.reach hi he
  have hc:=combK_of (e:=e) (N:=39+8 * (z5.length:Int)) (by omega) (by omega) r1 r2
  have next:∀(a:List Ed)(b:List Pc),Hist (i+1) a b->J a b (z7+v):=λa b hab=>by
   rw[hJ,w4]
   exact hrec (n-((i+1:Nat):Int),a,b,z7+v,()) ⟨i+1,rfl,by omega,hab,by show 0<=z7+v;omega,by show z7+v<=4+10 * ((i+1:Nat):Int);omega⟩ (by show (n-((i+1:Nat):Int)).toNat<(n-(i:Int)).toNat;omega)
  refine⟨⟨hh.sz,he.1,λ_=>hc⟩,IFB.mk (λhq=> ?_) (λhq=>next _ _ (hh.mono (by omega)))⟩
  have hq:(applyS z6 e).2=0:=of_decide_eq_true hq
  exact⟨hz5,next _ _ (hh.step hi ⟨by omega,by omega⟩ he hq)⟩
 ·have hb:¬0<n-(i:Int):=of_decide_eq_false hb
  exact hp _ _ (hh.mono (by omega))
def kmod_P (k:Int)(n:Int)(post:Int->Prop):Prop:=(1<=n/\n<=1000000)/\∀q:Int,0<=q->q<n->post q
def kmod_sp:Spec:=⟨18,false,false,[.int .i64,.int .i64],.dat (.int .i64),λx post=>kmod_P (x.1:Int) (x.2.1:Int) (λy0=>post (y0,()))⟩
def kmod_C:CtxR:=⟨tau,[],lookJ [(0,12,⟨[(0,.dat (.int .i64))],[],[10,11,12,13,14],[],[]⟩)]⟩
def kmod_W (k:Int)(n:Int)(post:Int->Prop):Prop:=IFB (decide (n<1)) (post 0) ((n=0->False)/\JOIN [Ty.int IntKind.i64] (λ(y1:Int)=>post y1) λ(J2:Int->Prop)=>IFB (decide (k.tmod n<0)) (J2 (IntKind.i64.wrap (k.tmod n+n))) (J2 (k.tmod n)))
theorem kmod_w (k:Int)(n:Int)(post:dens (shT kmod_sp.rs [])->Prop):kmod_W k n (λy0=>post (y0,()))=walkG (callR Tryz.prog kmod_C (drawR Tryz.prog tau) 8 0) 18 false [tv (.int .i64) k,tv (.int .i64) n] kmod_sp.rs post:=by kernel_rfl
theorem kmod_of (h:∀k n post,kmod_P k n post->kmod_W k n post):SpecOK Tryz.prog kmod_sp:=SpecOK.of_rules (C:=kmod_C) (dr:=drawR Tryz.prog tau) (n:=8) (fk:=0) .nil (drawR_ok tau) λx post hp=>HoldW.of (kmod_w x.1 x.2.1 post) (h x.1 x.2.1 (λy0=>post (y0,())) hp)
theorem kmod_ok:SpecOK Tryz.prog kmod_sp:=kmod_of λk n post hp=>by
 obtain⟨⟨hn,hn2⟩,hp⟩:=hp
 unfold kmod_W
 refine IFB.mk (λh=>absurd (of_decide_eq_true h) (by omega)) (λh=>⟨λe=>by omega,JOIN.opq λ(J2:Int->Prop) hJ2=>IFB.mk (λh2=> ?_) (λh2=> ?_)⟩)
 all_goals rw[hJ2]
 ·have h2:k.tmod n<0:=of_decide_eq_true h2
  have h3:=Int.lt_tmod_of_pos k (show 0<n by omega)
  rw[wrap_in (by omega) (by omega)]
  exact hp _ (by omega) (by omega)
 ·have h2:¬k.tmod n<0:=of_decide_eq_false h2
  have h3:=Int.tmod_lt_of_pos k (show 0<n by omega)
  exact hp _ (by omega) h3
def kbroken_P (side:Int)(most:Int)(post:api_Region->Prop):Prop:=(1<=side/\side<=16000/\0<=most/\most<=100)/\∀a:api_Region,(a.Rects.length<=121/\∀r∈a.Rects,r.Right<=side+1/\r.High<=side)->post a
def kbroken_sp:Spec:=⟨19,true,true,[.int .i64,.int .i64],.dat (.st .api_Region),λx post=>kbroken_P (x.1:Int) (x.2.1:Int) (λy0=>post (y0,()))⟩
def kbroken_C:CtxR:=⟨tau,[rule1 kregion_sp,rule1 knext_sp,rule1 kone_sp],lookJ [(0,32,⟨[(8,.own 65 (.st .api_Rect))],[],(List.range' 32 50),[3],[]⟩)]⟩
abbrev kbroken_a0 (v1:api_Region)(v3:Int):={Left:=(ix ([]++v1.1) v3).1,Low:=(ix ([]++v1.1) v3).2,Right:=(ix ([]++v1.1) v3).3,High:=(ix ([]++v1.1) v3).4:api_Rect}
abbrev kbroken_a1 (v3:Int)(v1:api_Region):=((0:Int)<=v3/\v3<(↑([]++v1.1).length:Int))
def kbroken_W (side:Int)(most:Int)(post:api_Region->Prop):Prop:=((1:Int)<=side/\side<=16384/\0<=most/\most<=100)/\∀(v1:api_Region),(validP v1.1/\∀(x y:Int),cov v1.1 x y=true->x<side/\y<side)->(↑v1.1.length:Int)<=9223372036854775807->JOIN [Ty.bool] (λ(y2:Bool)=>IFB (decide ((↑v1.1.length:Int)=0)|| !y2) (post {Rects:=v1.1:api_Region}) (((0:Nat)+v1.1.length) * (32:Nat)<=140737488355328/\((↑([]++v1.1).length:Int)<=9223372036854775807->(↑([]++v1.1).length:Int)<=9223372036854775807/\∀(v3:Int),0<=v3->v3<(↑([]++v1.1).length:Int)\/v3=0->JOIN [(Ty.st Sn.api_Rect).sl] (λ(y4:List api_Rect)=>post (⟨y4⟩:api_Region)) λ(J5:List api_Rect->Prop)=>Int.NonNeg 9223372036854775802/\∀(v6:Int),0<=v6->v6<5\/v6=0->IFB (decide (v6=0)) ((kbroken_a1 v3 v1)/\(kbroken_a1 v3 v1)/\J5 (([]++v1.1).set v3.toNat (⟨(ix ([]++v1.1) v3).1,(ix ([]++v1.1) v3).2,IntKind.i64.wrap ((ix ([]++v1.1) v3).3+1),(ix ([]++v1.1) v3).4⟩:api_Rect))) (IFB (decide (v6=1)) ((kbroken_a1 v3 v1)/\J5 (([]++v1.1).set v3.toNat (⟨(-1:Int),(ix ([]++v1.1) v3).2,(ix ([]++v1.1) v3).3,(ix ([]++v1.1) v3).4⟩:api_Rect))) (IFB (decide (v6=2)) ((kbroken_a1 v3 v1)/\(([]++v1.1).length+[(kbroken_a0 v1 v3)].length) * (32:Nat)<=140737488355328/\J5 ([]++v1.1++[(kbroken_a0 v1 v3)])) (IFB (decide (v6=3)) ((kbroken_a1 v3 v1)/\(Int.NonNeg 0/\0<(↑([]++v1.1).length:Int))/\(Int.NonNeg 0/\0<(↑([]++v1.1).length:Int))/\((0:Int)<=v3/\v3<(↑(([]++v1.1).set ((0:Nat)) (kbroken_a0 v1 v3)).length:Int))/\J5 ((([]++v1.1).set ((0:Nat)) (kbroken_a0 v1 v3)).set v3.toNat {Left:=(ix ([]++v1.1) 0).1,Low:=(ix ([]++v1.1) 0).2,Right:=(ix ([]++v1.1) 0).3,High:=(ix ([]++v1.1) 0).4:api_Rect})) ((kbroken_a1 v3 v1)/\(kbroken_a1 v3 v1)/\J5 (([]++v1.1).set v3.toNat (⟨(ix ([]++v1.1) v3).1,(ix ([]++v1.1) v3).2,(ix ([]++v1.1) v3).3,(ix ([]++v1.1) v3).2⟩:api_Rect))))))))) λ(J7:Bool->Prop)=>IFB (gx false (decide ((↑v1.1.length:Int)=0))) (Int.NonNeg 1099511627770/\∀(v8:Bool),J7 v8) (J7 false)
theorem kbroken_w (side:Int)(most:Int)(post:dens (shT kbroken_sp.rs [])->Prop):kbroken_W side most (λy0=>post (y0,()))=walkG (callR Tryz.prog kbroken_C (drawF Tryz.prog tau) 8 0) 19 true [tv (.int .i64) side,tv (.int .i64) most] kbroken_sp.rs post:=by kernel_rfl
theorem kbroken_of (h:∀side most post,kbroken_P side most post->kbroken_W side most post):SpecOK Tryz.prog kbroken_sp:=SpecOK.of_rules (C:=kbroken_C) (dr:=drawF Tryz.prog tau) (n:=8) (fk:=0) (.cons (rule1_ok kregion_ok) (.cons (rule1_ok knext_ok) (.cons (rule1_ok kone_ok) .nil))) (drawF_ok tau) λx post hp=>HoldW.of (kbroken_w x.1 x.2.1 post) (h x.1 x.2.1 (λy0=>post (y0,())) hp)
theorem kbroken_ok:SpecOK Tryz.prog kbroken_sp:=kbroken_of λside most post hp=>by
 obtain⟨⟨s0,s1,m0,m1⟩,hp⟩:=hp
 unfold kbroken_W kbroken_a1 kbroken_a0
 refine⟨⟨s0,by omega,m0,m1⟩,λv hv _=>JOIN.opq λ(J2:Bool->Prop) hJ2=> ?_⟩
 obtain⟨hval,hbox⟩:=hv
 have hb:∀r∈v.1,r.Right<=side/\r.High<=side/\r.Low<r.High:=λr hr=>by
  have:=canon_box hval.2.2 (x0:=0) (x1:=side) (y0:=0) (y1:=side) (λx y hxy=>by
   obtain⟨b1,b2⟩:=hbox x y hxy
   obtain⟨s,hs,t1,t2,t3,t4⟩:=cov_iff.1 hxy
   obtain⟨p1,_,_,p4,_,_⟩:=hval.2.1 s hs
   omega) r hr
  omega
 have hlen:=hval.1
 have main:∀b:Bool,J2 b:=λb=>by
  rw[hJ2]
  refine IFB.mk (λ_=>hp _ ⟨by show v.1.length<=121;omega,λr hr=>by have:=hb r hr;omega⟩) (λhc=> ?_)
  rw[Bool.or_eq_false_iff] at hc
  have hne:¬(v.1.length:Int)=0:=of_decide_eq_false hc.1
  simp only[List.nil_append]
  refine⟨by omega,λ_=>⟨by omega,λk k0 k1=>JOIN.opq λ(J5:List api_Rect->Prop) hJ5=>⟨.mk _,λw w0 w1=> ?_⟩⟩⟩
  have hk:0<=k/\k<(v.1.length:Int):=by omega
  have hx:=hb _ (ix_mem (l:=v.1) (i:=k) hk.1 hk.2)
  have fin:∀z:List Rc,z.length<=121->(∀r∈z,r.Right<=side+1/\r.High<=side)->J5 z:=λz h1 h2=>by rw[hJ5];exact hp _ ⟨h1,h2⟩
  have hall:∀r∈v.1,r.Right<=side+1/\r.High<=side:=λr hr=>by have:=hb r hr;omega
  have hset:∀(z:List Rc)(i:Nat)(r':Rc),z.length<=121->(∀r∈z,r.Right<=side+1/\r.High<=side)->(r'.Right<=side+1/\r'.High<=side)->(z.set i r').length<=121/\∀r∈z.set i r',r.Right<=side+1/\r.High<=side:=λz i r' h1 h2 h3=>⟨by rw[List.length_set];exact h1,λr hr=>by
   rcases List.mem_or_eq_of_mem_set hr with h|h
   ·exact h2 r h
   ·rw[h];exact h3⟩
  have hp0:=hval.2.1 _ (ix_mem (l:=v.1) (i:=k) hk.1 hk.2)
  refine IFB.mk (λ_=> ?_) (λ_=>IFB.mk (λ_=> ?_) (λ_=>IFB.mk (λ_=> ?_) (λ_=>IFB.mk (λ_=> ?_) (λ_=> ?_))))
  ·have w9:IntKind.i64.wrap ((ix v.1 k).3+1)=(ix v.1 k).3+1:=by
    obtain⟨a1,a2,a3,a4,a5,a6⟩:=hp0
    exact wrap_in (by omega) (by omega)
   rw[w9]
   obtain⟨g1,g2⟩:=hset v.1 k.toNat {Left:=(ix v.1 k).1,Low:=(ix v.1 k).2,Right:=(ix v.1 k).3+1,High:=(ix v.1 k).4} (by omega) hall ⟨by show (ix v.1 k).3+1<=_;omega,hx.2.1⟩
   exact⟨hk,hk,fin _ g1 g2⟩
  ·obtain⟨g1,g2⟩:=hset v.1 k.toNat {Left:= -1,Low:=(ix v.1 k).2,Right:=(ix v.1 k).3,High:=(ix v.1 k).4} (by omega) hall ⟨by show (ix v.1 k).3<=_;omega,hx.2.1⟩
   exact⟨hk,fin _ g1 g2⟩
  ·refine⟨hk,by rw[List.length_singleton];omega,fin _ (by rw[List.length_append];simp;omega) λr hr=> ?_⟩
   rcases List.mem_append.1 hr with h|h
   ·exact hall r h
   ·rw[List.mem_singleton] at h
    subst h
    exact⟨by show (ix v.1 k).3<=_;omega,hx.2.1⟩
  ·have hx0:=hb _ (ix_mem (l:=v.1) (i:=0) (by omega) (by omega))
   obtain⟨g1,g2⟩:=hset v.1 (0:Int).toNat {Left:=(ix v.1 k).1,Low:=(ix v.1 k).2,Right:=(ix v.1 k).3,High:=(ix v.1 k).4} (by omega) hall ⟨by show (ix v.1 k).3<=_;omega,hx.2.1⟩
   obtain⟨g3,g4⟩:=hset _ k.toNat {Left:=(ix v.1 0).1,Low:=(ix v.1 0).2,Right:=(ix v.1 0).3,High:=(ix v.1 0).4} g1 g2 ⟨by show (ix v.1 0).3<=_;omega,hx0.2.1⟩
   refine⟨hk,⟨.mk _,by omega⟩,⟨.mk _,by omega⟩,⟨hk.1,by rw[List.length_set];exact hk.2⟩,fin _ g3 g4⟩
  ·obtain⟨g1,g2⟩:=hset v.1 k.toNat {Left:=(ix v.1 k).1,Low:=(ix v.1 k).2,Right:=(ix v.1 k).3,High:=(ix v.1 k).2} (by omega) hall ⟨by show (ix v.1 k).3<=_;omega,by show (ix v.1 k).2<=_;have:=hx.2.2;have:=hx.2.1;omega⟩
   exact⟨hk,hk,fin _ g1 g2⟩
 first
 |exact IFB.mk (λ_=>⟨.mk _,main⟩) (λ_=>main false)
 |exact IFB.mk (λ_=>⟨.mk _,main⟩) (λ_=>main true)
def kspoilt_P (num:Int)(post:List (api_Parcel)->Prop):Prop:=∀x:List Pc,(szL x/\x.length<=14/\bxL 87 x)->post x
def kspoilt_sp:Spec:=⟨13,true,true,[.int .i64],.dat (.sl (.st .api_Parcel)),λx post=>kspoilt_P (x.1:Int) (λy0=>post (y0,()))⟩
def kspoilt_C:CtxR:=⟨tauD,[rule1 kedits_sp,rule1 rcopD_sp,rule1 knext_sp,rule1 kmod_sp,rule1 kbroken_sp],lookJ []⟩
def kspoilt_W (num:Int)(post:List (api_Parcel)->Prop):Prop:=(Int.NonNeg 7/\Int.NonNeg 1/\Int.NonNeg 4/\(4:Int)<=10)/\∀(v1:List api_Edit)(v2:List api_Parcel),Hist ((7:Nat)) v1 v2->szL v2/\((↑v2.length:Int)<=9223372036854775807->IFB (decide ((↑v2.length:Int)=0)) (post v2) ((↑v2.length:Int)<=9223372036854775807->(↑v2.length:Int)<=9223372036854775807/\∀(v3:Int),0<=v3->v3<(↑v2.length:Int)\/v3=0->((0:Int)<=v3/\v3<(↑v2.length:Int))/\Int.NonNeg 9223372036854775795/\∀(v4:Int),0<=v4->v4<12\/v4=0->IFB (decide (v4=0)) (v3=v3/\post (v2.set v3.toNat (⟨num,(ix v2 v3).2,(ix v2 v3).3,(ix v2 v3).4,(ix v2 v3).5,(ix v2 v3).6⟩:api_Parcel))) (IFB (decide (v4=1)) (((1:Int)<=40/\(40:Int)<=1000000)/\∀(v5:Int),0<=v5->v5<40->v3=v3/\post (v2.set v3.toNat (⟨(ix v2 v3).1,IntKind.i64.wrap (v5-2),(ix v2 v3).3,(ix v2 v3).4,(ix v2 v3).5,(ix v2 v3).6⟩:api_Parcel))) (IFB (decide (v4=2)) (((1:Int)<=40/\(40:Int)<=1000000)/\∀(v6:Int),0<=v6->v6<40->v3=v3/\post (v2.set v3.toNat (⟨(ix v2 v3).1,(ix v2 v3).2,IntKind.i64.wrap (v6-2),(ix v2 v3).4,(ix v2 v3).5,(ix v2 v3).6⟩:api_Parcel))) (IFB (decide (v4=3)) ((v3=v3/\((1:Int)<=9/\(9:Int)<=1000000)/\∀(v7:Int),0<=v7->v7<9->((ix v2 v3).4.length+[v7].length) * (8:Nat)<=140737488355328/\v3=v3/\post (v2.set v3.toNat (⟨(ix v2 v3).1,(ix v2 v3).2,(ix v2 v3).3,(ix v2 v3).4++[v7],(ix v2 v3).5,(ix v2 v3).6⟩:api_Parcel)))/\((1:Int)<=9/\(9:Int)<=1000000)/\∀(v8:Int),0<=v8->v8<9->(v3=v3/\((ix v2 v3).4.length+[v8].length) * (8:Nat)<=140737488355328/\v3=v3/\post (v2.set v3.toNat (⟨(ix v2 v3).1,(ix v2 v3).2,(ix v2 v3).3,(ix v2 v3).4++[v8],(ix v2 v3).5,(ix v2 v3).6⟩:api_Parcel)))/\v3=v3/\((ix v2 v3).4.length+[v8].length) * (8:Nat)<=140737488355328/\v3=v3/\post (v2.set v3.toNat (⟨(ix v2 v3).1,(ix v2 v3).2,(ix v2 v3).3,(ix v2 v3).4++[v8],(ix v2 v3).5,(ix v2 v3).6⟩:api_Parcel))) (IFB (decide (v4=4)) ((v3=v3/\((1:Int)<=40/\(40:Int)<=1000000)/\∀(v9:Int),0<=v9->v9<40->((ix v2 v3).5.length+[v9].length) * (8:Nat)<=140737488355328/\v3=v3/\post (v2.set v3.toNat (⟨(ix v2 v3).1,(ix v2 v3).2,(ix v2 v3).3,(ix v2 v3).4,(ix v2 v3).5++[v9],(ix v2 v3).6⟩:api_Parcel)))/\((1:Int)<=40/\(40:Int)<=1000000)/\∀(v10:Int),0<=v10->v10<40->(v3=v3/\((ix v2 v3).5.length+[v10].length) * (8:Nat)<=140737488355328/\v3=v3/\post (v2.set v3.toNat (⟨(ix v2 v3).1,(ix v2 v3).2,(ix v2 v3).3,(ix v2 v3).4,(ix v2 v3).5++[v10],(ix v2 v3).6⟩:api_Parcel)))/\v3=v3/\((ix v2 v3).5.length+[v10].length) * (8:Nat)<=140737488355328/\v3=v3/\post (v2.set v3.toNat (⟨(ix v2 v3).1,(ix v2 v3).2,(ix v2 v3).3,(ix v2 v3).4,(ix v2 v3).5++[v10],(ix v2 v3).6⟩:api_Parcel))) (IFB (decide (v4=5)) ((v3=v3/\(Int.NonNeg 29/\Int.NonNeg 15970/\Int.NonNeg 2/\(2:Int)<=100)/\∀(v11:api_Region),(v11.1.length<=121/\∀(r:api_Rect),r∈v11.1->r.3<=31/\r.4<=30)->(Int.NonNeg 0/\0<(↑(ix v2 v3).6.length:Int))/\post (v2.set v3.toNat {Number:=(ix v2 v3).1,From:=(ix v2 v3).2,Until:=(ix v2 v3).3,Parents:=(ix v2 v3).4,Days:=(ix v2 v3).5,Regions:=(ix v2 v3).6.set ((0:Nat)) {Rects:=v11.1:api_Region}:api_Parcel}))/\(Int.NonNeg 29/\Int.NonNeg 15970/\Int.NonNeg 2/\(2:Int)<=100)/\∀(v12:api_Region),(v12.1.length<=121/\∀(r:api_Rect),r∈v12.1->r.3<=31/\r.4<=30)->v3=v3/\(Int.NonNeg 0/\0<(↑(ix v2 v3).6.length:Int))/\post (v2.set v3.toNat {Number:=(ix v2 v3).1,From:=(ix v2 v3).2,Until:=(ix v2 v3).3,Parents:=(ix v2 v3).4,Days:=(ix v2 v3).5,Regions:=(ix v2 v3).6.set ((0:Nat)) {Rects:=v12.1:api_Region}:api_Parcel})) (IFB (decide (v4=6)) (v3=v3/\v3=v3/\post (v2.set v3.toNat (⟨(ix v2 v3).1,(ix v2 v3).2,(ix v2 v3).3,(ix v2 v3).4,[],[]⟩:api_Parcel))) (post (v2.set v3.toNat {Number:=(ix v2 v3).1,From:=(ix v2 v3).2,Until:=(ix v2 v3).3,Parents:=(ix v2 v3).4,Days:=(ix v2 v3).5,Regions:=(ix v2 v3).6:api_Parcel}))))))))))
theorem kspoilt_w (num:Int)(post:dens (shT kspoilt_sp.rs [])->Prop):kspoilt_W num (λy0=>post (y0,()))=walkG (stlCP (callR Tryz.prog kspoilt_C (drawF Tryz.prog tauD) 8 0)) 13 true [tv (.int .i64) num] kspoilt_sp.rs post:=by kernel_rfl
theorem kspoilt_of (h:∀num post,kspoilt_P num post->kspoilt_W num post):SpecOK Tryz.prog kspoilt_sp:=SpecOK.of_rulesS (C:=kspoilt_C) (dr:=drawF Tryz.prog tauD) (n:=8) (fk:=0) (.cons (rule1_ok kedits_ok) (.cons (rule1_ok rcopD_ok) (.cons (rule1_ok knext_ok) (.cons (rule1_ok kmod_ok) (.cons (rule1_ok kbroken_ok) .nil))))) (drawF_ok tauD) λx post hp=>HoldW.of (kspoilt_w x.1 post) (h x.1 (λy0=>post (y0,())) hp)
set_option maxHeartbeats 2000000 in
theorem kspoilt_ok:SpecOK Tryz.prog kspoilt_sp:=kspoilt_of λby_ post hp=>by
 unfold kspoilt_W
 refine⟨⟨.mk _,.mk _,.mk _,by omega⟩,λes x hh=>⟨hh.sz,λ_=> ?_⟩⟩
 have hh:Hist 7 es x:=hh
 have hlen:=hh.len
 have hxl:=hh.xl
 have hx14:x.length<=14:=by omega
 have hbx:bxL 87 x:=hh.bx 87 (by omega) (by omega)
 refine IFB.mk (λ_=>hp x ⟨hh.sz,hx14,hbx⟩) (λhne _=>⟨by omega,λk k0 k1=> ?_⟩)
 have hne:¬(x.length:Int)=0:=of_decide_eq_false hne
 have hk:0<=k/\k<(x.length:Int):=by omega
 have hm:ix x k∈x:=ix_mem hk.1 hk.2
 have hsz:=hh.sz.all _ hm
 obtain⟨q1,q2,q3,q4⟩:=hh.few _ hm
 have hbp:=hbx _ hm
 have rg:(ix x k).Regions.length<=1000000/\∀a∈(ix x k).Regions,a.Rects.length<=1000000/\∀r∈a.Rects,r.Right<=87/\r.High<=87:=⟨by omega,λa ha=>⟨hsz.rect a ha,hbp a ha⟩⟩
 have L:∀(a b c:Int)(d e:List Int)(f:List Rn),d.length<=1000000->e.length<=1000000->(f.length<=1000000/\∀a∈f,a.Rects.length<=1000000/\∀r∈a.Rects,r.Right<=87/\r.High<=87)->post (x.set k.toNat ⟨a,b,c,d,e,f⟩):=λa b c d e f hd he hf=>hp _ ⟨⟨by rw[List.length_set];omega,λp hp=>by
  rcases List.mem_or_eq_of_mem_set hp with h|h
  ·exact hh.sz.all p h
  ·subst h;exact⟨he,hf.1,hd,λa ha=>(hf.2 a ha).1⟩⟩,by rw[List.length_set];exact hx14,λp hp=>by
  rcases List.mem_or_eq_of_mem_set hp with h|h
  ·exact hbx p h
  ·subst h;exact λa ha=>(hf.2 a ha).2⟩
 have n4:(ix x k).4.length<=1000000:=by have:(ix x k).Parents.length<=16:=q1;exact Nat.le_trans this (by omega)
 have n5:(ix x k).5.length<=1000000:=by have:(ix x k).Days.length<=es.length+1:=q2;exact Nat.le_trans this (by omega)
 have c4:∀v:Int,((ix x k).4.length+[v].length) * 8<=140737488355328:=λv=>by rw[List.length_singleton];omega
 have c5:∀v:Int,((ix x k).5.length+[v].length) * 8<=140737488355328:=λv=>by rw[List.length_singleton];omega
 have m4:∀v:Int,((ix x k).4++[v]).length<=1000000:=λv=>by
  have:(ix x k).Parents.length<=16:=q1
  have h:(ix x k).4.length<=16:=this
  rw[List.length_append,List.length_singleton];omega
 have m5:∀v:Int,((ix x k).5++[v]).length<=1000000:=λv=>by
  have:(ix x k).Days.length<=es.length+1:=q2
  have h:(ix x k).5.length<=es.length+1:=this
  rw[List.length_append,List.length_singleton];omega
 have r6:(0:Int)<((ix x k).6.length:Int):=by
  have:0<(ix x k).Regions.length:=q4
  have h:0<(ix x k).6.length:=this
  omega
 refine⟨hk,.mk _,λw w0 w1=>IFB.mk (λ_=>⟨rfl,L _ _ _ _ _ _ n4 n5 rg⟩) (λ_=>IFB.mk (λ_=>⟨by omega,λv v0 v1=>⟨rfl,L _ _ _ _ _ _ n4 n5 rg⟩⟩) (λ_=>IFB.mk (λ_=>⟨by omega,λv v0 v1=>⟨rfl,L _ _ _ _ _ _ n4 n5 rg⟩⟩) (λ_=>IFB.mk (λ_=> ?_) (λ_=>IFB.mk (λ_=> ?_) (λ_=>IFB.mk (λ_=> ?_) (λ_=> ?_))))))⟩
 ·have f:∀v:Int,post (x.set k.toNat ⟨(ix x k).1,(ix x k).2,(ix x k).3,(ix x k).4++[v],(ix x k).5,(ix x k).6⟩):=λv=>L _ _ _ _ _ _ (m4 v) n5 rg
  repeat' (first|exact rfl|exact f _|exact c4 _|omega|(intro v v0 v1)|with_reducible apply And.intro)
 ·have f:∀v:Int,post (x.set k.toNat ⟨(ix x k).1,(ix x k).2,(ix x k).3,(ix x k).4,(ix x k).5++[v],(ix x k).6⟩):=λv=>L _ _ _ _ _ _ n4 (m5 v) rg
  repeat' (first|exact rfl|exact f _|exact c5 _|omega|(intro v v0 v1)|with_reducible apply And.intro)
 ·have f:∀v:api_Region,(v.1.length<=121/\∀r∈v.1,r.3<=31/\r.4<=30)->post (x.set k.toNat ⟨(ix x k).1,(ix x k).2,(ix x k).3,(ix x k).4,(ix x k).5,(ix x k).6.set (0:Int).toNat ⟨v.1⟩⟩):=λv hv=>L _ _ _ _ _ _ n4 n5 ⟨by rw[List.length_set];exact rg.1,λa ha=>by
   rcases List.mem_or_eq_of_mem_set ha with h|h
   ·exact rg.2 a h
   ·subst h
    refine⟨by show v.1.length<=1000000;omega,λr hr=> ?_⟩
    have h3:r.3<=31/\r.4<=30:=hv.2 r hr
    have h4:r.Right<=31:=h3.1
    have h5:r.High<=30:=h3.2
    omega⟩
  have hz:Int.NonNeg (0:Int):= .mk _
  repeat' (first|exact rfl|exact hz|exact r6|exact Int.NonNeg.mk _|omega|(intro v hv;have hf:=f v hv)|exact hf|with_reducible apply And.intro)
 ·exact IFB.mk (λ_=>⟨rfl,rfl,L _ _ _ _ _ _ n4 (by simp) ⟨by simp,λa ha=>by cases ha⟩⟩) (λ_=>L _ _ _ _ _ _ n4 n5 rg)
def pawake_P (post:Bool->Prop):Prop:=post true
def pawake_sp:Spec:=⟨11,false,false,[],.dat (.bool),λx post=>pawake_P (λy0=>post (y0,()))⟩
def pawake_C:CtxR:=⟨tau,[rule1 prunV_sp,rule1 pheirsV_sp,rule1 pshareV_sp,rule1 rints_sp],lookJ []⟩
abbrev pawake_a0:={Day:=(5:Int),Known:=(0:Int),Kind:=(3:Int),Parcels:=[(1:Int)],Regions:=[{Rects:=[{Left:=(0:Int),Low:=(0:Int),Right:=(1:Int),High:=(1:Int):api_Rect}]:api_Region},{Rects:=[{Left:=(1:Int),Low:=(0:Int),Right:=(4:Int),High:=(1:Int):api_Rect}]:api_Region}]:api_Edit}
abbrev pawake_a1:={Day:=(0:Int),Known:=(0:Int),Kind:=(1:Int),Parcels:=[],Regions:=[{Rects:=[{Left:=(0:Int),Low:=(0:Int),Right:=(4:Int),High:=(1:Int):api_Rect}]:api_Region}]:api_Edit}
def pawake_W (post:Bool->Prop):Prop:=(Nat.le ((2:Nat)) ((1000000:Nat))/\∀(v1:api_Edit),v1∈[(pawake_a1),(pawake_a0)]->szE v1/\(v1.3=2->False))/\∀(v2:List api_Parcel)(v3 v4:Int),szL v2/\runS [(pawake_a1),(pawake_a0)]=(v2,v3,v4)->szL v2/\∀(v5:List Int)(v6:Int),v5=heirsS v2 (1:Int) 9/\v6=heirE v2 (1:Int) 9->szL v2/\∀(v7:List arr2_i64)(v8:Int),v7=shareS v2 (1:Int) 5/\v8=heirE v2 (1:Int) 5->IFB (gx true (decide (v4=0)&&decide (v3=2)&&decide (v6=0))) (JOIN [Ty.bool] (λ(y9:Bool)=>(gx true (decide (v4=0)&&decide (v3=2)&&decide (v6=0)&&y9&&decide (v8=0))=true->(↑v7.length:Int)<=9223372036854775807)->(gx true (decide (v4=0)&&decide (v3=2)&&decide (v6=0)&&y9&&decide (v8=0)&&decide ((↑v7.length:Int)=2))=true->Int.NonNeg 1/\1<(↑v7.length:Int))/\post (decide (v4=0)&&decide (v3=2)&&decide (v6=0)&&y9&&decide (v8=0)&&decide ((↑v7.length:Int)=2)&&(decide ((ix v7 1).1=3)&&(decide ((ix v7 1).2=3)&&true)))) λ(J10:Bool->Prop)=>IFB (gx true (decide (v4=0)&&decide (v3=2)&&decide (v6=0))) (∀(v11:Bool),(v11=true↔v5=[(2:Int),(3:Int)])->J10 v11) (J10 false)) (JOIN [Ty.bool] (λ(y12:Bool)=>(gx true (decide (v4=0)&&decide (v3=2)&&decide (v6=0)&&y12&&decide (v8=0))=true->(↑v7.length:Int)<=9223372036854775807)->(gx true (decide (v4=0)&&decide (v3=2)&&decide (v6=0)&&y12&&decide (v8=0)&&decide ((↑v7.length:Int)=2))=true->Int.NonNeg 1/\1<(↑v7.length:Int))/\post (decide (v4=0)&&decide (v3=2)&&decide (v6=0)&&y12&&decide (v8=0)&&decide ((↑v7.length:Int)=2)&&(decide ((ix v7 1).1=3)&&(decide ((ix v7 1).2=3)&&true)))) λ(J13:Bool->Prop)=>IFB (gx true (decide (v4=0)&&decide (v3=2)&&decide (v6=0))) False (J13 false))
theorem pawake_w (post:dens (shT pawake_sp.rs [])->Prop):pawake_W (λy0=>post (y0,()))=walkG (callR Tryz.prog pawake_C (drawF Tryz.prog tau) 10 0) 11 false [] pawake_sp.rs post:=by kernel_rfl
theorem pawake_of (h:∀post,pawake_P post->pawake_W post):SpecOK Tryz.prog pawake_sp:=SpecOK.of_rules (C:=pawake_C) (dr:=drawF Tryz.prog tau) (n:=10) (fk:=0) (.cons (rule1_ok prunV_ok) (.cons (rule1_ok pheirsV_ok) (.cons (rule1_ok pshareV_ok) (.cons (rule1_ok rints_ok) .nil)))) (drawF_ok tau) λx post hp=>HoldW.of (pawake_w post) (h (λy0=>post (y0,())) hp)
theorem heirs_go {l:List Pc}{n d:Int}(h:regP l)(h2:l.length<=60)(h3:0<=d)(h4:d<=36864)(h5:1<=n)(h6:n<=(l.length:Int))(h7:(ix l (n-1)).From<=d):heirE l n d=0/\heirsS l n d=heirsL l n d/\shareS l n d=shareL l n d (heirsL l n d):=by
 have e:heirE l n d=0:=heirE_0.2 ⟨check_reg h h2,h3,h4,h5,h6,h7⟩
 refine⟨e,?_,?_⟩
 ·unfold heirsS;rw[if_pos e]
 ·unfold shareS;rw[if_pos e]
theorem hs_yes {d n s u:Int}{ps f r:List Int}{a:Rn}(h:∃k∈ps,k∈f):hStep d (f,r) (pcl n s u ps a)=(f++[n],if s<=d/\d<u then r++[n] else r):=by
 unfold hStep
 rw[if_pos (show ∃k∈(pcl n s u ps a).Parents,k∈(f,r).1 from h)]
 dsimp only
 have hn:n∈f++[n]:=by simp
 by_cases h1:s<=d/\d<u
 ·rw[if_pos (show thereP (pcl n s u ps a) d/\(pcl n s u ps a).Number∈f++[(pcl n s u ps a).Number] from ⟨h1,hn⟩),if_pos h1];rfl
 ·rw[if_neg (show ¬(thereP (pcl n s u ps a) d/\(pcl n s u ps a).Number∈f++[(pcl n s u ps a).Number]) from λh=>h1 h.1),if_neg h1];rfl
theorem hs_no {d n s u:Int}{ps f r:List Int}{a:Rn}(h:¬∃k∈ps,k∈f)(h2:¬(s<=d/\d<u)):hStep d (f,r) (pcl n s u ps a)=(f,r):=by
 unfold hStep
 rw[if_neg (show ¬∃k∈(pcl n s u ps a).Parents,k∈(f,r).1 from h)]
 dsimp only
 rw[if_neg (λh=>h2 h.1)]
theorem heirs_L2 {a b c:Rn}{d e:Int}(h0:0<=d)(h1:d<=e)(h2:e<36865):heirsL (L2 d 36865 a b c) 1 e=[2,3]:=by
 have q:heirsL (L2 d 36865 a b c) 1 e=(hStep e (hStep e (hStep e ([1],[]) (pcl 1 0 d [] a)) (pcl 2 d 36865 [1] b)) (pcl 3 d 36865 [1] c)).2:=rfl
 rw[q,hs_no (d:=e) (n:=1) (s:=0) (u:=d) (ps:=[]) (f:=[1]) (r:=[]) (by simp) (by omega),hs_yes (f:=[1]) ⟨1,by simp,by simp⟩,if_pos ⟨h1,h2⟩,hs_yes (f:=[1]++[2]) ⟨1,by simp,by simp⟩,if_pos ⟨h1,h2⟩]
 rfl
namespace PL
def exA:Rn:=⟨[⟨0,0,4,1⟩]⟩
def exB:Rn:=⟨[⟨0,0,1,1⟩]⟩
def exC:Rn:=⟨[⟨1,0,4,1⟩]⟩
end PL
theorem cov_one {r:Rc}{x y:Int}:cov [r] x y=true↔r.Left<=x/\x<r.Right/\r.Low<=y/\y<r.High:=by
 rw[cov_mem]
 constructor
 ·rintro ⟨q,hq,h⟩;rw[List.mem_singleton.1 hq] at h;exact hit_iff.1 h
 ·exact λh=>⟨r,by simp,hit_iff.2 h⟩
theorem prop_one {r:Rc}(h:proper r):propR ⟨[r]⟩:=⟨by simp,by simp,λq hq=>by
 have hq:q∈[r]:=hq
 rw[List.mem_singleton.1 hq];exact h,canon_one h⟩
theorem ex_parts:Parts exA exB exC where
 pa:=prop_one (by unfold proper;decide)
 pb:=prop_one (by unfold proper;decide)
 pc:=prop_one (by unfold proper;decide)
 dis:=λx y h=>by
  have h1:=cov_one.1 h.1
  have h2:=cov_one.1 h.2
  dsimp only at h1 h2
  omega
 all:=λx y=>by
  rw[Bool.eq_iff_iff,Bool.or_eq_true]
  unfold exA exB exC
  rw[cov_one,cov_one,cov_one]
  dsimp only
  omega
theorem ex_share:ix (shareL (L2 5 36865 exA exB exC) 1 5 [2,3]) 1=⟨3,3⟩:=by
 have e:ix (shareL (L2 5 36865 exA exB exC) 1 5 [2,3]) 1=⟨3,sizeS (canonF (comb (howS 2) exA.Rects exC.Rects))⟩:=rfl
 rw[e,canonF_eq (l:=exC.Rects) ex_parts.pc.2.2.2 λx y=>by
  show _=howS 2 (cov exA.Rects x y) (cov exC.Rects x y)
  rw[ex_parts.all]
  cases cov exB.Rects x y<;>cases cov exC.Rects x y<;>rfl]
 rfl
theorem pawake_ok:SpecOK Tryz.prog pawake_sp:=pawake_of λpost hp=>by
 unfold pawake_W pawake_a1 pawake_a0
 refine⟨⟨by show 2<=1000000;omega,λv h=> ?_⟩,λv2 v3 v4 ⟨hz,hr⟩=>⟨hz,λv5 v6 ⟨h5,h6⟩=>⟨hz,λv7 v8 ⟨h7,h8⟩=> ?_⟩⟩⟩
 ·simp only[List.mem_cons,List.not_mem_nil,or_false] at h
  rcases h with rfl|rfl
  ·exact⟨⟨by show 0<=1000000;omega,by show 1<=1000000;omega,λa ha=>by rw[List.mem_singleton.1 ha];show 1<=1000000;omega⟩,by show (1:Int)=2->False;decide⟩
  ·exact⟨⟨by show 1<=1000000;omega,by show 2<=1000000;omega,λa ha=>by
    simp only[List.mem_cons,List.not_mem_nil,or_false] at ha
    rcases ha with rfl|rfl
    ·show 1<=1000000;omega
    ·show 1<=1000000;omega⟩,by show (3:Int)=2->False;decide⟩
 ·have hr0:=run_2 (d:=5) ex_parts (by decide) (by decide)
  have hr:runS [⟨0,0,1,[],[exA]⟩,⟨5,0,3,[1],[exB,exC]⟩]=(v2,v3,v4):=hr
  rw[hr0] at hr
  injection hr with e2 e34
  injection e34 with e3 e4
  subst e2 e3 e4
  have hreg:=reg_L2 (d:=5) (u:=36865) ex_parts (by decide) (by decide) (by decide) (by decide)
  have hl3:(L2 5 36865 exA exB exC).length=3:=rfl
  obtain⟨g1,g2,_⟩:=heirs_go (n:=1) (d:=9) hreg (by omega) (by decide) (by decide) (by decide) (by rw[hl3];decide) (by show (0:Int)<=9;decide)
  obtain⟨g4,_,g6⟩:=heirs_go (n:=1) (d:=5) hreg (by omega) (by decide) (by decide) (by decide) (by rw[hl3];decide) (by show (0:Int)<=5;decide)
  rw[heirs_L2 (by decide) (by decide) (by decide)] at g2
  rw[heirs_L2 (by decide) (by decide) (by decide)] at g6
  rw[g1] at h6
  rw[g2] at h5
  rw[g6] at h7
  rw[g4] at h8
  have hx:=ex_share
  subst h5 h6 h8
  rw[<-h7] at hx
  have hl7:v7.length=2:=by rw[h7];rfl
  clear h7 g6 g4 g1 g2 hr0 hreg hl3
  refine IFB.yes rfl ?_
  refine JOIN.opq λ(J:Bool->Prop) hJ=> ?_
  refine IFB.yes rfl λv11 h11=> ?_
  have h11:v11=true:=h11.2 rfl
  subst h11
  rw[hJ]
  dsimp only
  refine λ_=>⟨λ_=>⟨Int.NonNeg.mk 1,by omega⟩,?_⟩
  rw[hx,hl7]
  exact hp
def lSteps_C:CtxR:=⟨tau,[ruleN 12,rule1 kspoilt_sp,rule1 pchk_sp,rule1 rchk_sp,rule1 knext_sp,rule1 kedit_sp,rule1 kmod_sp,rule1 kbroken_sp,rule1 pappA_sp,rule1 rappA_sp,rule1 rsame10_sp,rule1 pawake_sp],lookJ [(0,59,⟨[(117,.dat (.int .i64))],[],(List.range' 14 5++List.range' 118 25),[],[]⟩),(0,56,⟨[],[(2,[.dat (.int .i64),.dat (.int .i64),.dat (.int .i64),.dat (.sl (.int .i64)),.dat (.sl (.st .api_Region))])],(List.range' 64 48),[],[]⟩),(0,1000027,⟨[],[(2,[.dat (.int .i64),.dat (.int .i64),.dat (.int .i64),.dat (.sl (.int .i64)),.own 29 (.st .api_Region)])],[104,105,106,107,108,109,110,111],[],[]⟩),(0,9,⟨[(33,.dat (.int .i64))],[],(List.range' 34 10++[7,45]),[],[]⟩)]⟩
abbrev lSteps_a0 (v5:api_Edit)(y6:Int)(y7:Int)(y8:Int)(y9:List Int)(y10:List api_Region)(raw:api_Edit)(z12:Int):=(ix [{Day:=v5.1,Known:=v5.2,Kind:=v5.3,Parcels:=v5.4,Regions:=v5.5:api_Edit},{Day:=y6,Known:=y7,Kind:=y8,Parcels:=y9,Regions:=y10:api_Edit},{Day:=raw.1,Known:=raw.2,Kind:=raw.3,Parcels:=raw.4,Regions:=raw.5:api_Edit}] z12)
abbrev lSteps_a1 (v5:api_Edit)(y6:Int)(y7:Int)(y8:Int)(y9:List Int)(y10:List api_Region)(raw:api_Edit)(z12:Int):={Day:=(lSteps_a0 v5 y6 y7 y8 y9 y10 raw z12).1,Known:=(lSteps_a0 v5 y6 y7 y8 y9 y10 raw z12).2,Kind:=(lSteps_a0 v5 y6 y7 y8 y9 y10 raw z12).3,Parcels:=(lSteps_a0 v5 y6 y7 y8 y9 y10 raw z12).4,Regions:=(lSteps_a0 v5 y6 y7 y8 y9 y10 raw z12).5:api_Edit}
abbrev lSteps_a2 (v5:api_Edit)(y6:Int)(y7:Int)(y8:Int)(y9:List Int)(y10:List api_Region)(raw:api_Edit):=(↑[{Day:=v5.1,Known:=v5.2,Kind:=v5.3,Parcels:=v5.4,Regions:=v5.5:api_Edit},{Day:=y6,Known:=y7,Kind:=y8,Parcels:=y9,Regions:=y10:api_Edit},{Day:=raw.1,Known:=raw.2,Kind:=raw.3,Parcels:=raw.4,Regions:=raw.5:api_Edit}].length:Int)
def lSteps_W (raw:api_Edit)(num:Int)(l:List (Int))(post:Bool->Prop):Prop:=(↑raw.4.length:Int)<=9223372036854775807->(gx false (decide ((12:Int)<(↑raw.4.length:Int)))=true->(↑raw.5.length:Int)<=9223372036854775807)->IFB (decide ((12:Int)<(↑raw.4.length:Int))||decide ((12:Int)<(↑raw.5.length:Int))) (post true) ((↑raw.5.length:Int)<=9223372036854775807->LOOP [Ty.int IntKind.i64] (λ(rec1:Int->Prop) (z2:Int)=>IFB (decide (z2<(↑raw.5.length:Int))) (((0:Int)<=z2/\z2<(↑raw.5.length:Int))/\((↑(ix raw.5 z2).1.length:Int)<=9223372036854775807->IFB (decide ((5:Int)<(↑(ix raw.5 z2).1.length:Int))) (post true) (rec1 (IntKind.i64.wrap (z2+1))))) (∀(v3:List api_Parcel),szL v3/\v3.length<=14/\bxL (87:Int) v3->szL v3/\szL v3/\IFB (!decide (checkS v3=checkS v3)) (post false) (Int.NonNeg 9223372036854775777/\∀(v4:Int),0<=v4->v4<30\/v4=0->(szL v3/\v3.length<=15)/\∀(v5:api_Edit),edQ v3 (IntKind.i64.wrap ((5:Int)+v4)) v5->JOIN [Ty.int IntKind.i64,Ty.int IntKind.i64,Ty.int IntKind.i64,(Ty.int IntKind.i64).sl,(Ty.st Sn.api_Region).sl] (λ(y6 y7 y8:Int) (y9:List Int) (y10:List api_Region)=>(lSteps_a2 v5 y6 y7 y8 y9 y10 raw)<=9223372036854775807->LOOP [Ty.int IntKind.i64] (λ(rec11:Int->Prop) (z12:Int)=>IFB (decide (z12<(lSteps_a2 v5 y6 y7 y8 y9 y10 raw))) (((0:Int)<=z12/\z12<(lSteps_a2 v5 y6 y7 y8 y9 y10 raw))/\(szL v3/\szE (lSteps_a1 v5 y6 y7 y8 y9 y10 raw z12))/\(szL v3/\szE (lSteps_a1 v5 y6 y7 y8 y9 y10 raw z12)/\(((lSteps_a0 v5 y6 y7 y8 y9 y10 raw z12).3=2->False)->editS v3 (lSteps_a1 v5 y6 y7 y8 y9 y10 raw z12)=0->(∀(v13:Nat),v13<=(lSteps_a0 v5 y6 y7 y8 y9 y10 raw z12).5.length->(canonF (cov (partsR (List.take v13 (lSteps_a0 v5 y6 y7 y8 y9 y10 raw z12).5)))).length<=10000)/\∀(v14:Nat),v14<=(lSteps_a0 v5 y6 y7 y8 y9 y10 raw z12).4.length->(canonF (cov (outsL v3 (List.take v14 (lSteps_a0 v5 y6 y7 y8 y9 y10 raw z12).4)))).length<=10000))/\szL (applyS v3 (lSteps_a1 v5 y6 y7 y8 y9 y10 raw z12)).1/\∀(v15:Bool),(v15=true↔(applyS v3 (lSteps_a1 v5 y6 y7 y8 y9 y10 raw z12)).1=(applyS v3 (lSteps_a1 v5 y6 y7 y8 y9 y10 raw z12)).1)->IFB (!v15|| !decide ((applyS v3 (lSteps_a1 v5 y6 y7 y8 y9 y10 raw z12)).2=(applyS v3 (lSteps_a1 v5 y6 y7 y8 y9 y10 raw z12)).2)) (post false) (rec11 (IntKind.i64.wrap (z12+1)))) (post true)) ((0:Int),PUnit.unit)) λ(J16:Int->Int->Int->List Int->List api_Region->Prop)=>Int.NonNeg 9223372036854775800/\∀(v17:Int),0<=v17->v17<7\/v17=0->IFB (decide (v17=0)) (((1:Int)<=8/\(8:Int)<=1000000)/\∀(v18:Int),0<=v18->v18<8->J16 v5.1 v5.2 (IntKind.i64.wrap (v18-1)) v5.4 v5.5) (IFB (decide (v17=1)) (J16 num v5.2 v5.3 v5.4 v5.5) (IFB (decide (v17=2)) (((0:Nat)+v5.4.length) * (8:Nat)<=140737488355328/\((1:Int)<=8/\(8:Int)<=1000000)/\∀(v19:Int),0<=v19->v19<8->(([]++v5.4).length+[v19].length) * (8:Nat)<=140737488355328/\J16 v5.1 v5.2 v5.3 ([]++v5.4++[v19]) v5.5) (IFB (decide (v17=3)) (((0:Nat)+v5.5.length) * (24:Nat)<=140737488355328/\(Int.NonNeg 11/\Int.NonNeg 15988/\Int.NonNeg 2/\(2:Int)<=100)/\∀(v20:api_Region),(v20.1.length<=121/\∀(r:api_Rect),r∈v20.1->r.3<=13/\r.4<=12)->(([]++v5.5).length+[{Rects:=v20.1:api_Region}].length) * (24:Nat)<=140737488355328/\J16 v5.1 v5.2 v5.3 v5.4 ([]++v5.5++[{Rects:=v20.1:api_Region}])) (IFB (decide (v17=4)) ((↑v5.5.length:Int)<=9223372036854775807->IFB (decide ((0:Int)<(↑v5.5.length:Int))) (JOIN [Ty.int IntKind.i64,Ty.int IntKind.i64,Ty.int IntKind.i64,(Ty.int IntKind.i64).sl,(Ty.st Sn.api_Region).sl] (λ(y21 y22 y23:Int) (y24:List Int) (y25:List api_Region)=>J16 y21 y22 y23 y24 y25) λ(J26:Int->Int->Int->List Int->List api_Region->Prop)=>(Int.NonNeg 1/\1<=(↑v5.5.length:Int)/\(↑v5.5.length:Int)<=(↑v5.5.length:Int))/\(Int.NonNeg 29/\Int.NonNeg 15970/\Int.NonNeg 2/\(2:Int)<=100)/\∀(v27:api_Region),(v27.1.length<=121/\∀(r:api_Rect),r∈v27.1->r.3<=31/\r.4<=30)->([{Rects:=v27.1:api_Region}].length+(sub v5.5 (1:Int) (↑v5.5.length:Int)).length) * (24:Nat)<=140737488355328/\J26 v5.1 v5.2 v5.3 v5.4 ([{Rects:=v27.1:api_Region}]++sub v5.5 (1:Int) (↑v5.5.length:Int))) (J16 v5.1 v5.2 v5.3 v5.4 v5.5)) (J16 v5.1 v5.2 v5.3 v5.4 v5.5)))))))) ((0:Int),PUnit.unit))
theorem lSteps_w (raw:api_Edit)(num:Int)(l:List (Int))(post:Bool->Prop):lSteps_W raw num l post=lawG (callR Tryz.prog lSteps_C (drawF Tryz.prog tau) 10 0) 3 [tv (.st .api_Edit) raw,tv (.int .i64) num,tv (.sl (.int .i64)) l] post:=by kernel_rfl
theorem lSteps_calls (raw:api_Edit)(num:Int)(l:List (Int))(h:lSteps_W raw num l λb=>b=true){w:World}{S:Cells}{us:List Value}(h1:∀b o,S b o->b<w.heap.size)(h3:us.length=3)(h4:∀(i:Nat)(d:D)(u:Value),[tv (.st .api_Edit) raw,tv (.int .i64) num,tv (.sl (.int .i64)) l][i]? =some d->us[i]? =some u->Rd S w d u):Calls Tryz.prog 3 us.toArray w λe w'=>(∃b,e= .returned (.bool b)/\b=true)/\Below w.heap.size w w':=lawG_okH (cp:=callR Tryz.prog lSteps_C (drawF Tryz.prog tau) 10 0) (callR_ok (C:=lSteps_C) (dr:=drawF Tryz.prog tau) (.cons (ruleN_ok knew_ok) (.cons (rule1_ok kspoilt_ok) (.cons (rule1_ok pchk_ok) (.cons (rule1_ok rchk_ok) (.cons (rule1_ok knext_ok) (.cons (rule1_ok kedit_ok) (.cons (rule1_ok kmod_ok) (.cons (rule1_ok kbroken_ok) (.cons (rule1_ok pappA_ok) (.cons (rule1_ok rappA_ok) (.cons (rule1_ok rsame10_ok) (.cons (rule1_ok pawake_ok) .nil)))))))))))) (drawF_ok tau) 10 0) (HoldW.of (lSteps_w raw num l λb=>b=true) h) h1 h3 h4
set_option maxHeartbeats 4000000 in
theorem lSteps_h (raw:api_Edit)(num:Int)(l:List Int)(hnum:(Lit.int .i64 num).wf=true):lSteps_W raw num l λb=>b=true:=by
 unfold lSteps_W lSteps_a2 lSteps_a1 lSteps_a0
 intro _ _
 refine IFB.mk (λ_=>rfl) (λhc _=> ?_)
 rw[Bool.or_eq_false_iff] at hc
 have hr1:¬(12:Int)<(raw.4.length:Int):=of_decide_eq_false hc.1
 have hr2:¬(12:Int)<(raw.5.length:Int):=of_decide_eq_false hc.2
 refine LOOP.fuel (λu=>∃k:Nat,u.1=(k:Int)/\k<=raw.5.length/\∀j:Nat,j<k->(ix raw.5 (j:Int)).1.length<=5) (λu=>raw.5.length-Int.toNat u.1) ⟨0,rfl,Nat.zero_le _,λj hj=>absurd hj (Nat.not_lt_zero _)⟩ ?_
 rintro rec ⟨(z:Int),⟨⟩⟩ ⟨k,f1,i2,i3⟩ hrec
 have e1:z=(k:Int):=f1
 clear f1
 subst e1
 refine IFB.mk (λhb=> ?_) (λhb=> ?_)
 ·have hb:(k:Int)<(raw.5.length:Int):=of_decide_eq_true hb
  refine⟨⟨by omega,hb⟩,λ_=>IFB.mk (λ_=>rfl) (λh5=> ?_)⟩
  have h6:¬(5:Int)<((ix raw.5 (k:Int)).1.length:Int):=of_decide_eq_false h5
  have h7:(ix raw.5 (k:Int)).1.length<=5:=by omega
  rw[wrapS (by omega)]
  refine hrec (((k+1:Nat):Int),()) ⟨k+1,rfl,by omega,λj hj=> ?_⟩ (by show raw.5.length-((k+1:Nat):Int).toNat<raw.5.length-(k:Int).toNat;omega)
  by_cases hjk:j=k
  ·subst hjk;exact h7
  ·exact i3 j (by omega)
 have hb:¬(k:Int)<(raw.5.length:Int):=of_decide_eq_false hb
 have hall:∀a∈raw.Regions,a.Rects.length<=5:=λa ha=>by
  obtain⟨i,hi,rfl⟩:=ix_ex ha
  have hi:i<raw.5.length:=hi
  exact i3 i (by omega)
 clear hrec i3 rec
 have hraw:wideE raw:=⟨⟨by show raw.4.length<=1000000;omega,by show raw.5.length<=1000000;omega,λa ha=>by have:=hall a ha;omega⟩,.inr hall⟩
 rintro x ⟨hsz,hx14,hbx⟩
 have hb100:bxL 100 x:=bxL_mono (by omega) hbx
 refine⟨hsz,hsz,IFB.no (by simp) ⟨.mk _,λv v0 v1=>⟨⟨hsz,by omega⟩,λe he=> ?_⟩⟩⟩
 obtain⟨q1,q2,q3,q4,q5,q6,q7,q8⟩:=he
 have hbe:bxE 95 e:=q8 87 (by omega) (by omega) hbx
 have hwE:∀a∈e.Regions,∀r∈a.Rects,r.Right<=100/\r.High<=100:=λa ha r hr=>by have:=hbe a ha r hr;omega
 have hwe:wideE e:=⟨q1,.inl hwE⟩
 have q5:e.5.length<=2:=q5
 have q6:e.4.length<=16:=q6
 refine JOIN.opq λ(J:Int->Int->Int->List Int->List api_Region->Prop) hJ=> ?_
 have main:∀(a b c:Int)(d:List Int)(f:List api_Region),wideE ⟨a,b,c,d,f⟩->J a b c d f:=λa b c d f hw=>by
  rw[hJ]
  intro _
  obtain⟨L,hL⟩:∃L:List api_Edit,L=[e,⟨a,b,c,d,f⟩,raw]:=⟨_,rfl⟩
  have hLl:L.length=3:=by rw[hL];rfl
  have hLw:∀y∈L,wideE y:=λy hy=>by
   rw[hL] at hy
   simp only[List.mem_cons,List.not_mem_nil,or_false] at hy
   rcases hy with h|h|h<;>rw[h]<;>assumption
  show LOOP [Ty.int IntKind.i64] (λ(rec11:Int->Prop) (z12:Int)=>IFB (decide (z12<(([e,⟨a,b,c,d,f⟩,raw]:List api_Edit).length:Int))) _ _) _
  refine LOOP.fuel (λu=>∃k:Nat,u.1=(k:Int)/\k<=3) (λu=>3-Int.toNat u.1) ⟨0,rfl,by omega⟩ ?_
  rintro rec ⟨(z:Int),⟨⟩⟩ ⟨k,f1,i2⟩ hrec
  have e1:z=(k:Int):=f1
  clear f1
  subst e1
  refine IFB.mk (λhb=> ?_) (λ_=>rfl)
  have hb:(k:Int)<(([e,⟨a,b,c,d,f⟩,raw]:List api_Edit).length:Int):=of_decide_eq_true hb
  have hb3:k<3:=by simp at hb;omega
  have hy:=hLw (ix L (k:Int)) (ix_mem (by omega) (by omega))
  rw[hL] at hy
  have hcb:=combK_wide hb100 hy
  refine⟨⟨by omega,hb⟩,⟨hsz,hy.1⟩,⟨hsz,hy.1,λ_=>hcb⟩,applyS_sz hsz hy.1,λq hq=>IFB.no ?_ ?_⟩
  ·have:q=true:=hq.2 rfl
   rw[this]
   simp
  ·rw[wrapS (by omega)]
   exact hrec (((k+1:Nat):Int),()) ⟨k+1,rfl,by omega⟩ (by show 3-((k+1:Nat):Int).toNat<3-(k:Int).toNat;omega)
 clear hJ
 refine⟨.mk _,λw w0 w1=>IFB.mk (λ_=>⟨by omega,λu u0 u1=>main _ _ _ _ _ ⟨⟨q1.pars,q1.regs,q1.rect⟩,.inl hwE⟩⟩) (λ_=>IFB.mk (λ_=>main _ _ _ _ _ ⟨⟨q1.pars,q1.regs,q1.rect⟩,.inl hwE⟩) (λ_=>IFB.mk (λ_=> ?_) (λ_=>IFB.mk (λ_=> ?_) (λ_=>IFB.mk (λ_ _=> ?_) (λ_=>main _ _ _ _ _ hwe)))))⟩
 ·simp only[List.nil_append]
  refine⟨by omega,by omega,λu u0 u1=>⟨by rw[List.length_singleton];omega,main _ _ _ _ _ ⟨⟨?_,q1.regs,q1.rect⟩,.inl hwE⟩⟩⟩
  show (e.4++[u]).length<=1000000
  rw[List.length_append,List.length_singleton];omega
 ·simp only[List.nil_append]
  refine⟨by omega,⟨.mk _,.mk _,.mk _,by omega⟩,λb hb=>⟨by rw[List.length_singleton];omega,main _ _ _ _ _ ⟨⟨q1.pars,?_,λa ha=> ?_⟩,.inl λa ha r hr=> ?_⟩⟩⟩
  ·show (e.5++[_]).length<=1000000
   rw[List.length_append,List.length_singleton];omega
  ·rcases List.mem_append.1 ha with h|h
   ·exact q1.rect a h
   ·rw[List.mem_singleton] at h
    rw[h]
    show b.1.length<=1000000
    omega
  ·rcases List.mem_append.1 ha with h|h
   ·exact hwE a h r hr
   ·rw[List.mem_singleton] at h
    rw[h] at hr
    have h3:r.Right<=13:=(hb.2 r hr).1
    have h4:r.High<=12:=(hb.2 r hr).2
    omega
 ·refine IFB.mk (λhpos=>JOIN.opq λ(J26:Int->Int->Int->List Int->List api_Region->Prop) hJ26=> ?_) (λ_=>main _ _ _ _ _ hwe)
  have hpos:(0:Int)<(e.5.length:Int):=of_decide_eq_true hpos
  have hsub:sub e.5 (1:Int) (e.5.length:Int)=e.5.drop 1:=by
   unfold sub
   simp
  rw[hsub]
  refine⟨⟨.mk _,by omega,by omega⟩,⟨.mk _,.mk _,.mk _,by omega⟩,λb hb=>⟨by rw[List.length_singleton,List.length_drop];omega,?_⟩⟩
  rw[hJ26]
  refine main _ _ _ _ _ ⟨⟨q1.pars,?_,λa ha=> ?_⟩,.inl λa ha r hr=> ?_⟩
  ·show ([_]++e.5.drop 1).length<=1000000
   rw[List.length_append,List.length_singleton,List.length_drop];omega
  ·rcases List.mem_append.1 ha with h|h
   ·rw[List.mem_singleton] at h
    rw[h]
    show b.1.length<=1000000
    omega
   ·exact q1.rect a (List.mem_of_mem_drop h)
  ·rcases List.mem_append.1 ha with h|h
   ·rw[List.mem_singleton] at h
    rw[h] at hr
    have h3:r.Right<=31:=(hb.2 r hr).1
    have h4:r.High<=30:=(hb.2 r hr).2
    omega
   ·exact hwE a (List.mem_of_mem_drop h) r hr
end RE
end Go.Proofs.YtpeggkeenboacaaGreat
