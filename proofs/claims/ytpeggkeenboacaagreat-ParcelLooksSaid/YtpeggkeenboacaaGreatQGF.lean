/-
  Texts of the proof of ParcelLooks, part GF.
-/
import Derived.Test.YtpeggkeenboacaaGreatQGE
import Derived.Test.YtpeggkeenboacaaGreatQGD
import Derived.Test.YtpeggkeenboacaaGreatQGW
set_option linter.unusedVariables false
noncomputable section
namespace Go.Proofs.YtpeggkeenboacaaGreat
namespace RE
set_option maxRecDepth 100000
open Go.RowKit
open PL
def routl_P (p:api_Parcel)(d:Int)(post:api_Region->Prop):Prop:=(0<p.Regions.length/\p.Days.length=p.Regions.length/\p.Days.length<=1000000)/\post (outlS p d)
def routl_sp:Spec:=⟨106,false,true,[.st .api_Parcel,.int .i64],.dat (.st .api_Region),λx post=>routl_P (x.1:api_Parcel) (x.2.1:Int) (λy0=>post (y0,()))⟩
def routl_C:CtxR:=⟨tau,[],lookJ [(0,7,⟨[(14,.dat (.int .i64))],[(2,[.dat (.sl (.st .api_Rect))])],(List.range' 15 15++[6]),[],[]⟩),(0,14,⟨[],[(2,[.dat (.sl (.st .api_Rect))])],(List.range' 16 13++[6]),[],[]⟩)]⟩
def routl_W (p:api_Parcel)(d:Int)(post:api_Region->Prop):Prop:=(Int.NonNeg 0/\0<(↑p.6.length:Int))/\((↑p.5.length:Int)<=9223372036854775807->LOOP [Ty.int IntKind.i64,(Ty.st Sn.api_Rect).sl] (λ(rec1:Int->List api_Rect->Prop) (z2:Int) (z3:List api_Rect)=>IFB (decide (z2<(↑p.5.length:Int))) (JOIN [(Ty.st Sn.api_Rect).sl] (λ(y4:List api_Rect)=>rec1 (IntKind.i64.wrap (z2+1)) y4) λ(J5:List api_Rect->Prop)=>((0:Int)<=z2/\z2<(↑p.5.length:Int))/\IFB (decide (ix p.5 z2<=d)) (((0:Int)<=z2/\z2<(↑p.6.length:Int))/\J5 (ix p.6 z2).1) (J5 z3)) (post (⟨z3⟩:api_Region))) ((0:Int),(ix p.6 0).1,PUnit.unit))
theorem routl_w (p:api_Parcel)(d:Int)(post:dens (shT routl_sp.rs [])->Prop):routl_W p d (λy0=>post (y0,()))=walkG (callR Tryz.prog routl_C (drawF Tryz.prog tau) 8 0) 106 false [tv (.st .api_Parcel) p,tv (.int .i64) d] routl_sp.rs post:=by kernel_rfl
theorem routl_of (h:∀p d post,routl_P p d post->routl_W p d post):SpecOK Tryz.prog routl_sp:=SpecOK.of_rules (C:=routl_C) (dr:=drawF Tryz.prog tau) (n:=8) (fk:=0) .nil (drawF_ok tau) λx post hp=>HoldW.of (routl_w x.1 x.2.1 post) (h x.1 x.2.1 (λy0=>post (y0,())) hp)
theorem routl_ok:SpecOK Tryz.prog routl_sp:=routl_of λp d post hp=>by
 obtain⟨⟨h1,h2,h3⟩,hp⟩:=hp
 unfold routl_W
 refine⟨⟨Int.NonNeg.mk 0,by omega⟩,λ_=> ?_⟩
 refine LOOP.fuel2 (λ(z:Int) (b:List Rc)=>∃k:Nat,z=(k:Int)/\k<=p.Days.length/\b=(outlF p d k).Rects) (λz _=>p.Days.length-Int.toNat z) ⟨0,rfl,Nat.zero_le _,rfl⟩ ?_
 rintro rec (z:Int) (b:List Rc) ⟨k,i1,i2,i3⟩ hrec
 subst i1
 refine IFB.mk (λhb=> ?_) (λhb=> ?_)
 ·have hb:(k:Int)<p.Days.length:=of_decide_eq_true hb
  refine JOIN.opq λ(J:List Rc->Prop) hJ=>⟨by omega,?_⟩
  have fin:∀y:List Rc,y=(outlF p d (k+1)).Rects->J y:=λy hy=>by
   rw[hJ]
   show rec (IntKind.i64.wrap ((k:Int)+1)) y
   rw[wrapS (by omega)]
   exact hrec ((k+1:Nat):Int) y ⟨k+1,rfl,by omega,hy⟩ (by show p.Days.length-((k+1:Nat):Int).toNat<p.Days.length-(k:Int).toNat;omega)
  refine IFB.mk (λhc=>⟨by omega,fin _ ?_⟩) (λhc=>fin _ ?_)
  ·have hc:ix p.Days (k:Int)<=d:=of_decide_eq_true hc
   rw[outlF_succ,if_pos hc]
  ·have hc:¬ix p.Days (k:Int)<=d:=of_decide_eq_false hc
   rw[outlF_succ,if_neg hc];exact i3
 ·have hb:¬(k:Int)<p.Days.length:=of_decide_eq_false hb
  have hk:k=p.Days.length:=by omega
  rw[i3,hk];exact hp
def ropen_P (l:List (api_Parcel))(d:Int)(post:List (Int)->Prop):Prop:=szL l/\post (openS l d)
def ropen_sp:Spec:=⟨40,false,true,[.sl (.st .api_Parcel),.int .i64],.dat (.sl (.int .i64)),λx post=>ropen_P (x.1:List (api_Parcel)) (x.2.1:Int) (λy0=>post (y0,()))⟩
def ropen_C:CtxR:=⟨tau,[rule1 rchk_sp],lookJ [(0,11,⟨[(13,.dat (.int .i64)),(5,.own 3 (.int .i64))],[],(List.range' 14 12++[7]),[],[]⟩),(0,18,⟨[(5,.own 3 (.int .i64))],[],(List.range' 15 10++[7]),[0],[]⟩)]⟩
def ropen_W (l:List (api_Parcel))(d:Int)(post:List (Int)->Prop):Prop:=szL l/\IFB (!decide (checkS l=0)) (post []) ((↑l.length:Int)<=9223372036854775807->LOOP [Ty.int IntKind.i64,(Ty.int IntKind.i64).sl] (λ(rec1:Int->List Int->Prop) (z2:Int) (z3:List Int)=>IFB (decide (z2<(↑l.length:Int))) (JOIN [(Ty.int IntKind.i64).sl] (λ(y4:List Int)=>rec1 (IntKind.i64.wrap (z2+1)) y4) λ(J5:List Int->Prop)=>((0:Int)<=z2/\z2<(↑l.length:Int))/\IFB (decide ((ix l z2).2<=d)&&decide (d<(ix l z2).3)) ((z3.length+[(ix l z2).1].length) * (8:Nat)<=140737488355328/\J5 (z3++[(ix l z2).1])) (J5 z3)) (post z3)) ((0:Int),[],PUnit.unit))
theorem ropen_w (l:List (api_Parcel))(d:Int)(post:dens (shT ropen_sp.rs [])->Prop):ropen_W l d (λy0=>post (y0,()))=walkG (callR Tryz.prog ropen_C (drawF Tryz.prog tau) 8 0) 40 false [tv (.sl (.st .api_Parcel)) l,tv (.int .i64) d] ropen_sp.rs post:=by kernel_rfl
theorem ropen_of (h:∀l d post,ropen_P l d post->ropen_W l d post):SpecOK Tryz.prog ropen_sp:=SpecOK.of_rules (C:=ropen_C) (dr:=drawF Tryz.prog tau) (n:=8) (fk:=0) (.cons (rule1_ok rchk_ok) .nil) (drawF_ok tau) λx post hp=>HoldW.of (ropen_w x.1 x.2.1 post) (h x.1 x.2.1 (λy0=>post (y0,())) hp)
theorem ropen_ok:SpecOK Tryz.prog ropen_sp:=ropen_of λl d post hp=>by
 obtain⟨hsz,hp⟩:=hp
 have hl:=hsz.len
 unfold ropen_W
 unfold openS at hp
 refine⟨hsz,IFB.mk (λhb=> ?_) (λhb _=> ?_)⟩
 ·have hb:¬checkS l=0:=by simpa using hb
  rw[if_neg hb] at hp;exact hp
 have hb:checkS l=0:=by simpa using hb
 rw[if_pos hb] at hp
 refine LOOP.fuel2 (λ(z:Int) (b:List Int)=>∃k:Nat,z=(k:Int)/\k<=l.length/\b=openL (l.take k) d) (λz _=>l.length-Int.toNat z) ⟨0,rfl,Nat.zero_le _,rfl⟩ ?_
 rintro rec (z:Int) (b:List Int) ⟨k,i1,i2,i3⟩ hrec
 subst i1
 refine IFB.mk (λhb=> ?_) (λhb=> ?_)
 ·have hb:(k:Int)<l.length:=of_decide_eq_true hb
  have hk:k<l.length:=by omega
  have hbl:b.length<=1000000:=by
   have:=openL_len (l:=l.take k) (d:=d)
   rw[<-i3,List.length_take] at this;omega
  refine JOIN.opq λ(J:List Int->Prop) hJ=>⟨by omega,?_⟩
  have fin:∀y:List Int,y=openL (l.take (k+1)) d->J y:=λy hy=>by
   rw[hJ]
   show rec (IntKind.i64.wrap ((k:Int)+1)) y
   rw[wrapS (by omega)]
   exact hrec ((k+1:Nat):Int) y ⟨k+1,rfl,hk,hy⟩ (by show l.length-((k+1:Nat):Int).toNat<l.length-(k:Int).toNat;omega)
  refine IFB.mk (λhc=>⟨by simp only[List.length_cons,List.length_nil];omega,fin _ ?_⟩) (λhc=>fin _ ?_)
  ·rw[Bool.and_eq_true,decide_eq_true_eq,decide_eq_true_eq] at hc
   rw[openL_take hk,if_pos (show thereP (ix l (k:Int)) d from hc),<-i3]
  ·rw[Bool.and_eq_false_iff,decide_eq_false_iff_not,decide_eq_false_iff_not] at hc
   rw[openL_take hk,if_neg (λh=>by unfold thereP at h;rcases hc with hc|hc;exact hc h.1;exact hc h.2),<-i3]
 ·have hb:¬(k:Int)<l.length:=of_decide_eq_false hb
  have hk:k=l.length:=by omega
  rw[hk,List.take_length] at i3
  show post b
  rw[i3];exact hp
def rheirs_P (l:List (api_Parcel))(n:Int)(d:Int)(post:List (Int)->Int->Prop):Prop:=szL l/\∀(h:List Int)(g:Int),(h=heirsS l n d/\g=heirE l n d)->post h g
def rheirs_sp:Spec:=⟨42,false,true,[.sl (.st .api_Parcel),.int .i64,.int .i64],.tup [.dat (.sl (.int .i64)),.dat (.int .i64)],λx post=>rheirs_P (x.1:List (api_Parcel)) (x.2.1:Int) (x.2.2.1:Int) (λy0 y1=>post (y0,y1,()))⟩
def rheirs_C:CtxR:=⟨tau,[rule1 rchk_sp,rule1 rput_sp],lookJ [(8172,9,⟨[(18,.dat (.int .i64)),(8,.own 3 (.int .i64)),(7,.dat (.sl (.int .i64)))],[],(List.range' 19 35++[10,11,13]),[0],[]⟩),(8172,32,⟨[(8,.own 3 (.int .i64)),(7,.dat (.sl (.int .i64)))],[],(List.range' 20 33++[10,11,13]),[1],[]⟩),(8172,17,⟨[(29,.dat (.int .i64)),(11,.dat .bool)],[],(List.range' 30 10++[13]),[],[]⟩),(8518838067,0,⟨[(0,.dat .bool)],[],[],[],[]⟩),(8518838067,5,⟨[(9,.dat (.int .i64))],[],[10,11,12,6,13,14,15,16],[],[]⟩)]⟩
def rheirs_W (l:List (api_Parcel))(n:Int)(d:Int)(post:List (Int)->Int->Prop):Prop:=szL l/\IFB (!decide (checkS l=0)) (post [] (checkS l)) (IFB (decide (d<0)||decide ((36864:Int)<d)) (post [] 9) ((gx false (decide (n<1))=true->(↑l.length:Int)<=9223372036854775807)->(gx false (decide (n<1)||decide ((↑l.length:Int)<n))=true->0<=IntKind.i64.wrap (n-1)/\IntKind.i64.wrap (n-1)<(↑l.length:Int))/\IFB (decide (n<1)||decide ((↑l.length:Int)<n)||decide (d<(ix l (IntKind.i64.wrap (n-1))).2)) (post [] 10) ((↑l.length:Int)<=9223372036854775807->LOOP [Ty.int IntKind.i64,(Ty.int IntKind.i64).sl,(Ty.int IntKind.i64).sl] (λ(rec1:Int->List Int->List Int->Prop) (z2:Int) (z3 z4:List Int)=>IFB (decide (z2<(↑l.length:Int))) (JOIN [(Ty.int IntKind.i64).sl,(Ty.int IntKind.i64).sl] (λ(y5 y6:List Int)=>rec1 (IntKind.i64.wrap (z2+1)) y5 y6) λ(J7:List Int->List Int->Prop)=>((0:Int)<=z2/\z2<(↑l.length:Int))/\((↑(ix l z2).4.length:Int)<=9223372036854775807->LOOP [Ty.int IntKind.i64,Ty.bool] (λ(rec8:Int->Bool->Prop) (z9:Int) (z10:Bool)=>IFB (decide (z9<(↑(ix l z2).4.length:Int))) (((0:Int)<=z9/\z9<(↑(ix l z2).4.length:Int))/\JOIN [Ty.bool] (λ(y11:Bool)=>rec8 (IntKind.i64.wrap (z9+1)) (z10||y11)) λ(J12:Bool->Prop)=>IFB (gx false z10) (JOIN [Ty.bool] (λ(y13:Bool)=>J12 y13) λ(J14:Bool->Prop)=>(↑z4.length:Int)<=9223372036854775807->LOOP [Ty.int IntKind.i64] (λ(rec15:Int->Prop) (z16:Int)=>IFB (decide (z16<(↑z4.length:Int))) (((0:Int)<=z16/\z16<(↑z4.length:Int))/\IFB (decide (ix z4 z16=ix (ix l z2).4 z9)) (J14 true) (rec15 (IntKind.i64.wrap (z16+1)))) (J14 false)) ((0:Int),PUnit.unit)) (J12 false)) (IFB z10 (z4.length<=1000000/\IFB (decide ((ix l z2).2<=d)&&decide (d<(ix l z2).3)) ((z3.length+[(ix l z2).1].length) * (8:Nat)<=140737488355328/\J7 (z3++[(ix l z2).1]) (putS (ix l z2).1 z4)) (J7 z3 (putS (ix l z2).1 z4))) (J7 z3 z4))) ((0:Int),decide ((ix l z2).1=n),PUnit.unit))) (post z3 0)) ((0:Int),[],[n],PUnit.unit))))
theorem rheirs_w (l:List (api_Parcel))(n:Int)(d:Int)(post:dens (shT rheirs_sp.rs [])->Prop):rheirs_W l n d (λy0 y1=>post (y0,y1,()))=walkG (callR Tryz.prog rheirs_C (drawF Tryz.prog tau) 8 0) 42 false [tv (.sl (.st .api_Parcel)) l,tv (.int .i64) n,tv (.int .i64) d] rheirs_sp.rs post:=by kernel_rfl
theorem rheirs_of (h:∀l n d post,rheirs_P l n d post->rheirs_W l n d post):SpecOK Tryz.prog rheirs_sp:=SpecOK.of_rules (C:=rheirs_C) (dr:=drawF Tryz.prog tau) (n:=8) (fk:=0) (.cons (rule1_ok rchk_ok) (.cons (rule1_ok rput_ok) .nil)) (drawF_ok tau) λx post hp=>HoldW.of (rheirs_w x.1 x.2.1 x.2.2.1 post) (h x.1 x.2.1 x.2.2.1 (λy0 y1=>post (y0,y1,())) hp)
set_option maxHeartbeats 1000000 in
theorem rheirs_ok:SpecOK Tryz.prog rheirs_sp:=rheirs_of λl n d post hp=>by
 obtain⟨hsz,hp⟩:=hp
 have hl:=hsz.len
 unfold rheirs_W
 have bad:∀c:Int,heirE l n d=c->c≠0->post [] c:=λc he hc=>hp [] c ⟨by unfold heirsS;rw[if_neg (by rw[he];exact hc)],he.symm⟩
 refine⟨hsz,IFB.mk (λhb=> ?_) (λhb=> ?_)⟩
 ·have hb:checkS l≠0:=by simpa using hb
  exact bad _ (by unfold heirE;rw[if_pos hb]) hb
 have hb:checkS l=0:=by simpa using hb
 refine IFB.mk (λhd=> ?_) (λhd=> ?_)
 ·have hd:d<0\/36864<d:=by simpa using hd
  exact bad 9 (by unfold heirE;rw[if_neg (λh=>h hb),if_pos hd]) (by decide)
 have hd:¬(d<0\/36864<d):=by
  intro h
  have:(decide (d<(0:Int))||decide ((36864:Int)<d))=true:=by simpa using h
  rw[this] at hd;cases hd
 intro _
 have hw:1<=n->n<=(l.length:Int)->IntKind.i64.wrap (n-1)=n-1:=λh1 h2=>wrap_in (by omega) (by omega)
 refine⟨λh=> ?_,IFB.mk (λhc=> ?_) (λhc _=> ?_)⟩
 ·rw[gx_f,Bool.not_eq_true',Bool.or_eq_false_iff,decide_eq_false_iff_not,decide_eq_false_iff_not] at h
  rw[hw (by omega) (by omega)];omega
 ·refine bad 10 ?_ (by decide)
  unfold heirE
  rw[if_neg (λh=>h hb),if_neg hd,if_pos]
  rw[Bool.or_eq_true,Bool.or_eq_true,decide_eq_true_eq,decide_eq_true_eq,decide_eq_true_eq] at hc
  rcases hc with (hc|hc)|hc
  ·exact .inl hc
  ·exact .inr (.inl hc)
  ·by_cases h1:n<1
   ·exact .inl h1
   by_cases h2:(l.length:Int)<n
   ·exact .inr (.inl h2)
   rw[hw (by omega) (by omega)] at hc
   exact .inr (.inr hc)
 rw[Bool.or_eq_false_iff,Bool.or_eq_false_iff,decide_eq_false_iff_not,decide_eq_false_iff_not,decide_eq_false_iff_not] at hc
 obtain⟨⟨c1,c2⟩,c3⟩:=hc
 rw[hw (by omega) (by omega)] at c3
 have he:heirE l n d=0:=by unfold heirE;rw[if_neg (λh=>h hb),if_neg hd,if_neg (by omega)]
 have hhs:heirsS l n d=heirsL l n d:=by unfold heirsS;rw[if_pos he]
 have hp:=hp _ _ ⟨rfl,rfl⟩
 rw[hhs,he] at hp
 clear bad hhs he hw
 obtain⟨N,hN⟩:∃N:Nat,n=(N:Int)+1:=⟨(n-1).toNat,by omega⟩
 subst hN
 have hreg:=(checkS_0.1 hb).2
 rw[<-rheirs_eq hreg (by omega)] at hp
 generalize hF:rStep ((N:Int)+1) d=f at hp
 refine LOOP.fuel3 (λ(z:Int) (b c:List Int)=>∃k:Nat,z=(k:Int)/\k<=l.length/\b=((l.take k).foldl f ([(N:Int)+1],[])).2/\(∀x,x∈c↔x∈((l.take k).foldl f ([(N:Int)+1],[])).1)/\b.length<=k/\c.length<=k+1) (λz _ _=>l.length-Int.toNat z) ⟨0,rfl,Nat.zero_le _,rfl,λx=>Iff.rfl,Nat.le_refl _,Nat.le_refl _⟩ ?_
 rintro rec (z:Int) (b:List Int) (c:List Int) ⟨k,i1,i2,i3,i4,i5,i6⟩ hrec
 subst i1
 refine IFB.mk (λhb=> ?_) (λhb=> ?_)
 rotate_left
 ·have hb:¬(k:Int)<l.length:=of_decide_eq_false hb
  have hk:k=l.length:=by omega
  rw[hk,List.take_length] at i3
  show post b 0
  rw[i3];exact hp
 have hb:(k:Int)<l.length:=of_decide_eq_true hb
 have hk:k<l.length:=by omega
 have hx:=hsz.all _ (ix_mem (l:=l) (i:=(k:Int)) (by omega) (by omega))
 have hst:(l.take (k+1)).foldl f ([(N:Int)+1],[])=f ((l.take k).foldl f ([(N:Int)+1],[])) (ix l (k:Int)):=fold_take hk
 generalize (l.take k).foldl f ([(N:Int)+1],[])=s at *
 refine JOIN.opq λ(J7:List Int->List Int->Prop) hJ7=>⟨by omega,λ_=> ?_⟩
 have k7:∀(u v:List Int),u=(f s (ix l (k:Int))).2->(∀x,x∈v↔x∈(f s (ix l (k:Int))).1)->u.length<=k+1->v.length<=k+2->J7 u v:=λu v h1 h2 h3 h4=>by
  rw[hJ7]
  show rec (IntKind.i64.wrap ((k:Int)+1)) u v
  rw[wrapS (by omega)]
  exact hrec ((k+1:Nat):Int) u v ⟨k+1,rfl,hk,by rw[hst];exact h1,λx=>by rw[hst];exact h2 x,h3,h4⟩ (by show l.length-((k+1:Nat):Int).toNat<l.length-(k:Int).toNat;omega)
 clear hrec hst hp
 have hpl:=hx.pars
 generalize ix l (k:Int)=p at *
 refine LOOP.fuel2 (λ(z:Int) (q:Bool)=>∃j:Nat,z=(j:Int)/\j<=p.4.length/\(q=true↔p.Number=(N:Int)+1\/∃y∈p.4.take j,y∈s.1)) (λz _=>p.4.length-Int.toNat z) ⟨0,rfl,Nat.zero_le _,?_⟩ ?_
 ·rw[decide_eq_true_eq]
  constructor
  ·exact λh=> .inl h
  ·rintro (h|⟨y,hy,_⟩)
   ·exact h
   ·cases hy
 rintro rec2 (z:Int) (q:Bool) ⟨j,j1,j2,j3⟩ hrec2
 subst j1
 refine IFB.mk (λhb2=> ?_) (λhb2=> ?_)
 ·have hb2:(j:Int)<p.4.length:=of_decide_eq_true hb2
  have hj:j<p.4.length:=by omega
  have hpl:p.4.length<=1000000:=hpl
  refine⟨by omega,JOIN.opq λ(J12:Bool->Prop) hJ12=> ?_⟩
  have k12:∀y:Bool,(q=true\/(y=true↔ix p.4 (j:Int)∈s.1))->J12 y:=λy h=>by
   rw[hJ12]
   show rec2 (IntKind.i64.wrap ((j:Int)+1)) (q||y)
   rw[wrapS (by omega)]
   refine hrec2 ((j+1:Nat):Int) _ ⟨j+1,rfl,hj,?_⟩ (by show p.4.length-((j+1:Nat):Int).toNat<p.4.length-(j:Int).toNat;omega)
   have e:p.4.take (j+1)=p.4.take j++[ix p.4 (j:Int)]:=by rw[ix_lt hj];exact List.take_succ_eq_append_getElem hj
   rw[Bool.or_eq_true,e]
   constructor
   ·intro h2
    by_cases hq:q=true
    ·rcases j3.1 hq with h3|⟨y,h3,h4⟩
     ·exact .inl h3
     ·exact .inr ⟨y,by simp[h3],h4⟩
    ·have h:=h.resolve_left hq
     exact .inr ⟨_,by simp,h.1 (h2.resolve_left hq)⟩
   ·rintro (h2|⟨y2,h2,h3⟩)
    ·exact .inl (j3.2 (.inl h2))
    ·rcases List.mem_append.1 h2 with h2|h2
     ·exact .inl (j3.2 (.inr ⟨y2,h2,h3⟩))
     ·rw[List.mem_singleton.1 h2] at h3
      by_cases hq:q=true
      ·exact .inl hq
      ·exact .inr ((h.resolve_left hq).2 h3)
  refine IFB.mk (λhq=> ?_) (λhq=>k12 _ (.inl ?_))
  ·refine JOIN.opq λ(J14:Bool->Prop) hJ14=>λ_=> ?_
   have k14:∀y:Bool,(y=true↔ix p.4 (j:Int)∈s.1)->J14 y:=λy h=>by
    rw[hJ14];exact k12 y (.inr h)
   refine loopCmp (n:=c.length) (by omega) (p:=λi=>¬ix c (i:Int)=ix p.4 (j:Int)) (λrec3 m hm _ hrec3=>⟨by omega,IFB.mk (λh=> ?_) (λh=>hrec3 (of_decide_eq_false h))⟩) λhall=>k14 _ ⟨λh=>(by cases h),λh=> ?_⟩
   ·have h:ix c (m:Int)=ix p.4 (j:Int):=of_decide_eq_true h
    exact k14 _ ⟨λ_=>(i4 _).1 (by rw[<-h];exact ix_mem (by omega) (by omega)),λ_=>rfl⟩
   ·obtain⟨i,hi,e⟩:=ix_ex ((i4 _).2 h)
    exact absurd e (hall i hi)
  ·rw[gx_f,Bool.not_eq_false'] at hq;exact hq
 have hb2:¬(j:Int)<p.4.length:=of_decide_eq_false hb2
 rw[List.take_of_length_le (by omega)] at j3
 clear hrec2
 subst hF
 have hkin:q=true↔kinP ((N:Int)+1) s.1 p:=j3
 unfold rStep at k7
 refine IFB.mk (λhq=> ?_) (λhq=> ?_)
 ·rw[if_pos (hkin.1 hq)] at k7
  dsimp only at k7
  have hmem:∀x,x∈putS p.Number c↔x∈s.1++[p.Number]:=λx=>by
   rw[putS_mem,List.mem_append,List.mem_singleton,i4,or_comm]
  have hpl2:(putS p.Number c).length<=k+2:=by
   have:=putS_len (n:=p.Number) (l:=c)
   omega
  refine⟨by omega,IFB.mk (λht=>⟨by simp only[List.length_cons,List.length_nil];omega,k7 _ _ ?_ hmem ?_ hpl2⟩) (λht=>k7 _ _ ?_ hmem (by omega) hpl2)⟩
  ·rw[Bool.and_eq_true,decide_eq_true_eq,decide_eq_true_eq] at ht
   rw[if_pos (show thereP p d from ht),i3]
  ·rw[List.length_append,List.length_singleton];omega
  ·rw[Bool.and_eq_false_iff,decide_eq_false_iff_not,decide_eq_false_iff_not] at ht
   rw[if_neg (λh=>by unfold thereP at h;rcases ht with ht|ht;exact ht h.1;exact ht h.2)];exact i3
 ·rw[if_neg (λh=>by rw[hkin.2 h] at hq;cases hq)] at k7
  exact k7 _ _ i3 i4 (by omega) (by omega)
def rsize_P (l:List (api_Rect))(post:Int->Prop):Prop:=((∀r∈l,proper r)/\l.length<=268435456)/\post (sizeS l)
def rsize_sp:Spec:=⟨94,false,false,[.sl (.st .api_Rect)],.dat (.int .i64),λx post=>rsize_P (x.1:List (api_Rect)) (λy0=>post (y0,()))⟩
def rsize_C:CtxR:=⟨tau,[],lookJ [(0,7,⟨[(8,.dat (.int .i64)),(3,.dat (.int .i64))],[],(List.range' 9 17++[5]),[],[]⟩)]⟩
def rsize_W (l:List (api_Rect))(post:Int->Prop):Prop:=(↑l.length:Int)<=9223372036854775807->LOOP [Ty.int IntKind.i64,Ty.int IntKind.i64] (λ(rec1:Int->Int->Prop) (z2 z3:Int)=>IFB (decide (z2<(↑l.length:Int))) (((0:Int)<=z2/\z2<(↑l.length:Int))/\rec1 (IntKind.i64.wrap (z2+1)) (IntKind.i64.wrap (z3+IntKind.i64.wrap (IntKind.i64.wrap ((ix l z2).3-(ix l z2).1) * IntKind.i64.wrap ((ix l z2).4-(ix l z2).2))))) (post z3)) ((0:Int),(0:Int),PUnit.unit)
theorem rsize_w (l:List (api_Rect))(post:dens (shT rsize_sp.rs [])->Prop):rsize_W l (λy0=>post (y0,()))=walkG (callR Tryz.prog rsize_C (drawF Tryz.prog tau) 8 0) 94 false [tv (.sl (.st .api_Rect)) l] rsize_sp.rs post:=by kernel_rfl
theorem rsize_of (h:∀l post,rsize_P l post->rsize_W l post):SpecOK Tryz.prog rsize_sp:=SpecOK.of_rules (C:=rsize_C) (dr:=drawF Tryz.prog tau) (n:=8) (fk:=0) .nil (drawF_ok tau) λx post hp=>HoldW.of (rsize_w x.1 post) (h x.1 (λy0=>post (y0,())) hp)
theorem rsize_ok:SpecOK Tryz.prog rsize_sp:=rsize_of λl post hp=>by
 obtain⟨⟨h1,h2⟩,hp⟩:=hp
 unfold rsize_W
 exact λ_=>size_loop h1 h2 hp
theorem eq_ix {α:Type}[Inhabited α]{a b:List α}(h:a.length=b.length)(h2:∀i:Nat,i<a.length->ix a (i:Int)=ix b (i:Int)):a=b:=by
 refine List.ext_getElem h λi h3 h4=> ?_
 have:=h2 i h3
 rwa [ix_lt h3,ix_lt h4] at this
def rall_P (a:List (api_Region))(b:List (api_Region))(post:Bool->Prop):Prop:=(a.length<=1000000/\∀x∈a,x.Rects.length<=1000000)/\∀q:Bool,(q=true↔a=b)->post q
def rall_sp:Spec:=⟨83,false,false,[.sl (.st .api_Region),.sl (.st .api_Region)],.dat (.bool),λx post=>rall_P (x.1:List (api_Region)) (x.2.1:List (api_Region)) (λy0=>post (y0,()))⟩
def rall_C:CtxR:=⟨tau,[rule1 rsame_sp],lookJ [(0,9,⟨[(13,.dat (.int .i64))],[],(List.range' 14 13++[5]),[],[]⟩)]⟩
def rall_W (a:List (api_Region))(b:List (api_Region))(post:Bool->Prop):Prop:=(↑a.length:Int)<=9223372036854775807->(↑b.length:Int)<=9223372036854775807->IFB (!decide ((↑a.length:Int)=(↑b.length:Int))) (post false) ((↑a.length:Int)<=9223372036854775807->LOOP [Ty.int IntKind.i64] (λ(rec1:Int->Prop) (z2:Int)=>IFB (decide (z2<(↑a.length:Int))) (((0:Int)<=z2/\z2<(↑a.length:Int))/\((0:Int)<=z2/\z2<(↑b.length:Int))/\(ix a z2).1.length<=1000000000/\∀(v3:Bool),(v3=true↔{Rects:=(ix a z2).1:api_Region}={Rects:=(ix b z2).1:api_Region})->IFB (!v3) (post false) (rec1 (IntKind.i64.wrap (z2+1)))) (post true)) ((0:Int),PUnit.unit))
theorem rall_w (a:List (api_Region))(b:List (api_Region))(post:dens (shT rall_sp.rs [])->Prop):rall_W a b (λy0=>post (y0,()))=walkG (callR Tryz.prog rall_C (drawF Tryz.prog tau) 8 0) 83 false [tv (.sl (.st .api_Region)) a,tv (.sl (.st .api_Region)) b] rall_sp.rs post:=by kernel_rfl
theorem rall_of (h:∀a b post,rall_P a b post->rall_W a b post):SpecOK Tryz.prog rall_sp:=SpecOK.of_rules (C:=rall_C) (dr:=drawF Tryz.prog tau) (n:=8) (fk:=0) (.cons (rule1_ok rsame_ok) .nil) (drawF_ok tau) λx post hp=>HoldW.of (rall_w x.1 x.2.1 post) (h x.1 x.2.1 (λy0=>post (y0,())) hp)
theorem rall_ok:SpecOK Tryz.prog rall_sp:=rall_of λa b post hp=>by
 obtain⟨⟨h1,h2⟩,hp⟩:=hp
 unfold rall_W
 intro _ _
 refine IFB.mk (λhb=>hp _ ⟨λh=>(by cases h),λh=> ?_⟩) (λhb _=> ?_)
 ·subst h
  simp at hb
 have hl:a.length=b.length:=by
  have:decide ((a.length:Int)=(b.length:Int))=true:=by simpa using hb
  have:=of_decide_eq_true this
  omega
 refine loopCmp (n:=a.length) (by omega) (p:=λi=>ix a (i:Int)=ix b (i:Int)) (λrec k hk _ hrec=>⟨by omega,by omega,?_,λv hv=>IFB.mk (λhc=> ?_) (λhc=> ?_)⟩) λhall=>hp _ ⟨λ_=>eq_ix hl hall,λ_=>rfl⟩
 ·have:=h2 _ (ix_mem (l:=a) (i:=(k:Int)) (by omega) (by omega))
  show (ix a (k:Int)).Rects.length<=1000000000
  omega
 ·have hv2:v=false:=by simpa using hc
  refine hp _ ⟨λh=>(by cases h),λh=> ?_⟩
  subst h
  rw[hv.2 rfl] at hv2;cases hv2
 ·have hv2:v=true:=by simpa using hc
  exact hrec (hv.1 hv2)
def ron_P (l:List (api_Parcel))(n:Int)(d:Int)(post:List (api_Rect)->Bool->Prop):Prop:=szL l/\∀(r:List api_Rect)(q:Bool),(r=(onS l n d).Rects/\(q=true↔onP l n d))->post r q
def ron_sp:Spec:=⟨41,false,true,[.sl (.st .api_Parcel),.int .i64,.int .i64],.tup [.agg [.dat (.sl (.st .api_Rect))],.dat (.bool)],λx post=>ron_P (x.1:List (api_Parcel)) (x.2.1:Int) (x.2.2.1:Int) (λy0 y1=>post (y0,y1,()))⟩
def ron_C:CtxR:=⟨tau,[rule1 rchk_sp,rule1 routl_sp],lookJ []⟩
def ron_W (l:List (api_Parcel))(n:Int)(d:Int)(post:List (api_Rect)->Bool->Prop):Prop:=szL l/\((gx false (!decide (checkS l=0)||decide (n<1))=true->(↑l.length:Int)<=9223372036854775807)->(gx false (!decide (checkS l=0)||decide (n<1)||decide ((↑l.length:Int)<n))=true->0<=IntKind.i64.wrap (n-1)/\IntKind.i64.wrap (n-1)<(↑l.length:Int))/\JOIN [Ty.bool] (λ(y1:Bool)=>IFB (!decide (checkS l=0)||decide (n<1)||decide ((↑l.length:Int)<n)|| !y1) (post [] false) (((0:Int)<=IntKind.i64.wrap (n-1)/\IntKind.i64.wrap (n-1)<(↑l.length:Int))/\((0:Nat)<(ix l (IntKind.i64.wrap (n-1))).6.length/\(ix l (IntKind.i64.wrap (n-1))).5.length=(ix l (IntKind.i64.wrap (n-1))).6.length/\(ix l (IntKind.i64.wrap (n-1))).5.length<=1000000)/\post (outlS {Number:=(ix l (IntKind.i64.wrap (n-1))).1,From:=(ix l (IntKind.i64.wrap (n-1))).2,Until:=(ix l (IntKind.i64.wrap (n-1))).3,Parents:=(ix l (IntKind.i64.wrap (n-1))).4,Days:=(ix l (IntKind.i64.wrap (n-1))).5,Regions:=(ix l (IntKind.i64.wrap (n-1))).6:api_Parcel} d).1 true)) λ(J2:Bool->Prop)=>IFB (gx false (!decide (checkS l=0)||decide (n<1)||decide ((↑l.length:Int)<n))) (J2 (decide ((ix l (IntKind.i64.wrap (n-1))).2<=d)&&decide (d<(ix l (IntKind.i64.wrap (n-1))).3))) (J2 false))
theorem ron_w (l:List (api_Parcel))(n:Int)(d:Int)(post:dens (shT ron_sp.rs [])->Prop):ron_W l n d (λy0 y1=>post (y0,y1,()))=walkG (callR Tryz.prog ron_C (drawF Tryz.prog tau) 8 0) 41 false [tv (.sl (.st .api_Parcel)) l,tv (.int .i64) n,tv (.int .i64) d] ron_sp.rs post:=by kernel_rfl
theorem ron_of (h:∀l n d post,ron_P l n d post->ron_W l n d post):SpecOK Tryz.prog ron_sp:=SpecOK.of_rules (C:=ron_C) (dr:=drawF Tryz.prog tau) (n:=8) (fk:=0) (.cons (rule1_ok rchk_ok) (.cons (rule1_ok routl_ok) .nil)) (drawF_ok tau) λx post hp=>HoldW.of (ron_w x.1 x.2.1 x.2.2.1 post) (h x.1 x.2.1 x.2.2.1 (λy0 y1=>post (y0,y1,())) hp)
theorem ron_ok:SpecOK Tryz.prog ron_sp:=ron_of λl n d post hp=>by
 obtain⟨hsz,hp⟩:=hp
 have hl:=hsz.len
 unfold ron_W
 have hw:1<=n->n<=(l.length:Int)->IntKind.i64.wrap (n-1)=n-1:=λh1 h2=>wrap_in (by omega) (by omega)
 refine⟨hsz,λ_=>⟨λh=> ?_,JOIN.opq λ(J2:Bool->Prop) hJ2=> ?_⟩⟩
 ·rw[gx_f,Bool.not_eq_true',Bool.or_eq_false_iff,Bool.or_eq_false_iff,decide_eq_false_iff_not,decide_eq_false_iff_not] at h
  rw[hw (by omega) (by omega)];omega
 have k2:∀c:Bool,(1<=n->n<=(l.length:Int)->checkS l=0->(c=true↔thereP (ix l (n-1)) d))->J2 c:=λc hc=>by
  rw[hJ2]
  refine IFB.mk (λh=> ?_) (λh=> ?_)
  ·have hn:¬onP l n d:=by
    rintro ⟨o1,o2,o3,o4⟩
    rw[(hc o1 o2 o3).2 o4,o3] at h
    simp at h
    omega
   refine hp [] false ⟨?_,λh=>(by cases h),λh=>absurd h hn⟩
   unfold onS;rw[if_neg hn]
  ·simp only[Bool.or_eq_false_iff,Bool.not_eq_false',decide_eq_true_eq,decide_eq_false_iff_not] at h
   obtain⟨⟨⟨b3,b1⟩,b2⟩,b4⟩:=h
   obtain⟨m1,m2,m3,m4,m5⟩:=reg_days hsz b3 (n:=n) (by omega) (by omega)
   have hon:onP l n d:=⟨by omega,by omega,b3,(hc (by omega) (by omega) b3).1 b4⟩
   have he:onS l n d=outlS (ix l (n-1)) d:=by unfold onS;rw[if_pos hon]
   rw[m5]
   exact⟨by omega,⟨m3,m2,by omega⟩,hp _ true ⟨by rw[he],λ_=>hon,λ_=>rfl⟩⟩
 refine IFB.mk (λhg=>k2 _ λh1 h2 h3=> ?_) (λhg=>k2 _ λh1 h2 h3=> ?_)
 ·rw[hw h1 h2,Bool.and_eq_true,decide_eq_true_eq,decide_eq_true_eq]
  exact Iff.rfl
 ·rw[gx_f,h3] at hg
  simp at hg
  omega
def rsame10_P (a:List (api_Parcel))(b:List (api_Parcel))(post:Bool->Prop):Prop:=szL a/\∀q:Bool,(q=true↔a=b)->post q
def rsame10_sp:Spec:=⟨22,false,false,[.sl (.st .api_Parcel),.sl (.st .api_Parcel)],.dat (.bool),λx post=>rsame10_P (x.1:List (api_Parcel)) (x.2.1:List (api_Parcel)) (λy0=>post (y0,()))⟩
def rsame10_C:CtxR:=⟨tau,[rule1 rints_sp,rule1 rall_sp],lookJ [(0,9,⟨[(15,.dat (.int .i64))],[],(List.range' 16 52++[5,6,7]),[],[]⟩)]⟩
def rsame10_W (a:List (api_Parcel))(b:List (api_Parcel))(post:Bool->Prop):Prop:=(↑a.length:Int)<=9223372036854775807->(↑b.length:Int)<=9223372036854775807->IFB (!decide ((↑a.length:Int)=(↑b.length:Int))) (post false) ((↑a.length:Int)<=9223372036854775807->LOOP [Ty.int IntKind.i64] (λ(rec1:Int->Prop) (z2:Int)=>IFB (decide (z2<(↑a.length:Int))) (((0:Int)<=z2/\z2<(↑a.length:Int))/\((0:Int)<=z2/\z2<(↑b.length:Int))/\JOIN [Ty.bool] (λ(y3:Bool)=>JOIN [Ty.bool] (λ(y4:Bool)=>JOIN [Ty.bool] (λ(y5:Bool)=>IFB (!decide ((ix a z2).1=(ix b z2).1)|| !decide ((ix a z2).2=(ix b z2).2)|| !decide ((ix a z2).3=(ix b z2).3)|| !y3|| !y4|| !y5) (post false) (rec1 (IntKind.i64.wrap (z2+1)))) λ(J6:Bool->Prop)=>IFB (gx false (!decide ((ix a z2).1=(ix b z2).1)|| !decide ((ix a z2).2=(ix b z2).2)|| !decide ((ix a z2).3=(ix b z2).3)|| !y3|| !y4)) (((ix a z2).6.length<=1000000/\∀(v7:api_Region),v7∈(ix a z2).6->v7.1.length<=1000000)/\∀(v8:Bool),(v8=true↔(ix a z2).6=(ix b z2).6)->J6 v8) (J6 false)) λ(J9:Bool->Prop)=>IFB (gx false (!decide ((ix a z2).1=(ix b z2).1)|| !decide ((ix a z2).2=(ix b z2).2)|| !decide ((ix a z2).3=(ix b z2).3)|| !y3)) (∀(v10:Bool),(v10=true↔(ix a z2).5=(ix b z2).5)->J9 v10) (J9 false)) λ(J11:Bool->Prop)=>IFB (gx false (!decide ((ix a z2).1=(ix b z2).1)|| !decide ((ix a z2).2=(ix b z2).2)|| !decide ((ix a z2).3=(ix b z2).3))) (∀(v12:Bool),(v12=true↔(ix a z2).4=(ix b z2).4)->J11 v12) (J11 false)) (post true)) ((0:Int),PUnit.unit))
theorem rsame10_w (a:List (api_Parcel))(b:List (api_Parcel))(post:dens (shT rsame10_sp.rs [])->Prop):rsame10_W a b (λy0=>post (y0,()))=walkG (callR Tryz.prog rsame10_C (drawF Tryz.prog tau) 8 0) 22 false [tv (.sl (.st .api_Parcel)) a,tv (.sl (.st .api_Parcel)) b] rsame10_sp.rs post:=by kernel_rfl
theorem rsame10_of (h:∀a b post,rsame10_P a b post->rsame10_W a b post):SpecOK Tryz.prog rsame10_sp:=SpecOK.of_rules (C:=rsame10_C) (dr:=drawF Tryz.prog tau) (n:=8) (fk:=0) (.cons (rule1_ok rints_ok) (.cons (rule1_ok rall_ok) .nil)) (drawF_ok tau) λx post hp=>HoldW.of (rsame10_w x.1 x.2.1 post) (h x.1 x.2.1 (λy0=>post (y0,())) hp)
theorem rsame10_ok:SpecOK Tryz.prog rsame10_sp:=rsame10_of λa b post hp=>by
 obtain⟨hsz,hp⟩:=hp
 have hal:=hsz.len
 unfold rsame10_W
 intro _ hbm
 refine IFB.mk (λhb=>hp _ ⟨λh=>(by cases h),λh=> ?_⟩) (λhb _=> ?_)
 ·subst h
  simp at hb
 have hl:a.length=b.length:=by
  have:decide ((a.length:Int)=(b.length:Int))=true:=by simpa using hb
  have:=of_decide_eq_true this
  omega
 clear hb
 refine loopCmp (n:=a.length) (by omega) (p:=λi=>ix a (i:Int)=ix b (i:Int)) (λrec k hk _ hrec=> ?_) λhall=>hp _ ⟨λ_=>eq_ix hl hall,λ_=>rfl⟩
 refine⟨by omega,by omega,?_⟩
 have hab:a=b->ix a (k:Int)=ix b (k:Int):=λh=>by rw[h]
 have hx:=hsz.all _ (ix_mem (l:=a) (i:=(k:Int)) (by omega) (by omega))
 have hno:∀{P:Prop},¬ix a (k:Int)=ix b (k:Int)->post false:=λh=>hp _ ⟨λh=>(by cases h),λh2=>absurd (hab h2) h⟩
 have hx1:=hx.regs
 have hx2:=hx.rect
 clear hx hab hp
 generalize ix a (k:Int)=x at *
 generalize ix b (k:Int)=y at *
 obtain⟨x1,x2,x3,x4,x5,x6⟩:=x
 obtain⟨y1,y2,y3,y4,y5,y6⟩:=y
 dsimp only at *
 refine JOIN.opq λ(J11:Bool->Prop) hJ11=> ?_
 have k11:∀v:Bool,((x1=y1/\x2=y2/\x3=y3)->(v=true↔x4=y4))->J11 v:=λv hv=>by
  rw[hJ11]
  refine JOIN.opq λ(J9:Bool->Prop) hJ9=> ?_
  have k9:∀w:Bool,((x1=y1/\x2=y2/\x3=y3/\v=true)->(w=true↔x5=y5))->J9 w:=λw hw=>by
   rw[hJ9]
   refine JOIN.opq λ(J6:Bool->Prop) hJ6=> ?_
   have k6:∀u:Bool,((x1=y1/\x2=y2/\x3=y3/\v=true/\w=true)->(u=true↔x6=y6))->J6 u:=λu hu=>by
    rw[hJ6]
    refine IFB.mk (λhc=>hno (P:=True) λh=> ?_) (λhc=>hrec ?_)
    ·injection h with e1 e2 e3 e4 e5 e6
     subst e1 e2 e3 e4 e5 e6
     have r1:=(hv ⟨rfl,rfl,rfl⟩).2 rfl
     have r2:=(hw ⟨rfl,rfl,rfl,r1⟩).2 rfl
     have r3:=(hu ⟨rfl,rfl,rfl,r1,r2⟩).2 rfl
     subst r1 r2 r3
     simp at hc
    ·simp only[Bool.or_eq_false_iff,Bool.not_eq_false',decide_eq_true_eq] at hc
     obtain⟨⟨⟨⟨⟨c1,c2⟩,c3⟩,c4⟩,c5⟩,c6⟩:=hc
     have r1:=(hv ⟨c1,c2,c3⟩).1 c4
     have r2:=(hw ⟨c1,c2,c3,c4⟩).1 c5
     have r3:=(hu ⟨c1,c2,c3,c4,c5⟩).1 c6
     subst c1 c2 c3 r1 r2 r3
     rfl
   refine IFB.mk (λhg=>⟨⟨hx1,hx2⟩,λv8 h8=>k6 _ λ_=>h8⟩) (λhg=>k6 _ λ⟨h1,h2,h3,h4,h5⟩=> ?_)
   subst h1 h2 h3 h4 h5
   simp[gx_f] at hg
  refine IFB.mk (λhg v8 h8=>k9 _ λ_=>h8) (λhg=>k9 _ λ⟨h1,h2,h3,h4⟩=> ?_)
  subst h1 h2 h3 h4
  simp[gx_f] at hg
 refine IFB.mk (λhg v8 h8=>k11 _ λ_=>h8) (λhg=>k11 _ λ⟨h1,h2,h3⟩=> ?_)
 subst h1 h2 h3
 simp[gx_f] at hg
def redits_P (a:List (api_Edit))(b:List (api_Edit))(post:Bool->Prop):Prop:=(a.length<=1000000/\∀e∈a,szE e)/\∀q:Bool,(q=true↔a=b)->post q
def redits_sp:Spec:=⟨46,false,false,[.sl (.st .api_Edit),.sl (.st .api_Edit)],.dat (.bool),λx post=>redits_P (x.1:List (api_Edit)) (x.2.1:List (api_Edit)) (λy0=>post (y0,()))⟩
def redits_C:CtxR:=⟨tau,[rule1 rints_sp,rule1 rall_sp],lookJ [(0,9,⟨[(15,.dat (.int .i64))],[],(List.range' 16 44++[5,6,7]),[],[]⟩)]⟩
def redits_W (a:List (api_Edit))(b:List (api_Edit))(post:Bool->Prop):Prop:=(↑a.length:Int)<=9223372036854775807->(↑b.length:Int)<=9223372036854775807->IFB (!decide ((↑a.length:Int)=(↑b.length:Int))) (post false) ((↑a.length:Int)<=9223372036854775807->LOOP [Ty.int IntKind.i64] (λ(rec1:Int->Prop) (z2:Int)=>IFB (decide (z2<(↑a.length:Int))) (((0:Int)<=z2/\z2<(↑a.length:Int))/\((0:Int)<=z2/\z2<(↑b.length:Int))/\JOIN [Ty.bool] (λ(y3:Bool)=>JOIN [Ty.bool] (λ(y4:Bool)=>IFB (!decide ((ix a z2).1=(ix b z2).1)|| !decide ((ix a z2).2=(ix b z2).2)|| !decide ((ix a z2).3=(ix b z2).3)|| !y3|| !y4) (post false) (rec1 (IntKind.i64.wrap (z2+1)))) λ(J5:Bool->Prop)=>IFB (gx false (!decide ((ix a z2).1=(ix b z2).1)|| !decide ((ix a z2).2=(ix b z2).2)|| !decide ((ix a z2).3=(ix b z2).3)|| !y3)) (((ix a z2).5.length<=1000000/\∀(v6:api_Region),v6∈(ix a z2).5->v6.1.length<=1000000)/\∀(v7:Bool),(v7=true↔(ix a z2).5=(ix b z2).5)->J5 v7) (J5 false)) λ(J8:Bool->Prop)=>IFB (gx false (!decide ((ix a z2).1=(ix b z2).1)|| !decide ((ix a z2).2=(ix b z2).2)|| !decide ((ix a z2).3=(ix b z2).3))) (∀(v9:Bool),(v9=true↔(ix a z2).4=(ix b z2).4)->J8 v9) (J8 false)) (post true)) ((0:Int),PUnit.unit))
theorem redits_w (a:List (api_Edit))(b:List (api_Edit))(post:dens (shT redits_sp.rs [])->Prop):redits_W a b (λy0=>post (y0,()))=walkG (callR Tryz.prog redits_C (drawF Tryz.prog tau) 8 0) 46 false [tv (.sl (.st .api_Edit)) a,tv (.sl (.st .api_Edit)) b] redits_sp.rs post:=by kernel_rfl
theorem redits_of (h:∀a b post,redits_P a b post->redits_W a b post):SpecOK Tryz.prog redits_sp:=SpecOK.of_rules (C:=redits_C) (dr:=drawF Tryz.prog tau) (n:=8) (fk:=0) (.cons (rule1_ok rints_ok) (.cons (rule1_ok rall_ok) .nil)) (drawF_ok tau) λx post hp=>HoldW.of (redits_w x.1 x.2.1 post) (h x.1 x.2.1 (λy0=>post (y0,())) hp)
theorem redits_ok:SpecOK Tryz.prog redits_sp:=redits_of λa b post hp=>by
 obtain⟨⟨hal,hsz⟩,hp⟩:=hp
 unfold redits_W
 intro _ hbm
 refine IFB.mk (λhb=>hp _ ⟨λh=>(by cases h),λh=> ?_⟩) (λhb _=> ?_)
 ·subst h
  simp at hb
 have hl:a.length=b.length:=by
  have:decide ((a.length:Int)=(b.length:Int))=true:=by simpa using hb
  have:=of_decide_eq_true this
  omega
 clear hb
 refine loopCmp (n:=a.length) (by omega) (p:=λi=>ix a (i:Int)=ix b (i:Int)) (λrec k hk _ hrec=> ?_) λhall=>hp _ ⟨λ_=>eq_ix hl hall,λ_=>rfl⟩
 refine⟨by omega,by omega,?_⟩
 have hab:a=b->ix a (k:Int)=ix b (k:Int):=λh=>by rw[h]
 have hx:=hsz _ (ix_mem (l:=a) (i:=(k:Int)) (by omega) (by omega))
 have hno:¬ix a (k:Int)=ix b (k:Int)->post false:=λh=>hp _ ⟨λh=>(by cases h),λh2=>absurd (hab h2) h⟩
 have hx1:=hx.regs
 have hx2:=hx.rect
 clear hx hab hp
 generalize ix a (k:Int)=x at *
 generalize ix b (k:Int)=y at *
 obtain⟨x1,x2,x3,x4,x5⟩:=x
 obtain⟨y1,y2,y3,y4,y5⟩:=y
 dsimp only at *
 refine JOIN.opq λ(J9:Bool->Prop) hJ9=> ?_
 have k9:∀w:Bool,((x1=y1/\x2=y2/\x3=y3)->(w=true↔x4=y4))->J9 w:=λw hw=>by
  rw[hJ9]
  refine JOIN.opq λ(J6:Bool->Prop) hJ6=> ?_
  have k6:∀u:Bool,((x1=y1/\x2=y2/\x3=y3/\w=true)->(u=true↔x5=y5))->J6 u:=λu hu=>by
   rw[hJ6]
   refine IFB.mk (λhc=>hno λh=> ?_) (λhc=>hrec ?_)
   ·injection h with e1 e2 e3 e4 e5
    subst e1 e2 e3 e4 e5
    have r2:=(hw ⟨rfl,rfl,rfl⟩).2 rfl
    have r3:=(hu ⟨rfl,rfl,rfl,r2⟩).2 rfl
    subst r2 r3
    simp at hc
   ·simp only[Bool.or_eq_false_iff,Bool.not_eq_false',decide_eq_true_eq] at hc
    obtain⟨⟨⟨⟨c1,c2⟩,c3⟩,c5⟩,c6⟩:=hc
    have r2:=(hw ⟨c1,c2,c3⟩).1 c5
    have r3:=(hu ⟨c1,c2,c3,c5⟩).1 c6
    subst c1 c2 c3 r2 r3
    rfl
  refine IFB.mk (λhg=>⟨⟨hx1,hx2⟩,λv8 h8=>k6 _ λ_=>h8⟩) (λhg=>k6 _ λ⟨h1,h2,h3,h5⟩=> ?_)
  subst h1 h2 h3 h5
  simp[gx_f] at hg
 refine IFB.mk (λhg v8 h8=>k9 _ λ_=>h8) (λhg=>k9 _ λ⟨h1,h2,h3⟩=> ?_)
 subst h1 h2 h3
 simp[gx_f] at hg
def lpairs_P (a:List (arr2_i64))(b:List (arr2_i64))(post:Bool->Prop):Prop:=a.length<=1000000/\∀q:Bool,(q=true↔a=b)->post q
def lpairs_sp:Spec:=⟨44,false,false,[.sl (.st .arr2_i64),.sl (.st .arr2_i64)],.dat (.bool),λx post=>lpairs_P (x.1:List (arr2_i64)) (x.2.1:List (arr2_i64)) (λy0=>post (y0,()))⟩
def lpairs_C:CtxR:=⟨tau,[],lookJ [(0,9,⟨[(13,.dat (.int .i64))],[],(List.range' 14 12++[5]),[],[]⟩)]⟩
def lpairs_W (a:List (arr2_i64))(b:List (arr2_i64))(post:Bool->Prop):Prop:=(↑a.length:Int)<=9223372036854775807->(↑b.length:Int)<=9223372036854775807->IFB (!decide ((↑a.length:Int)=(↑b.length:Int))) (post false) ((↑a.length:Int)<=9223372036854775807->LOOP [Ty.int IntKind.i64] (λ(rec1:Int->Prop) (z2:Int)=>IFB (decide (z2<(↑a.length:Int))) (((0:Int)<=z2/\z2<(↑a.length:Int))/\((0:Int)<=z2/\z2<(↑b.length:Int))/\IFB (!(decide ((ix a z2).1=(ix b z2).1)&&(decide ((ix a z2).2=(ix b z2).2)&&true))) (post false) (rec1 (IntKind.i64.wrap (z2+1)))) (post true)) ((0:Int),PUnit.unit))
theorem lpairs_w (a:List (arr2_i64))(b:List (arr2_i64))(post:dens (shT lpairs_sp.rs [])->Prop):lpairs_W a b (λy0=>post (y0,()))=walkG (callR Tryz.prog lpairs_C (drawF Tryz.prog tau) 8 0) 44 false [tv (.sl (.st .arr2_i64)) a,tv (.sl (.st .arr2_i64)) b] lpairs_sp.rs post:=by kernel_rfl
theorem lpairs_of (h:∀a b post,lpairs_P a b post->lpairs_W a b post):SpecOK Tryz.prog lpairs_sp:=SpecOK.of_rules (C:=lpairs_C) (dr:=drawF Tryz.prog tau) (n:=8) (fk:=0) .nil (drawF_ok tau) λx post hp=>HoldW.of (lpairs_w x.1 x.2.1 post) (h x.1 x.2.1 (λy0=>post (y0,())) hp)
theorem lpairs_ok:SpecOK Tryz.prog lpairs_sp:=lpairs_of λa b post hp=>by
 obtain⟨hal,hp⟩:=hp
 unfold lpairs_W
 intro _ hbm
 refine IFB.mk (λhb=>hp _ ⟨λh=>(by cases h),λh=> ?_⟩) (λhb _=> ?_)
 ·subst h
  simp at hb
 have hl:a.length=b.length:=by
  have:decide ((a.length:Int)=(b.length:Int))=true:=by simpa using hb
  have:=of_decide_eq_true this
  omega
 clear hb
 refine loopCmp (n:=a.length) (by omega) (p:=λi=>ix a (i:Int)=ix b (i:Int)) (λrec k hk _ hrec=> ?_) λhall=>hp _ ⟨λ_=>eq_ix hl hall,λ_=>rfl⟩
 have hab:a=b->ix a (k:Int)=ix b (k:Int):=λh=>by rw[h]
 refine⟨by omega,by omega,IFB.mk (λhc=>hp _ ⟨λh=>(by cases h),λh=> ?_⟩) (λhc=>hrec ?_)⟩
 ·rw[hab h] at hc;simp at hc
 ·generalize ix a (k:Int)=x at *
  generalize ix b (k:Int)=y at *
  obtain⟨x1,x2⟩:=x
  obtain⟨y1,y2⟩:=y
  simp at hc
  rw[hc.1,hc.2]
def rshare_P (l:List (api_Parcel))(n:Int)(d:Int)(post:List (arr2_i64)->Int->Prop):Prop:=szL l/\∀(s:List arr2_i64)(g:Int),(s=shareS l n d/\g=heirE l n d)->post s g
def rshare_sp:Spec:=⟨43,false,true,[.sl (.st .api_Parcel),.int .i64,.int .i64],.tup [.dat (.sl (.st .arr2_i64)),.dat (.int .i64)],λx post=>rshare_P (x.1:List (api_Parcel)) (x.2.1:Int) (x.2.2.1:Int) (λy0 y1=>post (y0,y1,()))⟩
def rshare_C:CtxR:=⟨tau,[rule1 rheirs_sp,rule1 routl_sp,rule1 rcomb_sp,rule1 rsize_sp],lookJ [(0,15,⟨[(33,.dat (.int .i64)),(11,.own 59 (.st .arr2_i64))],[],(List.range' 34 21++[13]),[],[]⟩),(0,1000009,⟨[(11,.own 59 (.st .arr2_i64))],[],(List.range' 37 17),[1],[]⟩)]⟩
abbrev rshare_a0 (l:List (api_Parcel))(n:Int)(d:Int)(v1:List Int)(z4:Int):=(canonF λ(x y:Int)=>howS (2:Int) (cov (outlS {Number:=(ix l (IntKind.i64.wrap (n-(1:Int)))).1,From:=(ix l (IntKind.i64.wrap (n-(1:Int)))).2,Until:=(ix l (IntKind.i64.wrap (n-(1:Int)))).3,Parents:=(ix l (IntKind.i64.wrap (n-(1:Int)))).4,Days:=(ix l (IntKind.i64.wrap (n-(1:Int)))).5,Regions:=(ix l (IntKind.i64.wrap (n-(1:Int)))).6:api_Parcel} d).1 x y) (cov (outlS {Number:=(ix l (IntKind.i64.wrap (ix v1 z4-(1:Int)))).1,From:=(ix l (IntKind.i64.wrap (ix v1 z4-(1:Int)))).2,Until:=(ix l (IntKind.i64.wrap (ix v1 z4-(1:Int)))).3,Parents:=(ix l (IntKind.i64.wrap (ix v1 z4-(1:Int)))).4,Days:=(ix l (IntKind.i64.wrap (ix v1 z4-(1:Int)))).5,Regions:=(ix l (IntKind.i64.wrap (ix v1 z4-(1:Int)))).6:api_Parcel} d).1 x y))
abbrev rshare_a1 (l:List (api_Parcel))(v1:List Int)(z4:Int):={Number:=(ix l (IntKind.i64.wrap (ix v1 z4-(1:Int)))).1,From:=(ix l (IntKind.i64.wrap (ix v1 z4-(1:Int)))).2,Until:=(ix l (IntKind.i64.wrap (ix v1 z4-(1:Int)))).3,Parents:=(ix l (IntKind.i64.wrap (ix v1 z4-(1:Int)))).4,Days:=(ix l (IntKind.i64.wrap (ix v1 z4-(1:Int)))).5,Regions:=(ix l (IntKind.i64.wrap (ix v1 z4-(1:Int)))).6:api_Parcel}
abbrev rshare_a2 (l:List (api_Parcel))(n:Int):={Number:=(ix l (IntKind.i64.wrap (n-(1:Int)))).1,From:=(ix l (IntKind.i64.wrap (n-(1:Int)))).2,Until:=(ix l (IntKind.i64.wrap (n-(1:Int)))).3,Parents:=(ix l (IntKind.i64.wrap (n-(1:Int)))).4,Days:=(ix l (IntKind.i64.wrap (n-(1:Int)))).5,Regions:=(ix l (IntKind.i64.wrap (n-(1:Int)))).6:api_Parcel}
def rshare_W (l:List (api_Parcel))(n:Int)(d:Int)(post:List (arr2_i64)->Int->Prop):Prop:=szL l/\∀(v1:List Int)(v2:Int),v1=heirsS l n d/\v2=heirE l n d->IFB (!decide (v2=0)) (post [] v2) (((0:Int)<=IntKind.i64.wrap (n-1)/\IntKind.i64.wrap (n-1)<(↑l.length:Int))/\((0:Nat)<(ix l (IntKind.i64.wrap (n-1))).6.length/\(ix l (IntKind.i64.wrap (n-1))).5.length=(ix l (IntKind.i64.wrap (n-1))).6.length/\(ix l (IntKind.i64.wrap (n-1))).5.length<=1000000)/\((↑v1.length:Int)<=9223372036854775807->LOOP [Ty.int IntKind.i64,(Ty.st Sn.arr2_i64).sl] (λ(rec3:Int->List arr2_i64->Prop) (z4:Int) (z5:List arr2_i64)=>IFB (decide (z4<(↑v1.length:Int))) (((0:Int)<=z4/\z4<(↑v1.length:Int))/\JOIN [(Ty.st Sn.arr2_i64).sl] (λ(y6:List arr2_i64)=>rec3 (IntKind.i64.wrap (z4+1)) y6) λ(J7:List arr2_i64->Prop)=>((0:Int)<=IntKind.i64.wrap (ix v1 z4-1)/\IntKind.i64.wrap (ix v1 z4-1)<(↑l.length:Int))/\((0:Nat)<(ix l (IntKind.i64.wrap (ix v1 z4-1))).6.length/\(ix l (IntKind.i64.wrap (ix v1 z4-1))).5.length=(ix l (IntKind.i64.wrap (ix v1 z4-1))).6.length/\(ix l (IntKind.i64.wrap (ix v1 z4-1))).5.length<=1000000)/\((outlS (rshare_a2 l n) d).1.length<=1000/\(outlS (rshare_a1 l v1 z4) d).1.length<=1000)/\((∀(v8:api_Rect),(v8∈canonF λ(x y:Int)=>howS (2:Int) (cov (outlS (rshare_a2 l n) d).1 x y) (cov (outlS (rshare_a1 l v1 z4) d).1 x y))->0<=v8.1/\v8.1<v8.3/\v8.3<=16384/\0<=v8.2/\v8.2<v8.4/\v8.4<=16384)/\(rshare_a0 l n d v1 z4).length<=268435456)/\(z5.length+[(⟨ix v1 z4,sizeS (rshare_a0 l n d v1 z4)⟩:arr2_i64)].length) * (16:Nat)<=140737488355328/\J7 (z5++[(⟨ix v1 z4,sizeS (rshare_a0 l n d v1 z4)⟩:arr2_i64)])) (post z5 0)) ((0:Int),[],PUnit.unit)))
theorem rshare_w (l:List (api_Parcel))(n:Int)(d:Int)(post:dens (shT rshare_sp.rs [])->Prop):rshare_W l n d (λy0 y1=>post (y0,y1,()))=walkG (callR Tryz.prog rshare_C (drawF Tryz.prog tau) 8 0) 43 false [tv (.sl (.st .api_Parcel)) l,tv (.int .i64) n,tv (.int .i64) d] rshare_sp.rs post:=by kernel_rfl
theorem rshare_of (h:∀l n d post,rshare_P l n d post->rshare_W l n d post):SpecOK Tryz.prog rshare_sp:=SpecOK.of_rules (C:=rshare_C) (dr:=drawF Tryz.prog tau) (n:=8) (fk:=0) (.cons (rule1_ok rheirs_ok) (.cons (rule1_ok routl_ok) (.cons (rule1_ok rcomb_ok) (.cons (rule1_ok rsize_ok) .nil)))) (drawF_ok tau) λx post hp=>HoldW.of (rshare_w x.1 x.2.1 x.2.2.1 post) (h x.1 x.2.1 x.2.2.1 (λy0 y1=>post (y0,y1,())) hp)
set_option maxHeartbeats 1000000 in
theorem rshare_ok:SpecOK Tryz.prog rshare_sp:=rshare_of λl n d post hp=>by
 obtain⟨hsz,hp⟩:=hp
 have hl:=hsz.len
 have hp:=hp _ _ ⟨rfl,rfl⟩
 unfold rshare_W rshare_a2 rshare_a1 rshare_a0
 refine⟨hsz,λv1 v2 ⟨h1,h2⟩=> ?_⟩
 subst h2
 refine IFB.mk (λhb=> ?_) (λhb=> ?_)
 ·have hb:heirE l n d≠0:=by simpa using hb
  have hs:shareS l n d=[]:=by unfold shareS;rw[if_neg hb]
  rw[hs] at hp;exact hp
 have hb:heirE l n d=0:=by simpa using hb
 obtain⟨h0,d1,d2,n1,n2,n3⟩:=heirE_0.1 hb
 have hreg:=(checkS_0.1 h0).2
 have hhs:heirsS l n d=heirsL l n d:=by unfold heirsS;rw[if_pos hb]
 have hs:shareS l n d=shareL l n d (heirsL l n d):=by unfold shareS;rw[if_pos hb]
 rw[hs,hb] at hp
 rw[hhs] at h1
 obtain⟨m1,m2,m3,m4,m5⟩:=reg_days hsz h0 n1 n2
 rw[m5]
 have hhl:=heirsL_len (l:=l) (n:=n) (d:=d)
 have hpo:∀k:Int,1<=k->k<=(l.length:Int)->(∀r∈(outlS (ix l (k-1)) d).1,proper r)/\(outlS (ix l (k-1)) d).1.length<=120:=λk k1 k2=>by
  obtain⟨q1,q2,q3,q4,q5⟩:=reg_days hsz h0 k1 k2
  have:=regP_prop hreg _ q1 _ (outlF_mem (d:=d) (n:=(ix l (k-1)).5.length) q3 (by rw[q2];exact Nat.le_refl _))
  exact⟨this.2.2.1,this.2.1⟩
 have ho:=hpo n n1 n2
 refine⟨by omega,⟨m3,m2,by omega⟩,λ_=> ?_⟩
 subst h1
 generalize hHe:heirsL l n d=H at hp hhl ⊢
 refine LOOP.fuel2 (λ(z:Int) (b:List arr2_i64)=>∃k:Nat,z=(k:Int)/\k<=H.length/\b=shareL l n d (H.take k)) (λz _=>H.length-Int.toNat z) ⟨0,rfl,Nat.zero_le _,rfl⟩ ?_
 rintro rec (z:Int) (b:List arr2_i64) ⟨k,i1,i2,i3⟩ hrec
 subst i1
 refine IFB.mk (λhb=> ?_) (λhb=> ?_)
 ·have hb:(k:Int)<H.length:=of_decide_eq_true hb
  have hk:k<H.length:=by omega
  have hbl:b.length=k:=by rw[i3];unfold shareL;rw[List.length_map,List.length_take];omega
  obtain⟨k1,k2⟩:=heirsL_ok hreg (n:=n) (d:=d) (k:=ix H (k:Int)) (by rw[hHe];exact ix_mem (by omega) (by omega))
  obtain⟨q1,q2,q3,q4,q5⟩:=reg_days hsz h0 k1 k2
  have hq:=hpo _ k1 k2
  rw[q5]
  have hc:=comb_ok (howS_0 2) (outlS (ix l (n-1)) d).1 (outlS (ix l (ix H (k:Int)-1)) d).1
  have hbox:∀x y,cov (canonF (comb (howS 2) (outlS (ix l (n-1)) d).1 (outlS (ix l (ix H (k:Int)-1)) d).1)) x y=true->0<=x/\x<16384/\0<=y/\y<16384:=λx y h=>by
   rw[hc.2] at h
   unfold comb howS at h
   have h:(cov (outlS (ix l (n-1)) d).1 x y&&cov (outlS (ix l (ix H (k:Int)-1)) d).1 x y)=true:=h
   exact proper_box ho.1 (Bool.and_eq_true_iff.1 h).1
  have hpr:∀r∈canonF (comb (howS 2) (outlS (ix l (n-1)) d).1 (outlS (ix l (ix H (k:Int)-1)) d).1),proper r:=λr hr=>by
   have:=canon_box hc.1 hbox r hr
   exact⟨this.1,this.2.1,this.2.2.1,this.2.2.2.1,this.2.2.2.2.1,this.2.2.2.2.2⟩
  refine⟨by omega,JOIN.opq λ(J:List arr2_i64->Prop) hJ=>⟨by omega,⟨q3,q2,by omega⟩,⟨?_,?_⟩,⟨hpr,box_len hc.1 hbox⟩,by simp only[List.length_cons,List.length_nil];omega,?_⟩⟩
  ·have:=ho.2;show (outlS (ix l (n-1)) d).1.length<=_;omega
  ·have:=hq.2;show (outlS (ix l (ix H (k:Int)-1)) d).1.length<=_;omega
  rw[hJ]
  show rec (IntKind.i64.wrap ((k:Int)+1)) _
  rw[wrapS (by omega)]
  refine hrec ((k+1:Nat):Int) _ ⟨k+1,rfl,hk,?_⟩ (by show H.length-((k+1:Nat):Int).toNat<H.length-(k:Int).toNat;omega)
  rw[i3]
  unfold shareL
  rw[List.take_succ_eq_append_getElem hk,List.map_append,<-ix_lt hk]
  rfl
 ·have hb:¬(k:Int)<H.length:=of_decide_eq_false hb
  have hk:k=H.length:=by omega
  rw[hk,List.take_length] at i3
  show post b 0
  rw[i3];exact hp
def rknown_P (l:List (api_Edit))(day:Int)(post:List (api_Edit)->Int->Prop):Prop:=l.length<=19/\∀(x:List Ed)(g:Int),(x=(knownS l day).1/\g=(knownS l day).2)->post x g
def rknown_sp:Spec:=⟨45,false,true,[.sl (.st .api_Edit),.int .i64],.tup [.dat (.sl (.st .api_Edit)),.dat (.int .i64)],λx post=>rknown_P (x.1:List (api_Edit)) (x.2.1:Int) (λy0 y1=>post (y0,y1,()))⟩
def rknown_C:CtxR:=⟨tau,[],lookJ [(0,27,⟨[(64,.dat (.int .i64)),(8,.own 25 (.st .api_Edit))],[],(List.range' 65 37++[10,11]),[],[]⟩),(0,40,⟨[(8,.own 25 (.st .api_Edit))],[],(List.range' 66 35++[10,11]),[0],[]⟩),(0,1000019,⟨[(8,.own 25 (.st .api_Edit))],[],(List.range' 89 12),[],[]⟩),(0,35,⟨[(11,.dat (.int .i64))],[],(List.range' 74 15),[],[]⟩),(0,9,⟨[(17,.dat (.int .i64))],[],(List.range' 18 38++[6,7]),[],[]⟩)]⟩
abbrev rknown_a0 (l:List (api_Edit))(z4:Int):={Day:=(ix l z4).1,Known:=(ix l z4).2,Kind:=(ix l z4).3,Parcels:=(ix l z4).4,Regions:=(ix l z4).5:api_Edit}
def rknown_W (l:List (api_Edit))(day:Int)(post:List (api_Edit)->Int->Prop):Prop:=(↑l.length:Int)<=9223372036854775807->IFB (decide ((120:Int)<(↑l.length:Int))) (post [] 1) ((↑l.length:Int)<=9223372036854775807->LOOP [Ty.int IntKind.i64] (λ(rec1:Int->Prop) (z2:Int)=>IFB (decide (z2<(↑l.length:Int))) (((0:Int)<=z2/\z2<(↑l.length:Int))/\((gx false (decide ((ix l z2).1<0)||decide ((36864:Int)<(ix l z2).1)||decide ((ix l z2).2<0)||decide ((36864:Int)<(ix l z2).2))&&gx true (decide ((0:Int)<z2)))=true->0<=IntKind.i64.wrap (z2-1)/\IntKind.i64.wrap (z2-1)<(↑l.length:Int))/\IFB (decide ((ix l z2).1<0)||decide ((36864:Int)<(ix l z2).1)||decide ((ix l z2).2<0)||decide ((36864:Int)<(ix l z2).2)||decide ((0:Int)<z2)&&decide ((ix l z2).2<(ix l (IntKind.i64.wrap (z2-1))).2)) (post [] 9) (rec1 (IntKind.i64.wrap (z2+1)))) (IFB (decide (day<0)||decide ((36864:Int)<day)) (post [] 9) ((↑l.length:Int)<=9223372036854775807->LOOP [Ty.int IntKind.i64,(Ty.st Sn.api_Edit).sl] (λ(rec3:Int->List api_Edit->Prop) (z4:Int) (z5:List api_Edit)=>IFB (decide (z4<(↑l.length:Int))) (JOIN [(Ty.st Sn.api_Edit).sl] (λ(y6:List api_Edit)=>rec3 (IntKind.i64.wrap (z4+1)) y6) λ(J7:List api_Edit->Prop)=>((0:Int)<=z4/\z4<(↑l.length:Int))/\IFB (decide (day<(ix l z4).2)) (J7 z5) ((↑z5.length:Int)<=9223372036854775807->LOOP [Ty.int IntKind.i64] (λ(rec8:Int->Prop) (z9:Int)=>(gx true (decide ((0:Int)<z9))=true->0<=IntKind.i64.wrap (z9-1)/\IntKind.i64.wrap (z9-1)<(↑z5.length:Int))/\IFB (decide ((0:Int)<z9)&&decide ((ix l z4).1<(ix z5 (IntKind.i64.wrap (z9-1))).1)) (rec8 (IntKind.i64.wrap (z9-1))) (JOIN [(Ty.st Sn.api_Edit).sl] (λ(y10:List api_Edit)=>J7 y10) λ(J11:List api_Edit->Prop)=>(Int.NonNeg 0/\0<=z9/\z9<=(↑z5.length:Int))/\((0:Int)<=z9/\z9<=(↑z5.length:Int)/\(↑z5.length:Int)<=(↑z5.length:Int))/\((((0:Nat)+(sub z5 (0:Int) z9).length) * (72:Nat)<=140737488355328/\(([]++sub z5 (0:Int) z9).length+[(rknown_a0 l z4)].length) * (72:Nat)<=140737488355328/\(([]++sub z5 (0:Int) z9++[(rknown_a0 l z4)]).length+(sub z5 z9 (↑z5.length:Int)).length) * (72:Nat)<=140737488355328/\J11 ([]++sub z5 (0:Int) z9++[(rknown_a0 l z4)]++sub z5 z9 (↑z5.length:Int)))/\((0:Nat)+(sub z5 (0:Int) z9).length) * (72:Nat)<=140737488355328/\(([]++sub z5 (0:Int) z9).length+[(rknown_a0 l z4)].length) * (72:Nat)<=140737488355328/\(([]++sub z5 (0:Int) z9++[(rknown_a0 l z4)]).length+(sub z5 z9 (↑z5.length:Int)).length) * (72:Nat)<=140737488355328/\J11 ([]++sub z5 (0:Int) z9++[(rknown_a0 l z4)]++sub z5 z9 (↑z5.length:Int)))/\((0:Nat)+(sub z5 (0:Int) z9).length) * (72:Nat)<=140737488355328/\(([]++sub z5 (0:Int) z9).length+[(rknown_a0 l z4)].length) * (72:Nat)<=140737488355328/\(([]++sub z5 (0:Int) z9++[(rknown_a0 l z4)]).length+(sub z5 z9 (↑z5.length:Int)).length) * (72:Nat)<=140737488355328/\J11 ([]++sub z5 (0:Int) z9++[(rknown_a0 l z4)]++sub z5 z9 (↑z5.length:Int)))) ((↑z5.length:Int),PUnit.unit))) (post z5 0)) ((0:Int),[],PUnit.unit)))) ((0:Int),PUnit.unit))
theorem rknown_w (l:List (api_Edit))(day:Int)(post:dens (shT rknown_sp.rs [])->Prop):rknown_W l day (λy0 y1=>post (y0,y1,()))=walkG (callR Tryz.prog rknown_C (drawF Tryz.prog tau) 8 0) 45 false [tv (.sl (.st .api_Edit)) l,tv (.int .i64) day] rknown_sp.rs post:=by kernel_rfl
theorem rknown_of (h:∀l day post,rknown_P l day post->rknown_W l day post):SpecOK Tryz.prog rknown_sp:=SpecOK.of_rules (C:=rknown_C) (dr:=drawF Tryz.prog tau) (n:=8) (fk:=0) .nil (drawF_ok tau) λx post hp=>HoldW.of (rknown_w x.1 x.2.1 post) (h x.1 x.2.1 (λy0 y1=>post (y0,y1,())) hp)
theorem known_tk {l:List Ed}{d:Int}{k:Nat}(hk:k<l.length):knownL (l.take (k+1)) d=if (ix l (k:Int)).Known<=d then knownL (l.take k) d++[ix l (k:Int)] else knownL (l.take k) d:=by
 unfold knownL
 rw[List.take_succ_eq_append_getElem hk,List.filter_append,ix_lt hk]
 split
 ·rename_i h;rw[List.filter_cons_of_pos (by simpa using h)];rfl
 ·rename_i h;rw[List.filter_cons_of_neg (by simpa using h),List.filter_nil,List.append_nil]
theorem bub_stop {S:List Ed}{x:Ed}{j:Nat}(hj:j<=S.length)(h:0<j->¬x.Day<(ix S ((j-1:Nat):Int)).Day):bub S x j=S.take j++[x]++S.drop j:=by
 cases j with
 |zero=>rfl
 |succ j=>
  have hn:¬x.Day<(ix S (j:Int)).Day:=h (by omega)
  unfold bub
  rw[if_neg hn,List.append_assoc];rfl
set_option maxHeartbeats 1000000 in
theorem rknown_ok:SpecOK Tryz.prog rknown_sp:=rknown_of λl day post hp=>by
 obtain⟨hl,hp⟩:=hp
 have hp:=hp _ _ ⟨rfl,rfl⟩
 unfold rknown_W rknown_a0
 intro _
 refine IFB.mk (λh=> ?_) (λ_ _=> ?_)
 ·have h:(120:Int)<(l.length:Int):=of_decide_eq_true h
  omega
 have bad:badK l\/¬okD day->post [] 9:=λh=>by
  have e:knownS l day=([],9):=by unfold knownS;rw[if_pos h]
  rw[e] at hp;exact hp
 refine loopCmp (n:=l.length) (by omega) (p:=λi=>¬badAt l i) (λrec k hk _ hrec=> ?_) λhall=> ?_
 ·have hprev:∀h0:0<k,IntKind.i64.wrap ((k:Int)-1)=((k-1:Nat):Int):=λh0=>wrapP (by omega) h0
  have main:(decide ((ix l (k:Int)).1<(0:Int))||decide ((36864:Int)<(ix l (k:Int)).1)||decide ((ix l (k:Int)).2<(0:Int))||decide ((36864:Int)<(ix l (k:Int)).2)||decide ((0:Int)<(k:Int))&&decide ((ix l (k:Int)).2<(ix l (IntKind.i64.wrap ((k:Int)-(1:Int)))).2))=true↔badAt l k:=by
   unfold badAt okD
   simp only[Bool.or_eq_true,Bool.and_eq_true,decide_eq_true_eq]
   by_cases h0:0<k
   ·rw[hprev h0]
    have:(0:Int)<(k:Int):=by omega
    simp only[h0,this,true_and]
    generalize (ix l ((k-1:Nat):Int)).Known=a
    generalize (ix l (k:Int)).Known=b
    generalize (ix l (k:Int)).Day=c
    omega
   ·have:¬(0:Int)<(k:Int):=by omega
    simp only[h0,this,false_and,or_false]
    generalize (ix l (k:Int)).Known=b
    generalize (ix l (k:Int)).Day=c
    omega
  refine⟨by omega,λh2=> ?_,IFB.mk (λhc=>bad (.inl ⟨k,hk,main.1 hc⟩)) (λhc=>hrec λh2=>by rw[main.2 h2] at hc;cases hc)⟩
  have h0:0<k:=by
   rw[Bool.and_eq_true] at h2
   have:=of_decide_eq_true h2.2
   omega
  rw[hprev h0];omega
 refine IFB.mk (λhb=>bad (.inr ?_)) (λhb _=> ?_)
 ·rw[Bool.or_eq_true,decide_eq_true_eq,decide_eq_true_eq] at hb
  unfold okD;omega
 have hok:okD day:=by
  rw[Bool.or_eq_false_iff,decide_eq_false_iff_not,decide_eq_false_iff_not] at hb
  unfold okD;omega
 have e:knownS l day=(isE (knownL l day),0):=by
  unfold knownS
  rw[if_neg]
  rintro (⟨i,hi,h⟩|h)
  ·exact hall i hi h
  ·exact h hok
 rw[e] at hp
 clear bad hall hb e
 refine LOOP.fuel2 (λ(z:Int) (b:List Ed)=>∃k:Nat,z=(k:Int)/\k<=l.length/\b=isE (knownL (l.take k) day)) (λz _=>l.length-Int.toNat z) ⟨0,rfl,Nat.zero_le _,rfl⟩ ?_
 rintro rec (z:Int) (b:List Ed) ⟨k,i1,i2,i3⟩ hrec
 subst i1
 have hbl:b.length<=k:=by
  rw[i3,isE_len];unfold knownL
  exact Nat.le_trans (List.length_filter_le _ _) (by rw[List.length_take];omega)
 refine IFB.mk (λhb=> ?_) (λhb=> ?_)
 rotate_left
 ·have hb:¬(k:Int)<l.length:=of_decide_eq_false hb
  have hk:k=l.length:=by omega
  rw[hk,List.take_length] at i3
  show post b 0
  rw[i3];exact hp
 have hb:(k:Int)<l.length:=of_decide_eq_true hb
 have hk:k<l.length:=by omega
 refine JOIN.opq λ(J7:List Ed->Prop) hJ7=>⟨by omega,?_⟩
 have k7:∀b2:List Ed,b2=isE (knownL (l.take (k+1)) day)->J7 b2:=λb2 h=>by
  rw[hJ7]
  show rec (IntKind.i64.wrap ((k:Int)+1)) b2
  rw[wrapS (by omega)]
  exact hrec ((k+1:Nat):Int) _ ⟨k+1,rfl,hk,h⟩ (by show l.length-((k+1:Nat):Int).toNat<l.length-(k:Int).toNat;omega)
 refine IFB.mk (λhc=>k7 _ ?_) (λhc _=> ?_)
 ·have hc:day<(ix l (k:Int)).Known:=of_decide_eq_true hc
  rw[known_tk hk,if_neg (by omega)];exact i3
 have hc:¬day<(ix l (k:Int)).Known:=of_decide_eq_false hc
 have hnx:isE (knownL (l.take (k+1)) day)=bub b (ix l (k:Int)) b.length:=by
  rw[known_tk hk,if_pos (by omega),isE_app,<-i3]
 rw[hnx] at k7
 clear hnx i3 hrec hJ7 hp
 generalize ix l (k:Int)=x at *
 refine LOOP.fuel (λu=>∃j:Nat,u.1=(j:Int)/\j<=b.length/\bub b x b.length=bub b x j) (λu=>Int.toNat u.1) ⟨b.length,rfl,Nat.le_refl _,rfl⟩ ?_
 rintro rec2 ⟨(z:Int),⟨⟩⟩ ⟨j,j1,j2,j3⟩ hrec2
 have j1:z=(j:Int):=j1
 subst j1
 have hw:∀h0:0<j,IntKind.i64.wrap ((j:Int)-1)=((j-1:Nat):Int):=λh0=>wrapP (by omega) h0
 refine⟨λh=> ?_,IFB.mk (λhd=> ?_) (λhd=> ?_)⟩
 ·have h:(0:Int)<(j:Int):=of_decide_eq_true h
  rw[hw (by omega)];omega
 ·rw[Bool.and_eq_true,decide_eq_true_eq,decide_eq_true_eq] at hd
  obtain⟨d1,d2⟩:=hd
  obtain⟨i,rfl⟩:∃i,j=i+1:=⟨j-1,by omega⟩
  rw[hw (by omega),show i+1-1=i by omega] at d2
  rw[hw (by omega)]
  refine hrec2 (((i+1-1:Nat):Int),()) ⟨i+1-1,rfl,by omega,?_⟩ (by show ((i+1-1:Nat):Int).toNat<((i+1:Nat):Int).toNat;omega)
  rw[j3,show i+1-1=i by omega]
  show (if x.Day<(ix b (i:Int)).Day then bub b x i else _)=_
  rw[if_pos d2]
 ·have hstop:0<j->¬x.Day<(ix b ((j-1:Nat):Int)).Day:=λh0 h=>by
   have:(decide ((0:Int)<(j:Int))&&decide (x.1<(ix b (IntKind.i64.wrap ((j:Int)-(1:Int)))).1))=true:=by
    rw[hw h0,Bool.and_eq_true,decide_eq_true_eq,decide_eq_true_eq]
    exact⟨by omega,h⟩
   rw[this] at hd;cases hd
  have e1:sub b 0 (j:Int)=b.take j:=sub_front
  have e2:sub b (j:Int) (b.length:Int)=b.drop j:=sub_back
  have hfin:=bub_stop (S:=b) (x:=x) j2 hstop
  refine JOIN.opq λ(J11:List Ed->Prop) hJ11=> ?_
  rw[e1,e2]
  have tl:(b.take j).length=j:=by rw[List.length_take];omega
  have dl:(b.drop j).length=b.length-j:=List.length_drop ..
  have kF:J11 ([]++b.take j++[x]++b.drop j):=by
   rw[hJ11]
   exact k7 _ (by rw[j3,hfin];rfl)
  have z0:Int.NonNeg (0:Int)/\(0:Int)<=(j:Int)/\(j:Int)<=(b.length:Int):=⟨Int.NonNeg.mk 0,by omega,by omega⟩
  have z1:(0:Int)<=(j:Int)/\(j:Int)<=(b.length:Int)/\(b.length:Int)<=(b.length:Int):=⟨by omega,by omega,by omega⟩
  have c1:(0+(b.take j).length) * 72<=140737488355328:=by omega
  have c2:(([]++b.take j).length+[x].length) * 72<=140737488355328:=by rw[List.nil_append,tl];simp only[List.length_cons,List.length_nil];omega
  have c3:(([]++b.take j++[x]).length+(b.drop j).length) * 72<=140737488355328:=by rw[List.nil_append,List.length_append,tl,dl];simp only[List.length_cons,List.length_nil];omega
  repeat' first
   |exact z0
   |exact z1
   |exact c1
   |exact c2
   |exact c3
   |exact kF
   |with_reducible apply And.intro
def kedit_P (l:List (api_Parcel))(day:Int)(post:api_Edit->Prop):Prop:=(szL l/\l.length<=15)/\∀e:api_Edit,edQ l day e->post e
def kedit_sp:Spec:=⟨17,true,true,[.sl (.st .api_Parcel),.int .i64],.dat (.st .api_Edit),λx post=>kedit_P (x.1:List (api_Parcel)) (x.2.1:Int) (λy0=>post (y0,()))⟩
def kedit_C:CtxR:=⟨tau,[rule1 ropen_sp,rule1 ron_sp,rule1 rwou_sp,rule1 knext_sp,rule1 krange_sp,rule1 kone_sp,rule1 krect_sp],lookJ [(0,62,⟨[],[(1,[.dat (.int .i64),.dat (.int .i64),.dat (.int .i64),.own 3 (.int .i64),.dat (.sl (.st .api_Region))])],(List.range' 14 5++List.range' 86 87++[20]),[3],[]⟩),(0,53,⟨[(155,.dat (.int .i64))],[(1,[.dat (.int .i64),.dat (.int .i64),.dat (.int .i64),.own 3 (.int .i64),.dat (.sl (.st .api_Region))])],(List.range' 156 17++[20]),[3],[]⟩),(0,60,⟨[],[(1,[.dat (.int .i64),.dat (.int .i64),.dat (.int .i64),.own 3 (.int .i64),.dat (.sl (.st .api_Region))])],(List.range' 157 15++[20]),[4],[]⟩),(0,36,⟨[],[(4,[.dat (.int .i64),.dat (.int .i64),.dat (.int .i64),.dat (.int .i64)])],(List.range' 94 16),[],[]⟩),(0,16,⟨[],[(2,[.dat (.int .i64),.dat (.int .i64),.dat (.int .i64),.dat (.int .i64)])],[58,59,60,61],[],[]⟩)]⟩
abbrev kedit_a0 (v12:List api_Rect)(v28:Int):={Left:=(ix v12 (0:Int)).1,Low:=(ix v12 (0:Int)).2,Right:=IntKind.i64.wrap (IntKind.i64.wrap ((ix v12 (0:Int)).1+(1:Int))+v28),High:=(ix v12 (0:Int)).4:api_Rect}
def kedit_W (l:List (api_Parcel))(day:Int)(post:api_Edit->Prop):Prop:=szL l/\(Int.NonNeg 1099511627777/\Int.NonNeg 1099511627775/\Int.NonNeg 1099511627781/\(5:Int)<=1099511627776)/\∀(v1:Int),1<=v1->v1<=5\/v1=1->(↑(openS l day).length:Int)<=9223372036854775807->IFB (decide ((↑(openS l day).length:Int)=0)||decide (v1=1)) ((↑l.length:Int)<=9223372036854775807->((4:Int)=0->False)/\((4:Int)=0->False)/\((4:Int)=0->False)/\(Int.NonNeg 1099511627778/\Int.NonNeg 1099511627774/\Int.NonNeg 1099511627785/\(9:Int)<=1099511627776)/\∀(v2:Int),2<=v2->v2<=9\/v2=2->((4:Int)=0->False)/\(Int.NonNeg 1099511627778/\Int.NonNeg 1099511627774/\Int.NonNeg 1099511627785/\(9:Int)<=1099511627776)/\∀(v3:Int),2<=v3->v3<=9\/v3=2->JOIN [Ty.int IntKind.i64,Ty.int IntKind.i64,Ty.int IntKind.i64,Ty.int IntKind.i64] (λ(y4 y5 y6 y7:Int)=>post (⟨day,day,(1:Int),[],[(⟨[(⟨y4,y5,y6,y7⟩:api_Rect)]⟩:api_Region)]⟩:api_Edit)) λ(J8:Int->Int->Int->Int->Prop)=>Int.NonNeg 1099511627771/\∀(v9:Bool),IFB v9 ((Int.NonNeg 11/\(12:Int)<=16384)/\∀(v10:api_Rect),proper v10/\v10.3<=12/\v10.4<=12->J8 v10.1 v10.2 v10.3 v10.4) (J8 (IntKind.i64.wrap ((10:Int) * (↑l.length:Int).tmod 4)) (IntKind.i64.wrap ((10:Int) * IntKind.i64.wrap ((↑l.length:Int).tdiv 4))) (IntKind.i64.wrap (IntKind.i64.wrap ((10:Int) * (↑l.length:Int).tmod 4)+v2)) (IntKind.i64.wrap (IntKind.i64.wrap ((10:Int) * IntKind.i64.wrap ((↑l.length:Int).tdiv 4))+v3)))) ((↑(openS l day).length:Int)<=9223372036854775807->(↑(openS l day).length:Int)<=9223372036854775807/\∀(v11:Int),0<=v11->v11<(↑(openS l day).length:Int)\/v11=0->((0:Int)<=v11/\v11<(↑(openS l day).length:Int))/\szL l/\∀(v12:List api_Rect)(v13:Bool),v12=(onS l (ix (openS l day) v11) day).1/\(v13=true↔onP l (ix (openS l day) v11) day)->JOIN [Ty.int IntKind.i64,Ty.int IntKind.i64,Ty.int IntKind.i64,(Ty.int IntKind.i64).sl,(Ty.st Sn.api_Region).sl] (λ(y14 y15 y16:Int) (y17:List Int) (y18:List api_Region)=>post (⟨y14,y15,y16,y17,y18⟩:api_Edit)) λ(J19:Int->Int->Int->List Int->List api_Region->Prop)=>IFB (decide (v1=2)) ((Int.NonNeg 0/\0<(↑v12.length:Int))/\JOIN [Ty.int IntKind.i64,Ty.int IntKind.i64,Ty.int IntKind.i64,Ty.int IntKind.i64] (λ(y20 y21 y22 y23:Int)=>J19 day day v1 [ix (openS l day) v11] [(⟨[(⟨y20,y21,y22,y23⟩:api_Rect)]⟩:api_Region)]) λ(J24:Int->Int->Int->Int->Prop)=>Int.NonNeg 1099511627774/\∀(v25:Bool),IFB v25 (Int.NonNeg 9223372036854775798/\∀(v26:Int),0<=v26->v26<9\/v26=0->J24 (ix v12 0).1 (ix v12 0).2 (IntKind.i64.wrap (IntKind.i64.wrap ((ix v12 0).1+1)+v26)) (ix v12 0).4) (Int.NonNeg 9223372036854775798/\∀(v27:Int),0<=v27->v27<9\/v27=0->J24 (ix v12 0).1 (ix v12 0).2 (ix v12 0).3 (IntKind.i64.wrap (IntKind.i64.wrap ((ix v12 0).2+1)+v27)))) (IFB (decide (v1=3)) ((Int.NonNeg 0/\0<(↑v12.length:Int))/\(IntKind.i64.wrap ((ix v12 0).3-(ix v12 0).1)<=9223372036854775807/\∀(v28:Int),0<=v28->v28<IntKind.i64.wrap ((ix v12 0).3-(ix v12 0).1)\/v28=0->(((True/\J19 day day v1 [ix (openS l day) v11] [(⟨[(kedit_a0 v12 v28)]⟩:api_Region),{Rects:=(wouS v12 [(kedit_a0 v12 v28)]).1:api_Region}])/\True/\J19 day day v1 [ix (openS l day) v11] [(⟨[(kedit_a0 v12 v28)]⟩:api_Region),{Rects:=(wouS v12 [(kedit_a0 v12 v28)]).1:api_Region}])/\True/\J19 day day v1 [ix (openS l day) v11] [(⟨[(kedit_a0 v12 v28)]⟩:api_Region),{Rects:=(wouS v12 [(kedit_a0 v12 v28)]).1:api_Region}])/\True/\J19 day day v1 [ix (openS l day) v11] [(⟨[(kedit_a0 v12 v28)]⟩:api_Region),{Rects:=(wouS v12 [(kedit_a0 v12 v28)]).1:api_Region}])/\IntKind.i64.wrap ((ix v12 0).3-(ix v12 0).1)<=9223372036854775807/\∀(v29:Int),0<=v29->v29<IntKind.i64.wrap ((ix v12 0).3-(ix v12 0).1)\/v29=0->True/\J19 day day v1 [ix (openS l day) v11] [(⟨[(⟨(ix v12 0).1,(ix v12 0).2,IntKind.i64.wrap (IntKind.i64.wrap ((ix v12 0).1+1)+v29),(ix v12 0).4⟩:api_Rect)]⟩:api_Region),{Rects:=(wouS v12 [(⟨(ix v12 0).1,(ix v12 0).2,IntKind.i64.wrap (IntKind.i64.wrap ((ix v12 0).1+1)+v29),(ix v12 0).4⟩:api_Rect)]).1:api_Region}]) (IFB (decide (v1=4)) ((↑(openS l day).length:Int)<=9223372036854775807->LOOP [Ty.int IntKind.i64,Ty.int IntKind.i64,Ty.int IntKind.i64,Ty.int IntKind.i64,(Ty.int IntKind.i64).sl,(Ty.st Sn.api_Region).sl] (λ(rec30:Int->Int->Int->Int->List Int->List api_Region->Prop) (z31 z32 z33 z34:Int) (z35:List Int) (z36:List api_Region)=>IFB (decide (z31<(↑(openS l day).length:Int))) (JOIN [Ty.int IntKind.i64,Ty.int IntKind.i64,Ty.int IntKind.i64,(Ty.int IntKind.i64).sl,(Ty.st Sn.api_Region).sl] (λ(y37 y38 y39:Int) (y40:List Int) (y41:List api_Region)=>rec30 (IntKind.i64.wrap (z31+1)) y37 y38 y39 y40 y41) λ(J42:Int->Int->Int->List Int->List api_Region->Prop)=>((0:Int)<=z31/\z31<(↑(openS l day).length:Int))/\JOIN [Ty.bool] (λ(y43:Bool)=>IFB (decide (ix (openS l day) v11<ix (openS l day) z31)&&y43) ((z35.length+[ix (openS l day) z31].length) * (8:Nat)<=140737488355328/\J42 z32 z33 z34 (z35++[ix (openS l day) z31]) z36) (J42 z32 z33 z34 z35 z36)) λ(J44:Bool->Prop)=>IFB (gx true (decide (ix (openS l day) v11<ix (openS l day) z31))) (Int.NonNeg 1099511627774/\∀(v45:Bool),J44 v45) (J44 false)) (J19 z32 z33 z34 z35 z36)) ((0:Int),day,day,v1,[ix (openS l day) v11],[],PUnit.unit)) (J19 day day v1 [ix (openS l day) v11] []))))
theorem kedit_w (l:List (api_Parcel))(day:Int)(post:dens (shT kedit_sp.rs [])->Prop):kedit_W l day (λy0=>post (y0,()))=walkG (callR Tryz.prog kedit_C (drawF Tryz.prog tau) 8 0) 17 true [tv (.sl (.st .api_Parcel)) l,tv (.int .i64) day] kedit_sp.rs post:=by kernel_rfl
theorem kedit_of (h:∀l day post,kedit_P l day post->kedit_W l day post):SpecOK Tryz.prog kedit_sp:=SpecOK.of_rules (C:=kedit_C) (dr:=drawF Tryz.prog tau) (n:=8) (fk:=0) (.cons (rule1_ok ropen_ok) (.cons (rule1_ok ron_ok) (.cons (rule1_ok rwou_ok) (.cons (rule1_ok knext_ok) (.cons (rule1_ok krange_ok) (.cons (rule1_ok kone_ok) (.cons (rule1_ok krect_ok) .nil))))))) (drawF_ok tau) λx post hp=>HoldW.of (kedit_w x.1 x.2.1 post) (h x.1 x.2.1 (λy0=>post (y0,())) hp)
set_option maxHeartbeats 4000000 in
theorem kedit_ok:SpecOK Tryz.prog kedit_sp:=kedit_of λl day post hp=>by
 obtain⟨⟨hsz,hlen⟩,hp⟩:=hp
 unfold kedit_W kedit_a0
 have hol:(openS l day).length<=l.length:=openS_len
 refine⟨hsz,⟨.mk _,.mk _,.mk _,by omega⟩,λk hk1 hk2 _=>IFB.mk (λhc _=> ?_) (λhc _=> ?_)⟩
 ·have t1:(l.length:Int).tmod 4=(l.length:Int) % 4:=Int.tmod_eq_emod_of_nonneg (by omega)
  have t2:(l.length:Int).tdiv 4=(l.length:Int)/4:=Int.tdiv_eq_ediv_of_nonneg (by omega)
  have w1:IntKind.i64.wrap (10 * ((l.length:Int) % 4))=10 * ((l.length:Int) % 4):=wrap_in (by omega) (by omega)
  have w2:IntKind.i64.wrap ((l.length:Int)/4)=(l.length:Int)/4:=wrap_in (by omega) (by omega)
  have w3:IntKind.i64.wrap (10 * ((l.length:Int)/4))=10 * ((l.length:Int)/4):=wrap_in (by omega) (by omega)
  refine⟨by omega,by omega,by omega,⟨.mk _,.mk _,.mk _,by omega⟩,λw h1 h2=>⟨by omega,⟨.mk _,.mk _,.mk _,by omega⟩,λv g1 g2=>JOIN.opq λ(J:Int->Int->Int->Int->Prop) hJ=>⟨.mk _,λb=>IFB.mk (λ_=>⟨⟨.mk _,by omega⟩,λr hr=> ?_⟩) (λ_=> ?_)⟩⟩⟩
  ·rw[hJ]
   refine hp _ (edQ_rect ⟨by omega,by omega⟩ (by simp) (λ_=>⟨hr.1,?_,?_⟩) λN n1 n2 n3=>⟨hr.1,?_,?_⟩)
   ·show r.3<=39;omega
   ·show r.4<=39;omega
   ·show r.3<=N+8;omega
   ·show r.4<=N+8;omega
  ·have w4:IntKind.i64.wrap (10 * ((l.length:Int) % 4)+w)=10 * ((l.length:Int) % 4)+w:=wrap_in (by omega) (by omega)
   have w5:IntKind.i64.wrap (10 * ((l.length:Int)/4)+v)=10 * ((l.length:Int)/4)+v:=wrap_in (by omega) (by omega)
   rw[t1,t2,w1,w2,w3,w4,w5,hJ]
   refine hp _ (edQ_rect ⟨by omega,by omega⟩ (by simp) (λ_=>⟨⟨?_,?_,?_,?_,?_,?_⟩,?_,?_⟩) λN n1 n2 n3=>⟨⟨?_,?_,?_,?_,?_,?_⟩,?_,?_⟩)<;>dsimp only<;>omega
 ·rw[Bool.or_eq_false_iff] at hc
  have hc1:¬((openS l day).length:Int)=0:=of_decide_eq_false hc.1
  have hc2:¬k=1:=of_decide_eq_false hc.2
  refine⟨by omega,λv h1 h2=> ?_⟩
  have hv:0<=v/\v<((openS l day).length:Int):=by omega
  have hn:ix (openS l day) v∈openS l day:=ix_mem hv.1 hv.2
  obtain⟨hon,hreg⟩:=open_on hn
  obtain⟨hm1,hm2⟩:=on_mem hon hreg
  have hpr:=reg_prop hreg hm2 hm1
  obtain⟨n,hnn⟩:∃n,ix (openS l day) v=n:=⟨_,rfl⟩
  rw[hnn] at hon hm1 hm2 hpr ⊢
  refine⟨hv,hsz,λv12 v13 h=>JOIN.opq λ(J:Int->Int->Int->List Int->List api_Region->Prop) hJ=> ?_⟩
  obtain⟨h12,_⟩:=h
  have hv12:(onS l n day).Rects=v12:=h12.symm
  have hln:l≠[]:=λh=>by subst h;cases hm2
  have hval:validP v12:=by rw[<-hv12];exact hpr.2
  have hne:0<v12.length:=by
   rw[<-hv12]
   exact List.length_pos_iff.2 hpr.1
  have hr0:ix v12 (0:Int)∈v12:=ix_mem (by omega) (by omega)
  obtain⟨q1,q2,q3,q4,q5,q6⟩:=hval.2.1 _ hr0
  have hbx:∀N:Int,bxL N l->∀q∈v12,q.Right<=N/\q.High<=N:=λN hN q hq=>hN _ hm2 _ hm1 q (by rw[hv12];exact hq)
  refine IFB.mk (λhd=> ?_) (λhd=>IFB.mk (λhd2=> ?_) (λhd2=>IFB.mk (λhd3=> ?_) (λhd3=> ?_)))
  ·have hd:=of_decide_eq_true hd
   have w0:∀z:Int,0<=z->z<=20000->∀v:Int,0<=v->v<=9->IntKind.i64.wrap (IntKind.i64.wrap (z+1)+v)=z+1+v:=λz z1 z2 v v1 v2=>by
    rw[wrap_in (z:=z+1) (by omega) (by omega)]
    exact wrap_in (by omega) (by omega)
   refine⟨⟨.mk _,by omega⟩,JOIN.opq λ(J24:Int->Int->Int->Int->Prop) hJ24=>⟨.mk _,λb=>IFB.mk (λ_=>⟨.mk _,λu u1 u2=> ?_⟩) (λ_=>⟨.mk _,λu u1 u2=> ?_⟩)⟩⟩
   ·rw[w0 _ q1 (by omega) u u1 (by omega),hJ24,hJ]
    refine hp _ (edQ_rect ⟨by omega,by omega⟩ (by simp) (λh=>absurd h hln) λN n1 n2 n3=> ?_)
    obtain⟨b1,b2⟩:=hbx N n3 _ hr0
    refine⟨⟨?_,?_,?_,?_,?_,?_⟩,?_,?_⟩<;>dsimp only<;>omega
   ·rw[w0 _ q4 (by omega) u u1 (by omega),hJ24,hJ]
    refine hp _ (edQ_rect ⟨by omega,by omega⟩ (by simp) (λh=>absurd h hln) λN n1 n2 n3=> ?_)
    obtain⟨b1,b2⟩:=hbx N n3 _ hr0
    refine⟨⟨?_,?_,?_,?_,?_,?_⟩,?_,?_⟩<;>dsimp only<;>omega
  ·have hd2:=of_decide_eq_true hd2
   subst hd2
   have w1:IntKind.i64.wrap ((ix v12 0).3-(ix v12 0).1)=(ix v12 0).3-(ix v12 0).1:=wrap_in (by omega) (by omega)
   rw[w1]
   have leaf:∀u:Int,0<=u->(u<(ix v12 0).3-(ix v12 0).1\/u=0)->J day day 3 [n] [{Rects:=[{Left:=(ix v12 0).1,Low:=(ix v12 0).2,Right:=IntKind.i64.wrap (IntKind.i64.wrap ((ix v12 0).1+1)+u),High:=(ix v12 0).4:api_Rect}]:api_Region},{Rects:=(wouS v12 [{Left:=(ix v12 0).1,Low:=(ix v12 0).2,Right:=IntKind.i64.wrap (IntKind.i64.wrap ((ix v12 0).1+1)+u),High:=(ix v12 0).4:api_Rect}]).1:api_Region}]:=λu u1 u2=>by
    rw[wrap_in (z:=(ix v12 0).1+1) (by omega) (by omega),wrap_in (z:=(ix v12 0).1+1+u) (by omega) (by omega),hJ]
    refine hp _ (edQ_split (by simp) hln hval λN n1 n2 n3=>⟨?_,hbx N n3⟩)
    obtain⟨b1,b2⟩:=hbx N n3 _ hr0
    refine⟨⟨?_,?_,?_,?_,?_,?_⟩,?_,?_⟩<;>dsimp only<;>omega
   have b1:(ix v12 0).3-(ix v12 0).1<=9223372036854775807:=by omega
   refine⟨⟨.mk _,by omega⟩,⟨b1,λu u1 u2=> ?_⟩,b1,λu u1 u2=>⟨trivial,leaf u u1 u2⟩⟩
   have lf:=leaf u u1 u2
   repeat' (first|exact lf|exact True.intro|with_reducible apply And.intro)
  ·have hd3:=of_decide_eq_true hd3
   intro _
   refine LOOP.fuel (λu=>∃j:Nat,u.1=(j:Int)/\j<=(openS l day).length/\u.2.1=day/\u.2.2.1=day/\u.2.2.2.1=k/\List.length (u.2.2.2.2.1:List Int)<=1+j/\(u.2.2.2.2.2.1:List api_Region)=[]) (λu=>(openS l day).length-Int.toNat u.1) ⟨0,rfl,Nat.zero_le _,rfl,rfl,rfl,by simp,rfl⟩ ?_
   rintro rec ⟨(z1:Int),(z2:Int),(z3:Int),(z4:Int),(z5:List Int),(z6:List api_Region),⟨⟩⟩ ⟨j,f1,e2,f3,f4,f5,f6,f7⟩ hrec
   have e1:z1=(j:Int):=f1
   have e3:z2=day:=f3
   have e4:z3=day:=f4
   have e5:z4=k:=f5
   have e6:z5.length<=1+j:=f6
   have e7:z6=[]:=f7
   clear f1 f3 f4 f5 f6 f7
   subst e1 e3 e4 e5 e7
   refine IFB.mk (λhb=> ?_) (λhb=> ?_)
   ·have hb:(j:Int)<((openS l z3).length:Int):=of_decide_eq_true hb
    refine JOIN.opq λ(J42:Int->Int->Int->List Int->List api_Region->Prop) hJ42=>⟨⟨by omega,hb⟩,?_⟩
    have cont:∀z:List Int,z.length<=1+(j+1)->J42 z3 z3 z4 z []:=λz hz=>by
     rw[hJ42,wrapS (by omega)]
     exact hrec (((j+1:Nat):Int),z3,z3,z4,z,[],()) ⟨j+1,rfl,by omega,rfl,rfl,rfl,hz,rfl⟩ (by show (openS l z3).length-((j+1:Nat):Int).toNat<(openS l z3).length-(j:Int).toNat;omega)
    have body:∀y:Bool,IFB (decide (n<ix (openS l z3) (j:Int))&&y) ((z5.length+[ix (openS l z3) (j:Int)].length) * 8<=140737488355328/\J42 z3 z3 z4 (z5++[ix (openS l z3) (j:Int)]) []) (J42 z3 z3 z4 z5 []):=λy=>
     IFB.mk (λ_=>⟨by simp only[List.length_cons,List.length_nil];omega,cont _ (by rw[List.length_append];simp;omega)⟩) (λ_=>cont _ (by omega))
    refine JOIN.opq λ(J44:Bool->Prop) hJ44=>IFB.mk (λ_=>⟨.mk _,λy=> ?_⟩) (λ_=> ?_)
    ·rw[hJ44];exact body y
    ·rw[hJ44];exact body false
   ·have hb:¬(j:Int)<((openS l z3).length:Int):=of_decide_eq_false hb
    show J z3 z3 z4 z5 []
    rw[hJ]
    exact hp _ (edQ_none ⟨by omega,by omega⟩ (by omega))
  ·rw[hJ]
   exact hp _ (edQ_none ⟨by omega,by omega⟩ (by simp))
def kedits_P (most:Int)(step:Int)(post:List (api_Edit)->List (api_Parcel)->Prop):Prop:=(0<=most/\most<=8/\0<=step/\step<=10)/\∀(es:List Ed)(x:List Pc),Hist most.toNat es x->post es x
def kedits_sp:Spec:=⟨23,true,true,[.int .i64,.int .i64],.tup [.dat (.sl (.st .api_Edit)),.dat (.sl (.st .api_Parcel))],λx post=>kedits_P (x.1:Int) (x.2.1:Int) (λy0 y1=>post (y0,y1,()))⟩
def kedits_C:CtxR:=⟨tau,[rule1 knext_sp,rule1 kedit_sp,rule1 rappA_sp],lookJ [(0,11,⟨[(11,.dat (.int .i64)),(8,.own 25 (.st .api_Edit)),(9,.dat (.sl (.st .api_Parcel))),(10,.dat (.int .i64))],[],(List.range' 21 27++[12,13,14]),[],[]⟩),(0,12,⟨[(8,.own 25 (.st .api_Edit)),(9,.dat (.sl (.st .api_Parcel))),(10,.dat (.int .i64))],[],(List.range' 25 23++[12,13,14]),[0],[]⟩)]⟩
abbrev kedits_a0 (v13:api_Edit):={Day:=v13.1,Known:=v13.2,Kind:=v13.3,Parcels:=v13.4,Regions:=v13.5:api_Edit}
def kedits_W (most:Int)(step:Int)(post:List (api_Edit)->List (api_Parcel)->Prop):Prop:=Int.NonNeg 9223372036854775802/\∀(v1:Int),0<=v1->v1<5\/v1=0->IntKind.i64.wrap (most+1)<=9223372036854775807/\∀(v2:Int),0<=v2->v2<IntKind.i64.wrap (most+1)\/v2=0->LOOP [Ty.int IntKind.i64,(Ty.st Sn.api_Edit).sl,(Ty.st Sn.api_Parcel).sl,Ty.int IntKind.i64] (λ(rec3:Int->List api_Edit->List api_Parcel->Int->Prop) (z4:Int) (z5:List api_Edit) (z6:List api_Parcel) (z7:Int)=>IFB (decide ((0:Int)<z4)) (JOIN [(Ty.st Sn.api_Edit).sl,(Ty.st Sn.api_Parcel).sl,Ty.int IntKind.i64] (λ(y8:List api_Edit) (y9:List api_Parcel) (y10:Int)=>rec3 (IntKind.i64.wrap (z4-1)) y8 y9 y10) λ(J11:List api_Edit->List api_Parcel->Int->Prop)=>IntKind.i64.wrap (step+1)<=9223372036854775807/\∀(v12:Int),0<=v12->v12<IntKind.i64.wrap (step+1)\/v12=0->(szL z6/\z6.length<=15)/\∀(v13:api_Edit),edQ z6 (IntKind.i64.wrap (z7+v12)) v13->(szL z6/\szE (kedits_a0 v13)/\((v13.3=2->False)->editS z6 (kedits_a0 v13)=0->(∀(v14:Nat),v14<=v13.5.length->(canonF (cov (partsR (List.take v14 v13.5)))).length<=10000)/\∀(v15:Nat),v15<=v13.4.length->(canonF (cov (outsL z6 (List.take v15 v13.4)))).length<=10000))/\IFB (decide ((applyS z6 (kedits_a0 v13)).2=0)) ((z5.length+[(kedits_a0 v13)].length) * (72:Nat)<=140737488355328/\J11 (z5++[(kedits_a0 v13)]) (applyS z6 (kedits_a0 v13)).1 (IntKind.i64.wrap (z7+v12))) (J11 z5 z6 (IntKind.i64.wrap (z7+v12)))) (post z5 z6)) (v2,[],[],v1,PUnit.unit)
theorem kedits_w (most:Int)(step:Int)(post:dens (shT kedits_sp.rs [])->Prop):kedits_W most step (λy0 y1=>post (y0,y1,()))=walkG (callR Tryz.prog kedits_C (drawF Tryz.prog tau) 8 0) 23 true [tv (.int .i64) most,tv (.int .i64) step] kedits_sp.rs post:=by kernel_rfl
theorem kedits_of (h:∀most step post,kedits_P most step post->kedits_W most step post):SpecOK Tryz.prog kedits_sp:=SpecOK.of_rules (C:=kedits_C) (dr:=drawF Tryz.prog tau) (n:=8) (fk:=0) (.cons (rule1_ok knext_ok) (.cons (rule1_ok kedit_ok) (.cons (rule1_ok rappA_ok) .nil))) (drawF_ok tau) λx post hp=>HoldW.of (kedits_w x.1 x.2.1 post) (h x.1 x.2.1 (λy0 y1=>post (y0,y1,())) hp)
theorem kedits_ok:SpecOK Tryz.prog kedits_sp:=kedits_of λmost step post hp=>by
 obtain⟨⟨m0,m1,s0,s1⟩,hp⟩:=hp
 unfold kedits_W kedits_a0
 have w1:IntKind.i64.wrap (most+1)=most+1:=wrap_in (by omega) (by omega)
 have w2:IntKind.i64.wrap (step+1)=step+1:=wrap_in (by omega) (by omega)
 rw[w1,w2]
 refine⟨.mk _,λd hd0 hd1=>⟨by omega,λn hn0 hn1=> ?_⟩⟩
 refine LOOP.fuel (λu=>∃i:Nat,u.1=n-(i:Int)/\(i:Int)<=n/\Hist i u.2.1 u.2.2.1/\ @LE.le Int _ 0 u.2.2.2.1/\ @LE.le Int _ u.2.2.2.1 (4+10 * (i:Int))) (λu=>Int.toNat u.1) ⟨0,by show n=n-((0:Nat):Int);omega,by omega,hist_nil,hd0,by show d<=_;omega⟩ ?_
 rintro rec ⟨(z4:Int),(z5:List Ed),(z6:List Pc),(z7:Int),⟨⟩⟩ ⟨i,f1,i2,f3,f4,f5⟩ hrec
 have e1:z4=n-(i:Int):=f1
 have hh:Hist i z5 z6:=f3
 have d0:0<=z7:=f4
 have d1:z7<=4+10 * (i:Int):=f5
 clear f1 f3 f4 f5
 subst e1
 refine IFB.mk (λhb=> ?_) (λhb=> ?_)
 ·have hb:0<n-(i:Int):=of_decide_eq_true hb
  have hi:i<=7:=by omega
  have hlen:=hh.len
  have hxl:=hh.xl
  have hx15:z6.length<=15:=by omega
  have hz5:(z5.length+1) * 72<=140737488355328:=by omega
  refine JOIN.opq λ(J:List api_Edit->List api_Parcel->Int->Prop) hJ=>⟨by omega,λv v0 v1=>⟨⟨hh.sz,hx15⟩,λe he=> ?_⟩⟩
  have w3:IntKind.i64.wrap (z7+v)=z7+v:=wrap_in (by omega) (by omega)
  rw[w3] at he ⊢
  have w4:IntKind.i64.wrap (n-(i:Int)-1)=n-((i+1:Nat):Int):=by rw[wrap_in (by omega) (by omega)];omega
  obtain⟨r1,r2⟩:=hh.reach hi he
  have hc:=combK_of (e:=e) (N:=39+8 * (z5.length:Int)) (by omega) (by omega) r1 r2
  have next:∀(a:List Ed)(b:List Pc),Hist (i+1) a b->J a b (z7+v):=λa b hab=>by
   rw[hJ,w4]
   exact hrec (n-((i+1:Nat):Int),a,b,z7+v,()) ⟨i+1,rfl,by omega,hab,by show 0<=z7+v;omega,by show z7+v<=4+10 * ((i+1:Nat):Int);omega⟩ (by show (n-((i+1:Nat):Int)).toNat<(n-(i:Int)).toNat;omega)
  refine⟨⟨hh.sz,he.1,λ_=>hc⟩,IFB.mk (λhq=> ?_) (λhq=>next _ _ (hh.mono (by omega)))⟩
  have hq:(applyS z6 e).2=0:=of_decide_eq_true hq
  exact⟨hz5,next _ _ (hh.step hi ⟨by omega,by omega⟩ he hq)⟩
 ·have hb:¬0<n-(i:Int):=of_decide_eq_false hb
  exact hp _ _ (hh.mono (by omega))
def keditsO_P (most:Int)(step:Int)(post:List (api_Edit)->List (api_Parcel)->Prop):Prop:=(0<=most/\most<=8/\0<=step/\step<=10)/\∀(es:List Ed)(x:List Pc),Hist most.toNat es x->post es x
def keditsO_sp:Spec:=⟨23,true,true,[.int .i64,.int .i64],.tup [.own 25 (.st .api_Edit),.dat (.sl (.st .api_Parcel))],λx post=>keditsO_P (x.1:Int) (x.2.1:Int) (λy0 y1=>post (y0,y1,()))⟩
def keditsO_C:CtxR:=⟨tau,[rule1 knext_sp,rule1 kedit_sp,rule1 rappA_sp],lookJ [(0,11,⟨[(11,.dat (.int .i64)),(8,.own 25 (.st .api_Edit)),(9,.dat (.sl (.st .api_Parcel))),(10,.dat (.int .i64))],[],(List.range' 21 27++[12,13,14]),[],[]⟩),(0,12,⟨[(8,.own 25 (.st .api_Edit)),(9,.dat (.sl (.st .api_Parcel))),(10,.dat (.int .i64))],[],(List.range' 25 23++[12,13,14]),[0],[]⟩)]⟩
abbrev keditsO_a0 (v13:api_Edit):={Day:=v13.1,Known:=v13.2,Kind:=v13.3,Parcels:=v13.4,Regions:=v13.5:api_Edit}
def keditsO_W (most:Int)(step:Int)(post:List (api_Edit)->List (api_Parcel)->Prop):Prop:=Int.NonNeg 9223372036854775802/\∀(v1:Int),0<=v1->v1<5\/v1=0->IntKind.i64.wrap (most+1)<=9223372036854775807/\∀(v2:Int),0<=v2->v2<IntKind.i64.wrap (most+1)\/v2=0->LOOP [Ty.int IntKind.i64,(Ty.st Sn.api_Edit).sl,(Ty.st Sn.api_Parcel).sl,Ty.int IntKind.i64] (λ(rec3:Int->List api_Edit->List api_Parcel->Int->Prop) (z4:Int) (z5:List api_Edit) (z6:List api_Parcel) (z7:Int)=>IFB (decide ((0:Int)<z4)) (JOIN [(Ty.st Sn.api_Edit).sl,(Ty.st Sn.api_Parcel).sl,Ty.int IntKind.i64] (λ(y8:List api_Edit) (y9:List api_Parcel) (y10:Int)=>rec3 (IntKind.i64.wrap (z4-1)) y8 y9 y10) λ(J11:List api_Edit->List api_Parcel->Int->Prop)=>IntKind.i64.wrap (step+1)<=9223372036854775807/\∀(v12:Int),0<=v12->v12<IntKind.i64.wrap (step+1)\/v12=0->(szL z6/\z6.length<=15)/\∀(v13:api_Edit),edQ z6 (IntKind.i64.wrap (z7+v12)) v13->(szL z6/\szE (keditsO_a0 v13)/\((v13.3=2->False)->editS z6 (keditsO_a0 v13)=0->(∀(v14:Nat),v14<=v13.5.length->(canonF (cov (partsR (List.take v14 v13.5)))).length<=10000)/\∀(v15:Nat),v15<=v13.4.length->(canonF (cov (outsL z6 (List.take v15 v13.4)))).length<=10000))/\IFB (decide ((applyS z6 (keditsO_a0 v13)).2=0)) ((z5.length+[(keditsO_a0 v13)].length) * (72:Nat)<=140737488355328/\J11 (z5++[(keditsO_a0 v13)]) (applyS z6 (keditsO_a0 v13)).1 (IntKind.i64.wrap (z7+v12))) (J11 z5 z6 (IntKind.i64.wrap (z7+v12)))) (post z5 z6)) (v2,[],[],v1,PUnit.unit)
theorem keditsO_w (most:Int)(step:Int)(post:dens (shT keditsO_sp.rs [])->Prop):keditsO_W most step (λy0 y1=>post (y0,y1,()))=walkG (callR Tryz.prog keditsO_C (drawF Tryz.prog tau) 8 0) 23 true [tv (.int .i64) most,tv (.int .i64) step] keditsO_sp.rs post:=by kernel_rfl
theorem keditsO_of (h:∀most step post,keditsO_P most step post->keditsO_W most step post):SpecOK Tryz.prog keditsO_sp:=SpecOK.of_rules (C:=keditsO_C) (dr:=drawF Tryz.prog tau) (n:=8) (fk:=0) (.cons (rule1_ok knext_ok) (.cons (rule1_ok kedit_ok) (.cons (rule1_ok rappA_ok) .nil))) (drawF_ok tau) λx post hp=>HoldW.of (keditsO_w x.1 x.2.1 post) (h x.1 x.2.1 (λy0 y1=>post (y0,y1,())) hp)
theorem keditsO_ok:SpecOK Tryz.prog keditsO_sp:=keditsO_of λmost step post hp=>by
 obtain⟨⟨m0,m1,s0,s1⟩,hp⟩:=hp
 unfold keditsO_W keditsO_a0
 have w1:IntKind.i64.wrap (most+1)=most+1:=wrap_in (by omega) (by omega)
 have w2:IntKind.i64.wrap (step+1)=step+1:=wrap_in (by omega) (by omega)
 rw[w1,w2]
 refine⟨.mk _,λd hd0 hd1=>⟨by omega,λn hn0 hn1=> ?_⟩⟩
 refine LOOP.fuel (λu=>∃i:Nat,u.1=n-(i:Int)/\(i:Int)<=n/\Hist i u.2.1 u.2.2.1/\ @LE.le Int _ 0 u.2.2.2.1/\ @LE.le Int _ u.2.2.2.1 (4+10 * (i:Int))) (λu=>Int.toNat u.1) ⟨0,by show n=n-((0:Nat):Int);omega,by omega,hist_nil,hd0,by show d<=_;omega⟩ ?_
 rintro rec ⟨(z4:Int),(z5:List Ed),(z6:List Pc),(z7:Int),⟨⟩⟩ ⟨i,f1,i2,f3,f4,f5⟩ hrec
 have e1:z4=n-(i:Int):=f1
 have hh:Hist i z5 z6:=f3
 have d0:0<=z7:=f4
 have d1:z7<=4+10 * (i:Int):=f5
 clear f1 f3 f4 f5
 subst e1
 refine IFB.mk (λhb=> ?_) (λhb=> ?_)
 ·have hb:0<n-(i:Int):=of_decide_eq_true hb
  have hi:i<=7:=by omega
  have hlen:=hh.len
  have hxl:=hh.xl
  have hx15:z6.length<=15:=by omega
  have hz5:(z5.length+1) * 72<=140737488355328:=by omega
  refine JOIN.opq λ(J:List api_Edit->List api_Parcel->Int->Prop) hJ=>⟨by omega,λv v0 v1=>⟨⟨hh.sz,hx15⟩,λe he=> ?_⟩⟩
  have w3:IntKind.i64.wrap (z7+v)=z7+v:=wrap_in (by omega) (by omega)
  rw[w3] at he ⊢
  have w4:IntKind.i64.wrap (n-(i:Int)-1)=n-((i+1:Nat):Int):=by rw[wrap_in (by omega) (by omega)];omega
  obtain⟨r1,r2⟩:=hh.reach hi he
  have hc:=combK_of (e:=e) (N:=39+8 * (z5.length:Int)) (by omega) (by omega) r1 r2
  have next:∀(a:List Ed)(b:List Pc),Hist (i+1) a b->J a b (z7+v):=λa b hab=>by
   rw[hJ,w4]
   exact hrec (n-((i+1:Nat):Int),a,b,z7+v,()) ⟨i+1,rfl,by omega,hab,by show 0<=z7+v;omega,by show z7+v<=4+10 * ((i+1:Nat):Int);omega⟩ (by show (n-((i+1:Nat):Int)).toNat<(n-(i:Int)).toNat;omega)
  refine⟨⟨hh.sz,he.1,λ_=>hc⟩,IFB.mk (λhq=> ?_) (λhq=>next _ _ (hh.mono (by omega)))⟩
  have hq:(applyS z6 e).2=0:=of_decide_eq_true hq
  exact⟨hz5,next _ _ (hh.step hi ⟨by omega,by omega⟩ he hq)⟩
 ·have hb:¬0<n-(i:Int):=of_decide_eq_false hb
  exact hp _ _ (hh.mono (by omega))
def kmod_P (k:Int)(n:Int)(post:Int->Prop):Prop:=(1<=n/\n<=1000000)/\∀q:Int,0<=q->q<n->post q
def kmod_sp:Spec:=⟨18,false,false,[.int .i64,.int .i64],.dat (.int .i64),λx post=>kmod_P (x.1:Int) (x.2.1:Int) (λy0=>post (y0,()))⟩
def kmod_C:CtxR:=⟨tau,[],lookJ [(0,12,⟨[(0,.dat (.int .i64))],[],[10,11,12,13,14],[],[]⟩)]⟩
def kmod_W (k:Int)(n:Int)(post:Int->Prop):Prop:=IFB (decide (n<1)) (post 0) ((n=0->False)/\JOIN [Ty.int IntKind.i64] (λ(y1:Int)=>post y1) λ(J2:Int->Prop)=>IFB (decide (k.tmod n<0)) (J2 (IntKind.i64.wrap (k.tmod n+n))) (J2 (k.tmod n)))
theorem kmod_w (k:Int)(n:Int)(post:dens (shT kmod_sp.rs [])->Prop):kmod_W k n (λy0=>post (y0,()))=walkG (callR Tryz.prog kmod_C (drawR Tryz.prog tau) 8 0) 18 false [tv (.int .i64) k,tv (.int .i64) n] kmod_sp.rs post:=by kernel_rfl
theorem kmod_of (h:∀k n post,kmod_P k n post->kmod_W k n post):SpecOK Tryz.prog kmod_sp:=SpecOK.of_rules (C:=kmod_C) (dr:=drawR Tryz.prog tau) (n:=8) (fk:=0) .nil (drawR_ok tau) λx post hp=>HoldW.of (kmod_w x.1 x.2.1 post) (h x.1 x.2.1 (λy0=>post (y0,())) hp)
theorem kmod_ok:SpecOK Tryz.prog kmod_sp:=kmod_of λk n post hp=>by
 obtain⟨⟨hn,hn2⟩,hp⟩:=hp
 unfold kmod_W
 refine IFB.mk (λh=>absurd (of_decide_eq_true h) (by omega)) (λh=>⟨λe=>by omega,JOIN.opq λ(J2:Int->Prop) hJ2=>IFB.mk (λh2=> ?_) (λh2=> ?_)⟩)
 all_goals rw[hJ2]
 ·have h2:k.tmod n<0:=of_decide_eq_true h2
  have h3:=Int.lt_tmod_of_pos k (show 0<n by omega)
  rw[wrap_in (by omega) (by omega)]
  exact hp _ (by omega) (by omega)
 ·have h2:¬k.tmod n<0:=of_decide_eq_false h2
  have h3:=Int.tmod_lt_of_pos k (show 0<n by omega)
  exact hp _ (by omega) h3
def kbroken_P (side:Int)(most:Int)(post:api_Region->Prop):Prop:=(1<=side/\side<=16000/\0<=most/\most<=100)/\∀a:api_Region,(a.Rects.length<=121/\∀r∈a.Rects,r.Right<=side+1/\r.High<=side)->post a
def kbroken_sp:Spec:=⟨19,true,true,[.int .i64,.int .i64],.dat (.st .api_Region),λx post=>kbroken_P (x.1:Int) (x.2.1:Int) (λy0=>post (y0,()))⟩
def kbroken_C:CtxR:=⟨tau,[rule1 kregion_sp,rule1 knext_sp,rule1 kone_sp],lookJ [(0,32,⟨[(8,.own 65 (.st .api_Rect))],[],(List.range' 32 50),[3],[]⟩)]⟩
abbrev kbroken_a0 (v1:api_Region)(v3:Int):={Left:=(ix ([]++v1.1) v3).1,Low:=(ix ([]++v1.1) v3).2,Right:=(ix ([]++v1.1) v3).3,High:=(ix ([]++v1.1) v3).4:api_Rect}
abbrev kbroken_a1 (v3:Int)(v1:api_Region):=((0:Int)<=v3/\v3<(↑([]++v1.1).length:Int))
def kbroken_W (side:Int)(most:Int)(post:api_Region->Prop):Prop:=((1:Int)<=side/\side<=16384/\0<=most/\most<=100)/\∀(v1:api_Region),(validP v1.1/\∀(x y:Int),cov v1.1 x y=true->x<side/\y<side)->(↑v1.1.length:Int)<=9223372036854775807->JOIN [Ty.bool] (λ(y2:Bool)=>IFB (decide ((↑v1.1.length:Int)=0)|| !y2) (post {Rects:=v1.1:api_Region}) (((0:Nat)+v1.1.length) * (32:Nat)<=140737488355328/\((↑([]++v1.1).length:Int)<=9223372036854775807->(↑([]++v1.1).length:Int)<=9223372036854775807/\∀(v3:Int),0<=v3->v3<(↑([]++v1.1).length:Int)\/v3=0->JOIN [(Ty.st Sn.api_Rect).sl] (λ(y4:List api_Rect)=>post (⟨y4⟩:api_Region)) λ(J5:List api_Rect->Prop)=>Int.NonNeg 9223372036854775802/\∀(v6:Int),0<=v6->v6<5\/v6=0->IFB (decide (v6=0)) ((kbroken_a1 v3 v1)/\(kbroken_a1 v3 v1)/\J5 (([]++v1.1).set v3.toNat (⟨(ix ([]++v1.1) v3).1,(ix ([]++v1.1) v3).2,IntKind.i64.wrap ((ix ([]++v1.1) v3).3+1),(ix ([]++v1.1) v3).4⟩:api_Rect))) (IFB (decide (v6=1)) ((kbroken_a1 v3 v1)/\J5 (([]++v1.1).set v3.toNat (⟨(-1:Int),(ix ([]++v1.1) v3).2,(ix ([]++v1.1) v3).3,(ix ([]++v1.1) v3).4⟩:api_Rect))) (IFB (decide (v6=2)) ((kbroken_a1 v3 v1)/\(([]++v1.1).length+[(kbroken_a0 v1 v3)].length) * (32:Nat)<=140737488355328/\J5 ([]++v1.1++[(kbroken_a0 v1 v3)])) (IFB (decide (v6=3)) ((kbroken_a1 v3 v1)/\(Int.NonNeg 0/\0<(↑([]++v1.1).length:Int))/\(Int.NonNeg 0/\0<(↑([]++v1.1).length:Int))/\((0:Int)<=v3/\v3<(↑(([]++v1.1).set ((0:Nat)) (kbroken_a0 v1 v3)).length:Int))/\J5 ((([]++v1.1).set ((0:Nat)) (kbroken_a0 v1 v3)).set v3.toNat {Left:=(ix ([]++v1.1) 0).1,Low:=(ix ([]++v1.1) 0).2,Right:=(ix ([]++v1.1) 0).3,High:=(ix ([]++v1.1) 0).4:api_Rect})) ((kbroken_a1 v3 v1)/\(kbroken_a1 v3 v1)/\J5 (([]++v1.1).set v3.toNat (⟨(ix ([]++v1.1) v3).1,(ix ([]++v1.1) v3).2,(ix ([]++v1.1) v3).3,(ix ([]++v1.1) v3).2⟩:api_Rect))))))))) λ(J7:Bool->Prop)=>IFB (gx false (decide ((↑v1.1.length:Int)=0))) (Int.NonNeg 1099511627770/\∀(v8:Bool),J7 v8) (J7 false)
theorem kbroken_w (side:Int)(most:Int)(post:dens (shT kbroken_sp.rs [])->Prop):kbroken_W side most (λy0=>post (y0,()))=walkG (callR Tryz.prog kbroken_C (drawF Tryz.prog tau) 8 0) 19 true [tv (.int .i64) side,tv (.int .i64) most] kbroken_sp.rs post:=by kernel_rfl
theorem kbroken_of (h:∀side most post,kbroken_P side most post->kbroken_W side most post):SpecOK Tryz.prog kbroken_sp:=SpecOK.of_rules (C:=kbroken_C) (dr:=drawF Tryz.prog tau) (n:=8) (fk:=0) (.cons (rule1_ok kregion_ok) (.cons (rule1_ok knext_ok) (.cons (rule1_ok kone_ok) .nil))) (drawF_ok tau) λx post hp=>HoldW.of (kbroken_w x.1 x.2.1 post) (h x.1 x.2.1 (λy0=>post (y0,())) hp)
theorem kbroken_ok:SpecOK Tryz.prog kbroken_sp:=kbroken_of λside most post hp=>by
 obtain⟨⟨s0,s1,m0,m1⟩,hp⟩:=hp
 unfold kbroken_W kbroken_a1 kbroken_a0
 refine⟨⟨s0,by omega,m0,m1⟩,λv hv _=>JOIN.opq λ(J2:Bool->Prop) hJ2=> ?_⟩
 obtain⟨hval,hbox⟩:=hv
 have hb:∀r∈v.1,r.Right<=side/\r.High<=side/\r.Low<r.High:=λr hr=>by
  have:=canon_box hval.2.2 (x0:=0) (x1:=side) (y0:=0) (y1:=side) (λx y hxy=>by
   obtain⟨b1,b2⟩:=hbox x y hxy
   obtain⟨s,hs,t1,t2,t3,t4⟩:=cov_iff.1 hxy
   obtain⟨p1,_,_,p4,_,_⟩:=hval.2.1 s hs
   omega) r hr
  omega
 have hlen:=hval.1
 have main:∀b:Bool,J2 b:=λb=>by
  rw[hJ2]
  refine IFB.mk (λ_=>hp _ ⟨by show v.1.length<=121;omega,λr hr=>by have:=hb r hr;omega⟩) (λhc=> ?_)
  rw[Bool.or_eq_false_iff] at hc
  have hne:¬(v.1.length:Int)=0:=of_decide_eq_false hc.1
  simp only[List.nil_append]
  refine⟨by omega,λ_=>⟨by omega,λk k0 k1=>JOIN.opq λ(J5:List api_Rect->Prop) hJ5=>⟨.mk _,λw w0 w1=> ?_⟩⟩⟩
  have hk:0<=k/\k<(v.1.length:Int):=by omega
  have hx:=hb _ (ix_mem (l:=v.1) (i:=k) hk.1 hk.2)
  have fin:∀z:List Rc,z.length<=121->(∀r∈z,r.Right<=side+1/\r.High<=side)->J5 z:=λz h1 h2=>by rw[hJ5];exact hp _ ⟨h1,h2⟩
  have hall:∀r∈v.1,r.Right<=side+1/\r.High<=side:=λr hr=>by have:=hb r hr;omega
  have hset:∀(z:List Rc)(i:Nat)(r':Rc),z.length<=121->(∀r∈z,r.Right<=side+1/\r.High<=side)->(r'.Right<=side+1/\r'.High<=side)->(z.set i r').length<=121/\∀r∈z.set i r',r.Right<=side+1/\r.High<=side:=λz i r' h1 h2 h3=>⟨by rw[List.length_set];exact h1,λr hr=>by
   rcases List.mem_or_eq_of_mem_set hr with h|h
   ·exact h2 r h
   ·rw[h];exact h3⟩
  have hp0:=hval.2.1 _ (ix_mem (l:=v.1) (i:=k) hk.1 hk.2)
  refine IFB.mk (λ_=> ?_) (λ_=>IFB.mk (λ_=> ?_) (λ_=>IFB.mk (λ_=> ?_) (λ_=>IFB.mk (λ_=> ?_) (λ_=> ?_))))
  ·have w9:IntKind.i64.wrap ((ix v.1 k).3+1)=(ix v.1 k).3+1:=by
    obtain⟨a1,a2,a3,a4,a5,a6⟩:=hp0
    exact wrap_in (by omega) (by omega)
   rw[w9]
   obtain⟨g1,g2⟩:=hset v.1 k.toNat {Left:=(ix v.1 k).1,Low:=(ix v.1 k).2,Right:=(ix v.1 k).3+1,High:=(ix v.1 k).4} (by omega) hall ⟨by show (ix v.1 k).3+1<=_;omega,hx.2.1⟩
   exact⟨hk,hk,fin _ g1 g2⟩
  ·obtain⟨g1,g2⟩:=hset v.1 k.toNat {Left:= -1,Low:=(ix v.1 k).2,Right:=(ix v.1 k).3,High:=(ix v.1 k).4} (by omega) hall ⟨by show (ix v.1 k).3<=_;omega,hx.2.1⟩
   exact⟨hk,fin _ g1 g2⟩
  ·refine⟨hk,by rw[List.length_singleton];omega,fin _ (by rw[List.length_append];simp;omega) λr hr=> ?_⟩
   rcases List.mem_append.1 hr with h|h
   ·exact hall r h
   ·rw[List.mem_singleton] at h
    subst h
    exact⟨by show (ix v.1 k).3<=_;omega,hx.2.1⟩
  ·have hx0:=hb _ (ix_mem (l:=v.1) (i:=0) (by omega) (by omega))
   obtain⟨g1,g2⟩:=hset v.1 (0:Int).toNat {Left:=(ix v.1 k).1,Low:=(ix v.1 k).2,Right:=(ix v.1 k).3,High:=(ix v.1 k).4} (by omega) hall ⟨by show (ix v.1 k).3<=_;omega,hx.2.1⟩
   obtain⟨g3,g4⟩:=hset _ k.toNat {Left:=(ix v.1 0).1,Low:=(ix v.1 0).2,Right:=(ix v.1 0).3,High:=(ix v.1 0).4} g1 g2 ⟨by show (ix v.1 0).3<=_;omega,hx0.2.1⟩
   refine⟨hk,⟨.mk _,by omega⟩,⟨.mk _,by omega⟩,⟨hk.1,by rw[List.length_set];exact hk.2⟩,fin _ g3 g4⟩
  ·obtain⟨g1,g2⟩:=hset v.1 k.toNat {Left:=(ix v.1 k).1,Low:=(ix v.1 k).2,Right:=(ix v.1 k).3,High:=(ix v.1 k).2} (by omega) hall ⟨by show (ix v.1 k).3<=_;omega,by show (ix v.1 k).2<=_;have:=hx.2.2;have:=hx.2.1;omega⟩
   exact⟨hk,hk,fin _ g1 g2⟩
 first
 |exact IFB.mk (λ_=>⟨.mk _,main⟩) (λ_=>main false)
 |exact IFB.mk (λ_=>⟨.mk _,main⟩) (λ_=>main true)
def kspoilt_P (num:Int)(post:List (api_Parcel)->Prop):Prop:=∀x:List Pc,(szL x/\x.length<=14/\bxL 87 x)->post x
def kspoilt_sp:Spec:=⟨13,true,true,[.int .i64],.dat (.sl (.st .api_Parcel)),λx post=>kspoilt_P (x.1:Int) (λy0=>post (y0,()))⟩
def kspoilt_C:CtxR:=⟨tauD,[rule1 kedits_sp,rule1 rcopD_sp,rule1 knext_sp,rule1 kmod_sp,rule1 kbroken_sp],lookJ []⟩
def kspoilt_W (num:Int)(post:List (api_Parcel)->Prop):Prop:=(Int.NonNeg 7/\Int.NonNeg 1/\Int.NonNeg 4/\(4:Int)<=10)/\∀(v1:List api_Edit)(v2:List api_Parcel),Hist ((7:Nat)) v1 v2->szL v2/\((↑v2.length:Int)<=9223372036854775807->IFB (decide ((↑v2.length:Int)=0)) (post v2) ((↑v2.length:Int)<=9223372036854775807->(↑v2.length:Int)<=9223372036854775807/\∀(v3:Int),0<=v3->v3<(↑v2.length:Int)\/v3=0->((0:Int)<=v3/\v3<(↑v2.length:Int))/\Int.NonNeg 9223372036854775795/\∀(v4:Int),0<=v4->v4<12\/v4=0->IFB (decide (v4=0)) (v3=v3/\post (v2.set v3.toNat (⟨num,(ix v2 v3).2,(ix v2 v3).3,(ix v2 v3).4,(ix v2 v3).5,(ix v2 v3).6⟩:api_Parcel))) (IFB (decide (v4=1)) (((1:Int)<=40/\(40:Int)<=1000000)/\∀(v5:Int),0<=v5->v5<40->v3=v3/\post (v2.set v3.toNat (⟨(ix v2 v3).1,IntKind.i64.wrap (v5-2),(ix v2 v3).3,(ix v2 v3).4,(ix v2 v3).5,(ix v2 v3).6⟩:api_Parcel))) (IFB (decide (v4=2)) (((1:Int)<=40/\(40:Int)<=1000000)/\∀(v6:Int),0<=v6->v6<40->v3=v3/\post (v2.set v3.toNat (⟨(ix v2 v3).1,(ix v2 v3).2,IntKind.i64.wrap (v6-2),(ix v2 v3).4,(ix v2 v3).5,(ix v2 v3).6⟩:api_Parcel))) (IFB (decide (v4=3)) ((v3=v3/\((1:Int)<=9/\(9:Int)<=1000000)/\∀(v7:Int),0<=v7->v7<9->((ix v2 v3).4.length+[v7].length) * (8:Nat)<=140737488355328/\v3=v3/\post (v2.set v3.toNat (⟨(ix v2 v3).1,(ix v2 v3).2,(ix v2 v3).3,(ix v2 v3).4++[v7],(ix v2 v3).5,(ix v2 v3).6⟩:api_Parcel)))/\((1:Int)<=9/\(9:Int)<=1000000)/\∀(v8:Int),0<=v8->v8<9->(v3=v3/\((ix v2 v3).4.length+[v8].length) * (8:Nat)<=140737488355328/\v3=v3/\post (v2.set v3.toNat (⟨(ix v2 v3).1,(ix v2 v3).2,(ix v2 v3).3,(ix v2 v3).4++[v8],(ix v2 v3).5,(ix v2 v3).6⟩:api_Parcel)))/\v3=v3/\((ix v2 v3).4.length+[v8].length) * (8:Nat)<=140737488355328/\v3=v3/\post (v2.set v3.toNat (⟨(ix v2 v3).1,(ix v2 v3).2,(ix v2 v3).3,(ix v2 v3).4++[v8],(ix v2 v3).5,(ix v2 v3).6⟩:api_Parcel))) (IFB (decide (v4=4)) ((v3=v3/\((1:Int)<=40/\(40:Int)<=1000000)/\∀(v9:Int),0<=v9->v9<40->((ix v2 v3).5.length+[v9].length) * (8:Nat)<=140737488355328/\v3=v3/\post (v2.set v3.toNat (⟨(ix v2 v3).1,(ix v2 v3).2,(ix v2 v3).3,(ix v2 v3).4,(ix v2 v3).5++[v9],(ix v2 v3).6⟩:api_Parcel)))/\((1:Int)<=40/\(40:Int)<=1000000)/\∀(v10:Int),0<=v10->v10<40->(v3=v3/\((ix v2 v3).5.length+[v10].length) * (8:Nat)<=140737488355328/\v3=v3/\post (v2.set v3.toNat (⟨(ix v2 v3).1,(ix v2 v3).2,(ix v2 v3).3,(ix v2 v3).4,(ix v2 v3).5++[v10],(ix v2 v3).6⟩:api_Parcel)))/\v3=v3/\((ix v2 v3).5.length+[v10].length) * (8:Nat)<=140737488355328/\v3=v3/\post (v2.set v3.toNat (⟨(ix v2 v3).1,(ix v2 v3).2,(ix v2 v3).3,(ix v2 v3).4,(ix v2 v3).5++[v10],(ix v2 v3).6⟩:api_Parcel))) (IFB (decide (v4=5)) ((v3=v3/\(Int.NonNeg 29/\Int.NonNeg 15970/\Int.NonNeg 2/\(2:Int)<=100)/\∀(v11:api_Region),(v11.1.length<=121/\∀(r:api_Rect),r∈v11.1->r.3<=31/\r.4<=30)->(Int.NonNeg 0/\0<(↑(ix v2 v3).6.length:Int))/\post (v2.set v3.toNat {Number:=(ix v2 v3).1,From:=(ix v2 v3).2,Until:=(ix v2 v3).3,Parents:=(ix v2 v3).4,Days:=(ix v2 v3).5,Regions:=(ix v2 v3).6.set ((0:Nat)) {Rects:=v11.1:api_Region}:api_Parcel}))/\(Int.NonNeg 29/\Int.NonNeg 15970/\Int.NonNeg 2/\(2:Int)<=100)/\∀(v12:api_Region),(v12.1.length<=121/\∀(r:api_Rect),r∈v12.1->r.3<=31/\r.4<=30)->v3=v3/\(Int.NonNeg 0/\0<(↑(ix v2 v3).6.length:Int))/\post (v2.set v3.toNat {Number:=(ix v2 v3).1,From:=(ix v2 v3).2,Until:=(ix v2 v3).3,Parents:=(ix v2 v3).4,Days:=(ix v2 v3).5,Regions:=(ix v2 v3).6.set ((0:Nat)) {Rects:=v12.1:api_Region}:api_Parcel})) (IFB (decide (v4=6)) (v3=v3/\v3=v3/\post (v2.set v3.toNat (⟨(ix v2 v3).1,(ix v2 v3).2,(ix v2 v3).3,(ix v2 v3).4,[],[]⟩:api_Parcel))) (post (v2.set v3.toNat {Number:=(ix v2 v3).1,From:=(ix v2 v3).2,Until:=(ix v2 v3).3,Parents:=(ix v2 v3).4,Days:=(ix v2 v3).5,Regions:=(ix v2 v3).6:api_Parcel}))))))))))
theorem kspoilt_w (num:Int)(post:dens (shT kspoilt_sp.rs [])->Prop):kspoilt_W num (λy0=>post (y0,()))=walkG (stlCP (callR Tryz.prog kspoilt_C (drawF Tryz.prog tauD) 8 0)) 13 true [tv (.int .i64) num] kspoilt_sp.rs post:=by kernel_rfl
theorem kspoilt_of (h:∀num post,kspoilt_P num post->kspoilt_W num post):SpecOK Tryz.prog kspoilt_sp:=SpecOK.of_rulesS (C:=kspoilt_C) (dr:=drawF Tryz.prog tauD) (n:=8) (fk:=0) (.cons (rule1_ok kedits_ok) (.cons (rule1_ok rcopD_ok) (.cons (rule1_ok knext_ok) (.cons (rule1_ok kmod_ok) (.cons (rule1_ok kbroken_ok) .nil))))) (drawF_ok tauD) λx post hp=>HoldW.of (kspoilt_w x.1 post) (h x.1 (λy0=>post (y0,())) hp)
set_option maxHeartbeats 2000000 in
theorem kspoilt_ok:SpecOK Tryz.prog kspoilt_sp:=kspoilt_of λby_ post hp=>by
 unfold kspoilt_W
 refine⟨⟨.mk _,.mk _,.mk _,by omega⟩,λes x hh=>⟨hh.sz,λ_=> ?_⟩⟩
 have hh:Hist 7 es x:=hh
 have hlen:=hh.len
 have hxl:=hh.xl
 have hx14:x.length<=14:=by omega
 have hbx:bxL 87 x:=hh.bx 87 (by omega) (by omega)
 refine IFB.mk (λ_=>hp x ⟨hh.sz,hx14,hbx⟩) (λhne _=>⟨by omega,λk k0 k1=> ?_⟩)
 have hne:¬(x.length:Int)=0:=of_decide_eq_false hne
 have hk:0<=k/\k<(x.length:Int):=by omega
 have hm:ix x k∈x:=ix_mem hk.1 hk.2
 have hsz:=hh.sz.all _ hm
 obtain⟨q1,q2,q3,q4⟩:=hh.few _ hm
 have hbp:=hbx _ hm
 have rg:(ix x k).Regions.length<=1000000/\∀a∈(ix x k).Regions,a.Rects.length<=1000000/\∀r∈a.Rects,r.Right<=87/\r.High<=87:=⟨by omega,λa ha=>⟨hsz.rect a ha,hbp a ha⟩⟩
 have L:∀(a b c:Int)(d e:List Int)(f:List Rn),d.length<=1000000->e.length<=1000000->(f.length<=1000000/\∀a∈f,a.Rects.length<=1000000/\∀r∈a.Rects,r.Right<=87/\r.High<=87)->post (x.set k.toNat ⟨a,b,c,d,e,f⟩):=λa b c d e f hd he hf=>hp _ ⟨⟨by rw[List.length_set];omega,λp hp=>by
  rcases List.mem_or_eq_of_mem_set hp with h|h
  ·exact hh.sz.all p h
  ·subst h;exact⟨he,hf.1,hd,λa ha=>(hf.2 a ha).1⟩⟩,by rw[List.length_set];exact hx14,λp hp=>by
  rcases List.mem_or_eq_of_mem_set hp with h|h
  ·exact hbx p h
  ·subst h;exact λa ha=>(hf.2 a ha).2⟩
 have n4:(ix x k).4.length<=1000000:=by have:(ix x k).Parents.length<=16:=q1;exact Nat.le_trans this (by omega)
 have n5:(ix x k).5.length<=1000000:=by have:(ix x k).Days.length<=es.length+1:=q2;exact Nat.le_trans this (by omega)
 have c4:∀v:Int,((ix x k).4.length+[v].length) * 8<=140737488355328:=λv=>by rw[List.length_singleton];omega
 have c5:∀v:Int,((ix x k).5.length+[v].length) * 8<=140737488355328:=λv=>by rw[List.length_singleton];omega
 have m4:∀v:Int,((ix x k).4++[v]).length<=1000000:=λv=>by
  have:(ix x k).Parents.length<=16:=q1
  have h:(ix x k).4.length<=16:=this
  rw[List.length_append,List.length_singleton];omega
 have m5:∀v:Int,((ix x k).5++[v]).length<=1000000:=λv=>by
  have:(ix x k).Days.length<=es.length+1:=q2
  have h:(ix x k).5.length<=es.length+1:=this
  rw[List.length_append,List.length_singleton];omega
 have r6:(0:Int)<((ix x k).6.length:Int):=by
  have:0<(ix x k).Regions.length:=q4
  have h:0<(ix x k).6.length:=this
  omega
 refine⟨hk,.mk _,λw w0 w1=>IFB.mk (λ_=>⟨rfl,L _ _ _ _ _ _ n4 n5 rg⟩) (λ_=>IFB.mk (λ_=>⟨by omega,λv v0 v1=>⟨rfl,L _ _ _ _ _ _ n4 n5 rg⟩⟩) (λ_=>IFB.mk (λ_=>⟨by omega,λv v0 v1=>⟨rfl,L _ _ _ _ _ _ n4 n5 rg⟩⟩) (λ_=>IFB.mk (λ_=> ?_) (λ_=>IFB.mk (λ_=> ?_) (λ_=>IFB.mk (λ_=> ?_) (λ_=> ?_))))))⟩
 ·have f:∀v:Int,post (x.set k.toNat ⟨(ix x k).1,(ix x k).2,(ix x k).3,(ix x k).4++[v],(ix x k).5,(ix x k).6⟩):=λv=>L _ _ _ _ _ _ (m4 v) n5 rg
  repeat' (first|exact rfl|exact f _|exact c4 _|omega|(intro v v0 v1)|with_reducible apply And.intro)
 ·have f:∀v:Int,post (x.set k.toNat ⟨(ix x k).1,(ix x k).2,(ix x k).3,(ix x k).4,(ix x k).5++[v],(ix x k).6⟩):=λv=>L _ _ _ _ _ _ n4 (m5 v) rg
  repeat' (first|exact rfl|exact f _|exact c5 _|omega|(intro v v0 v1)|with_reducible apply And.intro)
 ·have f:∀v:api_Region,(v.1.length<=121/\∀r∈v.1,r.3<=31/\r.4<=30)->post (x.set k.toNat ⟨(ix x k).1,(ix x k).2,(ix x k).3,(ix x k).4,(ix x k).5,(ix x k).6.set (0:Int).toNat ⟨v.1⟩⟩):=λv hv=>L _ _ _ _ _ _ n4 n5 ⟨by rw[List.length_set];exact rg.1,λa ha=>by
   rcases List.mem_or_eq_of_mem_set ha with h|h
   ·exact rg.2 a h
   ·subst h
    refine⟨by show v.1.length<=1000000;omega,λr hr=> ?_⟩
    have h3:r.3<=31/\r.4<=30:=hv.2 r hr
    have h4:r.Right<=31:=h3.1
    have h5:r.High<=30:=h3.2
    omega⟩
  have hz:Int.NonNeg (0:Int):= .mk _
  repeat' (first|exact rfl|exact hz|exact r6|exact Int.NonNeg.mk _|omega|(intro v hv;have hf:=f v hv)|exact hf|with_reducible apply And.intro)
 ·exact IFB.mk (λ_=>⟨rfl,rfl,L _ _ _ _ _ _ n4 (by simp) ⟨by simp,λa ha=>by cases ha⟩⟩) (λ_=>L _ _ _ _ _ _ n4 n5 rg)
def pawake_P (post:Bool->Prop):Prop:=post true
def pawake_sp:Spec:=⟨11,false,false,[],.dat (.bool),λx post=>pawake_P (λy0=>post (y0,()))⟩
def pawake_C:CtxR:=⟨tau,[rule1 prunV_sp,rule1 pheirsV_sp,rule1 pshareV_sp,rule1 rints_sp],lookJ []⟩
abbrev pawake_a0:={Day:=(5:Int),Known:=(0:Int),Kind:=(3:Int),Parcels:=[(1:Int)],Regions:=[{Rects:=[{Left:=(0:Int),Low:=(0:Int),Right:=(1:Int),High:=(1:Int):api_Rect}]:api_Region},{Rects:=[{Left:=(1:Int),Low:=(0:Int),Right:=(4:Int),High:=(1:Int):api_Rect}]:api_Region}]:api_Edit}
abbrev pawake_a1:={Day:=(0:Int),Known:=(0:Int),Kind:=(1:Int),Parcels:=[],Regions:=[{Rects:=[{Left:=(0:Int),Low:=(0:Int),Right:=(4:Int),High:=(1:Int):api_Rect}]:api_Region}]:api_Edit}
def pawake_W (post:Bool->Prop):Prop:=(Nat.le ((2:Nat)) ((1000000:Nat))/\∀(v1:api_Edit),v1∈[(pawake_a1),(pawake_a0)]->szE v1/\(v1.3=2->False))/\∀(v2:List api_Parcel)(v3 v4:Int),szL v2/\runS [(pawake_a1),(pawake_a0)]=(v2,v3,v4)->szL v2/\∀(v5:List Int)(v6:Int),v5=heirsS v2 (1:Int) 9/\v6=heirE v2 (1:Int) 9->szL v2/\∀(v7:List arr2_i64)(v8:Int),v7=shareS v2 (1:Int) 5/\v8=heirE v2 (1:Int) 5->IFB (gx true (decide (v4=0)&&decide (v3=2)&&decide (v6=0))) (JOIN [Ty.bool] (λ(y9:Bool)=>(gx true (decide (v4=0)&&decide (v3=2)&&decide (v6=0)&&y9&&decide (v8=0))=true->(↑v7.length:Int)<=9223372036854775807)->(gx true (decide (v4=0)&&decide (v3=2)&&decide (v6=0)&&y9&&decide (v8=0)&&decide ((↑v7.length:Int)=2))=true->Int.NonNeg 1/\1<(↑v7.length:Int))/\post (decide (v4=0)&&decide (v3=2)&&decide (v6=0)&&y9&&decide (v8=0)&&decide ((↑v7.length:Int)=2)&&(decide ((ix v7 1).1=3)&&(decide ((ix v7 1).2=3)&&true)))) λ(J10:Bool->Prop)=>IFB (gx true (decide (v4=0)&&decide (v3=2)&&decide (v6=0))) (∀(v11:Bool),(v11=true↔v5=[(2:Int),(3:Int)])->J10 v11) (J10 false)) (JOIN [Ty.bool] (λ(y12:Bool)=>(gx true (decide (v4=0)&&decide (v3=2)&&decide (v6=0)&&y12&&decide (v8=0))=true->(↑v7.length:Int)<=9223372036854775807)->(gx true (decide (v4=0)&&decide (v3=2)&&decide (v6=0)&&y12&&decide (v8=0)&&decide ((↑v7.length:Int)=2))=true->Int.NonNeg 1/\1<(↑v7.length:Int))/\post (decide (v4=0)&&decide (v3=2)&&decide (v6=0)&&y12&&decide (v8=0)&&decide ((↑v7.length:Int)=2)&&(decide ((ix v7 1).1=3)&&(decide ((ix v7 1).2=3)&&true)))) λ(J13:Bool->Prop)=>IFB (gx true (decide (v4=0)&&decide (v3=2)&&decide (v6=0))) False (J13 false))
theorem pawake_w (post:dens (shT pawake_sp.rs [])->Prop):pawake_W (λy0=>post (y0,()))=walkG (callR Tryz.prog pawake_C (drawF Tryz.prog tau) 10 0) 11 false [] pawake_sp.rs post:=by kernel_rfl
theorem pawake_of (h:∀post,pawake_P post->pawake_W post):SpecOK Tryz.prog pawake_sp:=SpecOK.of_rules (C:=pawake_C) (dr:=drawF Tryz.prog tau) (n:=10) (fk:=0) (.cons (rule1_ok prunV_ok) (.cons (rule1_ok pheirsV_ok) (.cons (rule1_ok pshareV_ok) (.cons (rule1_ok rints_ok) .nil)))) (drawF_ok tau) λx post hp=>HoldW.of (pawake_w post) (h (λy0=>post (y0,())) hp)
theorem heirs_go {l:List Pc}{n d:Int}(h:regP l)(h2:l.length<=60)(h3:0<=d)(h4:d<=36864)(h5:1<=n)(h6:n<=(l.length:Int))(h7:(ix l (n-1)).From<=d):heirE l n d=0/\heirsS l n d=heirsL l n d/\shareS l n d=shareL l n d (heirsL l n d):=by
 have e:heirE l n d=0:=heirE_0.2 ⟨check_reg h h2,h3,h4,h5,h6,h7⟩
 refine⟨e,?_,?_⟩
 ·unfold heirsS;rw[if_pos e]
 ·unfold shareS;rw[if_pos e]
theorem hs_yes {d n s u:Int}{ps f r:List Int}{a:Rn}(h:∃k∈ps,k∈f):hStep d (f,r) (pcl n s u ps a)=(f++[n],if s<=d/\d<u then r++[n] else r):=by
 unfold hStep
 rw[if_pos (show ∃k∈(pcl n s u ps a).Parents,k∈(f,r).1 from h)]
 dsimp only
 have hn:n∈f++[n]:=by simp
 by_cases h1:s<=d/\d<u
 ·rw[if_pos (show thereP (pcl n s u ps a) d/\(pcl n s u ps a).Number∈f++[(pcl n s u ps a).Number] from ⟨h1,hn⟩),if_pos h1];rfl
 ·rw[if_neg (show ¬(thereP (pcl n s u ps a) d/\(pcl n s u ps a).Number∈f++[(pcl n s u ps a).Number]) from λh=>h1 h.1),if_neg h1];rfl
theorem hs_no {d n s u:Int}{ps f r:List Int}{a:Rn}(h:¬∃k∈ps,k∈f)(h2:¬(s<=d/\d<u)):hStep d (f,r) (pcl n s u ps a)=(f,r):=by
 unfold hStep
 rw[if_neg (show ¬∃k∈(pcl n s u ps a).Parents,k∈(f,r).1 from h)]
 dsimp only
 rw[if_neg (λh=>h2 h.1)]
theorem heirs_L2 {a b c:Rn}{d e:Int}(h0:0<=d)(h1:d<=e)(h2:e<36865):heirsL (L2 d 36865 a b c) 1 e=[2,3]:=by
 have q:heirsL (L2 d 36865 a b c) 1 e=(hStep e (hStep e (hStep e ([1],[]) (pcl 1 0 d [] a)) (pcl 2 d 36865 [1] b)) (pcl 3 d 36865 [1] c)).2:=rfl
 rw[q,hs_no (d:=e) (n:=1) (s:=0) (u:=d) (ps:=[]) (f:=[1]) (r:=[]) (by simp) (by omega),hs_yes (f:=[1]) ⟨1,by simp,by simp⟩,if_pos ⟨h1,h2⟩,hs_yes (f:=[1]++[2]) ⟨1,by simp,by simp⟩,if_pos ⟨h1,h2⟩]
 rfl
namespace PL
def exA:Rn:=⟨[⟨0,0,4,1⟩]⟩
def exB:Rn:=⟨[⟨0,0,1,1⟩]⟩
def exC:Rn:=⟨[⟨1,0,4,1⟩]⟩
end PL
theorem cov_one {r:Rc}{x y:Int}:cov [r] x y=true↔r.Left<=x/\x<r.Right/\r.Low<=y/\y<r.High:=by
 rw[cov_mem]
 constructor
 ·rintro ⟨q,hq,h⟩;rw[List.mem_singleton.1 hq] at h;exact hit_iff.1 h
 ·exact λh=>⟨r,by simp,hit_iff.2 h⟩
theorem prop_one {r:Rc}(h:proper r):propR ⟨[r]⟩:=⟨by simp,by simp,λq hq=>by
 have hq:q∈[r]:=hq
 rw[List.mem_singleton.1 hq];exact h,canon_one h⟩
theorem ex_parts:Parts exA exB exC where
 pa:=prop_one (by unfold proper;decide)
 pb:=prop_one (by unfold proper;decide)
 pc:=prop_one (by unfold proper;decide)
 dis:=λx y h=>by
  have h1:=cov_one.1 h.1
  have h2:=cov_one.1 h.2
  dsimp only at h1 h2
  omega
 all:=λx y=>by
  rw[Bool.eq_iff_iff,Bool.or_eq_true]
  unfold exA exB exC
  rw[cov_one,cov_one,cov_one]
  dsimp only
  omega
theorem ex_share:ix (shareL (L2 5 36865 exA exB exC) 1 5 [2,3]) 1=⟨3,3⟩:=by
 have e:ix (shareL (L2 5 36865 exA exB exC) 1 5 [2,3]) 1=⟨3,sizeS (canonF (comb (howS 2) exA.Rects exC.Rects))⟩:=rfl
 rw[e,canonF_eq (l:=exC.Rects) ex_parts.pc.2.2.2 λx y=>by
  show _=howS 2 (cov exA.Rects x y) (cov exC.Rects x y)
  rw[ex_parts.all]
  cases cov exB.Rects x y<;>cases cov exC.Rects x y<;>rfl]
 rfl
theorem pawake_ok:SpecOK Tryz.prog pawake_sp:=pawake_of λpost hp=>by
 unfold pawake_W pawake_a1 pawake_a0
 refine⟨⟨by show 2<=1000000;omega,λv h=> ?_⟩,λv2 v3 v4 ⟨hz,hr⟩=>⟨hz,λv5 v6 ⟨h5,h6⟩=>⟨hz,λv7 v8 ⟨h7,h8⟩=> ?_⟩⟩⟩
 ·simp only[List.mem_cons,List.not_mem_nil,or_false] at h
  rcases h with rfl|rfl
  ·exact⟨⟨by show 0<=1000000;omega,by show 1<=1000000;omega,λa ha=>by rw[List.mem_singleton.1 ha];show 1<=1000000;omega⟩,by show (1:Int)=2->False;decide⟩
  ·exact⟨⟨by show 1<=1000000;omega,by show 2<=1000000;omega,λa ha=>by
    simp only[List.mem_cons,List.not_mem_nil,or_false] at ha
    rcases ha with rfl|rfl
    ·show 1<=1000000;omega
    ·show 1<=1000000;omega⟩,by show (3:Int)=2->False;decide⟩
 ·have hr0:=run_2 (d:=5) ex_parts (by decide) (by decide)
  have hr:runS [⟨0,0,1,[],[exA]⟩,⟨5,0,3,[1],[exB,exC]⟩]=(v2,v3,v4):=hr
  rw[hr0] at hr
  injection hr with e2 e34
  injection e34 with e3 e4
  subst e2 e3 e4
  have hreg:=reg_L2 (d:=5) (u:=36865) ex_parts (by decide) (by decide) (by decide) (by decide)
  have hl3:(L2 5 36865 exA exB exC).length=3:=rfl
  obtain⟨g1,g2,_⟩:=heirs_go (n:=1) (d:=9) hreg (by omega) (by decide) (by decide) (by decide) (by rw[hl3];decide) (by show (0:Int)<=9;decide)
  obtain⟨g4,_,g6⟩:=heirs_go (n:=1) (d:=5) hreg (by omega) (by decide) (by decide) (by decide) (by rw[hl3];decide) (by show (0:Int)<=5;decide)
  rw[heirs_L2 (by decide) (by decide) (by decide)] at g2
  rw[heirs_L2 (by decide) (by decide) (by decide)] at g6
  rw[g1] at h6
  rw[g2] at h5
  rw[g6] at h7
  rw[g4] at h8
  have hx:=ex_share
  subst h5 h6 h8
  rw[<-h7] at hx
  have hl7:v7.length=2:=by rw[h7];rfl
  clear h7 g6 g4 g1 g2 hr0 hreg hl3
  refine IFB.yes rfl ?_
  refine JOIN.opq λ(J:Bool->Prop) hJ=> ?_
  refine IFB.yes rfl λv11 h11=> ?_
  have h11:v11=true:=h11.2 rfl
  subst h11
  rw[hJ]
  dsimp only
  refine λ_=>⟨λ_=>⟨Int.NonNeg.mk 1,by omega⟩,?_⟩
  rw[hx,hl7]
  exact hp
def pknown_P (l:List (api_Edit))(day:Int)(post:List (api_Edit)->Int->Prop):Prop:=(l.length<=19/\∀e∈l,szE e)/\∀(x:List Ed)(g:Int),(x=(knownS l day).1/\g=(knownS l day).2)->post x g
def pknown_sp:Spec:=⟨38,false,true,[.sl (.st .api_Edit),.int .i64],.tup [.dat (.sl (.st .api_Edit)),.dat (.int .i64)],λx post=>pknown_P (x.1:List (api_Edit)) (x.2.1:Int) (λy0 y1=>post (y0,y1,()))⟩
def pknown_C:CtxR:=⟨tau,[rule1 pclI_sp,rule1 pclR_sp,rule1 pcpy_sp,ruleNo 204],lookJ [(26610391412,15,⟨[(6,.dat (.int .i64))],[],(List.range' 28 35++[7,8,9]),[],[]⟩),(26610391412,19,⟨[(8,.dat (.int .i64)),(7,.dat (.int .i64))],[],(List.range' 33 16),[],[]⟩),(26610391412,32,⟨[],[],(List.range' 49 12++[9]),[],[]⟩),(27739763033922823,3,⟨[(8,.dat (.int .i64))],[],(List.range' 12 41++[9]),[],[(0,25,(.st .api_Edit))]⟩),(27739763033922823,9,⟨[(9,.dat (.int .i64))],[],(List.range' 18 35),[],[(0,25,(.st .api_Edit))]⟩),(30144335528398783163330718548,0,⟨[(0,.dat (.int .i64))],[],[],[],[]⟩),(26610391412,5,⟨[(8,.dat (.int .i64)),(7,.dat (.int .i64))],[],(List.range' 11 12),[],[(0,25,(.st .api_Edit))]⟩),(27739763033919760,3,⟨[(8,.dat (.int .i64))],[],(List.range' 12 41++[9]),[],[(0,25,(.st .api_Edit))]⟩),(27739763033919760,9,⟨[(9,.dat (.int .i64))],[],(List.range' 18 35),[],[(0,25,(.st .api_Edit))]⟩),(30144335528395454652571251245,0,⟨[(0,.dat (.int .i64))],[],[],[],[]⟩),(0,29,⟨[(55,.dat (.int .i64)),(9,.own 25 (.st .api_Edit))],[],(List.range' 56 35++[11,12,13]),[],[]⟩),(0,48,⟨[(9,.own 25 (.st .api_Edit))],[],(List.range' 57 33++[11,12,13]),[0],[]⟩),(0,39,⟨[(74,.dat (.int .i64))],[],(List.range' 75 11++[12,13]),[],[(3,29,(.st .api_Region))]⟩),(0,1000017,⟨[],[(1,[.dat (.int .i64),.dat (.int .i64),.dat (.int .i64),.own 3 (.int .i64),.own 29 (.st .api_Region)])],[63,64,65,66,67,68,69,70],[],[]⟩),(0,11,⟨[(19,.dat (.int .i64))],[],(List.range' 20 30++[7,8]),[],[]⟩),(0,1000007,⟨[(48,.dat .bool)],[],(List.range' 24 24),[],[]⟩)]⟩
abbrev pknown_a0 (z30:List api_Edit)(z29:Int):=(z30.set z29.toNat {Day:=(ix z30 (IntKind.i64.wrap (z29-(1:Int)))).1,Known:=(ix z30 (IntKind.i64.wrap (z29-(1:Int)))).2,Kind:=(ix z30 (IntKind.i64.wrap (z29-(1:Int)))).3,Parcels:=(ix z30 (IntKind.i64.wrap (z29-(1:Int)))).4,Regions:=(ix z30 (IntKind.i64.wrap (z29-(1:Int)))).5:api_Edit})
abbrev pknown_a1 (z40:List api_Edit)(z39:Int):=(z40.set z39.toNat {Day:=(ix z40 (IntKind.i64.wrap (z39-(1:Int)))).1,Known:=(ix z40 (IntKind.i64.wrap (z39-(1:Int)))).2,Kind:=(ix z40 (IntKind.i64.wrap (z39-(1:Int)))).3,Parcels:=(ix z40 (IntKind.i64.wrap (z39-(1:Int)))).4,Regions:=(ix z40 (IntKind.i64.wrap (z39-(1:Int)))).5:api_Edit})
def pknown_W (l:List (api_Edit))(day:Int)(post:List (api_Edit)->Int->Prop):Prop:=(↑l.length:Int)<=9223372036854775807->IFB (decide ((120:Int)<(↑l.length:Int))) (post [] 1) ((↑l.length:Int)<=9223372036854775807->LOOP [Ty.int IntKind.i64] (λ(rec1:Int->Prop) (z2:Int)=>IFB (decide (z2<(↑l.length:Int))) (((0:Int)<=z2/\z2<(↑l.length:Int))/\JOIN [Ty.bool] (λ(y3:Bool)=>IFB y3 (post [] 9) (rec1 (IntKind.i64.wrap (z2+1)))) λ(J4:Bool->Prop)=>JOIN [Ty.bool] (λ(y5:Bool)=>((gx false (decide ((ix l z2).1<0)||decide ((36864:Int)<(ix l z2).1)||y5)&&gx true (decide ((0:Int)<z2)))=true->0<=IntKind.i64.wrap (z2-1)/\IntKind.i64.wrap (z2-1)<(↑l.length:Int))/\J4 (decide ((ix l z2).1<0)||decide ((36864:Int)<(ix l z2).1)||y5||decide ((0:Int)<z2)&&decide ((ix l z2).2<(ix l (IntKind.i64.wrap (z2-1))).2))/\J4 (decide ((ix l z2).1<0)||decide ((36864:Int)<(ix l z2).1)||y5||decide ((0:Int)<z2)&&decide ((ix l z2).2<(ix l (IntKind.i64.wrap (z2-1))).2))) λ(J6:Bool->Prop)=>IFB (gx false (decide ((ix l z2).1<0)||decide ((36864:Int)<(ix l z2).1))) (J6 (decide ((ix l z2).2<0)||decide ((36864:Int)<(ix l z2).2))) (J6 false)) (IFB (decide (day<0)||decide ((36864:Int)<day)) (post [] 9) ((↑l.length:Int)<=9223372036854775807->LOOP [Ty.int IntKind.i64,(Ty.st Sn.api_Edit).sl] (λ(rec7:Int->List api_Edit->Prop) (z8:Int) (z9:List api_Edit)=>IFB (decide (z8<(↑l.length:Int))) (JOIN [(Ty.st Sn.api_Edit).sl] (λ(y10:List api_Edit)=>rec7 (IntKind.i64.wrap (z8+1)) y10) λ(J11:List api_Edit->Prop)=>((0:Int)<=z8/\z8<(↑l.length:Int))/\IFB (decide (day<(ix l z8).2)) (J11 z9) (JOIN [Ty.int IntKind.i64,Ty.int IntKind.i64,Ty.int IntKind.i64,(Ty.int IntKind.i64).sl,(Ty.st Sn.api_Region).sl] (λ(y12 y13 y14:Int) (y15:List Int) (y16:List api_Region)=>(↑y16.length:Int)<=9223372036854775807->LOOP [Ty.int IntKind.i64,(Ty.st Sn.api_Region).sl] (λ(rec17:Int->List api_Region->Prop) (z18:Int) (z19:List api_Region)=>IFB (decide (z18<(↑y16.length:Int))) (((0:Int)<=z18/\z18<(↑z19.length:Int))/\(ix z19 z18).1.length<=4000000/\((0:Int)<=z18/\z18<(↑z19.length:Int))/\rec17 (IntKind.i64.wrap (z18+1)) (z19.set z18.toNat {Rects:=(ix z19 z18).1:api_Region})) ((z9.length+[(⟨y12,y13,y14,y15,z19⟩:api_Edit)].length) * (72:Nat)<=140737488355328/\J11 (z9++[(⟨y12,y13,y14,y15,z19⟩:api_Edit)]))) ((0:Int),y16,PUnit.unit)) λ(J20:Int->Int->Int->List Int->List api_Region->Prop)=>(ix l z8).4.length<=4000000/\(ix l z8).5.length<=4000000/\J20 (ix l z8).1 (ix l z8).2 (ix l z8).3 (ix l z8).4 (ix l z8).5)) ((↑z9.length:Int)<=9223372036854775807->LOOP [Ty.int IntKind.i64,Ty.int IntKind.i64,(Ty.st Sn.api_Edit).sl] (λ(rec21:Int->Int->List api_Edit->Prop) (z22 z23:Int) (z24:List api_Edit)=>IFB (decide (z22<=(↑z9.length:Int))) (LOOP [Ty.int IntKind.i64,(Ty.st Sn.api_Edit).sl] (λ(rec25:Int->List api_Edit->Prop) (z26:Int) (z27:List api_Edit)=>IFB (decide (z26<z22)) (LOOP [Ty.int IntKind.i64,(Ty.st Sn.api_Edit).sl] (λ(rec28:Int->List api_Edit->Prop) (z29:Int) (z30:List api_Edit)=>(gx true (decide (z23<z29))=true->0<=z29/\z29<(↑z30.length:Int))/\(gx true (decide (z23<z29))=true->0<=IntKind.i64.wrap (z29-1)/\IntKind.i64.wrap (z29-1)<(↑z30.length:Int))/\JOIN [Ty.int IntKind.i64] (λ(y31:Int)=>IFB (decide (z23<z29)&&decide (y31<0)) (((0:Int)<=IntKind.i64.wrap (z29-1)/\IntKind.i64.wrap (z29-1)<(↑z30.length:Int))/\((0:Int)<=z29/\z29<(↑z30.length:Int))/\((0:Int)<=z29/\z29<(↑z30.length:Int))/\((0:Int)<=IntKind.i64.wrap (z29-1)/\IntKind.i64.wrap (z29-1)<(↑(pknown_a0 z30 z29).length:Int))/\rec28 (IntKind.i64.wrap (z29-1)) ((pknown_a0 z30 z29).set (IntKind.i64.wrap (z29-1)).toNat {Day:=(ix z30 z29).1,Known:=(ix z30 z29).2,Kind:=(ix z30 z29).3,Parcels:=(ix z30 z29).4,Regions:=(ix z30 z29).5:api_Edit})) (rec25 (IntKind.i64.wrap (z26+1)) z30)) λ(J32:Int->Prop)=>IFB (gx true (decide (z23<z29))) (JOIN [Ty.int IntKind.i64] (λ(y33:Int)=>J32 y33) λ(J34:Int->Prop)=>IFB (!decide ((ix z30 z29).1=(ix z30 z29).1)) (IFB (!decide ((ix z30 (IntKind.i64.wrap (z29-1))).1=(ix z30 (IntKind.i64.wrap (z29-1))).1)) (J34 0) (J34 (-1:Int))) (IFB (!decide ((ix z30 (IntKind.i64.wrap (z29-1))).1=(ix z30 (IntKind.i64.wrap (z29-1))).1)) (J34 1) (IFB (decide ((ix z30 z29).1<(ix z30 (IntKind.i64.wrap (z29-1))).1)) (J34 (-1:Int)) (IFB (decide ((ix z30 (IntKind.i64.wrap (z29-1))).1<(ix z30 z29).1)) (J34 1) (J34 0))))) (J32 0)) (z26,z27,PUnit.unit)) (rec21 (IntKind.i64.wrap (z22+20)) z22 z27)) (IntKind.i64.wrap (z23+1),z24,PUnit.unit)) (LOOP [Ty.int IntKind.i64,(Ty.st Sn.api_Edit).sl] (λ(rec35:Int->List api_Edit->Prop) (z36:Int) (z37:List api_Edit)=>IFB (decide (z36<(↑z9.length:Int))) (LOOP [Ty.int IntKind.i64,(Ty.st Sn.api_Edit).sl] (λ(rec38:Int->List api_Edit->Prop) (z39:Int) (z40:List api_Edit)=>(gx true (decide (z23<z39))=true->0<=z39/\z39<(↑z40.length:Int))/\(gx true (decide (z23<z39))=true->0<=IntKind.i64.wrap (z39-1)/\IntKind.i64.wrap (z39-1)<(↑z40.length:Int))/\JOIN [Ty.int IntKind.i64] (λ(y41:Int)=>IFB (decide (z23<z39)&&decide (y41<0)) (((0:Int)<=IntKind.i64.wrap (z39-1)/\IntKind.i64.wrap (z39-1)<(↑z40.length:Int))/\((0:Int)<=z39/\z39<(↑z40.length:Int))/\((0:Int)<=z39/\z39<(↑z40.length:Int))/\((0:Int)<=IntKind.i64.wrap (z39-1)/\IntKind.i64.wrap (z39-1)<(↑(pknown_a1 z40 z39).length:Int))/\rec38 (IntKind.i64.wrap (z39-1)) ((pknown_a1 z40 z39).set (IntKind.i64.wrap (z39-1)).toNat {Day:=(ix z40 z39).1,Known:=(ix z40 z39).2,Kind:=(ix z40 z39).3,Parcels:=(ix z40 z39).4,Regions:=(ix z40 z39).5:api_Edit})) (rec35 (IntKind.i64.wrap (z36+1)) z40)) λ(J42:Int->Prop)=>IFB (gx true (decide (z23<z39))) (JOIN [Ty.int IntKind.i64] (λ(y43:Int)=>J42 y43) λ(J44:Int->Prop)=>IFB (!decide ((ix z40 z39).1=(ix z40 z39).1)) (IFB (!decide ((ix z40 (IntKind.i64.wrap (z39-1))).1=(ix z40 (IntKind.i64.wrap (z39-1))).1)) (J44 0) (J44 (-1:Int))) (IFB (!decide ((ix z40 (IntKind.i64.wrap (z39-1))).1=(ix z40 (IntKind.i64.wrap (z39-1))).1)) (J44 1) (IFB (decide ((ix z40 z39).1<(ix z40 (IntKind.i64.wrap (z39-1))).1)) (J44 (-1:Int)) (IFB (decide ((ix z40 (IntKind.i64.wrap (z39-1))).1<(ix z40 z39).1)) (J44 1) (J44 0))))) (J42 0)) (z36,z37,PUnit.unit)) (LOOP [Ty.int IntKind.i64] (λ(rec45:Int->Prop) (z46:Int)=>IFB (decide (z46<(↑z9.length:Int))) (LOOP [Ty.int IntKind.i64,Ty.int IntKind.i64] (λ(rec47:Int->Int->Prop) (z48 z49:Int)=>IFB (decide (z48<=(↑z9.length:Int))) False (JOIN [] (rec45 (IntKind.i64.wrap (z46 * 2))) λ(J50:Prop)=>IFB (decide (IntKind.i64.wrap (z49+z46)<(↑z9.length:Int))) False J50)) (IntKind.i64.wrap ((2:Int) * z46),(0:Int),PUnit.unit)) (post z37 0)) ((20:Int),PUnit.unit))) (IntKind.i64.wrap (z23+1),z24,PUnit.unit))) ((20:Int),(0:Int),z9,PUnit.unit))) ((0:Int),[],PUnit.unit)))) ((0:Int),PUnit.unit))
theorem pknown_w (l:List (api_Edit))(day:Int)(post:dens (shT pknown_sp.rs [])->Prop):pknown_W l day (λy0 y1=>post (y0,y1,()))=walkG (callR Tryz.prog pknown_C (drawF Tryz.prog tau) 12 0) 38 false [tv (.sl (.st .api_Edit)) l,tv (.int .i64) day] pknown_sp.rs post:=by kernel_rfl
theorem pknown_of (h:∀l day post,pknown_P l day post->pknown_W l day post):SpecOK Tryz.prog pknown_sp:=SpecOK.of_rules (C:=pknown_C) (dr:=drawF Tryz.prog tau) (n:=12) (fk:=0) (.cons (rule1_ok pclI_ok) (.cons (rule1_ok pclR_ok) (.cons (rule1_ok pcpy_ok) (.cons (ruleNo_ok 204) .nil)))) (drawF_ok tau) λx post hp=>HoldW.of (pknown_w x.1 x.2.1 post) (h x.1 x.2.1 (λy0 y1=>post (y0,y1,())) hp)
theorem known_take {l:List Ed}{d:Int}{k:Nat}(hk:k<l.length):knownL (l.take (k+1)) d=if (ix l (k:Int)).Known<=d then knownL (l.take k) d++[ix l (k:Int)] else knownL (l.take k) d:=by
 unfold knownL
 rw[List.take_succ_eq_append_getElem hk,List.filter_append,ix_lt hk]
 split
 ·rename_i h;rw[List.filter_cons_of_pos (by simpa using h)];rfl
 ·rename_i h;rw[List.filter_cons_of_neg (by simpa using h),List.filter_nil,List.append_nil]
set_option maxHeartbeats 2000000 in
theorem pknown_ok:SpecOK Tryz.prog pknown_sp:=pknown_of λl day post hp=>by
 obtain⟨⟨hl,he⟩,hp⟩:=hp
 have hp:=hp _ _ ⟨rfl,rfl⟩
 unfold pknown_W pknown_a1 pknown_a0
 intro _
 refine IFB.mk (λh=> ?_) (λ_ _=> ?_)
 ·have h:(120:Int)<(l.length:Int):=of_decide_eq_true h
  omega
 have bad:badK l\/¬okD day->post [] 9:=λh=>by
  have e:knownS l day=([],9):=by unfold knownS;rw[if_pos h]
  rw[e] at hp;exact hp
 refine loopCmp (n:=l.length) (by omega) (p:=λi=>¬badAt l i) (λrec k hk _ hrec=> ?_) λhall=> ?_
 ·refine⟨by omega,JOIN.opq λ(J4:Bool->Prop) hJ4=>JOIN.opq λ(J6:Bool->Prop) hJ6=> ?_⟩
  have k4:∀y:Bool,(y=true↔badAt l k)->J4 y:=λy h=>by
   rw[hJ4]
   refine IFB.mk (λhb=>bad (.inl ⟨k,hk,h.1 hb⟩)) (λhb=>hrec λh2=>by rw[h.2 h2] at hb;cases hb)
  have hprev:∀h0:0<k,IntKind.i64.wrap ((k:Int)-1)=((k-1:Nat):Int):=λh0=>wrapP (by omega) h0
  have k6:∀y:Bool,((decide ((ix l (k:Int)).1<(0:Int))||decide ((36864:Int)<(ix l (k:Int)).1)||y)=true↔(¬okD (ix l (k:Int)).Day\/¬okD (ix l (k:Int)).Known))->J6 y:=λy h=>by
   rw[hJ6]
   dsimp only
   generalize (decide ((ix l (k:Int)).1<(0:Int))||decide ((36864:Int)<(ix l (k:Int)).1)||y)=a at h ⊢
   have main:(a||decide ((0:Int)<(k:Int))&&decide ((ix l (k:Int)).2<(ix l (IntKind.i64.wrap ((k:Int)-(1:Int)))).2))=true↔badAt l k:=by
    unfold badAt
    rw[Bool.or_eq_true,Bool.and_eq_true,decide_eq_true_eq,decide_eq_true_eq,h,or_assoc]
    by_cases h0:0<k
    ·rw[hprev h0]
     have:(0:Int)<(k:Int):=by omega
     simp only[h0,this,true_and]
    ·have:¬(0:Int)<(k:Int):=by omega
     simp only[h0,this,false_and]
   refine⟨λh2=> ?_,k4 _ main,k4 _ main⟩
   have h0:0<k:=by
    rw[Bool.and_eq_true] at h2
    have:=of_decide_eq_true h2.2
    omega
   rw[hprev h0];omega
  refine IFB.mk (λhb=>k6 _ ?_) (λhb=>k6 _ ?_)
  ·rw[gx_f,Bool.not_eq_true'] at hb
   rw[hb]
   rw[Bool.or_eq_false_iff,decide_eq_false_iff_not,decide_eq_false_iff_not] at hb
   unfold okD
   rw[Bool.false_or,Bool.or_eq_true,decide_eq_true_eq,decide_eq_true_eq]
   omega
  ·rw[gx_f,Bool.not_eq_false'] at hb
   rw[hb]
   rw[Bool.or_eq_true,decide_eq_true_eq,decide_eq_true_eq] at hb
   unfold okD
   constructor
   ·intro _;left;omega
   ·intro _;rfl
 refine IFB.mk (λhb=>bad (.inr ?_)) (λhb _=> ?_)
 ·rw[Bool.or_eq_true,decide_eq_true_eq,decide_eq_true_eq] at hb
  unfold okD;omega
 have hok:okD day:=by
  rw[Bool.or_eq_false_iff,decide_eq_false_iff_not,decide_eq_false_iff_not] at hb
  unfold okD;omega
 have e:knownS l day=(isE (knownL l day),0):=by
  unfold knownS
  rw[if_neg]
  rintro (⟨i,hi,h⟩|h)
  ·exact hall i hi h
  ·exact h hok
 rw[e] at hp
 clear bad hall hb e
 refine LOOP.fuel2 (λ(z:Int) (b:List Ed)=>∃k:Nat,z=(k:Int)/\k<=l.length/\b=knownL (l.take k) day) (λz _=>l.length-Int.toNat z) ⟨0,rfl,Nat.zero_le _,rfl⟩ ?_
 rintro rec (z:Int) (b:List Ed) ⟨k,i1,i2,i3⟩ hrec
 subst i1
 have hbl:b.length<=k:=by
  rw[i3];unfold knownL
  exact Nat.le_trans (List.length_filter_le _ _) (by rw[List.length_take];omega)
 refine IFB.mk (λhb=> ?_) (λhb=> ?_)
 ·have hb:(k:Int)<l.length:=of_decide_eq_true hb
  have hk:k<l.length:=by omega
  refine JOIN.opq λ(J11:List Ed->Prop) hJ11=>⟨by omega,?_⟩
  have k11:∀b2:List Ed,b2=knownL (l.take (k+1)) day->J11 b2:=λb2 h=>by
   rw[hJ11]
   show rec (IntKind.i64.wrap ((k:Int)+1)) b2
   rw[wrapS (by omega)]
   exact hrec ((k+1:Nat):Int) _ ⟨k+1,rfl,hk,h⟩ (by show l.length-((k+1:Nat):Int).toNat<l.length-(k:Int).toNat;omega)
  have hs:=he _ (ix_mem (l:=l) (i:=(k:Int)) (by omega) (by omega))
  refine IFB.mk (λhc=>k11 _ ?_) (λhc=> ?_)
  ·have hc:day<(ix l (k:Int)).Known:=of_decide_eq_true hc
   rw[known_take hk,if_neg (by omega)];exact i3
  have hc:¬day<(ix l (k:Int)).Known:=of_decide_eq_false hc
  refine JOIN.opq λ(J20:Int->Int->Int->List Int->List api_Region->Prop) hJ20=>⟨by have:=hs.pars;omega,by have:=hs.regs;omega,?_⟩
  rw[hJ20]
  refine λ_=>LOOP.fuel2 (λ(u:Int) (c:List api_Region)=>∃j:Nat,u=(j:Int)/\j<=(ix l (k:Int)).5.length/\c=(ix l (k:Int)).5) (λu _=>(ix l (k:Int)).5.length-Int.toNat u) ⟨0,rfl,Nat.zero_le _,rfl⟩ ?_
  rintro rec2 (u:Int) (c:List api_Region) ⟨j,j1,j2,j3⟩ hrec2
  subst j1 j3
  refine IFB.mk (λhd=> ?_) (λhd=> ?_)
  ·have hd:(j:Int)<(ix l (k:Int)).5.length:=of_decide_eq_true hd
   have hj:j<(ix l (k:Int)).5.length:=by omega
   refine⟨by omega,?_,by omega,?_⟩
   ·have:=hs.rect _ (ix_mem (l:=(ix l (k:Int)).5) (i:=(j:Int)) (by omega) (by omega));omega
   ·rw[wrapS (by have:=hs.regs;omega)]
    have e:(ix l (k:Int)).5.set (j:Int).toNat {Rects:=(ix (ix l (k:Int)).5 (j:Int)).1}=(ix l (k:Int)).5:=by
     show List.set _ j (ix (ix l (k:Int)).5 (j:Int))=_
     rw[ix_lt hj];exact List.set_getElem_self hj
    rw[e]
    exact hrec2 ((j+1:Nat):Int) _ ⟨j+1,rfl,hj,rfl⟩ (by show (ix l (k:Int)).5.length-((j+1:Nat):Int).toNat<(ix l (k:Int)).5.length-(j:Int).toNat;omega)
  ·refine⟨by simp only[List.length_cons,List.length_nil];omega,k11 _ ?_⟩
   rw[known_take hk,if_pos (by omega),<-i3]
 have hb:¬(k:Int)<l.length:=of_decide_eq_false hb
 have hk:k=l.length:=by omega
 rw[hk,List.take_length] at i3
 rw[<-i3] at hp
 have hb19:b.length<=19:=by omega
 clear i3 i2 hrec hbl hb hk
 intro _
 refine LOOP.fuel3 (λ(z y:Int) (c:List Ed)=>z=20/\y=0/\c=b) (λ_ _ _=>0) ⟨rfl,rfl,rfl⟩ ?_
 rintro rec3 (z:Int) (y:Int) (c:List Ed) ⟨rfl,rfl,rfl⟩ _
 refine IFB.mk (λh=> ?_) (λ_=> ?_)
 ·have h:(20:Int)<=(c.length:Int):=of_decide_eq_true h
  omega
 refine LOOP.fuel2 (λ(z:Int) (d:List Ed)=>∃k:Nat,z=(k:Int)/\1<=k/\(k<=c.length\/k=1)/\d=isE (c.take k)++c.drop k) (λz _=>100-Int.toNat z) ⟨1,rfl,Nat.le_refl _,.inr rfl,?_⟩ ?_
 ·cases c with
  |nil=>rfl
  |cons x r=>rfl
 rintro rec4 (z:Int) (d:List Ed) ⟨k,i1,i2,i3,i4⟩ hrec4
 subst i1
 refine IFB.mk (λhk=> ?_) (λhk=> ?_)
 rotate_left
 ·have hk:¬(k:Int)<c.length:=of_decide_eq_false hk
  rw[List.take_of_length_le (by omega),List.drop_eq_nil_of_le (by omega),List.append_nil] at i4
  subst i4
  refine LOOP.fuel (λu=>u=((20:Int),())) (λ_=>0) rfl ?_
  rintro rec5 _ rfl _
  show IFB _ _ _
  refine IFB.mk (λhb=> ?_) (λ_=>hp)
  have hb:(20:Int)<c.length:=of_decide_eq_true hb
  omega
 have hk:(k:Int)<c.length:=of_decide_eq_true hk
 have hkl:k<c.length:=by omega
 have hsl:(isE (c.take k)).length=k:=by rw[isE_len,List.length_take];omega
 have hdk:c.drop k=ix c (k:Int)::c.drop (k+1):=by rw[ix_lt hkl];exact List.drop_eq_getElem_cons hkl
 have hnx:isE (c.take (k+1))=bub (isE (c.take k)) (ix c (k:Int)) k:=by rw[List.take_succ_eq_append_getElem hkl,isE_app,ix_lt hkl,hsl]
 rw[hdk] at i4
 generalize isE (c.take k)=S at *
 generalize ix c (k:Int)=x at *
 have hR:(c.drop (k+1)).length=c.length-(k+1):=List.length_drop ..
 generalize hRd:c.drop (k+1)=R at *
 refine LOOP.fuel2 (λ(z:Int) (d:List Ed)=>∃j:Nat,z=(j:Int)/\j<=k/\d=S.take j++x::(S.drop j++R)/\bub S x k=bub S x j) (λz _=>Int.toNat z) ⟨k,rfl,Nat.le_refl _,by rw[i4,List.take_of_length_le (by omega),List.drop_eq_nil_of_le (by omega)];rfl,rfl⟩ ?_
 rintro rec5 (z:Int) (d:List Ed) ⟨j,j1,j2,j3,j4⟩ hrec5
 subst j1
 have htk:(S.take j).length=j:=by rw[List.length_take];omega
 have hdl:d.length=c.length:=by
  rw[j3,List.length_append,List.length_cons,List.length_append,htk,List.length_drop];omega
 have done:(∀h0:0<j,¬x.Day<(ix S ((j-1:Nat):Int)).Day)->rec4 (IntKind.i64.wrap ((k:Int)+1)) d:=λh=>by
  rw[wrapS (by omega)]
  refine hrec4 ((k+1:Nat):Int) _ ⟨k+1,rfl,by omega,.inl hkl,?_⟩ (by show 100-((k+1:Nat):Int).toNat<100-(k:Int).toNat;omega)
  rw[hnx,j4,hRd,j3]
  cases j with
  |zero=>rfl
  |succ j=>
   have hn:¬x.Day<(ix S (j:Int)).Day:=h (by omega)
   unfold bub
   rw[if_neg hn,List.append_assoc];rfl
 have hw:∀h0:0<j,IntKind.i64.wrap ((j:Int)-1)=((j-1:Nat):Int):=λh0=>wrapP (by omega) h0
 refine⟨λh=>by omega,λh=> ?_,JOIN.opq λ(J32:Int->Prop) hJ32=> ?_⟩
 ·have h:(0:Int)<(j:Int):=of_decide_eq_true h
  rw[hw (by omega)];omega
 have k32:∀y:Int,(∀h0:0<j,(y<0↔x.Day<(ix S ((j-1:Nat):Int)).Day))->J32 y:=λy h=>by
  rw[hJ32]
  refine IFB.mk (λhb=> ?_) (λhb=>done λh0 h2=> ?_)
  ·rw[Bool.and_eq_true,decide_eq_true_eq,decide_eq_true_eq] at hb
   obtain⟨b1,b2⟩:=hb
   obtain⟨i,rfl⟩:∃i,j=i+1:=⟨j-1,by omega⟩
   have b2:=(h (by omega)).1 b2
   rw[show i+1-1=i by omega] at b2
   obtain⟨s1,s2⟩:=bub_step (S:=S) (R:=R) (x:=x) (j:=i) (by omega)
   have tl:(S.take i).length=i:=by rw[List.length_take];omega
   have e1:ix d (((i+1:Nat):Nat):Int)=x:=by
    rw[j3];exact at_mid htk.symm
   have e2:ix d (i:Int)=ix S (i:Int):=by
    rw[j3,s1];exact at_mid tl.symm
   rw[hw (by omega)]
   rw[show i+1-1=i by omega]
   refine⟨by omega,by omega,by omega,by rw[List.length_set];omega,?_⟩
   refine hrec5 (i:Int) _ ⟨i,rfl,by omega,?_,?_⟩ (by show (i:Int).toNat<((i+1:Nat):Int).toNat;omega)
   ·show (d.set (((i+1:Nat):Int)).toNat (ix d (i:Int))).set (i:Int).toNat (ix d ((i+1:Nat):Int))=_
    rw[e1,e2,j3,s1]
    have:=swap_at (P:=S.take i) (a:=ix S (i:Int)) (b:=x) (Q:=S.drop (i+1)++R)
    rw[tl] at this
    show ((S.take i++ix S (i:Int)::x::(S.drop (i+1)++R)).set (i+1) (ix S (i:Int))).set i x=_
    rw[this,s2]
   ·rw[j4]
    show (if x.Day<(ix S (i:Int)).Day then bub S x i else _)=_
    rw[if_pos b2]
  ·have:(decide ((0:Int)<(j:Int))&&decide (y<0))=true:=by
    rw[Bool.and_eq_true,decide_eq_true_eq,decide_eq_true_eq]
    exact⟨by omega,(h h0).2 h2⟩
   rw[this] at hb;cases hb
 refine IFB.mk (λhb=> ?_) (λhb=>k32 _ λh0=> ?_)
 ·have hb:(0:Int)<(j:Int):=of_decide_eq_true hb
  obtain⟨i,rfl⟩:∃i,j=i+1:=⟨j-1,by omega⟩
  obtain⟨s1,s2⟩:=bub_step (S:=S) (R:=R) (x:=x) (j:=i) (by omega)
  have tl:(S.take i).length=i:=by rw[List.length_take];omega
  have e1:ix d (((i+1:Nat):Nat):Int)=x:=by
   rw[j3];exact at_mid htk.symm
  have e2:ix d (i:Int)=ix S (i:Int):=by
   rw[j3,s1];exact at_mid tl.symm
  rw[hw (by omega)]
  rw[show i+1-1=i by omega,e1,e2]
  rw[show i+1-1=i by omega] at k32
  refine JOIN.opq λ(J34:Int->Prop) hJ34=> ?_
  have k34:∀y:Int,(y<0↔x.Day<(ix S (i:Int)).Day)->J34 y:=λy h=>by
   rw[hJ34]
   exact k32 y λ_=>h
  refine IFB.mk (λhc=>by simp at hc) (λ_=>IFB.mk (λhc=>by simp at hc) (λ_=>IFB.mk (λhc=>k34 _ ?_) (λhc=>IFB.mk (λhc2=>k34 _ ?_) (λhc2=>k34 _ ?_))))
  ·have hc:x.Day<(ix S (i:Int)).Day:=of_decide_eq_true hc
   omega
  ·have hc:¬x.Day<(ix S (i:Int)).Day:=of_decide_eq_false hc
   omega
  ·have hc:¬x.Day<(ix S (i:Int)).Day:=of_decide_eq_false hc
   omega
 ·have hb:¬(0:Int)<(j:Int):=of_decide_eq_false hb
  omega
theorem on_len {l:List Pc}(h:szL l){n d:Int}:(onS l n d).Rects.length<=1000000:=by
 by_cases hp:onP l n d
 ·obtain⟨h1,h2⟩:=on_mem hp (checkS_0.1 hp.2.2.1).2
  exact (h.all _ h2).rect _ h1
 ·unfold onS
  rw[if_neg hp]
  simp
theorem share_len {l:List Pc}(h:szL l){n d:Int}:(shareS l n d).length<=1000000:=by
 unfold shareS
 split
 ·unfold shareL
  rw[List.length_map]
  exact Nat.le_trans heirsL_len h.len
 ·simp
theorem known_mem {l:List Ed}{d:Int}{e:Ed}(h:e∈(knownS l d).1):e∈l:=by
 unfold knownS at h
 split at h
 ·cases h
 ·exact (List.mem_filter.1 (isE_perm.mem_iff.1 h)).1
theorem known_len {l:List Ed}{d:Int}:(knownS l d).1.length<=l.length:=by
 unfold knownS
 split
 ·simp
 ·show (isE _).length<=_
  rw[isE_len]
  exact List.length_filter_le _ _
def lLooks_C:CtxR:=⟨tau,[ruleN 12,rule1 keditsO_sp,rule1 kone_sp,rule1 knext_sp,rule1 kmod_sp,rule1 prunA_sp,rule1 rrun_sp,rule1 rsame10_sp,rule1 kspoilt_sp,rule1 popen_sp,rule1 ropen_sp,rule1 rints_sp,rule1 pon_sp,rule1 ron_sp,rule1 pheirsV_sp,rule1 rheirs_sp,rule1 pshareV_sp,rule1 rshare_sp,rule1 rsame_sp,rule1 lpairs_sp,rule1 pknown_sp,rule1 rknown_sp,rule1 redits_sp,rule1 pawake_sp],lookJ [(0,69,⟨[(218,.dat (.int .i64))],[],(List.range' 37 5++List.range' 219 25),[],[]⟩),(0,25,⟨[(107,.dat (.int .i64))],[],(List.range' 23 13++List.range' 108 105++[19,21]),[],[]⟩),(0,31,⟨[(116,.dat (.int .i64))],[],(List.range' 23 13++List.range' 117 95++[21]),[],[]⟩),(0,41,⟨[(133,.dat (.int .i64))],[],(List.range' 23 13++List.range' 134 77),[],[]⟩),(0,12,⟨[],[],(List.range' 49 25++[10]),[],[(0,25,(.st .api_Edit))]⟩)]⟩
abbrev lLooks_a0 (v1:List api_Edit)(v56:Int)(v57:Int):=(v1.set v56.toNat {Day:=IntKind.i64.wrap (v57-(3:Int)),Known:=(ix v1 v56).2,Kind:=(ix v1 v56).3,Parcels:=(ix v1 v56).4,Regions:=(ix v1 v56).5:api_Edit})
def lLooks_W (num:Int)(day:Int)(l:List (Int))(post:Bool->Prop):Prop:=(Int.NonNeg 8/\Int.NonNeg 0/\Int.NonNeg 4/\(4:Int)<=10)/\∀(v1:List api_Edit)(v2:List api_Parcel),Hist ((8:Nat)) v1 v2->JOIN [(Ty.st Sn.api_Edit).sl] (λ(y3:List api_Edit)=>(y3.length<=1000000/\∀(v4:api_Edit),v4∈y3->szE v4)/\∀(v5:List api_Parcel)(v6 v7:Int),szL v5/\runS y3=(v5,v6,v7)->(y3.length<=1000000/\∀(v8:api_Edit),v8∈y3->szE v8/\∀(v9:api_Region),v9∈v8.5->∀(v10:api_Rect),v10∈v9.1->((0:Int)<=v10.1/\v10.1<v10.3/\v10.3<=16384/\0<=v10.2/\v10.2<v10.4/\v10.4<=16384)/\v10.3<=100/\v10.4<=100)/\∀(v11:List api_Parcel)(v12 v13:Int),szL v11/\runS y3=(v11,v12,v13)->szL v5/\∀(v14:Bool),(v14=true↔v5=v11)->IFB (!v14|| !decide (v6=v12)|| !decide (v7=v13)) (post false) (∀(v15:List api_Parcel),szL v15/\v15.length<=14/\bxL (87:Int) v15->(↑[v2,v15].length:Int)<=9223372036854775807->LOOP [Ty.int IntKind.i64] (λ(rec16:Int->Prop) (z17:Int)=>IFB (decide (z17<(↑[v2,v15].length:Int))) (((0:Int)<=z17/\z17<(↑[v2,v15].length:Int))/\((1:Int)<=45/\(45:Int)<=1000000)/\∀(v18:Int),0<=v18->v18<45->(↑[day,v18].length:Int)<=9223372036854775807->LOOP [Ty.int IntKind.i64] (λ(rec19:Int->Prop) (z20:Int)=>IFB (decide (z20<(↑[day,v18].length:Int))) (((0:Int)<=z20/\z20<(↑[day,v18].length:Int))/\szL (ix [v2,v15] z17)/\szL (ix [v2,v15] z17)/\∀(v21:Bool),(v21=true↔openS (ix [v2,v15] z17) (ix [day,v18] z20)=openS (ix [v2,v15] z17) (ix [day,v18] z20))->IFB (!v21) (post false) (((1:Int)<=12/\(12:Int)<=1000000)/\∀(v22:Int),0<=v22->v22<12->(↑[num,v22].length:Int)<=9223372036854775807->LOOP [Ty.int IntKind.i64] (λ(rec23:Int->Prop) (z24:Int)=>IFB (decide (z24<(↑[num,v22].length:Int))) (((0:Int)<=z24/\z24<(↑[num,v22].length:Int))/\szL (ix [v2,v15] z17)/\∀(v25:List api_Rect)(v26:Bool),v25=(onS (ix [v2,v15] z17) (ix [num,v22] z24) (ix [day,v18] z20)).1/\(v26=true↔onP (ix [v2,v15] z17) (ix [num,v22] z24) (ix [day,v18] z20))->szL (ix [v2,v15] z17)/\∀(v27:List api_Rect)(v28:Bool),v27=(onS (ix [v2,v15] z17) (ix [num,v22] z24) (ix [day,v18] z20)).1/\(v28=true↔onP (ix [v2,v15] z17) (ix [num,v22] z24) (ix [day,v18] z20))->szL (ix [v2,v15] z17)/\∀(v29:List Int)(v30:Int),v29=heirsS (ix [v2,v15] z17) (ix [num,v22] z24) (ix [day,v18] z20)/\v30=heirE (ix [v2,v15] z17) (ix [num,v22] z24) (ix [day,v18] z20)->szL (ix [v2,v15] z17)/\∀(v31:List Int)(v32:Int),v31=heirsS (ix [v2,v15] z17) (ix [num,v22] z24) (ix [day,v18] z20)/\v32=heirE (ix [v2,v15] z17) (ix [num,v22] z24) (ix [day,v18] z20)->szL (ix [v2,v15] z17)/\∀(v33:List arr2_i64)(v34:Int),v33=shareS (ix [v2,v15] z17) (ix [num,v22] z24) (ix [day,v18] z20)/\v34=heirE (ix [v2,v15] z17) (ix [num,v22] z24) (ix [day,v18] z20)->szL (ix [v2,v15] z17)/\∀(v35:List arr2_i64)(v36:Int),v35=shareS (ix [v2,v15] z17) (ix [num,v22] z24) (ix [day,v18] z20)/\v36=heirE (ix [v2,v15] z17) (ix [num,v22] z24) (ix [day,v18] z20)->v25.length<=1000000000/\∀(v37:Bool),(v37=true↔(⟨v25⟩:api_Region)=(⟨v27⟩:api_Region))->JOIN [Ty.bool] (λ(y38:Bool)=>JOIN [Ty.bool] (λ(y39:Bool)=>IFB (!v37|| !v26==v28|| !y38|| !decide (v30=v32)|| !y39|| !decide (v34=v36)) (post false) (rec23 (IntKind.i64.wrap (z24+1)))) λ(J40:Bool->Prop)=>IFB (gx false (!v37|| !v26==v28|| !y38|| !decide (v30=v32))) (v33.length<=1000000/\∀(v41:Bool),(v41=true↔v33=v35)->J40 v41) (J40 false)) λ(J42:Bool->Prop)=>IFB (gx false (!v37|| !v26==v28)) (∀(v43:Bool),(v43=true↔v29=v31)->J42 v43) (J42 false)) (rec19 (IntKind.i64.wrap (z20+1)))) ((0:Int),PUnit.unit))) (rec16 (IntKind.i64.wrap (z17+1)))) ((0:Int),PUnit.unit)) (((1:Int)<=45/\(45:Int)<=1000000)/\∀(v44:Int),0<=v44->v44<45->(↑[day,v44].length:Int)<=9223372036854775807->LOOP [Ty.int IntKind.i64] (λ(rec45:Int->Prop) (z46:Int)=>IFB (decide (z46<(↑[day,v44].length:Int))) (((0:Int)<=z46/\z46<(↑[day,v44].length:Int))/\(y3.length<=19/\∀(v47:api_Edit),v47∈y3->szE v47)/\∀(v48:List api_Edit)(v49:Int),v48=(knownS y3 (ix [day,v44] z46)).1/\v49=(knownS y3 (ix [day,v44] z46)).2->y3.length<=19/\∀(v50:List api_Edit)(v51:Int),v50=(knownS y3 (ix [day,v44] z46)).1/\v51=(knownS y3 (ix [day,v44] z46)).2->(v48.length<=1000000/\∀(v52:api_Edit),v52∈v48->szE v52)/\∀(v53:Bool),(v53=true↔v48=v50)->IFB (!v53|| !decide (v49=v51)) (post false) (rec45 (IntKind.i64.wrap (z46+1)))) (post true)) ((0:Int),PUnit.unit))) ((0:Int),PUnit.unit))) λ(J54:List api_Edit->Prop)=>Int.NonNeg 1099511627773/\∀(v55:Bool),(gx true v55=true->(↑v1.length:Int)<=9223372036854775807)->IFB (v55&&decide ((0:Int)<(↑v1.length:Int))) ((↑v1.length:Int)<=9223372036854775807->(↑v1.length:Int)<=9223372036854775807/\∀(v56:Int),0<=v56->v56<(↑v1.length:Int)\/v56=0->((1:Int)<=50/\(50:Int)<=1000000)/\∀(v57:Int),0<=v57->v57<50->((1:Int)<=50/\(50:Int)<=1000000)/\∀(v58:Int),0<=v58->v58<50->((0:Int)<=v56/\v56<(↑v1.length:Int))/\((0:Int)<=v56/\v56<(↑(lLooks_a0 v1 v56 v57).length:Int))/\J54 ((lLooks_a0 v1 v56 v57).set v56.toNat (⟨(ix (lLooks_a0 v1 v56 v57) v56).1,IntKind.i64.wrap (v58-3),(ix (lLooks_a0 v1 v56 v57) v56).3,(ix (lLooks_a0 v1 v56 v57) v56).4,(ix (lLooks_a0 v1 v56 v57) v56).5⟩:api_Edit))) (J54 v1)
theorem lLooks_w (num:Int)(day:Int)(l:List (Int))(post:Bool->Prop):lLooks_W num day l post=lawG (callR Tryz.prog lLooks_C (drawF Tryz.prog tau) 12 0) 9 [tv (.int .i64) num,tv (.int .i64) day,tv (.sl (.int .i64)) l] post:=by kernel_rfl
theorem lLooks_calls (num:Int)(day:Int)(l:List (Int))(h:lLooks_W num day l λb=>b=true){w:World}{S:Cells}{us:List Value}(h1:∀b o,S b o->b<w.heap.size)(h3:us.length=3)(h4:∀(i:Nat)(d:D)(u:Value),[tv (.int .i64) num,tv (.int .i64) day,tv (.sl (.int .i64)) l][i]? =some d->us[i]? =some u->Rd S w d u):Calls Tryz.prog 9 us.toArray w λe w'=>(∃b,e= .returned (.bool b)/\b=true)/\Below w.heap.size w w':=lawG_okH (cp:=callR Tryz.prog lLooks_C (drawF Tryz.prog tau) 12 0) (callR_ok (C:=lLooks_C) (dr:=drawF Tryz.prog tau) (.cons (ruleN_ok knew_ok) (.cons (rule1_ok keditsO_ok) (.cons (rule1_ok kone_ok) (.cons (rule1_ok knext_ok) (.cons (rule1_ok kmod_ok) (.cons (rule1_ok prunA_ok) (.cons (rule1_ok rrun_ok) (.cons (rule1_ok rsame10_ok) (.cons (rule1_ok kspoilt_ok) (.cons (rule1_ok popen_ok) (.cons (rule1_ok ropen_ok) (.cons (rule1_ok rints_ok) (.cons (rule1_ok pon_ok) (.cons (rule1_ok ron_ok) (.cons (rule1_ok pheirsV_ok) (.cons (rule1_ok rheirs_ok) (.cons (rule1_ok pshareV_ok) (.cons (rule1_ok rshare_ok) (.cons (rule1_ok rsame_ok) (.cons (rule1_ok lpairs_ok) (.cons (rule1_ok pknown_ok) (.cons (rule1_ok rknown_ok) (.cons (rule1_ok redits_ok) (.cons (rule1_ok pawake_ok) .nil)))))))))))))))))))))))) (drawF_ok tau) 12 0) (HoldW.of (lLooks_w num day l λb=>b=true) h) h1 h3 h4
set_option maxHeartbeats 4000000 in
theorem lLooks_h (num:Int)(day:Int)(l:List Int)(_:(Lit.int .i64 num).wf=true)(_:(Lit.int .i64 day).wf=true):lLooks_W num day l λb=>b=true:=by
 unfold lLooks_W lLooks_a0
 refine⟨⟨.mk _,.mk _,.mk _,by omega⟩,λes x hh=>JOIN.opq λ(J:List api_Edit->Prop) hJ=> ?_⟩
 have hh:Hist 8 es x:=hh
 have main:∀y:List Ed,(y.length<=8/\∀e∈y,szE e/\bxE 95 e)->J y:=λy hy=>by
  obtain⟨hy,he⟩:=hy
  rw[hJ]
  have hes:∀e∈y,szE e:=λe h=>(he e h).1
  refine⟨⟨by omega,hes⟩,λa n g ha=>⟨⟨by omega,λe h=>⟨hes e h,bxE_mono (N:=100) (by omega) (he e h).2⟩⟩,λb m f hb=>⟨ha.1,λq hq=> ?_⟩⟩⟩
  obtain⟨ha,hr⟩:=ha
  obtain⟨hb,hr2⟩:=hb
  rw[hr] at hr2
  injection hr2 with h1 h2
  injection h2 with h2 h3
  subst h1 h2 h3
  have hq:q=true:=hq.2 rfl
  subst hq
  refine IFB.no (by simp) λz hz _=> ?_
  obtain⟨hz,hz14,hzb⟩:=hz
  refine loopCmp (n:=[x,z].length) (by simp) (p:=λ_=>True) (λrec k hk _ hrec=>⟨⟨by omega,by omega⟩,⟨by omega,by omega⟩,λd2 d0 d1 _=> ?_⟩) (λ_=>⟨⟨by omega,by omega⟩,λd2 d0 d1 _=> ?_⟩)
  ·have hs:szL (ix [x,z] (k:Int)):=by
    have h:=ix_mem (l:=[x,z]) (i:=(k:Int)) (by omega) (by omega)
    rw[List.mem_cons,List.mem_singleton] at h
    rcases h with h|h<;>rw[h]
    ·exact hh.sz
    ·exact hz
   generalize ix [x,z] (k:Int)=Y at hs ⊢
   refine loopCmp (n:=[day,d2].length) (by simp) (p:=λ_=>True) (λrec2 i hi _ hrec2=>⟨⟨by omega,by omega⟩,hs,hs,λq hq=> ?_⟩) (λ_=>hrec trivial)
   generalize ix [day,d2] (i:Int)=D at hq ⊢
   have hq:q=true:=hq.2 rfl
   refine IFB.no (by rw[hq];rfl) ⟨⟨by omega,by omega⟩,λk2 k0 k1 _=> ?_⟩
   refine loopCmp (n:=[num,k2].length) (by simp) (p:=λ_=>True) (λrec3 j hj _ hrec3=>⟨⟨by omega,by omega⟩,hs,λa1 b1 hA=>⟨hs,λa2 b2 hB=>⟨hs,λh1 g1 hC=>⟨hs,λh2 g2 hD=>⟨hs,λs1 i1 hE=>⟨hs,λs2 i2 hF=>⟨?_,λq1 hq1=> ?_⟩⟩⟩⟩⟩⟩⟩) (λ_=>hrec2 trivial)
   ·rw[hA.1]
    have:=on_len hs (n:=ix [num,k2] (j:Int)) (d:=D)
    exact Nat.le_trans this (by omega)
   ·have b12:b1=b2:=Bool.eq_iff_iff.2 (hA.2.trans hB.2.symm)
    have hq1:q1=true:=hq1.2 (by rw[hA.1,hB.1])
    have hg:g1=g2:=hC.2.trans hD.2.symm
    have hi:i1=i2:=hE.2.trans hF.2.symm
    subst b12 hg hi hq1
    refine JOIN.opq λ(J42:Bool->Prop) hJ42=>IFB.yes (by simp[gx]) λq2 hq2=> ?_
    have hq2:q2=true:=hq2.2 (hC.1.trans hD.1.symm)
    subst hq2
    rw[hJ42]
    refine JOIN.opq λ(J40:Bool->Prop) hJ40=>IFB.yes (by simp[gx]) ⟨?_,λq3 hq3=> ?_⟩
    ·rw[hE.1];exact share_len hs
    ·have hq3:q3=true:=hq3.2 (hE.1.trans hF.1.symm)
     subst hq3
     rw[hJ40]
     exact IFB.no (by simp) (hrec3 trivial)
  ·refine loopCmp (n:=[day,d2].length) (by simp) (p:=λ_=>True) (λrec k hk _ hrec=>⟨⟨by omega,by omega⟩,⟨by omega,hes⟩,λa1 g1 hA=>⟨by omega,λa2 g2 hB=>⟨⟨?_,?_⟩,λq hq=> ?_⟩⟩⟩) (λ_=>rfl)
   ·rw[hA.1]
    exact Nat.le_trans known_len (by omega)
   ·rw[hA.1]
    exact λe h=>hes e (known_mem h)
   ·have hq:q=true:=hq.2 (hA.1.trans hB.1.symm)
    have hg:g1=g2:=hA.2.trans hB.2.symm
    subst hq hg
    exact IFB.no (by simp) (hrec trivial)
 have h0:es.length<=8/\∀e∈es,szE e/\bxE 95 e:=⟨hh.len,λe h=>⟨(hh.ed e h).1,(hh.ed e h).2.1⟩⟩
 clear hJ
 have st:∀(y:List Ed)(k a b:Int),0<=k/\k<(y.length:Int)->(y.length<=8/\∀e∈y,szE e/\bxE 95 e)->((y.set k.toNat ⟨a,b,(ix y k).3,(ix y k).4,(ix y k).5⟩).length<=8/\∀e∈y.set k.toNat ⟨a,b,(ix y k).3,(ix y k).4,(ix y k).5⟩,szE e/\bxE 95 e):=λy k a b hk hy=>by
  refine⟨by rw[List.length_set];exact hy.1,λe he=> ?_⟩
  rcases List.mem_or_eq_of_mem_set he with h|h
  ·exact hy.2 e h
  ·have hm:=hy.2 _ (ix_mem (l:=y) (i:=k) hk.1 hk.2)
   subst h
   exact⟨⟨hm.1.pars,hm.1.regs,hm.1.rect⟩,hm.2⟩
 refine⟨.mk _,λv _=>IFB.mk (λhc hle=>⟨hle,λk k0 k1=>⟨⟨by omega,by omega⟩,λp _ _=>⟨⟨by omega,by omega⟩,λr _ _=> ?_⟩⟩⟩) (λ_=>main es h0)⟩
 rw[Bool.and_eq_true,decide_eq_true_eq] at hc
 have hk:0<=k/\k<(es.length:Int):=by omega
 have hk2:∀e,0<=k/\k<((es.set k.toNat e).length:Int):=λe=>by rw[List.length_set];exact hk
 exact⟨hk,hk2 _,main _ (st _ k _ _ (hk2 _) (st _ k _ _ hk h0))⟩
end RE
end Go.Proofs.YtpeggkeenboacaaGreat
