/-
  Texts of the proof of ParcelHeirs, part GF.
-/
import Derived.Test.YtpeggkeenboacaaGreatHGE
import Derived.Test.YtpeggkeenboacaaGreatHGW
set_option linter.unusedVariables false
noncomputable section
namespace Go.Proofs.YtpeggkeenboacaaGreat
namespace RE
set_option maxRecDepth 100000
open Go.RowKit
open PL
def kedit_P (l:List (api_Parcel))(day:Int)(post:api_Edit->Prop):Prop:=(szL l/\l.length<=15)/\∀e:api_Edit,edQ l day e->post e
def kedit_sp:Spec:=⟨17,true,true,[.sl (.st .api_Parcel),.int .i64],.dat (.st .api_Edit),λx post=>kedit_P (x.1:List (api_Parcel)) (x.2.1:Int) (λy0=>post (y0,()))⟩
def kedit_C:CtxR:=⟨tau,[rule1 ropen_sp,rule1 ron_sp,rule1 rwou_sp,rule1 knext_sp,rule1 krange_sp,rule1 kone_sp,rule1 krect_sp],lookJ [(0,62,⟨[],[(1,[.dat (.int .i64),.dat (.int .i64),.dat (.int .i64),.own 3 (.int .i64),.dat (.sl (.st .api_Region))])],(List.range' 14 5++List.range' 86 87++[20]),[3],[]⟩),(0,53,⟨[(155,.dat (.int .i64))],[(1,[.dat (.int .i64),.dat (.int .i64),.dat (.int .i64),.own 3 (.int .i64),.dat (.sl (.st .api_Region))])],(List.range' 156 17++[20]),[3],[]⟩),(0,60,⟨[],[(1,[.dat (.int .i64),.dat (.int .i64),.dat (.int .i64),.own 3 (.int .i64),.dat (.sl (.st .api_Region))])],(List.range' 157 15++[20]),[4],[]⟩),(0,36,⟨[],[(4,[.dat (.int .i64),.dat (.int .i64),.dat (.int .i64),.dat (.int .i64)])],(List.range' 94 16),[],[]⟩),(0,16,⟨[],[(2,[.dat (.int .i64),.dat (.int .i64),.dat (.int .i64),.dat (.int .i64)])],[58,59,60,61],[],[]⟩)]⟩
abbrev kedit_a0 (v12:List api_Rect)(v28:Int):={Left:=(ix v12 (0:Int)).1,Low:=(ix v12 (0:Int)).2,Right:=IntKind.i64.wrap (IntKind.i64.wrap ((ix v12 (0:Int)).1+(1:Int))+v28),High:=(ix v12 (0:Int)).4:api_Rect}
def kedit_W (l:List (api_Parcel))(day:Int)(post:api_Edit->Prop):Prop:=szL l/\(Int.NonNeg 1099511627777/\Int.NonNeg 1099511627775/\Int.NonNeg 1099511627781/\(5:Int)<=1099511627776)/\∀(v1:Int),1<=v1->v1<=5\/v1=1->(↑(openS l day).length:Int)<=9223372036854775807->IFB (decide ((↑(openS l day).length:Int)=0)||decide (v1=1)) ((↑l.length:Int)<=9223372036854775807->((4:Int)=0->False)/\((4:Int)=0->False)/\((4:Int)=0->False)/\(Int.NonNeg 1099511627778/\Int.NonNeg 1099511627774/\Int.NonNeg 1099511627785/\(9:Int)<=1099511627776)/\∀(v2:Int),2<=v2->v2<=9\/v2=2->((4:Int)=0->False)/\(Int.NonNeg 1099511627778/\Int.NonNeg 1099511627774/\Int.NonNeg 1099511627785/\(9:Int)<=1099511627776)/\∀(v3:Int),2<=v3->v3<=9\/v3=2->JOIN [Ty.int IntKind.i64,Ty.int IntKind.i64,Ty.int IntKind.i64,Ty.int IntKind.i64] (λ(y4 y5 y6 y7:Int)=>post (⟨day,day,(1:Int),[],[(⟨[(⟨y4,y5,y6,y7⟩:api_Rect)]⟩:api_Region)]⟩:api_Edit)) λ(J8:Int->Int->Int->Int->Prop)=>Int.NonNeg 1099511627771/\∀(v9:Bool),IFB v9 ((Int.NonNeg 11/\(12:Int)<=16384)/\∀(v10:api_Rect),proper v10/\v10.3<=12/\v10.4<=12->J8 v10.1 v10.2 v10.3 v10.4) (J8 (IntKind.i64.wrap ((10:Int) * (↑l.length:Int).tmod 4)) (IntKind.i64.wrap ((10:Int) * IntKind.i64.wrap ((↑l.length:Int).tdiv 4))) (IntKind.i64.wrap (IntKind.i64.wrap ((10:Int) * (↑l.length:Int).tmod 4)+v2)) (IntKind.i64.wrap (IntKind.i64.wrap ((10:Int) * IntKind.i64.wrap ((↑l.length:Int).tdiv 4))+v3)))) ((↑(openS l day).length:Int)<=9223372036854775807->(↑(openS l day).length:Int)<=9223372036854775807/\∀(v11:Int),0<=v11->v11<(↑(openS l day).length:Int)\/v11=0->((0:Int)<=v11/\v11<(↑(openS l day).length:Int))/\szL l/\∀(v12:List api_Rect)(v13:Bool),v12=(onS l (ix (openS l day) v11) day).1/\(v13=true↔onP l (ix (openS l day) v11) day)->JOIN [Ty.int IntKind.i64,Ty.int IntKind.i64,Ty.int IntKind.i64,(Ty.int IntKind.i64).sl,(Ty.st Sn.api_Region).sl] (λ(y14 y15 y16:Int) (y17:List Int) (y18:List api_Region)=>post (⟨y14,y15,y16,y17,y18⟩:api_Edit)) λ(J19:Int->Int->Int->List Int->List api_Region->Prop)=>IFB (decide (v1=2)) ((Int.NonNeg 0/\0<(↑v12.length:Int))/\JOIN [Ty.int IntKind.i64,Ty.int IntKind.i64,Ty.int IntKind.i64,Ty.int IntKind.i64] (λ(y20 y21 y22 y23:Int)=>J19 day day v1 [ix (openS l day) v11] [(⟨[(⟨y20,y21,y22,y23⟩:api_Rect)]⟩:api_Region)]) λ(J24:Int->Int->Int->Int->Prop)=>Int.NonNeg 1099511627774/\∀(v25:Bool),IFB v25 (Int.NonNeg 9223372036854775798/\∀(v26:Int),0<=v26->v26<9\/v26=0->J24 (ix v12 0).1 (ix v12 0).2 (IntKind.i64.wrap (IntKind.i64.wrap ((ix v12 0).1+1)+v26)) (ix v12 0).4) (Int.NonNeg 9223372036854775798/\∀(v27:Int),0<=v27->v27<9\/v27=0->J24 (ix v12 0).1 (ix v12 0).2 (ix v12 0).3 (IntKind.i64.wrap (IntKind.i64.wrap ((ix v12 0).2+1)+v27)))) (IFB (decide (v1=3)) ((Int.NonNeg 0/\0<(↑v12.length:Int))/\(IntKind.i64.wrap ((ix v12 0).3-(ix v12 0).1)<=9223372036854775807/\∀(v28:Int),0<=v28->v28<IntKind.i64.wrap ((ix v12 0).3-(ix v12 0).1)\/v28=0->(((True/\J19 day day v1 [ix (openS l day) v11] [(⟨[(kedit_a0 v12 v28)]⟩:api_Region),{Rects:=(wouS v12 [(kedit_a0 v12 v28)]).1:api_Region}])/\True/\J19 day day v1 [ix (openS l day) v11] [(⟨[(kedit_a0 v12 v28)]⟩:api_Region),{Rects:=(wouS v12 [(kedit_a0 v12 v28)]).1:api_Region}])/\True/\J19 day day v1 [ix (openS l day) v11] [(⟨[(kedit_a0 v12 v28)]⟩:api_Region),{Rects:=(wouS v12 [(kedit_a0 v12 v28)]).1:api_Region}])/\True/\J19 day day v1 [ix (openS l day) v11] [(⟨[(kedit_a0 v12 v28)]⟩:api_Region),{Rects:=(wouS v12 [(kedit_a0 v12 v28)]).1:api_Region}])/\IntKind.i64.wrap ((ix v12 0).3-(ix v12 0).1)<=9223372036854775807/\∀(v29:Int),0<=v29->v29<IntKind.i64.wrap ((ix v12 0).3-(ix v12 0).1)\/v29=0->True/\J19 day day v1 [ix (openS l day) v11] [(⟨[(⟨(ix v12 0).1,(ix v12 0).2,IntKind.i64.wrap (IntKind.i64.wrap ((ix v12 0).1+1)+v29),(ix v12 0).4⟩:api_Rect)]⟩:api_Region),{Rects:=(wouS v12 [(⟨(ix v12 0).1,(ix v12 0).2,IntKind.i64.wrap (IntKind.i64.wrap ((ix v12 0).1+1)+v29),(ix v12 0).4⟩:api_Rect)]).1:api_Region}]) (IFB (decide (v1=4)) ((↑(openS l day).length:Int)<=9223372036854775807->LOOP [Ty.int IntKind.i64,Ty.int IntKind.i64,Ty.int IntKind.i64,Ty.int IntKind.i64,(Ty.int IntKind.i64).sl,(Ty.st Sn.api_Region).sl] (λ(rec30:Int->Int->Int->Int->List Int->List api_Region->Prop) (z31 z32 z33 z34:Int) (z35:List Int) (z36:List api_Region)=>IFB (decide (z31<(↑(openS l day).length:Int))) (JOIN [Ty.int IntKind.i64,Ty.int IntKind.i64,Ty.int IntKind.i64,(Ty.int IntKind.i64).sl,(Ty.st Sn.api_Region).sl] (λ(y37 y38 y39:Int) (y40:List Int) (y41:List api_Region)=>rec30 (IntKind.i64.wrap (z31+1)) y37 y38 y39 y40 y41) λ(J42:Int->Int->Int->List Int->List api_Region->Prop)=>((0:Int)<=z31/\z31<(↑(openS l day).length:Int))/\JOIN [Ty.bool] (λ(y43:Bool)=>IFB (decide (ix (openS l day) v11<ix (openS l day) z31)&&y43) ((z35.length+[ix (openS l day) z31].length) * (8:Nat)<=140737488355328/\J42 z32 z33 z34 (z35++[ix (openS l day) z31]) z36) (J42 z32 z33 z34 z35 z36)) λ(J44:Bool->Prop)=>IFB (gx true (decide (ix (openS l day) v11<ix (openS l day) z31))) (Int.NonNeg 1099511627774/\∀(v45:Bool),J44 v45) (J44 false)) (J19 z32 z33 z34 z35 z36)) ((0:Int),day,day,v1,[ix (openS l day) v11],[],PUnit.unit)) (J19 day day v1 [ix (openS l day) v11] []))))
theorem kedit_w (l:List (api_Parcel))(day:Int)(post:dens (shT kedit_sp.rs [])->Prop):kedit_W l day (λy0=>post (y0,()))=walkG (callR Tryz.prog kedit_C (drawF Tryz.prog tau) 8 0) 17 true [tv (.sl (.st .api_Parcel)) l,tv (.int .i64) day] kedit_sp.rs post:=by kernel_rfl
theorem kedit_of (h:∀l day post,kedit_P l day post->kedit_W l day post):SpecOK Tryz.prog kedit_sp:=SpecOK.of_rules (C:=kedit_C) (dr:=drawF Tryz.prog tau) (n:=8) (fk:=0) (.cons (rule1_ok ropen_ok) (.cons (rule1_ok ron_ok) (.cons (rule1_ok rwou_ok) (.cons (rule1_ok knext_ok) (.cons (rule1_ok krange_ok) (.cons (rule1_ok kone_ok) (.cons (rule1_ok krect_ok) .nil))))))) (drawF_ok tau) λx post hp=>HoldW.of (kedit_w x.1 x.2.1 post) (h x.1 x.2.1 (λy0=>post (y0,())) hp)
set_option maxHeartbeats 4000000 in
theorem kedit_ok:SpecOK Tryz.prog kedit_sp:=kedit_of λl day post hp=>by
 obtain⟨⟨hsz,hlen⟩,hp⟩:=hp
 unfold kedit_W kedit_a0
 have hol:(openS l day).length<=l.length:=openS_len
 refine⟨hsz,⟨.mk _,.mk _,.mk _,by omega⟩,λk hk1 hk2 _=>IFB.mk (λhc _=> ?_) (λhc _=> ?_)⟩
 ·have t1:(l.length:Int).tmod 4=(l.length:Int) % 4:=Int.tmod_eq_emod_of_nonneg (by omega)
  have t2:(l.length:Int).tdiv 4=(l.length:Int)/4:=Int.tdiv_eq_ediv_of_nonneg (by omega)
  have w1:IntKind.i64.wrap (10 * ((l.length:Int) % 4))=10 * ((l.length:Int) % 4):=wrap_in (by omega) (by omega)
  have w2:IntKind.i64.wrap ((l.length:Int)/4)=(l.length:Int)/4:=wrap_in (by omega) (by omega)
  have w3:IntKind.i64.wrap (10 * ((l.length:Int)/4))=10 * ((l.length:Int)/4):=wrap_in (by omega) (by omega)
  refine⟨by omega,by omega,by omega,⟨.mk _,.mk _,.mk _,by omega⟩,λw h1 h2=>⟨by omega,⟨.mk _,.mk _,.mk _,by omega⟩,λv g1 g2=>JOIN.opq λ(J:Int->Int->Int->Int->Prop) hJ=>⟨.mk _,λb=>IFB.mk (λ_=>⟨⟨.mk _,by omega⟩,λr hr=> ?_⟩) (λ_=> ?_)⟩⟩⟩
  ·rw[hJ]
   refine hp _ (edQ_rect ⟨by omega,by omega⟩ (by simp) (λ_=>⟨hr.1,?_,?_⟩) λN n1 n2 n3=>⟨hr.1,?_,?_⟩)
   ·show r.3<=39;omega
   ·show r.4<=39;omega
   ·show r.3<=N+8;omega
   ·show r.4<=N+8;omega
  ·have w4:IntKind.i64.wrap (10 * ((l.length:Int) % 4)+w)=10 * ((l.length:Int) % 4)+w:=wrap_in (by omega) (by omega)
   have w5:IntKind.i64.wrap (10 * ((l.length:Int)/4)+v)=10 * ((l.length:Int)/4)+v:=wrap_in (by omega) (by omega)
   rw[t1,t2,w1,w2,w3,w4,w5,hJ]
   refine hp _ (edQ_rect ⟨by omega,by omega⟩ (by simp) (λ_=>⟨⟨?_,?_,?_,?_,?_,?_⟩,?_,?_⟩) λN n1 n2 n3=>⟨⟨?_,?_,?_,?_,?_,?_⟩,?_,?_⟩)<;>dsimp only<;>omega
 ·rw[Bool.or_eq_false_iff] at hc
  have hc1:¬((openS l day).length:Int)=0:=of_decide_eq_false hc.1
  have hc2:¬k=1:=of_decide_eq_false hc.2
  refine⟨by omega,λv h1 h2=> ?_⟩
  have hv:0<=v/\v<((openS l day).length:Int):=by omega
  have hn:ix (openS l day) v∈openS l day:=ix_mem hv.1 hv.2
  obtain⟨hon,hreg⟩:=open_on hn
  obtain⟨hm1,hm2⟩:=on_mem hon hreg
  have hpr:=reg_prop hreg hm2 hm1
  obtain⟨n,hnn⟩:∃n,ix (openS l day) v=n:=⟨_,rfl⟩
  rw[hnn] at hon hm1 hm2 hpr ⊢
  refine⟨hv,hsz,λv12 v13 h=>JOIN.opq λ(J:Int->Int->Int->List Int->List api_Region->Prop) hJ=> ?_⟩
  obtain⟨h12,_⟩:=h
  have hv12:(onS l n day).Rects=v12:=h12.symm
  have hln:l≠[]:=λh=>by subst h;cases hm2
  have hval:validP v12:=by rw[<-hv12];exact hpr.2
  have hne:0<v12.length:=by
   rw[<-hv12]
   exact List.length_pos_iff.2 hpr.1
  have hr0:ix v12 (0:Int)∈v12:=ix_mem (by omega) (by omega)
  obtain⟨q1,q2,q3,q4,q5,q6⟩:=hval.2.1 _ hr0
  have hbx:∀N:Int,bxL N l->∀q∈v12,q.Right<=N/\q.High<=N:=λN hN q hq=>hN _ hm2 _ hm1 q (by rw[hv12];exact hq)
  refine IFB.mk (λhd=> ?_) (λhd=>IFB.mk (λhd2=> ?_) (λhd2=>IFB.mk (λhd3=> ?_) (λhd3=> ?_)))
  ·have hd:=of_decide_eq_true hd
   have w0:∀z:Int,0<=z->z<=20000->∀v:Int,0<=v->v<=9->IntKind.i64.wrap (IntKind.i64.wrap (z+1)+v)=z+1+v:=λz z1 z2 v v1 v2=>by
    rw[wrap_in (z:=z+1) (by omega) (by omega)]
    exact wrap_in (by omega) (by omega)
   refine⟨⟨.mk _,by omega⟩,JOIN.opq λ(J24:Int->Int->Int->Int->Prop) hJ24=>⟨.mk _,λb=>IFB.mk (λ_=>⟨.mk _,λu u1 u2=> ?_⟩) (λ_=>⟨.mk _,λu u1 u2=> ?_⟩)⟩⟩
   ·rw[w0 _ q1 (by omega) u u1 (by omega),hJ24,hJ]
    refine hp _ (edQ_rect ⟨by omega,by omega⟩ (by simp) (λh=>absurd h hln) λN n1 n2 n3=> ?_)
    obtain⟨b1,b2⟩:=hbx N n3 _ hr0
    refine⟨⟨?_,?_,?_,?_,?_,?_⟩,?_,?_⟩<;>dsimp only<;>omega
   ·rw[w0 _ q4 (by omega) u u1 (by omega),hJ24,hJ]
    refine hp _ (edQ_rect ⟨by omega,by omega⟩ (by simp) (λh=>absurd h hln) λN n1 n2 n3=> ?_)
    obtain⟨b1,b2⟩:=hbx N n3 _ hr0
    refine⟨⟨?_,?_,?_,?_,?_,?_⟩,?_,?_⟩<;>dsimp only<;>omega
  ·have hd2:=of_decide_eq_true hd2
   subst hd2
   have w1:IntKind.i64.wrap ((ix v12 0).3-(ix v12 0).1)=(ix v12 0).3-(ix v12 0).1:=wrap_in (by omega) (by omega)
   rw[w1]
   have leaf:∀u:Int,0<=u->(u<(ix v12 0).3-(ix v12 0).1\/u=0)->J day day 3 [n] [{Rects:=[{Left:=(ix v12 0).1,Low:=(ix v12 0).2,Right:=IntKind.i64.wrap (IntKind.i64.wrap ((ix v12 0).1+1)+u),High:=(ix v12 0).4:api_Rect}]:api_Region},{Rects:=(wouS v12 [{Left:=(ix v12 0).1,Low:=(ix v12 0).2,Right:=IntKind.i64.wrap (IntKind.i64.wrap ((ix v12 0).1+1)+u),High:=(ix v12 0).4:api_Rect}]).1:api_Region}]:=λu u1 u2=>by
    rw[wrap_in (z:=(ix v12 0).1+1) (by omega) (by omega),wrap_in (z:=(ix v12 0).1+1+u) (by omega) (by omega),hJ]
    refine hp _ (edQ_split (by simp) hln hval λN n1 n2 n3=>⟨?_,hbx N n3⟩)
    obtain⟨b1,b2⟩:=hbx N n3 _ hr0
    refine⟨⟨?_,?_,?_,?_,?_,?_⟩,?_,?_⟩<;>dsimp only<;>omega
   have b1:(ix v12 0).3-(ix v12 0).1<=9223372036854775807:=by omega
   refine⟨⟨.mk _,by omega⟩,⟨b1,λu u1 u2=> ?_⟩,b1,λu u1 u2=>⟨trivial,leaf u u1 u2⟩⟩
   have lf:=leaf u u1 u2
   repeat' (first|exact lf|exact True.intro|with_reducible apply And.intro)
  ·have hd3:=of_decide_eq_true hd3
   intro _
   refine LOOP.fuel (λu=>∃j:Nat,u.1=(j:Int)/\j<=(openS l day).length/\u.2.1=day/\u.2.2.1=day/\u.2.2.2.1=k/\List.length (u.2.2.2.2.1:List Int)<=1+j/\(u.2.2.2.2.2.1:List api_Region)=[]) (λu=>(openS l day).length-Int.toNat u.1) ⟨0,rfl,Nat.zero_le _,rfl,rfl,rfl,by simp,rfl⟩ ?_
   rintro rec ⟨(z1:Int),(z2:Int),(z3:Int),(z4:Int),(z5:List Int),(z6:List api_Region),⟨⟩⟩ ⟨j,f1,e2,f3,f4,f5,f6,f7⟩ hrec
   have e1:z1=(j:Int):=f1
   have e3:z2=day:=f3
   have e4:z3=day:=f4
   have e5:z4=k:=f5
   have e6:z5.length<=1+j:=f6
   have e7:z6=[]:=f7
   clear f1 f3 f4 f5 f6 f7
   subst e1 e3 e4 e5 e7
   refine IFB.mk (λhb=> ?_) (λhb=> ?_)
   ·have hb:(j:Int)<((openS l z3).length:Int):=of_decide_eq_true hb
    refine JOIN.opq λ(J42:Int->Int->Int->List Int->List api_Region->Prop) hJ42=>⟨⟨by omega,hb⟩,?_⟩
    have cont:∀z:List Int,z.length<=1+(j+1)->J42 z3 z3 z4 z []:=λz hz=>by
     rw[hJ42,wrapS (by omega)]
     exact hrec (((j+1:Nat):Int),z3,z3,z4,z,[],()) ⟨j+1,rfl,by omega,rfl,rfl,rfl,hz,rfl⟩ (by show (openS l z3).length-((j+1:Nat):Int).toNat<(openS l z3).length-(j:Int).toNat;omega)
    have body:∀y:Bool,IFB (decide (n<ix (openS l z3) (j:Int))&&y) ((z5.length+[ix (openS l z3) (j:Int)].length) * 8<=140737488355328/\J42 z3 z3 z4 (z5++[ix (openS l z3) (j:Int)]) []) (J42 z3 z3 z4 z5 []):=λy=>
     IFB.mk (λ_=>⟨by simp only[List.length_cons,List.length_nil];omega,cont _ (by rw[List.length_append];simp;omega)⟩) (λ_=>cont _ (by omega))
    refine JOIN.opq λ(J44:Bool->Prop) hJ44=>IFB.mk (λ_=>⟨.mk _,λy=> ?_⟩) (λ_=> ?_)
    ·rw[hJ44];exact body y
    ·rw[hJ44];exact body false
   ·have hb:¬(j:Int)<((openS l z3).length:Int):=of_decide_eq_false hb
    show J z3 z3 z4 z5 []
    rw[hJ]
    exact hp _ (edQ_none ⟨by omega,by omega⟩ (by omega))
  ·rw[hJ]
   exact hp _ (edQ_none ⟨by omega,by omega⟩ (by simp))
def kedits_P (most:Int)(step:Int)(post:List (api_Edit)->List (api_Parcel)->Prop):Prop:=(0<=most/\most<=8/\0<=step/\step<=10)/\∀(es:List Ed)(x:List Pc),Hist most.toNat es x->post es x
def kedits_sp:Spec:=⟨23,true,true,[.int .i64,.int .i64],.tup [.dat (.sl (.st .api_Edit)),.dat (.sl (.st .api_Parcel))],λx post=>kedits_P (x.1:Int) (x.2.1:Int) (λy0 y1=>post (y0,y1,()))⟩
def kedits_C:CtxR:=⟨tau,[rule1 knext_sp,rule1 kedit_sp,rule1 rappA_sp],lookJ [(0,11,⟨[(11,.dat (.int .i64)),(8,.own 25 (.st .api_Edit)),(9,.dat (.sl (.st .api_Parcel))),(10,.dat (.int .i64))],[],(List.range' 21 27++[12,13,14]),[],[]⟩),(0,12,⟨[(8,.own 25 (.st .api_Edit)),(9,.dat (.sl (.st .api_Parcel))),(10,.dat (.int .i64))],[],(List.range' 25 23++[12,13,14]),[0],[]⟩)]⟩
abbrev kedits_a0 (v13:api_Edit):={Day:=v13.1,Known:=v13.2,Kind:=v13.3,Parcels:=v13.4,Regions:=v13.5:api_Edit}
def kedits_W (most:Int)(step:Int)(post:List (api_Edit)->List (api_Parcel)->Prop):Prop:=Int.NonNeg 9223372036854775802/\∀(v1:Int),0<=v1->v1<5\/v1=0->IntKind.i64.wrap (most+1)<=9223372036854775807/\∀(v2:Int),0<=v2->v2<IntKind.i64.wrap (most+1)\/v2=0->LOOP [Ty.int IntKind.i64,(Ty.st Sn.api_Edit).sl,(Ty.st Sn.api_Parcel).sl,Ty.int IntKind.i64] (λ(rec3:Int->List api_Edit->List api_Parcel->Int->Prop) (z4:Int) (z5:List api_Edit) (z6:List api_Parcel) (z7:Int)=>IFB (decide ((0:Int)<z4)) (JOIN [(Ty.st Sn.api_Edit).sl,(Ty.st Sn.api_Parcel).sl,Ty.int IntKind.i64] (λ(y8:List api_Edit) (y9:List api_Parcel) (y10:Int)=>rec3 (IntKind.i64.wrap (z4-1)) y8 y9 y10) λ(J11:List api_Edit->List api_Parcel->Int->Prop)=>IntKind.i64.wrap (step+1)<=9223372036854775807/\∀(v12:Int),0<=v12->v12<IntKind.i64.wrap (step+1)\/v12=0->(szL z6/\z6.length<=15)/\∀(v13:api_Edit),edQ z6 (IntKind.i64.wrap (z7+v12)) v13->(szL z6/\szE (kedits_a0 v13)/\((v13.3=2->False)->editS z6 (kedits_a0 v13)=0->(∀(v14:Nat),v14<=v13.5.length->(canonF (cov (partsR (List.take v14 v13.5)))).length<=10000)/\∀(v15:Nat),v15<=v13.4.length->(canonF (cov (outsL z6 (List.take v15 v13.4)))).length<=10000))/\IFB (decide ((applyS z6 (kedits_a0 v13)).2=0)) ((z5.length+[(kedits_a0 v13)].length) * (72:Nat)<=140737488355328/\J11 (z5++[(kedits_a0 v13)]) (applyS z6 (kedits_a0 v13)).1 (IntKind.i64.wrap (z7+v12))) (J11 z5 z6 (IntKind.i64.wrap (z7+v12)))) (post z5 z6)) (v2,[],[],v1,PUnit.unit)
theorem kedits_w (most:Int)(step:Int)(post:dens (shT kedits_sp.rs [])->Prop):kedits_W most step (λy0 y1=>post (y0,y1,()))=walkG (callR Tryz.prog kedits_C (drawF Tryz.prog tau) 8 0) 23 true [tv (.int .i64) most,tv (.int .i64) step] kedits_sp.rs post:=by kernel_rfl
theorem kedits_of (h:∀most step post,kedits_P most step post->kedits_W most step post):SpecOK Tryz.prog kedits_sp:=SpecOK.of_rules (C:=kedits_C) (dr:=drawF Tryz.prog tau) (n:=8) (fk:=0) (.cons (rule1_ok knext_ok) (.cons (rule1_ok kedit_ok) (.cons (rule1_ok rappA_ok) .nil))) (drawF_ok tau) λx post hp=>HoldW.of (kedits_w x.1 x.2.1 post) (h x.1 x.2.1 (λy0 y1=>post (y0,y1,())) hp)
theorem kedits_ok:SpecOK Tryz.prog kedits_sp:=kedits_of λmost step post hp=>by
 obtain⟨⟨m0,m1,s0,s1⟩,hp⟩:=hp
 unfold kedits_W kedits_a0
 have w1:IntKind.i64.wrap (most+1)=most+1:=wrap_in (by omega) (by omega)
 have w2:IntKind.i64.wrap (step+1)=step+1:=wrap_in (by omega) (by omega)
 rw[w1,w2]
 refine⟨.mk _,λd hd0 hd1=>⟨by omega,λn hn0 hn1=> ?_⟩⟩
 refine LOOP.fuel (λu=>∃i:Nat,u.1=n-(i:Int)/\(i:Int)<=n/\Hist i u.2.1 u.2.2.1/\ @LE.le Int _ 0 u.2.2.2.1/\ @LE.le Int _ u.2.2.2.1 (4+10 * (i:Int))) (λu=>Int.toNat u.1) ⟨0,by show n=n-((0:Nat):Int);omega,by omega,hist_nil,hd0,by show d<=_;omega⟩ ?_
 rintro rec ⟨(z4:Int),(z5:List Ed),(z6:List Pc),(z7:Int),⟨⟩⟩ ⟨i,f1,i2,f3,f4,f5⟩ hrec
 have e1:z4=n-(i:Int):=f1
 have hh:Hist i z5 z6:=f3
 have d0:0<=z7:=f4
 have d1:z7<=4+10 * (i:Int):=f5
 clear f1 f3 f4 f5
 subst e1
 refine IFB.mk (λhb=> ?_) (λhb=> ?_)
 ·have hb:0<n-(i:Int):=of_decide_eq_true hb
  have hi:i<=7:=by omega
  have hlen:=hh.len
  have hxl:=hh.xl
  have hx15:z6.length<=15:=by omega
  have hz5:(z5.length+1) * 72<=140737488355328:=by omega
  refine JOIN.opq λ(J:List api_Edit->List api_Parcel->Int->Prop) hJ=>⟨by omega,λv v0 v1=>⟨⟨hh.sz,hx15⟩,λe he=> ?_⟩⟩
  have w3:IntKind.i64.wrap (z7+v)=z7+v:=wrap_in (by omega) (by omega)
  rw[w3] at he ⊢
  have w4:IntKind.i64.wrap (n-(i:Int)-1)=n-((i+1:Nat):Int):=by rw[wrap_in (by omega) (by omega)];omega
  obtain⟨r1,r2⟩:=hh.reach hi he
  have hc:=combK_of (e:=e) (N:=39+8 * (z5.length:Int)) (by omega) (by omega) r1 r2
  have next:∀(a:List Ed)(b:List Pc),Hist (i+1) a b->J a b (z7+v):=λa b hab=>by
   rw[hJ,w4]
   exact hrec (n-((i+1:Nat):Int),a,b,z7+v,()) ⟨i+1,rfl,by omega,hab,by show 0<=z7+v;omega,by show z7+v<=4+10 * ((i+1:Nat):Int);omega⟩ (by show (n-((i+1:Nat):Int)).toNat<(n-(i:Int)).toNat;omega)
  refine⟨⟨hh.sz,he.1,λ_=>hc⟩,IFB.mk (λhq=> ?_) (λhq=>next _ _ (hh.mono (by omega)))⟩
  have hq:(applyS z6 e).2=0:=of_decide_eq_true hq
  exact⟨hz5,next _ _ (hh.step hi ⟨by omega,by omega⟩ he hq)⟩
 ·have hb:¬0<n-(i:Int):=of_decide_eq_false hb
  exact hp _ _ (hh.mono (by omega))
def pawake_P (post:Bool->Prop):Prop:=post true
def pawake_sp:Spec:=⟨11,false,false,[],.dat (.bool),λx post=>pawake_P (λy0=>post (y0,()))⟩
def pawake_C:CtxR:=⟨tau,[rule1 prunV_sp,rule1 pheirsV_sp,rule1 pshareV_sp,rule1 rints_sp],lookJ []⟩
abbrev pawake_a0:={Day:=(5:Int),Known:=(0:Int),Kind:=(3:Int),Parcels:=[(1:Int)],Regions:=[{Rects:=[{Left:=(0:Int),Low:=(0:Int),Right:=(1:Int),High:=(1:Int):api_Rect}]:api_Region},{Rects:=[{Left:=(1:Int),Low:=(0:Int),Right:=(4:Int),High:=(1:Int):api_Rect}]:api_Region}]:api_Edit}
abbrev pawake_a1:={Day:=(0:Int),Known:=(0:Int),Kind:=(1:Int),Parcels:=[],Regions:=[{Rects:=[{Left:=(0:Int),Low:=(0:Int),Right:=(4:Int),High:=(1:Int):api_Rect}]:api_Region}]:api_Edit}
def pawake_W (post:Bool->Prop):Prop:=(Nat.le ((2:Nat)) ((1000000:Nat))/\∀(v1:api_Edit),v1∈[(pawake_a1),(pawake_a0)]->szE v1/\(v1.3=2->False))/\∀(v2:List api_Parcel)(v3 v4:Int),szL v2/\runS [(pawake_a1),(pawake_a0)]=(v2,v3,v4)->szL v2/\∀(v5:List Int)(v6:Int),v5=heirsS v2 (1:Int) 9/\v6=heirE v2 (1:Int) 9->szL v2/\∀(v7:List arr2_i64)(v8:Int),v7=shareS v2 (1:Int) 5/\v8=heirE v2 (1:Int) 5->IFB (gx true (decide (v4=0)&&decide (v3=2)&&decide (v6=0))) (JOIN [Ty.bool] (λ(y9:Bool)=>(gx true (decide (v4=0)&&decide (v3=2)&&decide (v6=0)&&y9&&decide (v8=0))=true->(↑v7.length:Int)<=9223372036854775807)->(gx true (decide (v4=0)&&decide (v3=2)&&decide (v6=0)&&y9&&decide (v8=0)&&decide ((↑v7.length:Int)=2))=true->Int.NonNeg 1/\1<(↑v7.length:Int))/\post (decide (v4=0)&&decide (v3=2)&&decide (v6=0)&&y9&&decide (v8=0)&&decide ((↑v7.length:Int)=2)&&(decide ((ix v7 1).1=3)&&(decide ((ix v7 1).2=3)&&true)))) λ(J10:Bool->Prop)=>IFB (gx true (decide (v4=0)&&decide (v3=2)&&decide (v6=0))) (∀(v11:Bool),(v11=true↔v5=[(2:Int),(3:Int)])->J10 v11) (J10 false)) (JOIN [Ty.bool] (λ(y12:Bool)=>(gx true (decide (v4=0)&&decide (v3=2)&&decide (v6=0)&&y12&&decide (v8=0))=true->(↑v7.length:Int)<=9223372036854775807)->(gx true (decide (v4=0)&&decide (v3=2)&&decide (v6=0)&&y12&&decide (v8=0)&&decide ((↑v7.length:Int)=2))=true->Int.NonNeg 1/\1<(↑v7.length:Int))/\post (decide (v4=0)&&decide (v3=2)&&decide (v6=0)&&y12&&decide (v8=0)&&decide ((↑v7.length:Int)=2)&&(decide ((ix v7 1).1=3)&&(decide ((ix v7 1).2=3)&&true)))) λ(J13:Bool->Prop)=>IFB (gx true (decide (v4=0)&&decide (v3=2)&&decide (v6=0))) False (J13 false))
theorem pawake_w (post:dens (shT pawake_sp.rs [])->Prop):pawake_W (λy0=>post (y0,()))=walkG (callR Tryz.prog pawake_C (drawF Tryz.prog tau) 10 0) 11 false [] pawake_sp.rs post:=by kernel_rfl
theorem pawake_of (h:∀post,pawake_P post->pawake_W post):SpecOK Tryz.prog pawake_sp:=SpecOK.of_rules (C:=pawake_C) (dr:=drawF Tryz.prog tau) (n:=10) (fk:=0) (.cons (rule1_ok prunV_ok) (.cons (rule1_ok pheirsV_ok) (.cons (rule1_ok pshareV_ok) (.cons (rule1_ok rints_ok) .nil)))) (drawF_ok tau) λx post hp=>HoldW.of (pawake_w post) (h (λy0=>post (y0,())) hp)
theorem heirs_go {l:List Pc}{n d:Int}(h:regP l)(h2:l.length<=60)(h3:0<=d)(h4:d<=36864)(h5:1<=n)(h6:n<=(l.length:Int))(h7:(ix l (n-1)).From<=d):heirE l n d=0/\heirsS l n d=heirsL l n d/\shareS l n d=shareL l n d (heirsL l n d):=by
 have e:heirE l n d=0:=heirE_0.2 ⟨check_reg h h2,h3,h4,h5,h6,h7⟩
 refine⟨e,?_,?_⟩
 ·unfold heirsS;rw[if_pos e]
 ·unfold shareS;rw[if_pos e]
theorem hs_yes {d n s u:Int}{ps f r:List Int}{a:Rn}(h:∃k∈ps,k∈f):hStep d (f,r) (pcl n s u ps a)=(f++[n],if s<=d/\d<u then r++[n] else r):=by
 unfold hStep
 rw[if_pos (show ∃k∈(pcl n s u ps a).Parents,k∈(f,r).1 from h)]
 dsimp only
 have hn:n∈f++[n]:=by simp
 by_cases h1:s<=d/\d<u
 ·rw[if_pos (show thereP (pcl n s u ps a) d/\(pcl n s u ps a).Number∈f++[(pcl n s u ps a).Number] from ⟨h1,hn⟩),if_pos h1];rfl
 ·rw[if_neg (show ¬(thereP (pcl n s u ps a) d/\(pcl n s u ps a).Number∈f++[(pcl n s u ps a).Number]) from λh=>h1 h.1),if_neg h1];rfl
theorem hs_no {d n s u:Int}{ps f r:List Int}{a:Rn}(h:¬∃k∈ps,k∈f)(h2:¬(s<=d/\d<u)):hStep d (f,r) (pcl n s u ps a)=(f,r):=by
 unfold hStep
 rw[if_neg (show ¬∃k∈(pcl n s u ps a).Parents,k∈(f,r).1 from h)]
 dsimp only
 rw[if_neg (λh=>h2 h.1)]
theorem heirs_L2 {a b c:Rn}{d e:Int}(h0:0<=d)(h1:d<=e)(h2:e<36865):heirsL (L2 d 36865 a b c) 1 e=[2,3]:=by
 have q:heirsL (L2 d 36865 a b c) 1 e=(hStep e (hStep e (hStep e ([1],[]) (pcl 1 0 d [] a)) (pcl 2 d 36865 [1] b)) (pcl 3 d 36865 [1] c)).2:=rfl
 rw[q,hs_no (d:=e) (n:=1) (s:=0) (u:=d) (ps:=[]) (f:=[1]) (r:=[]) (by simp) (by omega),hs_yes (f:=[1]) ⟨1,by simp,by simp⟩,if_pos ⟨h1,h2⟩,hs_yes (f:=[1]++[2]) ⟨1,by simp,by simp⟩,if_pos ⟨h1,h2⟩]
 rfl
namespace PL
def exA:Rn:=⟨[⟨0,0,4,1⟩]⟩
def exB:Rn:=⟨[⟨0,0,1,1⟩]⟩
def exC:Rn:=⟨[⟨1,0,4,1⟩]⟩
end PL
theorem cov_one {r:Rc}{x y:Int}:cov [r] x y=true↔r.Left<=x/\x<r.Right/\r.Low<=y/\y<r.High:=by
 rw[cov_mem]
 constructor
 ·rintro ⟨q,hq,h⟩;rw[List.mem_singleton.1 hq] at h;exact hit_iff.1 h
 ·exact λh=>⟨r,by simp,hit_iff.2 h⟩
theorem prop_one {r:Rc}(h:proper r):propR ⟨[r]⟩:=⟨by simp,by simp,λq hq=>by
 have hq:q∈[r]:=hq
 rw[List.mem_singleton.1 hq];exact h,canon_one h⟩
theorem ex_parts:Parts exA exB exC where
 pa:=prop_one (by unfold proper;decide)
 pb:=prop_one (by unfold proper;decide)
 pc:=prop_one (by unfold proper;decide)
 dis:=λx y h=>by
  have h1:=cov_one.1 h.1
  have h2:=cov_one.1 h.2
  dsimp only at h1 h2
  omega
 all:=λx y=>by
  rw[Bool.eq_iff_iff,Bool.or_eq_true]
  unfold exA exB exC
  rw[cov_one,cov_one,cov_one]
  dsimp only
  omega
theorem ex_share:ix (shareL (L2 5 36865 exA exB exC) 1 5 [2,3]) 1=⟨3,3⟩:=by
 have e:ix (shareL (L2 5 36865 exA exB exC) 1 5 [2,3]) 1=⟨3,sizeS (canonF (comb (howS 2) exA.Rects exC.Rects))⟩:=rfl
 rw[e,canonF_eq (l:=exC.Rects) ex_parts.pc.2.2.2 λx y=>by
  show _=howS 2 (cov exA.Rects x y) (cov exC.Rects x y)
  rw[ex_parts.all]
  cases cov exB.Rects x y<;>cases cov exC.Rects x y<;>rfl]
 rfl
theorem pawake_ok:SpecOK Tryz.prog pawake_sp:=pawake_of λpost hp=>by
 unfold pawake_W pawake_a1 pawake_a0
 refine⟨⟨by show 2<=1000000;omega,λv h=> ?_⟩,λv2 v3 v4 ⟨hz,hr⟩=>⟨hz,λv5 v6 ⟨h5,h6⟩=>⟨hz,λv7 v8 ⟨h7,h8⟩=> ?_⟩⟩⟩
 ·simp only[List.mem_cons,List.not_mem_nil,or_false] at h
  rcases h with rfl|rfl
  ·exact⟨⟨by show 0<=1000000;omega,by show 1<=1000000;omega,λa ha=>by rw[List.mem_singleton.1 ha];show 1<=1000000;omega⟩,by show (1:Int)=2->False;decide⟩
  ·exact⟨⟨by show 1<=1000000;omega,by show 2<=1000000;omega,λa ha=>by
    simp only[List.mem_cons,List.not_mem_nil,or_false] at ha
    rcases ha with rfl|rfl
    ·show 1<=1000000;omega
    ·show 1<=1000000;omega⟩,by show (3:Int)=2->False;decide⟩
 ·have hr0:=run_2 (d:=5) ex_parts (by decide) (by decide)
  have hr:runS [⟨0,0,1,[],[exA]⟩,⟨5,0,3,[1],[exB,exC]⟩]=(v2,v3,v4):=hr
  rw[hr0] at hr
  injection hr with e2 e34
  injection e34 with e3 e4
  subst e2 e3 e4
  have hreg:=reg_L2 (d:=5) (u:=36865) ex_parts (by decide) (by decide) (by decide) (by decide)
  have hl3:(L2 5 36865 exA exB exC).length=3:=rfl
  obtain⟨g1,g2,_⟩:=heirs_go (n:=1) (d:=9) hreg (by omega) (by decide) (by decide) (by decide) (by rw[hl3];decide) (by show (0:Int)<=9;decide)
  obtain⟨g4,_,g6⟩:=heirs_go (n:=1) (d:=5) hreg (by omega) (by decide) (by decide) (by decide) (by rw[hl3];decide) (by show (0:Int)<=5;decide)
  rw[heirs_L2 (by decide) (by decide) (by decide)] at g2
  rw[heirs_L2 (by decide) (by decide) (by decide)] at g6
  rw[g1] at h6
  rw[g2] at h5
  rw[g6] at h7
  rw[g4] at h8
  have hx:=ex_share
  subst h5 h6 h8
  rw[<-h7] at hx
  have hl7:v7.length=2:=by rw[h7];rfl
  clear h7 g6 g4 g1 g2 hr0 hreg hl3
  refine IFB.yes rfl ?_
  refine JOIN.opq λ(J:Bool->Prop) hJ=> ?_
  refine IFB.yes rfl λv11 h11=> ?_
  have h11:v11=true:=h11.2 rfl
  subst h11
  rw[hJ]
  dsimp only
  refine λ_=>⟨λ_=>⟨Int.NonNeg.mk 1,by omega⟩,?_⟩
  rw[hx,hl7]
  exact hp
def lHeirs_C:CtxR:=⟨tau,[ruleN 12,rule1 kedits_sp,rule1 rrun_sp,rule1 pheirsV_sp,rule1 pshareV_sp,rule1 pon_sp,rule1 rints_sp,rule1 rarea_sp,rule1 pawake_sp],lookJ [(0,47,⟨[(130,.dat (.int .i64)),(23,.dat (.int .i64))],[],(List.range' 131 20++[24]),[],[]⟩),(0,1000020,⟨[(6,.dat .bool)],[],(List.range' 111 17),[],[]⟩),(0,9,⟨[(33,.dat (.int .i64)),(9,.own 25 (.st .api_Edit))],[],(List.range' 34 16++[11]),[],[]⟩),(0,16,⟨[(9,.own 25 (.st .api_Edit))],[],(List.range' 35 14++[11]),[0],[]⟩)]⟩
abbrev lHeirs_a0 (which:Int)(v11:List api_Parcel):=((IntKind.i64.wrap which).tmod (↑v11.length:Int)+(1:Int))
abbrev lHeirs_a1 (v11:List api_Parcel)(which:Int)(day:Int):=(IntKind.i64.wrap ((ix v11 (IntKind.i64.wrap (IntKind.i64.wrap (lHeirs_a0 which v11)-(1:Int)))).2+(IntKind.i64.wrap day).tmod (40:Int)))
abbrev lHeirs_a2 (v16:List arr2_i64)(which:Int)(v11:List api_Parcel):=((ix v16 (0:Int)).1=IntKind.i64.wrap (lHeirs_a0 which v11))
def lHeirs_W (l:List (Int))(which:Int)(day:Int)(post:Bool->Prop):Prop:=(Int.NonNeg 8/\Int.NonNeg 0/\Int.NonNeg 3/\(3:Int)<=10)/\∀(v1:List api_Edit)(v2:List api_Parcel),Hist ((8:Nat)) v1 v2->(↑v1.length:Int)<=9223372036854775807->LOOP [Ty.int IntKind.i64,(Ty.st Sn.api_Edit).sl] (λ(rec3:Int->List api_Edit->Prop) (z4:Int) (z5:List api_Edit)=>IFB (decide (z4<(↑v1.length:Int))) (JOIN [(Ty.st Sn.api_Edit).sl] (λ(y6:List api_Edit)=>rec3 (IntKind.i64.wrap (z4+1)) y6) λ(J7:List api_Edit->Prop)=>((0:Int)<=z4/\z4<(↑v1.length:Int))/\IFB (!decide ((ix v1 z4).3=2)&& !decide ((ix v1 z4).3=5)) ((z5.length+[{Day:=(ix v1 z4).1,Known:=(ix v1 z4).2,Kind:=(ix v1 z4).3,Parcels:=(ix v1 z4).4,Regions:=(ix v1 z4).5:api_Edit}].length) * (72:Nat)<=140737488355328/\J7 (z5++[{Day:=(ix v1 z4).1,Known:=(ix v1 z4).2,Kind:=(ix v1 z4).3,Parcels:=(ix v1 z4).4,Regions:=(ix v1 z4).5:api_Edit}])) (J7 z5)) ((z5.length<=1000000/\∀(v8:api_Edit),v8∈z5->szE v8/\∀(v9:api_Region),v9∈v8.5->∀(v10:api_Rect),v10∈v9.1->((0:Int)<=v10.1/\v10.1<v10.3/\v10.3<=16384/\0<=v10.2/\v10.2<v10.4/\v10.4<=16384)/\v10.3<=100/\v10.4<=100)/\∀(v11:List api_Parcel)(v12 v13:Int),szL v11/\runS z5=(v11,v12,v13)->(↑v11.length:Int)<=9223372036854775807->IFB (decide ((↑v11.length:Int)=0)) (post true) ((↑v11.length:Int)<=9223372036854775807->((↑v11.length:Int)=0->False)/\((0:Int)<=IntKind.i64.wrap (IntKind.i64.wrap (lHeirs_a0 which v11)-1)/\IntKind.i64.wrap (IntKind.i64.wrap (lHeirs_a0 which v11)-1)<(↑v11.length:Int))/\((40:Int)=0->False)/\szL v11/\∀(v14:List Int)(v15:Int),v14=heirsS v11 (IntKind.i64.wrap (lHeirs_a0 which v11)) (lHeirs_a1 v11 which day)/\v15=heirE v11 (IntKind.i64.wrap (lHeirs_a0 which v11)) (lHeirs_a1 v11 which day)->szL v11/\∀(v16:List arr2_i64)(v17:Int),v16=shareS v11 (IntKind.i64.wrap (lHeirs_a0 which v11)) (lHeirs_a1 v11 which day)/\v17=heirE v11 (IntKind.i64.wrap (lHeirs_a0 which v11)) (lHeirs_a1 v11 which day)->(gx false (!decide (v15=0)|| !decide (v17=0))=true->(↑v16.length:Int)<=9223372036854775807)->(gx false (!decide (v15=0)|| !decide (v17=0))=true->(↑v14.length:Int)<=9223372036854775807)->IFB (!decide (v15=0)|| !decide (v17=0)|| !decide ((↑v16.length:Int)=(↑v14.length:Int))) (post false) (szL v11/\∀(v18:List api_Rect)(v19:Bool),v18=(onS v11 (IntKind.i64.wrap (lHeirs_a0 which v11)) (lHeirs_a1 v11 which day)).1/\(v19=true↔onP v11 (IntKind.i64.wrap (lHeirs_a0 which v11)) (lHeirs_a1 v11 which day))->IFB v19 (JOIN [Ty.bool] (λ(y20:Bool)=>post y20) λ(J21:Bool->Prop)=>∀(v22:Bool),(v22=true↔v14=[IntKind.i64.wrap (lHeirs_a0 which v11)])->(gx true v22=true->Int.NonNeg 0/\0<(↑v16.length:Int))/\(JOIN [Ty.int IntKind.i64] (λ(y23:Int)=>JOIN [Ty.bool] (λ(y24:Bool)=>J21 (v22&&(decide (lHeirs_a2 v16 which v11)&&(decide ((ix v16 0).2=y23)&&true))&&y24)) λ(J25:Bool->Prop)=>IFB (gx true (v22&&(decide (lHeirs_a2 v16 which v11)&&(decide ((ix v16 0).2=y23)&&true)))) (J25 true) (J25 false)) λ(J26:Int->Prop)=>IFB (gx true v22) (J26 (areaS (⟨v18⟩:api_Region))) (J26 0))/\(JOIN [Ty.int IntKind.i64] (λ(y27:Int)=>JOIN [Ty.bool] (λ(y28:Bool)=>J21 (v22&&(decide (lHeirs_a2 v16 which v11)&&(decide ((ix v16 0).2=y27)&&true))&&y28)) λ(J29:Bool->Prop)=>IFB (gx true (v22&&(decide (lHeirs_a2 v16 which v11)&&(decide ((ix v16 0).2=y27)&&true)))) (J29 true) (J29 false)) λ(J30:Int->Prop)=>IFB (gx true v22) (J30 (areaS (⟨v18⟩:api_Region))) (J30 0))/\JOIN [Ty.int IntKind.i64] (λ(y31:Int)=>(JOIN [Ty.bool] (λ(y32:Bool)=>J21 (v22&&(decide (lHeirs_a2 v16 which v11)&&(decide ((ix v16 0).2=y31)&&true))&&y32)) λ(J33:Bool->Prop)=>IFB (gx true (v22&&(decide (lHeirs_a2 v16 which v11)&&(decide ((ix v16 0).2=y31)&&true)))) (J33 true) (J33 false))/\JOIN [Ty.bool] (λ(y34:Bool)=>J21 (v22&&(decide (lHeirs_a2 v16 which v11)&&(decide ((ix v16 0).2=y31)&&true))&&y34)) λ(J35:Bool->Prop)=>IFB (gx true (v22&&(decide (lHeirs_a2 v16 which v11)&&(decide ((ix v16 0).2=y31)&&true)))) (J35 true) (J35 false)) λ(J36:Int->Prop)=>IFB (gx true v22) (J36 (areaS (⟨v18⟩:api_Region))) (J36 0)) ((↑v16.length:Int)<=9223372036854775807->LOOP [Ty.int IntKind.i64,Ty.int IntKind.i64] (λ(rec37:Int->Int->Prop) (z38 z39:Int)=>IFB (decide (z38<(↑v16.length:Int))) (((0:Int)<=z38/\z38<(↑v16.length:Int))/\((0:Int)<=z38/\z38<(↑v14.length:Int))/\IFB (!decide ((ix v16 z38).1=ix v14 z38)) (post false) (((0:Int)<=z38/\z38<(↑v16.length:Int))/\rec37 (IntKind.i64.wrap (z38+1)) (IntKind.i64.wrap (z39+(ix v16 z38).2)))) (((0:Int)<=IntKind.i64.wrap (IntKind.i64.wrap (lHeirs_a0 which v11)-1)/\IntKind.i64.wrap (IntKind.i64.wrap (lHeirs_a0 which v11)-1)<(↑v11.length:Int))/\(Int.NonNeg 0/\0<(↑(ix v11 (IntKind.i64.wrap (IntKind.i64.wrap (lHeirs_a0 which v11)-1))).6.length:Int))/\JOIN [Ty.bool] (λ(y40:Bool)=>post (decide (z39=areaS {Rects:=(ix (ix v11 (IntKind.i64.wrap (IntKind.i64.wrap (lHeirs_a0 which v11)-1))).6 0).1:api_Region})&&y40)) λ(J41:Bool->Prop)=>IFB (gx true (decide (z39=areaS {Rects:=(ix (ix v11 (IntKind.i64.wrap (IntKind.i64.wrap (lHeirs_a0 which v11)-1))).6 0).1:api_Region}))) (J41 true) (J41 false))) ((0:Int),(0:Int),PUnit.unit)))))) ((0:Int),[],PUnit.unit)
theorem lHeirs_w (l:List (Int))(which:Int)(day:Int)(post:Bool->Prop):lHeirs_W l which day post=lawG (callR Tryz.prog lHeirs_C (drawF Tryz.prog tau) 12 0) 4 [tv (.sl (.int .i64)) l,tv (.int .u8) which,tv (.int .u8) day] post:=by kernel_rfl
theorem lHeirs_calls (l:List (Int))(which:Int)(day:Int)(h:lHeirs_W l which day λb=>b=true){w:World}{S:Cells}{us:List Value}(h1:∀b o,S b o->b<w.heap.size)(h3:us.length=3)(h4:∀(i:Nat)(d:D)(u:Value),[tv (.sl (.int .i64)) l,tv (.int .u8) which,tv (.int .u8) day][i]? =some d->us[i]? =some u->Rd S w d u):Calls Tryz.prog 4 us.toArray w λe w'=>(∃b,e= .returned (.bool b)/\b=true)/\Below w.heap.size w w':=lawG_okH (cp:=callR Tryz.prog lHeirs_C (drawF Tryz.prog tau) 12 0) (callR_ok (C:=lHeirs_C) (dr:=drawF Tryz.prog tau) (.cons (ruleN_ok knew_ok) (.cons (rule1_ok kedits_ok) (.cons (rule1_ok rrun_ok) (.cons (rule1_ok pheirsV_ok) (.cons (rule1_ok pshareV_ok) (.cons (rule1_ok pon_ok) (.cons (rule1_ok rints_ok) (.cons (rule1_ok rarea_ok) (.cons (rule1_ok pawake_ok) .nil))))))))) (drawF_ok tau) 12 0) (HoldW.of (lHeirs_w l which day λb=>b=true) h) h1 h3 h4
theorem wf_u8h {a:Int}(h:(Lit.int .u8 a).wf=true):0<=a/\a<=255:=by
 simp[Lit.wf,IntKind.min,IntKind.max,IntKind.bits,IntKind.signed] at h;omega
theorem joinB {J:Bool->Prop}{c:Bool}(hc:c=true)(hT:J true):JOIN [Ty.bool] (λ(b:Bool)=>J (c&&b)) λ(K:Bool->Prop)=>IFB (gx true c) (K true) (K false):=by
 subst hc
 refine JOIN.opq λ(K:Bool->Prop) hK=>IFB.yes rfl ?_
 rw[hK]
 exact hT
theorem take_sum:∀{L:List Int}{k:Nat},(∀a∈L,0<=a)->0<=(L.take k).sum/\(L.take k).sum<=L.sum
 |[],k,_=>by simp
 |a::L,0,h=>by
  obtain⟨h1,h2⟩:=take_sum (L:=L) (k:=L.length) λb hb=>h b (by simp[hb])
  rw[List.take_length] at h1
  have:=h a (by simp)
  rw[List.take_zero,List.sum_cons]
  exact⟨Int.le_refl _,by show (0:Int)<=_;omega⟩
 |a::L,k+1,h=>by
  obtain⟨h1,h2⟩:=take_sum (L:=L) (k:=k) λb hb=>h b (by simp[hb])
  have:=h a (by simp)
  rw[List.take_succ_cons,List.sum_cons,List.sum_cons]
  omega
set_option maxHeartbeats 4000000 in
theorem lHeirs_h (l:List Int)(which day:Int)(w1:(Lit.int .u8 which).wf=true)(w2:(Lit.int .u8 day).wf=true):lHeirs_W l which day λb=>b=true:=by
 obtain⟨b1,b2⟩:=wf_u8h w1
 obtain⟨b3,b4⟩:=wf_u8h w2
 unfold lHeirs_W lHeirs_a2 lHeirs_a1 lHeirs_a0
 refine⟨⟨.mk _,.mk _,.mk _,by omega⟩,λes x hh _=> ?_⟩
 have hh:Hist 8 es x:=hh
 have hlen:=hh.len
 refine LOOP.fuel2 (λ(z:Int) (b:List Ed)=>∃k:Nat,z=(k:Int)/\k<=es.length/\b.length<=k/\∀e∈b,e∈es/\e.Kind≠2/\e.Kind≠5) (λz _=>es.length-Int.toNat z) ⟨0,rfl,Nat.zero_le _,Nat.le_refl _,λe he=>by cases he⟩ ?_
 rintro rec (z:Int) (b:List Ed) ⟨k,i1,i2,i3,i4⟩ hrec
 subst i1
 refine IFB.mk (λhb=> ?_) (λhb=> ?_)
 ·have hb:(k:Int)<es.length:=of_decide_eq_true hb
  refine JOIN.opq λ(J:List Ed->Prop) hJ=>⟨⟨by omega,hb⟩,?_⟩
  have next:∀c:List Ed,c.length<=k+1->(∀e∈c,e∈es/\e.Kind≠2/\e.Kind≠5)->J c:=λc h1 h2=>by
   rw[hJ,wrapS (by omega)]
   exact hrec ((k+1:Nat):Int) c ⟨k+1,rfl,by omega,h1,h2⟩ (by show es.length-((k+1:Nat):Int).toNat<es.length-(k:Int).toNat;omega)
  refine IFB.mk (λhc=>⟨by simp only[List.length_cons,List.length_nil];omega,next _ (by rw[List.length_append];simp only[List.length_cons,List.length_nil];omega) λe he=> ?_⟩) (λ_=>next _ (by omega) i4)
  rw[Bool.and_eq_true] at hc
  rcases List.mem_append.1 he with he|he
  ·exact i4 e he
  ·have he:e=ix es (k:Int):=List.mem_singleton.1 he
   subst he
   exact⟨ix_mem (by omega) hb,by simpa using hc.1,by simpa using hc.2⟩
 have hb:¬(k:Int)<es.length:=of_decide_eq_false hb
 refine⟨⟨by omega,λe he=> ?_⟩,λL n g hx=> ?_⟩
 ·have h:=hh.ed e (i4 e he).1
  exact⟨h.1,bxE_mono (N:=100) (by omega) h.2.1⟩
 obtain⟨hsx,hrun⟩:=hx
 have hF:Full L:=by
  have e0:runS b=runG [] 0 b:=by unfold runS;rw[if_neg (by omega)]
  have h1:=run_full (es:=b) (i:=0) full_nil λe he=>⟨(i4 e he).2,(hh.ed e (i4 e he).1).2.2.2.2.1⟩
  rw[e0] at hrun
  rw[hrun] at h1
  exact h1
 clear hrec hrun i4
 intro _
 refine IFB.mk (λ_=>rfl) (λhne _=> ?_)
 have hne:¬(L.length:Int)=0:=of_decide_eq_false hne
 obtain⟨h60,hreg⟩:=checkS_0.1 hF.ok
 obtain⟨N,eN,hN⟩:∃N:Nat,(IntKind.i64.wrap which).tmod (L.length:Int)=(N:Int)/\N<L.length:=by
  have q1:=Int.emod_nonneg which hne
  have q2:=Int.emod_lt_of_pos which (show 0<(L.length:Int) by omega)
  refine⟨(which % (L.length:Int)).toNat,?_,by omega⟩
  rw[wrap_in (z:=which) (by omega) (by omega),Int.tmod_eq_emod_of_nonneg b1]
  omega
 obtain⟨D,eD,D1,D2⟩:∃D:Int,(IntKind.i64.wrap day).tmod (40:Int)=D/\0<=D/\D<=39:=⟨day % 40,by rw[wrap_in (z:=day) (by omega) (by omega),Int.tmod_eq_emod_of_nonneg b3],by omega,by omega⟩
 have hm:ix L (N:Int)∈L:=ix_mem (by omega) (by omega)
 have f0:0<=(ix L (N:Int)).2:=(regP_out hreg _ hm).2.1
 have f1:(ix L (N:Int)).2<=100:=Int.le_trans (out_from (regP_out hreg _ hm).1) (hF.late _ hm).1
 have e2:IntKind.i64.wrap ((N:Int)+1)=(N:Int)+1:=wrap_in (by omega) (by omega)
 have e3:IntKind.i64.wrap ((N:Int)+1-1)=(N:Int):=by rw[wrap_in (by omega) (by omega)];omega
 have e4:IntKind.i64.wrap ((ix L (N:Int)).2+D)=(ix L (N:Int)).2+D:=wrap_in (by omega) (by omega)
 rw[eN,e2,e3,eD,e4]
 obtain⟨d,hd⟩:∃d,(ix L (N:Int)).2+D=d:=⟨_,rfl⟩
 rw[hd]
 have hfd:(ix L (N:Int)).From<=d:=by show (ix L (N:Int)).2<=d;omega
 have hE:heirE L ((N:Int)+1) d=0:=heirE_0.2 ⟨hF.ok,by omega,by omega,by omega,by omega,by rw[show (N:Int)+1-1=(N:Int) by omega];exact hfd⟩
 refine⟨λh=>hne h,⟨by omega,by omega⟩,λh=>by omega,hsx,λh g1 hA=>⟨hsx,λs g2 hB=> ?_⟩⟩
 obtain⟨hA1,hA2⟩:=hA
 obtain⟨hB1,hB2⟩:=hB
 subst hA1 hA2 hB1 hB2
 have hh1:heirsS L ((N:Int)+1) d=heirsL L ((N:Int)+1) d:=by unfold heirsS;rw[if_pos hE]
 have hh2:shareS L ((N:Int)+1) d=shareL L ((N:Int)+1) d (heirsL L ((N:Int)+1) d):=by unfold shareS;rw[if_pos hE]
 rw[hh1,hh2,hE]
 have hsl:(shareL L ((N:Int)+1) d (heirsL L ((N:Int)+1) d)).length=(heirsL L ((N:Int)+1) d).length:=by unfold shareL;rw[List.length_map]
 have hhl:(heirsL L ((N:Int)+1) d).length<=L.length:=heirsL_len
 intro _ _
 refine IFB.no (by rw[hsl];simp) ⟨hsx,λr q hC=> ?_⟩
 obtain⟨hC1,hq⟩:=hC
 subst hC1
 refine IFB.mk (λhq1=> ?_) (λhq1 _=> ?_)
 ·have hon:=hq.1 hq1
  have ht:thereP (ix L (N:Int)) d:=by
   have:=hon.2.2.2
   rwa [show (N:Int)+1-1=(N:Int) by omega] at this
  have hal:=heirs_alone hreg hN ht
  obtain⟨A,hAr⟩:∃A,areaS (⟨(onS L ((N:Int)+1) d).1⟩:api_Region)=A:=⟨_,rfl⟩
  have hs:shareL L ((N:Int)+1) d [(N:Int)+1]=[(⟨(N:Int)+1,A⟩:arr2_i64)]:=by
   obtain⟨m1,m2⟩:=on_mem hon hreg
   have hv:=(reg_prop hreg m2 m1).2
   have ho:onS L ((N:Int)+1) d=outlS (ix L ((N:Int)+1-1)) d:=by unfold onS;rw[if_pos hon]
   unfold shareL
   show [(⟨(N:Int)+1,sizeS (canonF (comb (howS 2) (outlS (ix L ((N:Int)+1-1)) d).Rects (outlS (ix L ((N:Int)+1-1)) d).Rects))⟩:arr2_i64)]=_
   rw[<-ho,both_cnt hv,<-hAr]
   have e:areaS (⟨(onS L ((N:Int)+1) d).1⟩:api_Region)=cntS (cov (onS L ((N:Int)+1) d).Rects):=areaS_valid hv
   rw[e,cntS_congr (g:=cov (onS L ((N:Int)+1) d).Rects) λx y=>Bool.and_self _]
  rw[hal,hs,hAr]
  refine JOIN.opq λ(J21:Bool->Prop) hJ21=>λv hv=> ?_
  have hv:v=true:=hv.2 rfl
  subst hv
  have hT:J21 true:=by rw[hJ21]
  have d1:decide ((ix [(⟨(N:Int)+1,A⟩:arr2_i64)] (0:Int)).1=(N:Int)+1)=true:=decide_eq_true rfl
  have d2:decide ((ix [(⟨(N:Int)+1,A⟩:arr2_i64)] (0:Int)).2=A)=true:=decide_eq_true rfl
  have key:(true&&(decide ((ix [(⟨(N:Int)+1,A⟩:arr2_i64)] (0:Int)).1=(N:Int)+1)&&(decide ((ix [(⟨(N:Int)+1,A⟩:arr2_i64)] (0:Int)).2=A)&&true)))=true:=by rw[d1,d2];rfl
  refine⟨λ_=>⟨.mk _,by simp only[List.length_cons,List.length_nil];omega⟩,?_,?_,?_⟩
  ·refine JOIN.opq λ(J:Int->Prop) hJ=>IFB.yes rfl ?_
   rw[hJ]
   exact joinB key hT
  ·refine JOIN.opq λ(J:Int->Prop) hJ=>IFB.yes rfl ?_
   rw[hJ]
   exact joinB key hT
  ·refine JOIN.opq λ(J:Int->Prop) hJ=>IFB.yes rfl ?_
   rw[hJ]
   exact⟨joinB key hT,joinB key hT⟩
 ·have hsum:=heirs_sum hF hN hfd (by omega)
  have hpos:∀a∈(shareL L ((N:Int)+1) d (heirsL L ((N:Int)+1) d)).map (·.2),0<=a:=λa ha=>by
   obtain⟨p,hp,rfl⟩:=List.mem_map.1 ha
   unfold shareL at hp
   obtain⟨k,hk,rfl⟩:=List.mem_map.1 hp
   show 0<=sizeS _
   rw[show (N:Int)+1-1=(N:Int) by omega,outl_one (hF.one _ hm),both_cnt]
   ·exact cntS_nn
   ·have hdl:=regP_days hreg _ hm
    have h1:=hF.one _ hm
    exact (reg_prop hreg hm (ix_mem (by omega) (by omega))).2
  have hix:∀k:Nat,k<(heirsL L ((N:Int)+1) d).length->(ix (shareL L ((N:Int)+1) d (heirsL L ((N:Int)+1) d)) (k:Int)).1=ix (heirsL L ((N:Int)+1) d) (k:Int):=λk hk=>by
   rw[ix_lt (by omega),ix_lt hk]
   unfold shareL
   rw[List.getElem_map]
  have harea:=(areaS_le (a:=ix (ix L (N:Int)).Regions 0))
  generalize shareL L ((N:Int)+1) d (heirsL L ((N:Int)+1) d)=SH at *
  generalize heirsL L ((N:Int)+1) d=H at *
  refine LOOP.fuel2 (λ(z:Int) (s:Int)=>∃k:Nat,z=(k:Int)/\k<=SH.length/\s=((SH.map (·.2)).take k).sum) (λz _=>SH.length-Int.toNat z) ⟨0,rfl,Nat.zero_le _,rfl⟩ ?_
  rintro rec (z:Int) (s:Int) ⟨k,j1,j2,j3⟩ hrec
  subst j1
  obtain⟨t1,t2⟩:=take_sum (k:=k) hpos
  rw[<-j3] at t1 t2
  refine IFB.mk (λhb=> ?_) (λhb=> ?_)
  ·have hb:(k:Int)<SH.length:=of_decide_eq_true hb
   have hk:k<SH.length:=by omega
   refine⟨⟨by omega,hb⟩,⟨by omega,by omega⟩,IFB.no (by rw[hix k (by omega)];simp) ⟨⟨by omega,hb⟩,?_⟩⟩
   obtain⟨u1,u2⟩:=take_sum (k:=k+1) hpos
   have hstep:((SH.map (·.2)).take (k+1)).sum=s+(ix SH (k:Int)).2:=by
    rw[List.take_succ_eq_append_getElem (by rw[List.length_map];exact hk),List.sum_append,<-j3,List.getElem_map,ix_lt hk]
    simp
   rw[hstep] at u1 u2
   rw[wrapS (by omega),wrap_in (z:=s+(ix SH (k:Int)).2) (by omega) (by omega)]
   exact hrec ((k+1:Nat):Int) _ ⟨k+1,rfl,hk,hstep.symm⟩ (by show SH.length-((k+1:Nat):Int).toNat<SH.length-(k:Int).toNat;omega)
  ·have hb:¬(k:Int)<SH.length:=of_decide_eq_false hb
   have hk:k=SH.length:=by omega
   have hdl:=regP_days hreg _ hm
   have h1:=hF.one _ hm
   refine⟨⟨by omega,by omega⟩,⟨.mk _,by show (0:Int)<((ix L (N:Int)).Regions.length:Int);omega⟩,joinB (J:=λb=>b=true) (decide_eq_true ?_) rfl⟩
   rw[j3,hk,List.take_of_length_le (by rw[List.length_map];exact Nat.le_refl _),hsum]
end RE
end Go.Proofs.YtpeggkeenboacaaGreat
