/-
  Texts of the proof of ParcelApart, part GF.
-/
import Derived.Test.YtpeggkeenboacaaGreatAGE
import Derived.Test.YtpeggkeenboacaaGreatAGD
import Derived.Test.YtpeggkeenboacaaGreatAGW
set_option linter.unusedVariables false
noncomputable section
namespace Go.Proofs.YtpeggkeenboacaaGreat
namespace RE
set_option maxRecDepth 100000
open Go.RowKit
open PL
def pallD_P (l:List (api_Parcel))(post:List (api_Parcel)->Prop):Prop:=(szL l)/\post (l)
def pallD_sp:Spec:=⟨76,false,true,[.sl (.st .api_Parcel)],.own 1000050 (.st .api_Parcel),λx post=>pallD_P (x.1:List (api_Parcel)) (λy0=>post (y0,()))⟩
def pallD_C:CtxR:=⟨tauD,[rule1 pclI_sp,rule1 pclR_sp,rule1 pcpy_sp],lookJ [(0,7,⟨[(10,.dat (.int .i64)),(3,.own 1000050 (.st .api_Parcel))],[],(List.range' 11 35++[5,6,7]),[],[]⟩),(0,15,⟨[(29,.dat (.int .i64))],[],(List.range' 30 11++[6,7]),[],[(4,29,(.st .api_Region))]⟩),(0,1000005,⟨[],[(1,[.dat (.int .i64),.dat (.int .i64),.dat (.int .i64),.own 3 (.int .i64),.own 3 (.int .i64),.own 29 (.st .api_Region)])],(List.range' 14 12),[],[]⟩)]⟩
def pallD_W (l:List (api_Parcel))(post:List (api_Parcel)->Prop):Prop:=(↑l.length:Int)<=9223372036854775807->LOOP [Ty.int IntKind.i64,(Ty.st Sn.api_Parcel).sl] (λ(rec1:Int->List api_Parcel->Prop) (z2:Int) (z3:List api_Parcel)=>IFB (decide (z2<(↑l.length:Int))) (((0:Int)<=z2/\z2<(↑l.length:Int))/\JOIN [Ty.int IntKind.i64,Ty.int IntKind.i64,Ty.int IntKind.i64,(Ty.int IntKind.i64).sl,(Ty.int IntKind.i64).sl,(Ty.st Sn.api_Region).sl] (λ(y4 y5 y6:Int) (y7 y8:List Int) (y9:List api_Region)=>(↑y9.length:Int)<=9223372036854775807->LOOP [Ty.int IntKind.i64,(Ty.st Sn.api_Region).sl] (λ(rec10:Int->List api_Region->Prop) (z11:Int) (z12:List api_Region)=>IFB (decide (z11<(↑y9.length:Int))) (((0:Int)<=z11/\z11<(↑z12.length:Int))/\(ix z12 z11).1.length<=4000000/\((0:Int)<=z11/\z11<(↑z12.length:Int))/\rec10 (IntKind.i64.wrap (z11+1)) (z12.set z11.toNat {Rects:=(ix z12 z11).1:api_Region})) ((z3.length+[(⟨y4,y5,y6,y7,y8,z12⟩:api_Parcel)].length) * (96:Nat)<=140737488355328/\rec1 (IntKind.i64.wrap (z2+1)) (z3++[(⟨y4,y5,y6,y7,y8,z12⟩:api_Parcel)]))) ((0:Int),y9,PUnit.unit)) λ(J13:Int->Int->Int->List Int->List Int->List api_Region->Prop)=>(ix l z2).4.length<=4000000/\(ix l z2).5.length<=4000000/\(ix l z2).6.length<=4000000/\J13 (ix l z2).1 (ix l z2).2 (ix l z2).3 (ix l z2).4 (ix l z2).5 (ix l z2).6) (post z3)) ((0:Int),[],PUnit.unit)
theorem pallD_w (l:List (api_Parcel))(post:dens (shT pallD_sp.rs [])->Prop):pallD_W l (λy0=>post (y0,()))=walkG (callR Tryz.prog pallD_C (drawF Tryz.prog tauD) 8 0) 76 false [tv (.sl (.st .api_Parcel)) l] pallD_sp.rs post:=by kernel_rfl
theorem pallD_of (h:∀l post,pallD_P l post->pallD_W l post):SpecOK Tryz.prog pallD_sp:=SpecOK.of_rules (C:=pallD_C) (dr:=drawF Tryz.prog tauD) (n:=8) (fk:=0) (.cons (rule1_ok pclI_ok) (.cons (rule1_ok pclR_ok) (.cons (rule1_ok pcpy_ok) .nil))) (drawF_ok tauD) λx post hp=>HoldW.of (pallD_w x.1 post) (h x.1 (λy0=>post (y0,())) hp)
theorem pallD_ok:SpecOK Tryz.prog pallD_sp:=pallD_of λl post hp=>by
 obtain⟨hsz,hp⟩:=hp
 have hl:=hsz.len
 unfold pallD_W
 refine λ_=>LOOP.fuel2 (λz b=>allI l z b) (λz _=>l.length-Int.toNat z) ⟨0,rfl,Nat.zero_le _,rfl⟩ ?_
 rintro rec (z:Int) (b:List Pc) ⟨k,i1,i2,i3⟩ hrec
 subst i1
 refine IFB.mk (λhb=> ?_) (λhb=> ?_)
 ·have hb:(k:Int)<l.length:=of_decide_eq_true hb
  have hk:k<l.length:=by omega
  have hx:=hsz.all _ (ix_mem (l:=l) (i:=(k:Int)) (by omega) (by omega))
  have x1:=hx.days
  have x2:=hx.regs
  have x3:=hx.pars
  have x4:=hx.rect
  refine⟨by omega,JOIN.opq λ(J:Int->Int->Int->List Int->List Int->List api_Region->Prop) hJ=>⟨by omega,by omega,by omega,?_⟩⟩
  rw[hJ]
  refine λ_=>LOOP.fuel2 (λ(u:Int) (c:List api_Region)=>∃j:Nat,u=(j:Int)/\j<=(ix l (k:Int)).6.length/\c=(ix l (k:Int)).6) (λu _=>(ix l (k:Int)).6.length-Int.toNat u) ⟨0,rfl,Nat.zero_le _,rfl⟩ ?_
  rintro rec2 (u:Int) (c:List api_Region) ⟨j,j1,j2,j3⟩ hrec2
  subst j1 j3
  refine IFB.mk (λhc=> ?_) (λhc=> ?_)
  ·have hc:(j:Int)<(ix l (k:Int)).6.length:=of_decide_eq_true hc
   have hj:j<(ix l (k:Int)).6.length:=by omega
   refine⟨by omega,?_,by omega,?_⟩
   ·have:=x4 _ (ix_mem (l:=(ix l (k:Int)).6) (i:=(j:Int)) (by omega) (by omega));omega
   ·rw[wrapS (by omega)]
    have e:(ix l (k:Int)).6.set (j:Int).toNat {Rects:=(ix (ix l (k:Int)).6 (j:Int)).1}=(ix l (k:Int)).6:=by
     show List.set _ j (ix (ix l (k:Int)).6 (j:Int))=_
     rw[ix_lt hj];exact List.set_getElem_self hj
    rw[e]
    exact hrec2 ((j+1:Nat):Int) _ ⟨j+1,rfl,hj,rfl⟩ (by show (ix l (k:Int)).6.length-((j+1:Nat):Int).toNat<(ix l (k:Int)).6.length-(j:Int).toNat;omega)
  ·have hbl:b.length<=1000000:=by rw[i3,List.length_take];omega
   refine⟨by simp only[List.length_cons,List.length_nil];omega,?_⟩
   rw[wrapS (by omega)]
   refine hrec ((k+1:Nat):Int) _ ⟨k+1,rfl,hk,?_⟩ (by show l.length-((k+1:Nat):Int).toNat<l.length-(k:Int).toNat;omega)
   show b++[ix l (k:Int)]=_
   rw[i3,List.take_succ_eq_append_getElem hk,ix_lt hk]
 ·have hb:¬(k:Int)<l.length:=of_decide_eq_false hb
  have hk:k=l.length:=by omega
  have e:b=l:=by rw[i3,hk,List.take_length]
  show post b
  rw[e];exact hp
def pmeL_P (l:List (api_Parcel))(a:api_Region)(but:Int)(post:Bool->Prop):Prop:=(l.length<=1000000/\∀p∈l,0<p.6.length/\p.6.length<=1000000)/\∀q:Bool,(q=true↔hitP l a but)->post q
def pmeL_sp:SpecL:=⟨189,.st .api_Parcel,[.st .api_Region,.int .i64],λl x post=>pmeL_P (l:List (api_Parcel)) (x.1:api_Region) (x.2.1:Int) post⟩
def pmeL_C:CtxR:=⟨tau,[rule1 pmts_sp],lookJ [(1070587931,0,⟨[(0,.dat (.int .i64))],[],[],[],[]⟩),(1070587931,5,⟨[(8,.dat (.int .i64))],[],(List.range' 9 8++[5,18]),[],[]⟩),(1116024753383661,1000001,⟨[(4,.dat .bool)],[],(List.range' 5 15),[],[]⟩)]⟩
def pmeL_W (l:List (api_Parcel))(a:api_Region)(but:Int)(post:Bool->Prop):Prop:=JOIN [Ty.int IntKind.i64] (λ(y1:Int)=>post (decide ((0:Int)<=y1))) λ(J2:Int->Prop)=>(↑l.length:Int)<=9223372036854775807->LOOP [Ty.int IntKind.i64] (λ(rec3:Int->Prop) (z4:Int)=>IFB (decide (z4<(↑l.length:Int))) (((0:Int)<=z4/\z4<(↑l.length:Int))/\JOIN [Ty.bool] (λ(y5:Bool)=>IFB y5 (J2 z4) (rec3 (IntKind.i64.wrap (z4+1)))) λ(J6:Bool->Prop)=>JOIN [Ty.st Sn.api_Region] (λ(y7:api_Region)=>JOIN [Ty.bool] (λ(y8:Bool)=>J6 (decide ((ix l z4).3=36865)&& !decide ((ix l z4).1=but)&&y8)) λ(J9:Bool->Prop)=>IFB (gx true (decide ((ix l z4).3=36865)&& !decide ((ix l z4).1=but))) (∀(v10:Bool),(v10=true↔meetP a.1 y7.1)->J9 v10) (J9 false)) λ(J11:api_Region->Prop)=>IFB (gx true (decide ((ix l z4).3=36865)&& !decide ((ix l z4).1=but))) ((↑(ix l z4).6.length:Int)<=9223372036854775807->((0:Int)<=IntKind.i64.wrap ((↑(ix l z4).6.length:Int)-1)/\IntKind.i64.wrap ((↑(ix l z4).6.length:Int)-1)<(↑(ix l z4).6.length:Int))/\J11 {Rects:=(ix (ix l z4).6 (IntKind.i64.wrap ((↑(ix l z4).6.length:Int)-1))).1:api_Region}) (J11 (dflt (Ty.st Sn.api_Region),()).fst)) (J2 (-1:Int))) ((0:Int),PUnit.unit)
theorem pmeL_w (l:List (api_Parcel))(a:api_Region)(but:Int)(post:Bool->Prop):pmeL_W l a but post=walkL (callR Tryz.prog pmeL_C (drawF Tryz.prog tau) 8 0) 189 (.st .api_Parcel) l [tv (.st .api_Region) a,tv (.int .i64) but] post:=by kernel_rfl
theorem pmeL_of (h:∀l a but post,pmeL_P l a but post->pmeL_W l a but post):SpecLOK Tryz.prog pmeL_sp:=SpecLOK.of_rules (C:=pmeL_C) (dr:=drawF Tryz.prog tau) (n:=8) (fk:=0) (.cons (rule1_ok pmts_ok) .nil) (drawF_ok tau) λl x post hp=>HoldW.of (pmeL_w l x.1 x.2.1 post) (h l x.1 x.2.1 post hp)
theorem pmeL_ok:SpecLOK Tryz.prog pmeL_sp:=pmeL_of λl a but post hp=>by
 obtain⟨⟨hl,hr⟩,hp⟩:=hp
 unfold pmeL_W
 refine JOIN.opq λ(J2:Int->Prop) hJ2 _=> ?_
 refine meets_in (a:=a) (but:=but) hl hr (λz h0 hh=> ?_) (λhh=> ?_)
 ·rw[hJ2]
  exact hp _ ⟨λ_=>hh,λ_=>decide_eq_true h0⟩
 ·rw[hJ2]
  exact hp _ ⟨λh=>(by cases h),λh=>absurd h hh⟩
def papp2_P (l:List (api_Parcel))(e:api_Edit)(post:List (api_Parcel)->Int->Prop):Prop:=(szL l/\szE e/\e.Kind=2)/\post (applyS l e).1 (applyS l e).2
def papp2_sp:Spec:=⟨20,false,true,[.sl (.st .api_Parcel),.st .api_Edit],.tup [.dat (.sl (.st .api_Parcel)),.dat (.int .i64)],λx post=>papp2_P (x.1:List (api_Parcel)) (x.2.1:api_Edit) (λy0 y1=>post (y0,y1,()))⟩
def papp2_C:CtxR:=⟨tauD,[rule1 pedit_sp,rule1 pallD_sp,ruleMap 77 false Forms.es,ruleL pmeL_sp,rule1 pcpy_sp],lookJ []⟩
abbrev papp2_a0 (post:List (api_Parcel)->Int->Prop)(l:List (api_Parcel))(ps:List (Int))(day:Int)(rs:List (api_Region)):=(post (l.set (IntKind.i64.wrap (ix ps (0:Int)-(1:Int))).toNat {Number:=(ix l (IntKind.i64.wrap (ix ps (0:Int)-(1:Int)))).1,From:=(ix l (IntKind.i64.wrap (ix ps (0:Int)-(1:Int)))).2,Until:=(ix l (IntKind.i64.wrap (ix ps (0:Int)-(1:Int)))).3,Parents:=(ix l (IntKind.i64.wrap (ix ps (0:Int)-(1:Int)))).4,Days:=(ix l (IntKind.i64.wrap (ix ps (0:Int)-(1:Int)))).5++[day],Regions:=(ix l (IntKind.i64.wrap (ix ps (0:Int)-(1:Int)))).6++[{Rects:=(ix rs (0:Int)).1:api_Region}]:api_Parcel}) (0:Int))
abbrev papp2_a1 (l:List (api_Parcel))(ps:List (Int)):=(ix l (IntKind.i64.wrap (ix ps (0:Int)-(1:Int))))
abbrev papp2_a2 (l:List (api_Parcel))(ps:List (Int))(day:Int)(rs:List (api_Region))(post:List (api_Parcel)->Int->Prop):=(((papp2_a1 l ps).5.length+[day].length) * (8:Nat)<=(140737488355328:Nat)/\(IntKind.i64.wrap (ix ps (0:Int)-(1:Int))=IntKind.i64.wrap (ix ps (0:Int)-(1:Int))/\(ix rs (0:Int)).1.length<=(4000000:Nat)/\((papp2_a1 l ps).6.length+[{Rects:=(ix rs (0:Int)).1:api_Region}].length) * (24:Nat)<=(140737488355328:Nat)/\IntKind.i64.wrap (ix ps (0:Int)-(1:Int))=IntKind.i64.wrap (ix ps (0:Int)-(1:Int))/\IntKind.i64.wrap (ix ps (0:Int)-(1:Int))=IntKind.i64.wrap (ix ps (0:Int)-(1:Int))/\IFB false (szL l/\post l (0:Int)) (papp2_a0 post l ps day rs))/\(ix rs (0:Int)).1.length<=(4000000:Nat)/\(IntKind.i64.wrap (ix ps (0:Int)-(1:Int))=IntKind.i64.wrap (ix ps (0:Int)-(1:Int))/\((papp2_a1 l ps).6.length+[{Rects:=(ix rs (0:Int)).1:api_Region}].length) * (24:Nat)<=(140737488355328:Nat)/\IntKind.i64.wrap (ix ps (0:Int)-(1:Int))=IntKind.i64.wrap (ix ps (0:Int)-(1:Int))/\IntKind.i64.wrap (ix ps (0:Int)-(1:Int))=IntKind.i64.wrap (ix ps (0:Int)-(1:Int))/\IFB false (szL l/\post l (0:Int)) (papp2_a0 post l ps day rs))/\IntKind.i64.wrap (ix ps (0:Int)-(1:Int))=IntKind.i64.wrap (ix ps (0:Int)-(1:Int))/\((papp2_a1 l ps).6.length+[{Rects:=(ix rs (0:Int)).1:api_Region}].length) * (24:Nat)<=(140737488355328:Nat)/\IntKind.i64.wrap (ix ps (0:Int)-(1:Int))=IntKind.i64.wrap (ix ps (0:Int)-(1:Int))/\IntKind.i64.wrap (ix ps (0:Int)-(1:Int))=IntKind.i64.wrap (ix ps (0:Int)-(1:Int))/\IFB false (szL l/\post l (0:Int)) (papp2_a0 post l ps day rs))
abbrev papp2_a3 (l:List (api_Parcel))(ps:List (Int))(rs:List (api_Region)):=(l.set (IntKind.i64.wrap (ix ps (0:Int)-(1:Int))).toNat {Number:=(papp2_a1 l ps).1,From:=(papp2_a1 l ps).2,Until:=(papp2_a1 l ps).3,Parents:=(papp2_a1 l ps).4,Days:=(papp2_a1 l ps).5,Regions:=(papp2_a1 l ps).6.set (IntKind.i64.wrap ((↑(papp2_a1 l ps).5.length:Int)-(1:Int))).toNat {Rects:=(ix rs (0:Int)).1:api_Region}:api_Parcel})
abbrev papp2_a4 (l:List (api_Parcel))(ps:List (Int))(rs:List (api_Region)):=((papp2_a1 l ps).6.length+[{Rects:=(ix rs (0:Int)).1:api_Region}].length)
def papp2_W (l:List (api_Parcel))(day:Int)(known:Int)(ps:List (Int))(rs:List (api_Region))(post:List (api_Parcel)->Int->Prop):Prop:=(szL l/\szE (⟨day,known,(2:Int),ps,rs⟩:api_Edit))/\IFB (!decide (editS l (⟨day,known,(2:Int),ps,rs⟩:api_Edit)=0)) (szL l/\post l (editS l (⟨day,known,(2:Int),ps,rs⟩:api_Edit))) (szL l/\(Int.NonNeg 0/\0<(↑rs.length:Int))/\(Int.NonNeg 0/\0<(↑ps.length:Int))/\(l.length<=1000000/\∀(v1:api_Parcel),v1∈l->0<v1.6.length/\v1.6.length<=1000000)/\∀(v2:Bool),(v2=true↔hitP l {Rects:=(ix rs 0).1:api_Region} (ix ps 0))->IFB v2 (IFB true (szL l/\post l 11) (post l 0)) ((Int.NonNeg 0/\0<(↑ps.length:Int))/\((0:Int)<=IntKind.i64.wrap (ix ps 0-1)/\IntKind.i64.wrap (ix ps 0-1)<(↑l.length:Int))/\IntKind.i64.wrap (ix ps 0-1)=IntKind.i64.wrap (ix ps 0-1)/\((↑(papp2_a1 l ps).5.length:Int)<=9223372036854775807->IntKind.i64.wrap (ix ps 0-1)=IntKind.i64.wrap (ix ps 0-1)/\((0:Int)<=IntKind.i64.wrap ((↑(papp2_a1 l ps).5.length:Int)-1)/\IntKind.i64.wrap ((↑(papp2_a1 l ps).5.length:Int)-1)<(↑(papp2_a1 l ps).5.length:Int))/\IFB (decide (ix (papp2_a1 l ps).5 (IntKind.i64.wrap ((↑(papp2_a1 l ps).5.length:Int)-1))=day)) ((Int.NonNeg 0/\0<(↑rs.length:Int))/\(IntKind.i64.wrap (ix ps 0-1)=IntKind.i64.wrap (ix ps 0-1)/\(ix rs 0).1.length<=4000000/\((0:Int)<=IntKind.i64.wrap ((↑(papp2_a1 l ps).5.length:Int)-1)/\IntKind.i64.wrap ((↑(papp2_a1 l ps).5.length:Int)-1)<(↑(papp2_a1 l ps).6.length:Int))/\IFB false (szL l/\post l 0) (post (papp2_a3 l ps rs) 0))/\(ix rs 0).1.length<=4000000/\IntKind.i64.wrap (ix ps 0-1)=IntKind.i64.wrap (ix ps 0-1)/\((0:Int)<=IntKind.i64.wrap ((↑(papp2_a1 l ps).5.length:Int)-1)/\IntKind.i64.wrap ((↑(papp2_a1 l ps).5.length:Int)-1)<(↑(papp2_a1 l ps).6.length:Int))/\IFB false (szL l/\post l 0) (post (papp2_a3 l ps rs) 0)) ((Int.NonNeg 0/\0<(↑rs.length:Int))/\(IntKind.i64.wrap (ix ps 0-1)=IntKind.i64.wrap (ix ps 0-1)/\((papp2_a2 l ps day rs post)/\IntKind.i64.wrap (ix ps 0-1)=IntKind.i64.wrap (ix ps 0-1)/\((papp2_a1 l ps).5.length+[day].length) * (8:Nat)<=140737488355328/\(ix rs 0).1.length<=4000000/\(papp2_a4 l ps rs) * (24:Nat)<=140737488355328/\IntKind.i64.wrap (ix ps 0-1)=IntKind.i64.wrap (ix ps 0-1)/\IntKind.i64.wrap (ix ps 0-1)=IntKind.i64.wrap (ix ps 0-1)/\IFB false (szL l/\post l 0) (papp2_a0 post l ps day rs))/\IntKind.i64.wrap (ix ps 0-1)=IntKind.i64.wrap (ix ps 0-1)/\((papp2_a1 l ps).5.length+[day].length) * (8:Nat)<=140737488355328/\(ix rs 0).1.length<=4000000/\(papp2_a4 l ps rs) * (24:Nat)<=140737488355328/\IntKind.i64.wrap (ix ps 0-1)=IntKind.i64.wrap (ix ps 0-1)/\IntKind.i64.wrap (ix ps 0-1)=IntKind.i64.wrap (ix ps 0-1)/\IFB false (szL l/\post l 0) (papp2_a0 post l ps day rs))/\((IntKind.i64.wrap (ix ps 0-1)=IntKind.i64.wrap (ix ps 0-1)/\(papp2_a2 l ps day rs post)/\IntKind.i64.wrap (ix ps 0-1)=IntKind.i64.wrap (ix ps 0-1)/\((papp2_a1 l ps).5.length+[day].length) * (8:Nat)<=140737488355328/\(ix rs 0).1.length<=4000000/\(papp2_a4 l ps rs) * (24:Nat)<=140737488355328/\IntKind.i64.wrap (ix ps 0-1)=IntKind.i64.wrap (ix ps 0-1)/\IntKind.i64.wrap (ix ps 0-1)=IntKind.i64.wrap (ix ps 0-1)/\IFB false (szL l/\post l 0) (papp2_a0 post l ps day rs))/\IntKind.i64.wrap (ix ps 0-1)=IntKind.i64.wrap (ix ps 0-1)/\IntKind.i64.wrap (ix ps 0-1)=IntKind.i64.wrap (ix ps 0-1)/\((papp2_a1 l ps).5.length+[day].length) * (8:Nat)<=140737488355328/\(ix rs 0).1.length<=4000000/\(papp2_a4 l ps rs) * (24:Nat)<=140737488355328/\IntKind.i64.wrap (ix ps 0-1)=IntKind.i64.wrap (ix ps 0-1)/\IntKind.i64.wrap (ix ps 0-1)=IntKind.i64.wrap (ix ps 0-1)/\IFB false (szL l/\post l 0) (papp2_a0 post l ps day rs))/\IntKind.i64.wrap (ix ps 0-1)=IntKind.i64.wrap (ix ps 0-1)/\(IntKind.i64.wrap (ix ps 0-1)=IntKind.i64.wrap (ix ps 0-1)/\((papp2_a1 l ps).5.length+[day].length) * (8:Nat)<=140737488355328/\(ix rs 0).1.length<=4000000/\(papp2_a4 l ps rs) * (24:Nat)<=140737488355328/\IntKind.i64.wrap (ix ps 0-1)=IntKind.i64.wrap (ix ps 0-1)/\IntKind.i64.wrap (ix ps 0-1)=IntKind.i64.wrap (ix ps 0-1)/\IFB false (szL l/\post l 0) (papp2_a0 post l ps day rs))/\IntKind.i64.wrap (ix ps 0-1)=IntKind.i64.wrap (ix ps 0-1)/\((papp2_a1 l ps).5.length+[day].length) * (8:Nat)<=140737488355328/\(ix rs 0).1.length<=4000000/\(papp2_a4 l ps rs) * (24:Nat)<=140737488355328/\IntKind.i64.wrap (ix ps 0-1)=IntKind.i64.wrap (ix ps 0-1)/\IntKind.i64.wrap (ix ps 0-1)=IntKind.i64.wrap (ix ps 0-1)/\IFB false (szL l/\post l 0) (papp2_a0 post l ps day rs)))))
theorem papp2_w (l:List (api_Parcel))(day:Int)(known:Int)(ps:List (Int))(rs:List (api_Region))(post:dens (shT papp2_sp.rs [])->Prop):papp2_W l day known ps rs (λy0 y1=>post (y0,y1,()))=walkG (stlCP (callR Tryz.prog papp2_C (drawF Tryz.prog tauD) 12 0)) 20 false [tv (.sl (.st .api_Parcel)) (l),tv (.st .api_Edit) (⟨day,known,2,ps,rs⟩)] papp2_sp.rs post:=by kernel_rfl
theorem papp2_of (h:∀x (post:dens (shT papp2_sp.rs [])->Prop),papp2_sp.pt x post->HoldW (walkG (stlCP (callR Tryz.prog papp2_C (drawF Tryz.prog tauD) 12 0)) papp2_sp.f papp2_sp.tp (tvs papp2_sp.ts x) papp2_sp.rs post)):SpecOK Tryz.prog papp2_sp:=SpecOK.of_rulesS (C:=papp2_C) (dr:=drawF Tryz.prog tauD) (n:=12) (fk:=0) (.cons (rule1_ok pedit_ok) (.cons (rule1_ok pallD_ok) (.cons (ruleMap_ok Forms.forms_mk) (.cons (ruleL_ok pmeL_ok) (.cons (rule1_ok pcpy_ok) .nil))))) (drawF_ok tauD) h
theorem applyS_2 {l:List Pc}{day known:Int}{p:Int}{a:Rn}(h:editS l ⟨day,known,2,[p],[a]⟩=0):((hitP l a p/\applyS l ⟨day,known,2,[p],[a]⟩=(l,11))\/(¬hitP l a p/\applyS l ⟨day,known,2,[p],[a]⟩=(l.set (p-1).toNat (drawnP (ix l (p-1)) day a),0))):=by
 unfold applyS
 rw[if_neg (by rw[h];simp),if_neg (by simp),if_pos rfl]
 have e1:ix ([a]:List api_Region) (0:Int)=a:=rfl
 have e2:ix ([p]:List Int) (0:Int)=p:=rfl
 dsimp only
 rw[e1,e2]
 by_cases hh:hitP l a p
 ·rw[if_pos hh];exact .inl ⟨hh,rfl⟩
 ·rw[if_neg hh];exact .inr ⟨hh,rfl⟩
set_option maxHeartbeats 2000000 in
theorem papp2_h (l:List api_Parcel)(day known:Int)(ps:List Int)(rs:List api_Region)(post:List api_Parcel->Int->Prop)(hsz:szL l)(hse:szE ⟨day,known,2,ps,rs⟩)(hp:post (applyS l ⟨day,known,2,ps,rs⟩).1 (applyS l ⟨day,known,2,ps,rs⟩).2):papp2_W l day known ps rs post:=by
 unfold papp2_W papp2_a4 papp2_a3 papp2_a2 papp2_a1 papp2_a0
 refine⟨⟨hsz,hse⟩,IFB.mk (λhb=> ?_) (λhb=> ?_)⟩
 ·have hne:editS l ⟨day,known,2,ps,rs⟩≠0:=by simpa using hb
  rw[applyS_err hne] at hp
  exact⟨hsz,hp⟩
 have h0:editS l ⟨day,known,2,ps,rs⟩=0:=by simpa using hb
 obtain⟨e1,e2,e3,⟨e4,e5⟩,e6,e7⟩:=editS_0.1 h0
 have hps:ps.length=1/\rs.length=1:=by
  unfold fitsP at e4
  dsimp only at e4
  omega
 obtain⟨p,rfl⟩:∃p,ps=[p]:=List.length_eq_one_iff.1 hps.1
 obtain⟨a,rfl⟩:∃a,rs=[a]:=List.length_eq_one_iff.1 hps.2
 obtain⟨h60,hreg⟩:=checkS_0.1 e1
 have hl:=hsz.len
 obtain⟨o1,o2,o3⟩:=e6 p (by simp)
 have hm:ix l (p-1)∈l:=ix_mem (by omega) (by omega)
 obtain⟨d1,d2⟩:=regP_days hreg _ hm
 have hx:=hsz.all _ hm
 have x1:=hx.days
 have x2:=hx.regs
 have ha:a.1.length<=4000000:=by have:=hse.rect a (by simp);omega
 have k1:ix ([a]:List api_Region) (0:Int)=a:=rfl
 have k2:ix ([p]:List Int) (0:Int)=p:=rfl
 have w1:IntKind.i64.wrap (p-1)=p-1:=wrap_in (by omega) (by omega)
 have w2:IntKind.i64.wrap (((ix l (p-1)).5.length:Int)-1)=((ix l (p-1)).5.length:Int)-1:=wrap_in (by omega) (by omega)
 simp only[k1,k2,w1,w2]
 have hA:¬hitP l a p->ix (ix l (p-1)).5 (((ix l (p-1)).5.length:Int)-1)=day->post (l.set (p-1).toNat ⟨(ix l (p-1)).1,(ix l (p-1)).2,(ix l (p-1)).3,(ix l (p-1)).4,(ix l (p-1)).5,(ix l (p-1)).6.set (((ix l (p-1)).5.length:Int)-1).toNat ⟨a.1⟩⟩) 0:=λhh hd=>by
  rcases applyS_2 h0 with⟨h,_⟩|⟨_,h⟩
  ·exact absurd h hh
  ·rw[h] at hp
   have e:drawnP (ix l (p-1)) day a=⟨(ix l (p-1)).1,(ix l (p-1)).2,(ix l (p-1)).3,(ix l (p-1)).4,(ix l (p-1)).5,(ix l (p-1)).6.set (((ix l (p-1)).5.length:Int)-1).toNat ⟨a.1⟩⟩:=by
    unfold drawnP
    rw[if_pos hd,show (((ix l (p-1)).5.length:Int)-1).toNat=(ix l (p-1)).5.length-1 by omega]
   rw[e] at hp
   exact hp
 have hB:¬hitP l a p->ix (ix l (p-1)).5 (((ix l (p-1)).5.length:Int)-1)≠day->post (l.set (p-1).toNat ⟨(ix l (p-1)).1,(ix l (p-1)).2,(ix l (p-1)).3,(ix l (p-1)).4,(ix l (p-1)).5++[day],(ix l (p-1)).6++[⟨a.1⟩]⟩) 0:=λhh hd=>by
  rcases applyS_2 h0 with⟨h,_⟩|⟨_,h⟩
  ·exact absurd h hh
  ·rw[h] at hp
   have e:drawnP (ix l (p-1)) day a=⟨(ix l (p-1)).1,(ix l (p-1)).2,(ix l (p-1)).3,(ix l (p-1)).4,(ix l (p-1)).5++[day],(ix l (p-1)).6++[⟨a.1⟩]⟩:=by
    unfold drawnP
    rw[if_neg hd]
   rw[e] at hp
   exact hp
 have hz:Int.NonNeg (0:Int):=Int.NonNeg.mk 0
 have z1:(0:Int)<(([a]:List api_Region).length:Int):=by simp
 have z2:(0:Int)<(([p]:List Int).length:Int):=by simp
 have z3:(0:Int)<=p-1:=by omega
 have z4:p-1<(l.length:Int):=by omega
 have z5:(0:Int)<=((ix l (p-1)).5.length:Int)-1:=by omega
 have z6:((ix l (p-1)).5.length:Int)-1<((ix l (p-1)).5.length:Int):=by omega
 have z7:((ix l (p-1)).5.length:Int)-1<((ix l (p-1)).6.length:Int):=by omega
 have z8:((ix l (p-1)).5.length+[day].length) * 8<=140737488355328:=by simp only[List.length_cons,List.length_nil];omega
 have z9:((ix l (p-1)).6.length+[(⟨a.1⟩:api_Region)].length) * 24<=140737488355328:=by simp only[List.length_cons,List.length_nil];omega
 refine⟨hsz,⟨hz,z1⟩,⟨hz,z2⟩,⟨hl,λp hp=>⟨by have:=regP_days hreg p hp;omega,(hsz.all p hp).regs⟩⟩,λv hv=>IFB.mk (λhc=>IFB.yes rfl ⟨hsz,?_⟩) (λhc=> ?_)⟩
 ·rcases applyS_2 h0 with⟨_,h⟩|⟨h,_⟩
  ·rw[h] at hp;exact hp
  ·exact absurd (hv.1 hc) h
 have hn:¬hitP l a p:=λh=>by rw[hv.2 h] at hc;cases hc
 refine⟨⟨hz,z2⟩,⟨z3,z4⟩,trivial,λ_=>⟨trivial,⟨z5,z6⟩,IFB.mk (λhd=> ?_) (λhd=> ?_)⟩⟩
 ·have hA':=hA hn (of_decide_eq_true hd)
  repeat' (first|with_reducible assumption|exact True.intro|exact IFB.no rfl hA'|with_reducible apply And.intro)
 ·have hB':=hB hn (of_decide_eq_false hd)
  repeat' (first|with_reducible assumption|exact True.intro|exact IFB.no rfl hB'|with_reducible apply And.intro)
theorem papp2_ok:SpecOK Tryz.prog papp2_sp:=papp2_of λx post hp=>by
 obtain⟨l,e,u⟩:=x
 obtain⟨day,known,kind,ps,rs⟩:=e
 obtain⟨⟨hsz,hse,hk⟩,hp⟩:=hp
 have hk:kind=2:=hk
 subst hk
 exact HoldW.of (papp2_w l day known ps rs post) (papp2_h l day known ps rs (λy0 y1=>post (y0,y1,())) hsz hse hp)
def pappA_P (l:List (api_Parcel))(e:api_Edit)(post:List (api_Parcel)->Int->Prop):Prop:=(szL l/\szE e)/\post (applyS l e).1 (applyS l e).2
def pappA_sp:Spec:=⟨20,false,true,[.sl (.st .api_Parcel),.st .api_Edit],.tup [.dat (.sl (.st .api_Parcel)),.dat (.int .i64)],λx post=>pappA_P (x.1:List (api_Parcel)) (x.2.1:api_Edit) (λy0 y1=>post (y0,y1,()))⟩
theorem pappA_ok:SpecOK Tryz.prog pappA_sp:=λx post hp=>by
 obtain⟨l,e,u⟩:=x
 have hp:(szL l/\szE e)/\post ((applyS l e).1,(applyS l e).2,()):=hp
 obtain⟨⟨hsz,hse⟩,hp⟩:=hp
 by_cases h:e.Kind=2
 ·exact papp2_ok (l,e,()) post ⟨⟨hsz,hse,h⟩,hp⟩
 ·exact pappN_ok (l,e,()) post ⟨⟨hsz,hse,h⟩,hp⟩
def rcopD_P (l:List (api_Parcel))(post:List (api_Parcel)->Prop):Prop:=szL l/\post l
def rcopD_sp:Spec:=⟨63,false,true,[.sl (.st .api_Parcel)],.own 1000050 (.st .api_Parcel),λx post=>rcopD_P (x.1:List (api_Parcel)) (λy0=>post (y0,()))⟩
def rcopD_C:CtxR:=⟨tauD,[],lookJ [(0,7,⟨[(8,.dat (.int .i64)),(3,.own 1000050 (.st .api_Parcel))],[],(List.range' 9 23++[5]),[],[]⟩),(0,1000005,⟨[],[(1,[.dat (.int .i64),.dat (.int .i64),.dat (.int .i64),.own 3 (.int .i64),.own 3 (.int .i64),.own 29 (.st .api_Region)])],(List.range' 12 15),[],[]⟩)]⟩
abbrev rcopD_a0 (l:List (api_Parcel))(z2:Int)(J10:Int->Int->Int->List Int->List Int->List api_Region->Prop):=((((0:Nat)+(ix l z2).4.length) * (8:Nat)<=(140737488355328:Nat)/\(((0:Nat)+(ix l z2).5.length) * (8:Nat)<=(140737488355328:Nat)/\((0:Nat)+(ix l z2).6.length) * (24:Nat)<=(140737488355328:Nat)/\J10 (ix l z2).1 (ix l z2).2 (ix l z2).3 ([]++(ix l z2).4) ([]++(ix l z2).5) ([]++(ix l z2).6))/\((0:Nat)+(ix l z2).5.length) * (8:Nat)<=(140737488355328:Nat)/\((0:Nat)+(ix l z2).6.length) * (24:Nat)<=(140737488355328:Nat)/\J10 (ix l z2).1 (ix l z2).2 (ix l z2).3 ([]++(ix l z2).4) ([]++(ix l z2).5) ([]++(ix l z2).6))/\((0:Nat)+(ix l z2).4.length) * (8:Nat)<=(140737488355328:Nat)/\((0:Nat)+(ix l z2).5.length) * (8:Nat)<=(140737488355328:Nat)/\((0:Nat)+(ix l z2).6.length) * (24:Nat)<=(140737488355328:Nat)/\J10 (ix l z2).1 (ix l z2).2 (ix l z2).3 ([]++(ix l z2).4) ([]++(ix l z2).5) ([]++(ix l z2).6))
abbrev rcopD_a1 (l:List (api_Parcel))(z2:Int)(J10:Int->Int->Int->List Int->List Int->List api_Region->Prop):=(((0:Nat)+(ix l z2).4.length) * (8:Nat)<=(140737488355328:Nat)/\((0:Nat)+(ix l z2).5.length) * (8:Nat)<=(140737488355328:Nat)/\((0:Nat)+(ix l z2).6.length) * (24:Nat)<=(140737488355328:Nat)/\J10 (ix l z2).1 (ix l z2).2 (ix l z2).3 ([]++(ix l z2).4) ([]++(ix l z2).5) ([]++(ix l z2).6))
def rcopD_W (l:List (api_Parcel))(post:List (api_Parcel)->Prop):Prop:=(↑l.length:Int)<=9223372036854775807->LOOP [Ty.int IntKind.i64,(Ty.st Sn.api_Parcel).sl] (λ(rec1:Int->List api_Parcel->Prop) (z2:Int) (z3:List api_Parcel)=>IFB (decide (z2<(↑l.length:Int))) (((0:Int)<=z2/\z2<(↑l.length:Int))/\JOIN [Ty.int IntKind.i64,Ty.int IntKind.i64,Ty.int IntKind.i64,(Ty.int IntKind.i64).sl,(Ty.int IntKind.i64).sl,(Ty.st Sn.api_Region).sl] (λ(y4 y5 y6:Int) (y7 y8:List Int) (y9:List api_Region)=>(z3.length+[(⟨y4,y5,y6,y7,y8,y9⟩:api_Parcel)].length) * (96:Nat)<=140737488355328/\rec1 (IntKind.i64.wrap (z2+1)) (z3++[(⟨y4,y5,y6,y7,y8,y9⟩:api_Parcel)])) λ(J10:Int->Int->Int->List Int->List Int->List api_Region->Prop)=>((((0:Nat)+(ix l z2).4.length) * (8:Nat)<=140737488355328/\((((0:Nat)+(ix l z2).5.length) * (8:Nat)<=140737488355328/\((0:Nat)+(ix l z2).6.length) * (24:Nat)<=140737488355328/\J10 (ix l z2).1 (ix l z2).2 (ix l z2).3 ([]++(ix l z2).4) ([]++(ix l z2).5) ([]++(ix l z2).6))/\((0:Nat)+(ix l z2).5.length) * (8:Nat)<=140737488355328/\((0:Nat)+(ix l z2).6.length) * (24:Nat)<=140737488355328/\J10 (ix l z2).1 (ix l z2).2 (ix l z2).3 ([]++(ix l z2).4) ([]++(ix l z2).5) ([]++(ix l z2).6))/\((0:Nat)+(ix l z2).5.length) * (8:Nat)<=140737488355328/\((0:Nat)+(ix l z2).6.length) * (24:Nat)<=140737488355328/\J10 (ix l z2).1 (ix l z2).2 (ix l z2).3 ([]++(ix l z2).4) ([]++(ix l z2).5) ([]++(ix l z2).6))/\(rcopD_a0 l z2 J10)/\(rcopD_a1 l z2 J10)/\((0:Nat)+(ix l z2).4.length) * (8:Nat)<=140737488355328/\((0:Nat)+(ix l z2).5.length) * (8:Nat)<=140737488355328/\((0:Nat)+(ix l z2).6.length) * (24:Nat)<=140737488355328/\J10 (ix l z2).1 (ix l z2).2 (ix l z2).3 ([]++(ix l z2).4) ([]++(ix l z2).5) ([]++(ix l z2).6))/\((rcopD_a0 l z2 J10)/\((0:Nat)+(ix l z2).4.length) * (8:Nat)<=140737488355328/\((0:Nat)+(ix l z2).5.length) * (8:Nat)<=140737488355328/\((0:Nat)+(ix l z2).6.length) * (24:Nat)<=140737488355328/\J10 (ix l z2).1 (ix l z2).2 (ix l z2).3 ([]++(ix l z2).4) ([]++(ix l z2).5) ([]++(ix l z2).6))/\((rcopD_a1 l z2 J10)/\((0:Nat)+(ix l z2).4.length) * (8:Nat)<=140737488355328/\((0:Nat)+(ix l z2).5.length) * (8:Nat)<=140737488355328/\((0:Nat)+(ix l z2).6.length) * (24:Nat)<=140737488355328/\J10 (ix l z2).1 (ix l z2).2 (ix l z2).3 ([]++(ix l z2).4) ([]++(ix l z2).5) ([]++(ix l z2).6))/\((0:Nat)+(ix l z2).4.length) * (8:Nat)<=140737488355328/\((0:Nat)+(ix l z2).5.length) * (8:Nat)<=140737488355328/\((0:Nat)+(ix l z2).6.length) * (24:Nat)<=140737488355328/\J10 (ix l z2).1 (ix l z2).2 (ix l z2).3 ([]++(ix l z2).4) ([]++(ix l z2).5) ([]++(ix l z2).6)) (post z3)) ((0:Int),[],PUnit.unit)
theorem rcopD_w (l:List (api_Parcel))(post:dens (shT rcopD_sp.rs [])->Prop):rcopD_W l (λy0=>post (y0,()))=walkG (callR Tryz.prog rcopD_C (drawF Tryz.prog tauD) 8 0) 63 false [tv (.sl (.st .api_Parcel)) l] rcopD_sp.rs post:=by kernel_rfl
theorem rcopD_of (h:∀l post,rcopD_P l post->rcopD_W l post):SpecOK Tryz.prog rcopD_sp:=SpecOK.of_rules (C:=rcopD_C) (dr:=drawF Tryz.prog tauD) (n:=8) (fk:=0) .nil (drawF_ok tauD) λx post hp=>HoldW.of (rcopD_w x.1 post) (h x.1 (λy0=>post (y0,())) hp)
theorem rcopD_ok:SpecOK Tryz.prog rcopD_sp:=rcopD_of λl post hp=>by
 obtain⟨hsz,hp⟩:=hp
 have hl:=hsz.len
 unfold rcopD_W rcopD_a1 rcopD_a0
 refine λ_=>LOOP.fuel2 (λ(z:Int) (b:List Pc)=>∃k:Nat,z=(k:Int)/\k<=l.length/\b=l.take k) (λz _=>l.length-Int.toNat z) ⟨0,rfl,Nat.zero_le _,rfl⟩ ?_
 rintro rec (z:Int) (b:List Pc) ⟨k,i1,i2,i3⟩ hrec
 subst i1
 refine IFB.mk (λhb=> ?_) (λhb=> ?_)
 ·have hb:(k:Int)<l.length:=of_decide_eq_true hb
  have hk:k<l.length:=by omega
  have hx:=hsz.all _ (ix_mem (l:=l) (i:=(k:Int)) (by omega) (by omega))
  have x1:=hx.days
  have x2:=hx.regs
  have x3:=hx.pars
  refine⟨by omega,JOIN.opq λ(J:Int->Int->Int->List Int->List Int->List api_Region->Prop) hJ=> ?_⟩
  have c1:(0+(ix l (k:Int)).4.length) * 8<=140737488355328:=by omega
  have c2:(0+(ix l (k:Int)).5.length) * 8<=140737488355328:=by omega
  have c3:(0+(ix l (k:Int)).6.length) * 24<=140737488355328:=by omega
  have cJ:J (ix l (k:Int)).1 (ix l (k:Int)).2 (ix l (k:Int)).3 ([]++(ix l (k:Int)).4) ([]++(ix l (k:Int)).5) ([]++(ix l (k:Int)).6):=by
   rw[hJ]
   have hbl:b.length<=1000000:=by rw[i3,List.length_take];omega
   refine⟨by simp only[List.length_cons,List.length_nil];omega,?_⟩
   rw[wrapS (by omega)]
   refine hrec ((k+1:Nat):Int) _ ⟨k+1,rfl,hk,?_⟩ (by show l.length-((k+1:Nat):Int).toNat<l.length-(k:Int).toNat;omega)
   show b++[ix l (k:Int)]=_
   rw[i3,List.take_succ_eq_append_getElem hk,ix_lt hk]
  repeat' first
   |exact c1
   |exact c2
   |exact c3
   |exact cJ
   |refine And.intro ?_ ?_
 ·have hb:¬(k:Int)<l.length:=of_decide_eq_false hb
  have hk:k=l.length:=by omega
  have e:b=l:=by rw[i3,hk,List.take_length]
  show post b
  rw[e];exact hp
def rapp2_P (l:List (api_Parcel))(e:api_Edit)(post:List (api_Parcel)->Int->Prop):Prop:=(szL l/\szE e/\e.Kind=2)/\post (applyS l e).1 (applyS l e).2
def rapp2_sp:Spec:=⟨21,false,true,[.sl (.st .api_Parcel),.st .api_Edit],.tup [.dat (.sl (.st .api_Parcel)),.dat (.int .i64)],λx post=>rapp2_P (x.1:List (api_Parcel)) (x.2.1:api_Edit) (λy0 y1=>post (y0,y1,()))⟩
def rapp2_C:CtxR:=⟨tauD,[rule1 rcopD_sp,rule1 rchke_sp,rule1 rmeet10_sp,ruleNo 37,ruleNo 80,ruleNo 81],lookJ [(0,105,⟨[(211,.dat (.int .i64)),(8,.dat (.sl (.st .api_Parcel)))],[],(List.range' 212 22++[25]),[],[]⟩),(0,1000054,⟨[(8,.dat (.sl (.st .api_Parcel)))],[],(List.range' 215 18),[],[]⟩),(0,95,⟨[(197,.dat (.int .i64)),(8,.dat (.sl (.st .api_Parcel)))],[],(List.range' 198 11++[23]),[2],[]⟩),(0,88,⟨[(9,.dat (.sl (.st .api_Region)))],[],(List.range' 37 10++List.range' 161 22++[19,21,48,49,50,51,121,122,184,185,186]),[],[]⟩),(0,75,⟨[(166,.dat (.int .i64)),(19,.dat (.sl (.st .api_Rect)))],[],(List.range' 167 13++[21]),[],[]⟩)]⟩
abbrev rapp2_a0 (l:List (api_Parcel))(ps:List (Int))(day:Int)(rs:List (api_Region)):=(l.set (IntKind.i64.wrap (ix ps (0:Int)-(1:Int))).toNat {Number:=(ix l (IntKind.i64.wrap (ix ps (0:Int)-(1:Int)))).1,From:=(ix l (IntKind.i64.wrap (ix ps (0:Int)-(1:Int)))).2,Until:=(ix l (IntKind.i64.wrap (ix ps (0:Int)-(1:Int)))).3,Parents:=(ix l (IntKind.i64.wrap (ix ps (0:Int)-(1:Int)))).4,Days:=(ix l (IntKind.i64.wrap (ix ps (0:Int)-(1:Int)))).5++[day],Regions:=(ix l (IntKind.i64.wrap (ix ps (0:Int)-(1:Int)))).6++[{Rects:=(ix rs (0:Int)).1:api_Region}]:api_Parcel})
abbrev rapp2_a1 (l:List (api_Parcel))(ps:List (Int))(rs:List (api_Region)):=((ix l (IntKind.i64.wrap (ix ps (0:Int)-(1:Int)))).6.length+[{Rects:=(ix rs (0:Int)).1:api_Region}].length)
abbrev rapp2_a2 (ps:List (Int))(l:List (api_Parcel))(day:Int)(rs:List (api_Region))(post:List (api_Parcel)->Int->Prop):=(IntKind.i64.wrap (ix ps (0:Int)-(1:Int))=IntKind.i64.wrap (ix ps (0:Int)-(1:Int))/\(((ix l (IntKind.i64.wrap (ix ps (0:Int)-(1:Int)))).5.length+[day].length) * (8:Nat)<=(140737488355328:Nat)/\(rapp2_a1 l ps rs) * (24:Nat)<=(140737488355328:Nat)/\IntKind.i64.wrap (ix ps (0:Int)-(1:Int))=IntKind.i64.wrap (ix ps (0:Int)-(1:Int))/\IntKind.i64.wrap (ix ps (0:Int)-(1:Int))=IntKind.i64.wrap (ix ps (0:Int)-(1:Int))/\post (rapp2_a0 l ps day rs) (0:Int))/\((ix l (IntKind.i64.wrap (ix ps (0:Int)-(1:Int)))).5.length+[day].length) * (8:Nat)<=(140737488355328:Nat)/\(rapp2_a1 l ps rs) * (24:Nat)<=(140737488355328:Nat)/\IntKind.i64.wrap (ix ps (0:Int)-(1:Int))=IntKind.i64.wrap (ix ps (0:Int)-(1:Int))/\IntKind.i64.wrap (ix ps (0:Int)-(1:Int))=IntKind.i64.wrap (ix ps (0:Int)-(1:Int))/\post (rapp2_a0 l ps day rs) (0:Int))
abbrev rapp2_a3 (l:List (api_Parcel))(ps:List (Int))(day:Int)(rs:List (api_Region))(post:List (api_Parcel)->Int->Prop):=(((ix l (IntKind.i64.wrap (ix ps (0:Int)-(1:Int)))).5.length+[day].length) * (8:Nat)<=(140737488355328:Nat)/\IntKind.i64.wrap (ix ps (0:Int)-(1:Int))=IntKind.i64.wrap (ix ps (0:Int)-(1:Int))/\(rapp2_a1 l ps rs) * (24:Nat)<=(140737488355328:Nat)/\IntKind.i64.wrap (ix ps (0:Int)-(1:Int))=IntKind.i64.wrap (ix ps (0:Int)-(1:Int))/\IntKind.i64.wrap (ix ps (0:Int)-(1:Int))=IntKind.i64.wrap (ix ps (0:Int)-(1:Int))/\post (rapp2_a0 l ps day rs) (0:Int))
abbrev rapp2_a4 (l:List (api_Parcel))(ps:List (Int)):=(ix l (IntKind.i64.wrap (ix ps (0:Int)-(1:Int))))
abbrev rapp2_a5 (ps:List (Int))(l:List (api_Parcel))(day:Int)(rs:List (api_Region))(post:List (api_Parcel)->Int->Prop):=(IntKind.i64.wrap (ix ps (0:Int)-(1:Int))=IntKind.i64.wrap (ix ps (0:Int)-(1:Int))/\((((rapp2_a4 l ps).5.length+[day].length) * (8:Nat)<=(140737488355328:Nat)/\(rapp2_a1 l ps rs) * (24:Nat)<=(140737488355328:Nat)/\IntKind.i64.wrap (ix ps (0:Int)-(1:Int))=IntKind.i64.wrap (ix ps (0:Int)-(1:Int))/\IntKind.i64.wrap (ix ps (0:Int)-(1:Int))=IntKind.i64.wrap (ix ps (0:Int)-(1:Int))/\post (rapp2_a0 l ps day rs) (0:Int))/\((rapp2_a4 l ps).5.length+[day].length) * (8:Nat)<=(140737488355328:Nat)/\(rapp2_a1 l ps rs) * (24:Nat)<=(140737488355328:Nat)/\IntKind.i64.wrap (ix ps (0:Int)-(1:Int))=IntKind.i64.wrap (ix ps (0:Int)-(1:Int))/\IntKind.i64.wrap (ix ps (0:Int)-(1:Int))=IntKind.i64.wrap (ix ps (0:Int)-(1:Int))/\post (rapp2_a0 l ps day rs) (0:Int))/\((rapp2_a4 l ps).5.length+[day].length) * (8:Nat)<=(140737488355328:Nat)/\(rapp2_a1 l ps rs) * (24:Nat)<=(140737488355328:Nat)/\IntKind.i64.wrap (ix ps (0:Int)-(1:Int))=IntKind.i64.wrap (ix ps (0:Int)-(1:Int))/\IntKind.i64.wrap (ix ps (0:Int)-(1:Int))=IntKind.i64.wrap (ix ps (0:Int)-(1:Int))/\post (rapp2_a0 l ps day rs) (0:Int))
abbrev rapp2_a6 (l:List (api_Parcel))(ps:List (Int))(day:Int)(rs:List (api_Region))(post:List (api_Parcel)->Int->Prop):=(((rapp2_a4 l ps).5.length+[day].length) * (8:Nat)<=(140737488355328:Nat)/\(IntKind.i64.wrap (ix ps (0:Int)-(1:Int))=IntKind.i64.wrap (ix ps (0:Int)-(1:Int))/\(rapp2_a1 l ps rs) * (24:Nat)<=(140737488355328:Nat)/\IntKind.i64.wrap (ix ps (0:Int)-(1:Int))=IntKind.i64.wrap (ix ps (0:Int)-(1:Int))/\IntKind.i64.wrap (ix ps (0:Int)-(1:Int))=IntKind.i64.wrap (ix ps (0:Int)-(1:Int))/\post (rapp2_a0 l ps day rs) (0:Int))/\IntKind.i64.wrap (ix ps (0:Int)-(1:Int))=IntKind.i64.wrap (ix ps (0:Int)-(1:Int))/\(rapp2_a1 l ps rs) * (24:Nat)<=(140737488355328:Nat)/\IntKind.i64.wrap (ix ps (0:Int)-(1:Int))=IntKind.i64.wrap (ix ps (0:Int)-(1:Int))/\IntKind.i64.wrap (ix ps (0:Int)-(1:Int))=IntKind.i64.wrap (ix ps (0:Int)-(1:Int))/\post (rapp2_a0 l ps day rs) (0:Int))
abbrev rapp2_a7 (ps:List (Int))(l:List (api_Parcel))(day:Int)(rs:List (api_Region))(post:List (api_Parcel)->Int->Prop):=(IntKind.i64.wrap (ix ps (0:Int)-(1:Int))=IntKind.i64.wrap (ix ps (0:Int)-(1:Int))/\(rapp2_a3 l ps day rs post)/\IntKind.i64.wrap (ix ps (0:Int)-(1:Int))=IntKind.i64.wrap (ix ps (0:Int)-(1:Int))/\((rapp2_a4 l ps).5.length+[day].length) * (8:Nat)<=(140737488355328:Nat)/\(rapp2_a1 l ps rs) * (24:Nat)<=(140737488355328:Nat)/\IntKind.i64.wrap (ix ps (0:Int)-(1:Int))=IntKind.i64.wrap (ix ps (0:Int)-(1:Int))/\IntKind.i64.wrap (ix ps (0:Int)-(1:Int))=IntKind.i64.wrap (ix ps (0:Int)-(1:Int))/\post (rapp2_a0 l ps day rs) (0:Int))
abbrev rapp2_a8 (l:List (api_Parcel))(ps:List (Int))(day:Int)(rs:List (api_Region))(post:List (api_Parcel)->Int->Prop):=((rapp2_a3 l ps day rs post)/\IntKind.i64.wrap (ix ps (0:Int)-(1:Int))=IntKind.i64.wrap (ix ps (0:Int)-(1:Int))/\((rapp2_a4 l ps).5.length+[day].length) * (8:Nat)<=(140737488355328:Nat)/\(rapp2_a1 l ps rs) * (24:Nat)<=(140737488355328:Nat)/\IntKind.i64.wrap (ix ps (0:Int)-(1:Int))=IntKind.i64.wrap (ix ps (0:Int)-(1:Int))/\IntKind.i64.wrap (ix ps (0:Int)-(1:Int))=IntKind.i64.wrap (ix ps (0:Int)-(1:Int))/\post (rapp2_a0 l ps day rs) (0:Int))
abbrev rapp2_a9 (ps:List (Int))(l:List (api_Parcel))(day:Int)(rs:List (api_Region))(post:List (api_Parcel)->Int->Prop):=(IntKind.i64.wrap (ix ps (0:Int)-(1:Int))=IntKind.i64.wrap (ix ps (0:Int)-(1:Int))/\((rapp2_a4 l ps).5.length+[day].length) * (8:Nat)<=(140737488355328:Nat)/\(rapp2_a1 l ps rs) * (24:Nat)<=(140737488355328:Nat)/\IntKind.i64.wrap (ix ps (0:Int)-(1:Int))=IntKind.i64.wrap (ix ps (0:Int)-(1:Int))/\IntKind.i64.wrap (ix ps (0:Int)-(1:Int))=IntKind.i64.wrap (ix ps (0:Int)-(1:Int))/\post (rapp2_a0 l ps day rs) (0:Int))
def rapp2_W (l:List (api_Parcel))(day:Int)(known:Int)(ps:List (Int))(rs:List (api_Region))(post:List (api_Parcel)->Int->Prop):Prop:=szL l/\(szL l/\szE (⟨day,known,(2:Int),ps,rs⟩:api_Edit))/\IFB (!decide (editS l (⟨day,known,(2:Int),ps,rs⟩:api_Edit)=0)) (post l (editS l (⟨day,known,(2:Int),ps,rs⟩:api_Edit))) (szL l/\JOIN [(Ty.st Sn.api_Region).sl] (λ(y1:List api_Region)=>(↑l.length:Int)<=9223372036854775807->(↑y1.length:Int)<=9223372036854775807->IFB (decide ((60:Int)<IntKind.i64.wrap ((↑l.length:Int)+(↑y1.length:Int)))) (post l 1) ((↑ps.length:Int)<=9223372036854775807->False)) λ(J2:List api_Region->Prop)=>IFB (decide ((2:Int)=1)) ((Int.NonNeg 0/\0<(↑rs.length:Int))/\(szL l/\∀(v3:api_Parcel),v3∈l->0<v3.6.length)/\∀(v4:Bool),(v4=true↔hitP l {Rects:=(ix rs 0).1:api_Region} 0)->IFB v4 (post l 11) (J2 rs)) (IFB (decide ((2:Int)=2)) ((Int.NonNeg 0/\0<(↑rs.length:Int))/\(Int.NonNeg 0/\0<(↑ps.length:Int))/\(szL l/\∀(v5:api_Parcel),v5∈l->0<v5.6.length)/\∀(v6:Bool),(v6=true↔hitP l {Rects:=(ix rs 0).1:api_Region} (ix ps 0))->IFB v6 (post l 11) ((Int.NonNeg 0/\0<(↑ps.length:Int))/\((0:Int)<=IntKind.i64.wrap (ix ps 0-1)/\IntKind.i64.wrap (ix ps 0-1)<(↑l.length:Int))/\IntKind.i64.wrap (ix ps 0-1)=IntKind.i64.wrap (ix ps 0-1)/\((↑(rapp2_a4 l ps).5.length:Int)<=9223372036854775807->IntKind.i64.wrap (ix ps 0-1)=IntKind.i64.wrap (ix ps 0-1)/\((0:Int)<=IntKind.i64.wrap ((↑(rapp2_a4 l ps).5.length:Int)-1)/\IntKind.i64.wrap ((↑(rapp2_a4 l ps).5.length:Int)-1)<(↑(rapp2_a4 l ps).5.length:Int))/\IFB (decide (ix (rapp2_a4 l ps).5 (IntKind.i64.wrap ((↑(rapp2_a4 l ps).5.length:Int)-1))=day)) ((Int.NonNeg 0/\0<(↑rs.length:Int))/\IntKind.i64.wrap (ix ps 0-1)=IntKind.i64.wrap (ix ps 0-1)/\((0:Int)<=IntKind.i64.wrap ((↑(rapp2_a4 l ps).5.length:Int)-1)/\IntKind.i64.wrap ((↑(rapp2_a4 l ps).5.length:Int)-1)<(↑(rapp2_a4 l ps).6.length:Int))/\post (l.set (IntKind.i64.wrap (ix ps 0-1)).toNat {Number:=(rapp2_a4 l ps).1,From:=(rapp2_a4 l ps).2,Until:=(rapp2_a4 l ps).3,Parents:=(rapp2_a4 l ps).4,Days:=(rapp2_a4 l ps).5,Regions:=(rapp2_a4 l ps).6.set (IntKind.i64.wrap ((↑(rapp2_a4 l ps).5.length:Int)-1)).toNat {Rects:=(ix rs 0).1:api_Region}:api_Parcel}) 0) ((Int.NonNeg 0/\0<(↑rs.length:Int))/\(IntKind.i64.wrap (ix ps 0-1)=IntKind.i64.wrap (ix ps 0-1)/\((rapp2_a6 l ps day rs post)/\(rapp2_a2 ps l day rs post)/\(rapp2_a3 l ps day rs post)/\IntKind.i64.wrap (ix ps 0-1)=IntKind.i64.wrap (ix ps 0-1)/\((rapp2_a4 l ps).5.length+[day].length) * (8:Nat)<=140737488355328/\(rapp2_a1 l ps rs) * (24:Nat)<=140737488355328/\IntKind.i64.wrap (ix ps 0-1)=IntKind.i64.wrap (ix ps 0-1)/\IntKind.i64.wrap (ix ps 0-1)=IntKind.i64.wrap (ix ps 0-1)/\post (rapp2_a0 l ps day rs) 0)/\(rapp2_a5 ps l day rs post)/\(rapp2_a8 l ps day rs post)/\IntKind.i64.wrap (ix ps 0-1)=IntKind.i64.wrap (ix ps 0-1)/\((rapp2_a4 l ps).5.length+[day].length) * (8:Nat)<=140737488355328/\(rapp2_a1 l ps rs) * (24:Nat)<=140737488355328/\IntKind.i64.wrap (ix ps 0-1)=IntKind.i64.wrap (ix ps 0-1)/\IntKind.i64.wrap (ix ps 0-1)=IntKind.i64.wrap (ix ps 0-1)/\post (rapp2_a0 l ps day rs) 0)/\((IntKind.i64.wrap (ix ps 0-1)=IntKind.i64.wrap (ix ps 0-1)/\(rapp2_a6 l ps day rs post)/\(rapp2_a2 ps l day rs post)/\(rapp2_a3 l ps day rs post)/\IntKind.i64.wrap (ix ps 0-1)=IntKind.i64.wrap (ix ps 0-1)/\((rapp2_a4 l ps).5.length+[day].length) * (8:Nat)<=140737488355328/\(rapp2_a1 l ps rs) * (24:Nat)<=140737488355328/\IntKind.i64.wrap (ix ps 0-1)=IntKind.i64.wrap (ix ps 0-1)/\IntKind.i64.wrap (ix ps 0-1)=IntKind.i64.wrap (ix ps 0-1)/\post (rapp2_a0 l ps day rs) 0)/\(IntKind.i64.wrap (ix ps 0-1)=IntKind.i64.wrap (ix ps 0-1)/\(rapp2_a2 ps l day rs post)/\IntKind.i64.wrap (ix ps 0-1)=IntKind.i64.wrap (ix ps 0-1)/\((rapp2_a4 l ps).5.length+[day].length) * (8:Nat)<=140737488355328/\(rapp2_a1 l ps rs) * (24:Nat)<=140737488355328/\IntKind.i64.wrap (ix ps 0-1)=IntKind.i64.wrap (ix ps 0-1)/\IntKind.i64.wrap (ix ps 0-1)=IntKind.i64.wrap (ix ps 0-1)/\post (rapp2_a0 l ps day rs) 0)/\(rapp2_a7 ps l day rs post)/\IntKind.i64.wrap (ix ps 0-1)=IntKind.i64.wrap (ix ps 0-1)/\IntKind.i64.wrap (ix ps 0-1)=IntKind.i64.wrap (ix ps 0-1)/\((rapp2_a4 l ps).5.length+[day].length) * (8:Nat)<=140737488355328/\(rapp2_a1 l ps rs) * (24:Nat)<=140737488355328/\IntKind.i64.wrap (ix ps 0-1)=IntKind.i64.wrap (ix ps 0-1)/\IntKind.i64.wrap (ix ps 0-1)=IntKind.i64.wrap (ix ps 0-1)/\post (rapp2_a0 l ps day rs) 0)/\(IntKind.i64.wrap (ix ps 0-1)=IntKind.i64.wrap (ix ps 0-1)/\(rapp2_a5 ps l day rs post)/\((rapp2_a2 ps l day rs post)/\IntKind.i64.wrap (ix ps 0-1)=IntKind.i64.wrap (ix ps 0-1)/\((rapp2_a4 l ps).5.length+[day].length) * (8:Nat)<=140737488355328/\(rapp2_a1 l ps rs) * (24:Nat)<=140737488355328/\IntKind.i64.wrap (ix ps 0-1)=IntKind.i64.wrap (ix ps 0-1)/\IntKind.i64.wrap (ix ps 0-1)=IntKind.i64.wrap (ix ps 0-1)/\post (rapp2_a0 l ps day rs) 0)/\(rapp2_a9 ps l day rs post)/\IntKind.i64.wrap (ix ps 0-1)=IntKind.i64.wrap (ix ps 0-1)/\((rapp2_a4 l ps).5.length+[day].length) * (8:Nat)<=140737488355328/\(rapp2_a1 l ps rs) * (24:Nat)<=140737488355328/\IntKind.i64.wrap (ix ps 0-1)=IntKind.i64.wrap (ix ps 0-1)/\IntKind.i64.wrap (ix ps 0-1)=IntKind.i64.wrap (ix ps 0-1)/\post (rapp2_a0 l ps day rs) 0)/\(IntKind.i64.wrap (ix ps 0-1)=IntKind.i64.wrap (ix ps 0-1)/\(rapp2_a8 l ps day rs post)/\IntKind.i64.wrap (ix ps 0-1)=IntKind.i64.wrap (ix ps 0-1)/\((rapp2_a4 l ps).5.length+[day].length) * (8:Nat)<=140737488355328/\(rapp2_a1 l ps rs) * (24:Nat)<=140737488355328/\IntKind.i64.wrap (ix ps 0-1)=IntKind.i64.wrap (ix ps 0-1)/\IntKind.i64.wrap (ix ps 0-1)=IntKind.i64.wrap (ix ps 0-1)/\post (rapp2_a0 l ps day rs) 0)/\((rapp2_a7 ps l day rs post)/\IntKind.i64.wrap (ix ps 0-1)=IntKind.i64.wrap (ix ps 0-1)/\IntKind.i64.wrap (ix ps 0-1)=IntKind.i64.wrap (ix ps 0-1)/\((rapp2_a4 l ps).5.length+[day].length) * (8:Nat)<=140737488355328/\(rapp2_a1 l ps rs) * (24:Nat)<=140737488355328/\IntKind.i64.wrap (ix ps 0-1)=IntKind.i64.wrap (ix ps 0-1)/\IntKind.i64.wrap (ix ps 0-1)=IntKind.i64.wrap (ix ps 0-1)/\post (rapp2_a0 l ps day rs) 0)/\IntKind.i64.wrap (ix ps 0-1)=IntKind.i64.wrap (ix ps 0-1)/\(rapp2_a9 ps l day rs post)/\IntKind.i64.wrap (ix ps 0-1)=IntKind.i64.wrap (ix ps 0-1)/\((rapp2_a4 l ps).5.length+[day].length) * (8:Nat)<=140737488355328/\(rapp2_a1 l ps rs) * (24:Nat)<=140737488355328/\IntKind.i64.wrap (ix ps 0-1)=IntKind.i64.wrap (ix ps 0-1)/\IntKind.i64.wrap (ix ps 0-1)=IntKind.i64.wrap (ix ps 0-1)/\post (rapp2_a0 l ps day rs) 0)))) (IFB (decide ((2:Int)=3)) False (IFB (decide ((2:Int)=4)) ((↑ps.length:Int)<=9223372036854775807->LOOP [Ty.int IntKind.i64,(Ty.st Sn.api_Rect).sl] (λ(rec7:Int->List api_Rect->Prop) (z8:Int) (z9:List api_Rect)=>IFB (decide (z8<(↑ps.length:Int))) (((0:Int)<=z8/\z8<(↑ps.length:Int))/\((0:Int)<=IntKind.i64.wrap (ix ps z8-1)/\IntKind.i64.wrap (ix ps z8-1)<(↑l.length:Int))/\((↑(ix l (IntKind.i64.wrap (ix ps z8-1))).6.length:Int)<=9223372036854775807->((0:Int)<=IntKind.i64.wrap ((↑(ix l (IntKind.i64.wrap (ix ps z8-1))).6.length:Int)-1)/\IntKind.i64.wrap ((↑(ix l (IntKind.i64.wrap (ix ps z8-1))).6.length:Int)-1)<(↑(ix l (IntKind.i64.wrap (ix ps z8-1))).6.length:Int))/\False)) ((↑z9.length:Int)<=9223372036854775807->IFB (decide ((120:Int)<(↑z9.length:Int))) (post l 1) (J2 [(⟨z9⟩:api_Region)]))) ((0:Int),[],PUnit.unit)) (J2 [])))))
theorem rapp2_w (l:List (api_Parcel))(day:Int)(known:Int)(ps:List (Int))(rs:List (api_Region))(post:dens (shT rapp2_sp.rs [])->Prop):rapp2_W l day known ps rs (λy0 y1=>post (y0,y1,()))=walkG (stlCP (callR Tryz.prog rapp2_C (drawF Tryz.prog tauD) 12 0)) 21 false [tv (.sl (.st .api_Parcel)) (l),tv (.st .api_Edit) (⟨day,known,2,ps,rs⟩)] rapp2_sp.rs post:=by kernel_rfl
theorem rapp2_of (h:∀x (post:dens (shT rapp2_sp.rs [])->Prop),rapp2_sp.pt x post->HoldW (walkG (stlCP (callR Tryz.prog rapp2_C (drawF Tryz.prog tauD) 12 0)) rapp2_sp.f rapp2_sp.tp (tvs rapp2_sp.ts x) rapp2_sp.rs post)):SpecOK Tryz.prog rapp2_sp:=SpecOK.of_rulesS (C:=rapp2_C) (dr:=drawF Tryz.prog tauD) (n:=12) (fk:=0) (.cons (rule1_ok rcopD_ok) (.cons (rule1_ok rchke_ok) (.cons (rule1_ok rmeet10_ok) (.cons (ruleNo_ok 37) (.cons (ruleNo_ok 80) (.cons (ruleNo_ok 81) .nil)))))) (drawF_ok tauD) h
set_option maxHeartbeats 4000000 in
theorem rapp2_h (l:List api_Parcel)(day known:Int)(ps:List Int)(rs:List api_Region)(post:List api_Parcel->Int->Prop)(hsz:szL l)(hse:szE ⟨day,known,2,ps,rs⟩)(hp:post (applyS l ⟨day,known,2,ps,rs⟩).1 (applyS l ⟨day,known,2,ps,rs⟩).2):rapp2_W l day known ps rs post:=by
 unfold rapp2_W rapp2_a9 rapp2_a8 rapp2_a7 rapp2_a6 rapp2_a5 rapp2_a4 rapp2_a3 rapp2_a2 rapp2_a1 rapp2_a0
 refine⟨hsz,⟨hsz,hse⟩,IFB.mk (λhb=> ?_) (λhb=> ?_)⟩
 ·have hne:editS l ⟨day,known,2,ps,rs⟩≠0:=by simpa using hb
  rw[applyS_err hne] at hp
  exact hp
 have h0:editS l ⟨day,known,2,ps,rs⟩=0:=by simpa using hb
 obtain⟨e1,e2,e3,⟨e4,e5⟩,e6,e7⟩:=editS_0.1 h0
 have hps:ps.length=1/\rs.length=1:=by
  unfold fitsP at e4
  dsimp only at e4
  omega
 obtain⟨p,rfl⟩:∃p,ps=[p]:=List.length_eq_one_iff.1 hps.1
 obtain⟨a,rfl⟩:∃a,rs=[a]:=List.length_eq_one_iff.1 hps.2
 obtain⟨h60,hreg⟩:=checkS_0.1 e1
 have hl:=hsz.len
 obtain⟨o1,o2,o3⟩:=e6 p (by simp)
 have hm:ix l (p-1)∈l:=ix_mem (by omega) (by omega)
 obtain⟨d1,d2⟩:=regP_days hreg _ hm
 have hx:=hsz.all _ hm
 have x1:=hx.days
 have x2:=hx.regs
 have ha:a.1.length<=4000000:=by have:=hse.rect a (by simp);omega
 have k1:ix ([a]:List api_Region) (0:Int)=a:=rfl
 have k2:ix ([p]:List Int) (0:Int)=p:=rfl
 have w1:IntKind.i64.wrap (p-1)=p-1:=wrap_in (by omega) (by omega)
 have w2:IntKind.i64.wrap (((ix l (p-1)).5.length:Int)-1)=((ix l (p-1)).5.length:Int)-1:=wrap_in (by omega) (by omega)
 simp only[k1,k2,w1,w2]
 have hA:¬hitP l a p->ix (ix l (p-1)).5 (((ix l (p-1)).5.length:Int)-1)=day->post (l.set (p-1).toNat ⟨(ix l (p-1)).1,(ix l (p-1)).2,(ix l (p-1)).3,(ix l (p-1)).4,(ix l (p-1)).5,(ix l (p-1)).6.set (((ix l (p-1)).5.length:Int)-1).toNat ⟨a.1⟩⟩) 0:=λhh hd=>by
  rcases applyS_2 h0 with⟨h,_⟩|⟨_,h⟩
  ·exact absurd h hh
  ·rw[h] at hp
   have e:drawnP (ix l (p-1)) day a=⟨(ix l (p-1)).1,(ix l (p-1)).2,(ix l (p-1)).3,(ix l (p-1)).4,(ix l (p-1)).5,(ix l (p-1)).6.set (((ix l (p-1)).5.length:Int)-1).toNat ⟨a.1⟩⟩:=by
    unfold drawnP
    rw[if_pos hd,show (((ix l (p-1)).5.length:Int)-1).toNat=(ix l (p-1)).5.length-1 by omega]
   rw[e] at hp
   exact hp
 have hB:¬hitP l a p->ix (ix l (p-1)).5 (((ix l (p-1)).5.length:Int)-1)≠day->post (l.set (p-1).toNat ⟨(ix l (p-1)).1,(ix l (p-1)).2,(ix l (p-1)).3,(ix l (p-1)).4,(ix l (p-1)).5++[day],(ix l (p-1)).6++[⟨a.1⟩]⟩) 0:=λhh hd=>by
  rcases applyS_2 h0 with⟨h,_⟩|⟨_,h⟩
  ·exact absurd h hh
  ·rw[h] at hp
   have e:drawnP (ix l (p-1)) day a=⟨(ix l (p-1)).1,(ix l (p-1)).2,(ix l (p-1)).3,(ix l (p-1)).4,(ix l (p-1)).5++[day],(ix l (p-1)).6++[⟨a.1⟩]⟩:=by
    unfold drawnP
    rw[if_neg hd]
   rw[e] at hp
   exact hp
 have hz:Int.NonNeg (0:Int):=Int.NonNeg.mk 0
 have z1:(0:Int)<(([a]:List api_Region).length:Int):=by simp
 have z2:(0:Int)<(([p]:List Int).length:Int):=by simp
 have z3:(0:Int)<=p-1:=by omega
 have z4:p-1<(l.length:Int):=by omega
 have z5:(0:Int)<=((ix l (p-1)).5.length:Int)-1:=by omega
 have z6:((ix l (p-1)).5.length:Int)-1<((ix l (p-1)).5.length:Int):=by omega
 have z7:((ix l (p-1)).5.length:Int)-1<((ix l (p-1)).6.length:Int):=by omega
 have z8:((ix l (p-1)).5.length+[day].length) * 8<=140737488355328:=by simp only[List.length_cons,List.length_nil];omega
 have z9:((ix l (p-1)).6.length+[(⟨a.1⟩:api_Region)].length) * 24<=140737488355328:=by simp only[List.length_cons,List.length_nil];omega
 refine⟨hsz,JOIN.opq λ(J:List api_Region->Prop) hJ=>IFB.no rfl (IFB.yes rfl ⟨⟨hz,z1⟩,⟨hz,z2⟩,⟨hsz,λp hp=>by have:=regP_days hreg p hp;omega⟩,λv hv=>IFB.mk (λhc=> ?_) (λhc=> ?_)⟩)⟩
 ·rcases applyS_2 h0 with⟨_,h⟩|⟨h,_⟩
  ·rw[h] at hp;exact hp
  ·exact absurd (hv.1 hc) h
 have hn:¬hitP l a p:=λh=>by rw[hv.2 h] at hc;cases hc
 clear hJ
 refine⟨⟨hz,z2⟩,⟨z3,z4⟩,trivial,λ_=>⟨trivial,⟨z5,z6⟩,IFB.mk (λhd=> ?_) (λhd=> ?_)⟩⟩
 ·have hA':=hA hn (of_decide_eq_true hd)
  repeat' (first|with_reducible assumption|exact True.intro|exact hA'|with_reducible apply And.intro)
 ·have hB':=hB hn (of_decide_eq_false hd)
  repeat' (first|with_reducible assumption|exact True.intro|exact hB'|with_reducible apply And.intro)
theorem rapp2_ok:SpecOK Tryz.prog rapp2_sp:=rapp2_of λx post hp=>by
 obtain⟨l,e,u⟩:=x
 obtain⟨day,known,kind,ps,rs⟩:=e
 obtain⟨⟨hsz,hse,hk⟩,hp⟩:=hp
 have hk:kind=2:=hk
 subst hk
 exact HoldW.of (rapp2_w l day known ps rs post) (rapp2_h l day known ps rs (λy0 y1=>post (y0,y1,())) hsz hse hp)
def rappA_P (l:List (api_Parcel))(e:api_Edit)(post:List (api_Parcel)->Int->Prop):Prop:=(szL l/\szE e/\(e.Kind≠2->combK l e))/\post (applyS l e).1 (applyS l e).2
def rappA_sp:Spec:=⟨21,false,true,[.sl (.st .api_Parcel),.st .api_Edit],.tup [.dat (.sl (.st .api_Parcel)),.dat (.int .i64)],λx post=>rappA_P (x.1:List (api_Parcel)) (x.2.1:api_Edit) (λy0 y1=>post (y0,y1,()))⟩
theorem rappA_ok:SpecOK Tryz.prog rappA_sp:=λx post hp=>by
 obtain⟨l,e,u⟩:=x
 have hp:(szL l/\szE e/\(e.Kind≠2->combK l e))/\post ((applyS l e).1,(applyS l e).2,()):=hp
 obtain⟨⟨hsz,hse,hcb⟩,hp⟩:=hp
 by_cases h:e.Kind=2
 ·exact rapp2_ok (l,e,()) post ⟨⟨hsz,hse,h⟩,hp⟩
 ·exact rappX_ok (l,e,()) post ⟨⟨hsz,hse,h,hcb h⟩,hp⟩
def keditG_P (l:List (api_Parcel))(day:Int)(post:api_Edit->Prop):Prop:=(szL l/\l.length<=15)/\∀e:api_Edit,edG l day e->post e
def keditG_sp:Spec:=⟨17,true,true,[.sl (.st .api_Parcel),.int .i64],.dat (.st .api_Edit),λx post=>keditG_P (x.1:List (api_Parcel)) (x.2.1:Int) (λy0=>post (y0,()))⟩
def keditG_C:CtxR:=⟨tau,[rule1 ropen_sp,rule1 ron_sp,rule1 rwou_sp,rule1 knext_sp,rule1 krange_sp,rule1 kone_sp,rule1 krect_sp],lookJ [(0,62,⟨[],[(1,[.dat (.int .i64),.dat (.int .i64),.dat (.int .i64),.own 3 (.int .i64),.dat (.sl (.st .api_Region))])],(List.range' 14 5++List.range' 86 87++[20]),[3],[]⟩),(0,53,⟨[(155,.dat (.int .i64))],[(1,[.dat (.int .i64),.dat (.int .i64),.dat (.int .i64),.own 3 (.int .i64),.dat (.sl (.st .api_Region))])],(List.range' 156 17++[20]),[3],[]⟩),(0,60,⟨[],[(1,[.dat (.int .i64),.dat (.int .i64),.dat (.int .i64),.own 3 (.int .i64),.dat (.sl (.st .api_Region))])],(List.range' 157 15++[20]),[4],[]⟩),(0,36,⟨[],[(4,[.dat (.int .i64),.dat (.int .i64),.dat (.int .i64),.dat (.int .i64)])],(List.range' 94 16),[],[]⟩),(0,16,⟨[],[(2,[.dat (.int .i64),.dat (.int .i64),.dat (.int .i64),.dat (.int .i64)])],[58,59,60,61],[],[]⟩)]⟩
abbrev keditG_a0 (v12:List api_Rect)(v28:Int):={Left:=(ix v12 (0:Int)).1,Low:=(ix v12 (0:Int)).2,Right:=IntKind.i64.wrap (IntKind.i64.wrap ((ix v12 (0:Int)).1+(1:Int))+v28),High:=(ix v12 (0:Int)).4:api_Rect}
def keditG_W (l:List (api_Parcel))(day:Int)(post:api_Edit->Prop):Prop:=szL l/\(Int.NonNeg 1099511627777/\Int.NonNeg 1099511627775/\Int.NonNeg 1099511627781/\(5:Int)<=1099511627776)/\∀(v1:Int),1<=v1->v1<=5\/v1=1->(↑(openS l day).length:Int)<=9223372036854775807->IFB (decide ((↑(openS l day).length:Int)=0)||decide (v1=1)) ((↑l.length:Int)<=9223372036854775807->((4:Int)=0->False)/\((4:Int)=0->False)/\((4:Int)=0->False)/\(Int.NonNeg 1099511627778/\Int.NonNeg 1099511627774/\Int.NonNeg 1099511627785/\(9:Int)<=1099511627776)/\∀(v2:Int),2<=v2->v2<=9\/v2=2->((4:Int)=0->False)/\(Int.NonNeg 1099511627778/\Int.NonNeg 1099511627774/\Int.NonNeg 1099511627785/\(9:Int)<=1099511627776)/\∀(v3:Int),2<=v3->v3<=9\/v3=2->JOIN [Ty.int IntKind.i64,Ty.int IntKind.i64,Ty.int IntKind.i64,Ty.int IntKind.i64] (λ(y4 y5 y6 y7:Int)=>post (⟨day,day,(1:Int),[],[(⟨[(⟨y4,y5,y6,y7⟩:api_Rect)]⟩:api_Region)]⟩:api_Edit)) λ(J8:Int->Int->Int->Int->Prop)=>Int.NonNeg 1099511627771/\∀(v9:Bool),IFB v9 ((Int.NonNeg 11/\(12:Int)<=16384)/\∀(v10:api_Rect),proper v10/\v10.3<=12/\v10.4<=12->J8 v10.1 v10.2 v10.3 v10.4) (J8 (IntKind.i64.wrap ((10:Int) * (↑l.length:Int).tmod 4)) (IntKind.i64.wrap ((10:Int) * IntKind.i64.wrap ((↑l.length:Int).tdiv 4))) (IntKind.i64.wrap (IntKind.i64.wrap ((10:Int) * (↑l.length:Int).tmod 4)+v2)) (IntKind.i64.wrap (IntKind.i64.wrap ((10:Int) * IntKind.i64.wrap ((↑l.length:Int).tdiv 4))+v3)))) ((↑(openS l day).length:Int)<=9223372036854775807->(↑(openS l day).length:Int)<=9223372036854775807/\∀(v11:Int),0<=v11->v11<(↑(openS l day).length:Int)\/v11=0->((0:Int)<=v11/\v11<(↑(openS l day).length:Int))/\szL l/\∀(v12:List api_Rect)(v13:Bool),v12=(onS l (ix (openS l day) v11) day).1/\(v13=true↔onP l (ix (openS l day) v11) day)->JOIN [Ty.int IntKind.i64,Ty.int IntKind.i64,Ty.int IntKind.i64,(Ty.int IntKind.i64).sl,(Ty.st Sn.api_Region).sl] (λ(y14 y15 y16:Int) (y17:List Int) (y18:List api_Region)=>post (⟨y14,y15,y16,y17,y18⟩:api_Edit)) λ(J19:Int->Int->Int->List Int->List api_Region->Prop)=>IFB (decide (v1=2)) ((Int.NonNeg 0/\0<(↑v12.length:Int))/\JOIN [Ty.int IntKind.i64,Ty.int IntKind.i64,Ty.int IntKind.i64,Ty.int IntKind.i64] (λ(y20 y21 y22 y23:Int)=>J19 day day v1 [ix (openS l day) v11] [(⟨[(⟨y20,y21,y22,y23⟩:api_Rect)]⟩:api_Region)]) λ(J24:Int->Int->Int->Int->Prop)=>Int.NonNeg 1099511627774/\∀(v25:Bool),IFB v25 (Int.NonNeg 9223372036854775798/\∀(v26:Int),0<=v26->v26<9\/v26=0->J24 (ix v12 0).1 (ix v12 0).2 (IntKind.i64.wrap (IntKind.i64.wrap ((ix v12 0).1+1)+v26)) (ix v12 0).4) (Int.NonNeg 9223372036854775798/\∀(v27:Int),0<=v27->v27<9\/v27=0->J24 (ix v12 0).1 (ix v12 0).2 (ix v12 0).3 (IntKind.i64.wrap (IntKind.i64.wrap ((ix v12 0).2+1)+v27)))) (IFB (decide (v1=3)) ((Int.NonNeg 0/\0<(↑v12.length:Int))/\(IntKind.i64.wrap ((ix v12 0).3-(ix v12 0).1)<=9223372036854775807/\∀(v28:Int),0<=v28->v28<IntKind.i64.wrap ((ix v12 0).3-(ix v12 0).1)\/v28=0->(((True/\J19 day day v1 [ix (openS l day) v11] [(⟨[(keditG_a0 v12 v28)]⟩:api_Region),{Rects:=(wouS v12 [(keditG_a0 v12 v28)]).1:api_Region}])/\True/\J19 day day v1 [ix (openS l day) v11] [(⟨[(keditG_a0 v12 v28)]⟩:api_Region),{Rects:=(wouS v12 [(keditG_a0 v12 v28)]).1:api_Region}])/\True/\J19 day day v1 [ix (openS l day) v11] [(⟨[(keditG_a0 v12 v28)]⟩:api_Region),{Rects:=(wouS v12 [(keditG_a0 v12 v28)]).1:api_Region}])/\True/\J19 day day v1 [ix (openS l day) v11] [(⟨[(keditG_a0 v12 v28)]⟩:api_Region),{Rects:=(wouS v12 [(keditG_a0 v12 v28)]).1:api_Region}])/\IntKind.i64.wrap ((ix v12 0).3-(ix v12 0).1)<=9223372036854775807/\∀(v29:Int),0<=v29->v29<IntKind.i64.wrap ((ix v12 0).3-(ix v12 0).1)\/v29=0->True/\J19 day day v1 [ix (openS l day) v11] [(⟨[(⟨(ix v12 0).1,(ix v12 0).2,IntKind.i64.wrap (IntKind.i64.wrap ((ix v12 0).1+1)+v29),(ix v12 0).4⟩:api_Rect)]⟩:api_Region),{Rects:=(wouS v12 [(⟨(ix v12 0).1,(ix v12 0).2,IntKind.i64.wrap (IntKind.i64.wrap ((ix v12 0).1+1)+v29),(ix v12 0).4⟩:api_Rect)]).1:api_Region}]) (IFB (decide (v1=4)) ((↑(openS l day).length:Int)<=9223372036854775807->LOOP [Ty.int IntKind.i64,Ty.int IntKind.i64,Ty.int IntKind.i64,Ty.int IntKind.i64,(Ty.int IntKind.i64).sl,(Ty.st Sn.api_Region).sl] (λ(rec30:Int->Int->Int->Int->List Int->List api_Region->Prop) (z31 z32 z33 z34:Int) (z35:List Int) (z36:List api_Region)=>IFB (decide (z31<(↑(openS l day).length:Int))) (JOIN [Ty.int IntKind.i64,Ty.int IntKind.i64,Ty.int IntKind.i64,(Ty.int IntKind.i64).sl,(Ty.st Sn.api_Region).sl] (λ(y37 y38 y39:Int) (y40:List Int) (y41:List api_Region)=>rec30 (IntKind.i64.wrap (z31+1)) y37 y38 y39 y40 y41) λ(J42:Int->Int->Int->List Int->List api_Region->Prop)=>((0:Int)<=z31/\z31<(↑(openS l day).length:Int))/\JOIN [Ty.bool] (λ(y43:Bool)=>IFB (decide (ix (openS l day) v11<ix (openS l day) z31)&&y43) ((z35.length+[ix (openS l day) z31].length) * (8:Nat)<=140737488355328/\J42 z32 z33 z34 (z35++[ix (openS l day) z31]) z36) (J42 z32 z33 z34 z35 z36)) λ(J44:Bool->Prop)=>IFB (gx true (decide (ix (openS l day) v11<ix (openS l day) z31))) (Int.NonNeg 1099511627774/\∀(v45:Bool),J44 v45) (J44 false)) (J19 z32 z33 z34 z35 z36)) ((0:Int),day,day,v1,[ix (openS l day) v11],[],PUnit.unit)) (J19 day day v1 [ix (openS l day) v11] []))))
theorem keditG_w (l:List (api_Parcel))(day:Int)(post:dens (shT keditG_sp.rs [])->Prop):keditG_W l day (λy0=>post (y0,()))=walkG (callR Tryz.prog keditG_C (drawF Tryz.prog tau) 8 0) 17 true [tv (.sl (.st .api_Parcel)) l,tv (.int .i64) day] keditG_sp.rs post:=by kernel_rfl
theorem keditG_of (h:∀l day post,keditG_P l day post->keditG_W l day post):SpecOK Tryz.prog keditG_sp:=SpecOK.of_rules (C:=keditG_C) (dr:=drawF Tryz.prog tau) (n:=8) (fk:=0) (.cons (rule1_ok ropen_ok) (.cons (rule1_ok ron_ok) (.cons (rule1_ok rwou_ok) (.cons (rule1_ok knext_ok) (.cons (rule1_ok krange_ok) (.cons (rule1_ok kone_ok) (.cons (rule1_ok krect_ok) .nil))))))) (drawF_ok tau) λx post hp=>HoldW.of (keditG_w x.1 x.2.1 post) (h x.1 x.2.1 (λy0=>post (y0,())) hp)
set_option maxHeartbeats 4000000 in
theorem keditG_ok:SpecOK Tryz.prog keditG_sp:=keditG_of λl day post hp=>by
 obtain⟨⟨hsz,hlen⟩,hp⟩:=hp
 unfold keditG_W keditG_a0
 have hol:(openS l day).length<=l.length:=openS_len
 refine⟨hsz,⟨.mk _,.mk _,.mk _,by omega⟩,λk hk1 hk2 _=>IFB.mk (λhc _=> ?_) (λhc _=> ?_)⟩
 ·have t1:(l.length:Int).tmod 4=(l.length:Int) % 4:=Int.tmod_eq_emod_of_nonneg (by omega)
  have t2:(l.length:Int).tdiv 4=(l.length:Int)/4:=Int.tdiv_eq_ediv_of_nonneg (by omega)
  have w1:IntKind.i64.wrap (10 * ((l.length:Int) % 4))=10 * ((l.length:Int) % 4):=wrap_in (by omega) (by omega)
  have w2:IntKind.i64.wrap ((l.length:Int)/4)=(l.length:Int)/4:=wrap_in (by omega) (by omega)
  have w3:IntKind.i64.wrap (10 * ((l.length:Int)/4))=10 * ((l.length:Int)/4):=wrap_in (by omega) (by omega)
  refine⟨by omega,by omega,by omega,⟨.mk _,.mk _,.mk _,by omega⟩,λw h1 h2=>⟨by omega,⟨.mk _,.mk _,.mk _,by omega⟩,λv g1 g2=>JOIN.opq λ(J:Int->Int->Int->Int->Prop) hJ=>⟨.mk _,λb=>IFB.mk (λ_=>⟨⟨.mk _,by omega⟩,λr hr=> ?_⟩) (λ_=> ?_)⟩⟩⟩
  ·rw[hJ]
   refine hp _ (edG_rect ⟨by omega,by omega⟩ (by simp) (λ_=>⟨hr.1,?_,?_⟩) λN n1 n2 n3=>⟨hr.1,?_,?_⟩)
   ·show r.3<=39;omega
   ·show r.4<=39;omega
   ·show r.3<=N+8;omega
   ·show r.4<=N+8;omega
  ·have w4:IntKind.i64.wrap (10 * ((l.length:Int) % 4)+w)=10 * ((l.length:Int) % 4)+w:=wrap_in (by omega) (by omega)
   have w5:IntKind.i64.wrap (10 * ((l.length:Int)/4)+v)=10 * ((l.length:Int)/4)+v:=wrap_in (by omega) (by omega)
   rw[t1,t2,w1,w2,w3,w4,w5,hJ]
   refine hp _ (edG_rect ⟨by omega,by omega⟩ (by simp) (λ_=>⟨⟨?_,?_,?_,?_,?_,?_⟩,?_,?_⟩) λN n1 n2 n3=>⟨⟨?_,?_,?_,?_,?_,?_⟩,?_,?_⟩)<;>dsimp only<;>omega
 ·rw[Bool.or_eq_false_iff] at hc
  have hc1:¬((openS l day).length:Int)=0:=of_decide_eq_false hc.1
  have hc2:¬k=1:=of_decide_eq_false hc.2
  refine⟨by omega,λv h1 h2=> ?_⟩
  have hv:0<=v/\v<((openS l day).length:Int):=by omega
  have hn:ix (openS l day) v∈openS l day:=ix_mem hv.1 hv.2
  obtain⟨hon,hreg⟩:=open_on hn
  obtain⟨hm1,hm2⟩:=on_mem hon hreg
  have hpr:=reg_prop hreg hm2 hm1
  obtain⟨n,hnn⟩:∃n,ix (openS l day) v=n:=⟨_,rfl⟩
  rw[hnn] at hon hm1 hm2 hpr ⊢
  refine⟨hv,hsz,λv12 v13 h=>JOIN.opq λ(J:Int->Int->Int->List Int->List api_Region->Prop) hJ=> ?_⟩
  obtain⟨h12,_⟩:=h
  have hv12:(onS l n day).Rects=v12:=h12.symm
  have hln:l≠[]:=λh=>by subst h;cases hm2
  have hval:validP v12:=by rw[<-hv12];exact hpr.2
  have hne:0<v12.length:=by
   rw[<-hv12]
   exact List.length_pos_iff.2 hpr.1
  have hr0:ix v12 (0:Int)∈v12:=ix_mem (by omega) (by omega)
  obtain⟨q1,q2,q3,q4,q5,q6⟩:=hval.2.1 _ hr0
  have hbx:∀N:Int,bxL N l->∀q∈v12,q.Right<=N/\q.High<=N:=λN hN q hq=>hN _ hm2 _ hm1 q (by rw[hv12];exact hq)
  refine IFB.mk (λhd=> ?_) (λhd=>IFB.mk (λhd2=> ?_) (λhd2=>IFB.mk (λhd3=> ?_) (λhd3=> ?_)))
  ·have hd:=of_decide_eq_true hd
   have w0:∀z:Int,0<=z->z<=20000->∀v:Int,0<=v->v<=9->IntKind.i64.wrap (IntKind.i64.wrap (z+1)+v)=z+1+v:=λz z1 z2 v v1 v2=>by
    rw[wrap_in (z:=z+1) (by omega) (by omega)]
    exact wrap_in (by omega) (by omega)
   refine⟨⟨.mk _,by omega⟩,JOIN.opq λ(J24:Int->Int->Int->Int->Prop) hJ24=>⟨.mk _,λb=>IFB.mk (λ_=>⟨.mk _,λu u1 u2=> ?_⟩) (λ_=>⟨.mk _,λu u1 u2=> ?_⟩)⟩⟩
   ·rw[w0 _ q1 (by omega) u u1 (by omega),hJ24,hJ]
    refine hp _ (edG_rect ⟨by omega,by omega⟩ (by simp) (λh=>absurd h hln) λN n1 n2 n3=> ?_)
    obtain⟨b1,b2⟩:=hbx N n3 _ hr0
    refine⟨⟨?_,?_,?_,?_,?_,?_⟩,?_,?_⟩<;>dsimp only<;>omega
   ·rw[w0 _ q4 (by omega) u u1 (by omega),hJ24,hJ]
    refine hp _ (edG_rect ⟨by omega,by omega⟩ (by simp) (λh=>absurd h hln) λN n1 n2 n3=> ?_)
    obtain⟨b1,b2⟩:=hbx N n3 _ hr0
    refine⟨⟨?_,?_,?_,?_,?_,?_⟩,?_,?_⟩<;>dsimp only<;>omega
  ·have hd2:=of_decide_eq_true hd2
   subst hd2
   have w1:IntKind.i64.wrap ((ix v12 0).3-(ix v12 0).1)=(ix v12 0).3-(ix v12 0).1:=wrap_in (by omega) (by omega)
   rw[w1]
   have leaf:∀u:Int,0<=u->(u<(ix v12 0).3-(ix v12 0).1\/u=0)->J day day 3 [n] [{Rects:=[{Left:=(ix v12 0).1,Low:=(ix v12 0).2,Right:=IntKind.i64.wrap (IntKind.i64.wrap ((ix v12 0).1+1)+u),High:=(ix v12 0).4:api_Rect}]:api_Region},{Rects:=(wouS v12 [{Left:=(ix v12 0).1,Low:=(ix v12 0).2,Right:=IntKind.i64.wrap (IntKind.i64.wrap ((ix v12 0).1+1)+u),High:=(ix v12 0).4:api_Rect}]).1:api_Region}]:=λu u1 u2=>by
    rw[wrap_in (z:=(ix v12 0).1+1) (by omega) (by omega),wrap_in (z:=(ix v12 0).1+1+u) (by omega) (by omega),hJ]
    refine hp _ (edG_split hon hv12 hne ⟨rfl,rfl,rfl⟩ (by simp) hln hval λN n1 n2 n3=>⟨?_,hbx N n3⟩)
    obtain⟨b1,b2⟩:=hbx N n3 _ hr0
    refine⟨⟨?_,?_,?_,?_,?_,?_⟩,?_,?_⟩<;>dsimp only<;>omega
   have b1:(ix v12 0).3-(ix v12 0).1<=9223372036854775807:=by omega
   refine⟨⟨.mk _,by omega⟩,⟨b1,λu u1 u2=> ?_⟩,b1,λu u1 u2=>⟨trivial,leaf u u1 u2⟩⟩
   have lf:=leaf u u1 u2
   repeat' (first|exact lf|exact True.intro|with_reducible apply And.intro)
  ·have hd3:=of_decide_eq_true hd3
   intro _
   refine LOOP.fuel (λu=>∃j:Nat,u.1=(j:Int)/\j<=(openS l day).length/\u.2.1=day/\u.2.2.1=day/\u.2.2.2.1=k/\List.length (u.2.2.2.2.1:List Int)<=1+j/\(u.2.2.2.2.2.1:List api_Region)=[]) (λu=>(openS l day).length-Int.toNat u.1) ⟨0,rfl,Nat.zero_le _,rfl,rfl,rfl,by simp,rfl⟩ ?_
   rintro rec ⟨(z1:Int),(z2:Int),(z3:Int),(z4:Int),(z5:List Int),(z6:List api_Region),⟨⟩⟩ ⟨j,f1,e2,f3,f4,f5,f6,f7⟩ hrec
   have e1:z1=(j:Int):=f1
   have e3:z2=day:=f3
   have e4:z3=day:=f4
   have e5:z4=k:=f5
   have e6:z5.length<=1+j:=f6
   have e7:z6=[]:=f7
   clear f1 f3 f4 f5 f6 f7
   subst e1 e3 e4 e5 e7
   refine IFB.mk (λhb=> ?_) (λhb=> ?_)
   ·have hb:(j:Int)<((openS l z3).length:Int):=of_decide_eq_true hb
    refine JOIN.opq λ(J42:Int->Int->Int->List Int->List api_Region->Prop) hJ42=>⟨⟨by omega,hb⟩,?_⟩
    have cont:∀z:List Int,z.length<=1+(j+1)->J42 z3 z3 z4 z []:=λz hz=>by
     rw[hJ42,wrapS (by omega)]
     exact hrec (((j+1:Nat):Int),z3,z3,z4,z,[],()) ⟨j+1,rfl,by omega,rfl,rfl,rfl,hz,rfl⟩ (by show (openS l z3).length-((j+1:Nat):Int).toNat<(openS l z3).length-(j:Int).toNat;omega)
    have body:∀y:Bool,IFB (decide (n<ix (openS l z3) (j:Int))&&y) ((z5.length+[ix (openS l z3) (j:Int)].length) * 8<=140737488355328/\J42 z3 z3 z4 (z5++[ix (openS l z3) (j:Int)]) []) (J42 z3 z3 z4 z5 []):=λy=>
     IFB.mk (λ_=>⟨by simp only[List.length_cons,List.length_nil];omega,cont _ (by rw[List.length_append];simp;omega)⟩) (λ_=>cont _ (by omega))
    refine JOIN.opq λ(J44:Bool->Prop) hJ44=>IFB.mk (λ_=>⟨.mk _,λy=> ?_⟩) (λ_=> ?_)
    ·rw[hJ44];exact body y
    ·rw[hJ44];exact body false
   ·have hb:¬(j:Int)<((openS l z3).length:Int):=of_decide_eq_false hb
    show J z3 z3 z4 z5 []
    rw[hJ]
    exact hp _ (edG_none ⟨by omega,by omega⟩ (by omega))
  ·rw[hJ]
   exact hp _ (edG_none ⟨by omega,by omega⟩ (by simp))
def keditsG_P (most:Int)(step:Int)(post:List (api_Edit)->List (api_Parcel)->Prop):Prop:=(0<=most/\most<=8/\0<=step/\step<=10)/\∀(es:List Ed)(x:List Pc),HistG most.toNat es x->post es x
def keditsG_sp:Spec:=⟨23,true,true,[.int .i64,.int .i64],.tup [.dat (.sl (.st .api_Edit)),.dat (.sl (.st .api_Parcel))],λx post=>keditsG_P (x.1:Int) (x.2.1:Int) (λy0 y1=>post (y0,y1,()))⟩
def keditsG_C:CtxR:=⟨tau,[rule1 knext_sp,rule1 keditG_sp,rule1 rappA_sp],lookJ [(0,11,⟨[(11,.dat (.int .i64)),(8,.own 25 (.st .api_Edit)),(9,.dat (.sl (.st .api_Parcel))),(10,.dat (.int .i64))],[],(List.range' 21 27++[12,13,14]),[],[]⟩),(0,12,⟨[(8,.own 25 (.st .api_Edit)),(9,.dat (.sl (.st .api_Parcel))),(10,.dat (.int .i64))],[],(List.range' 25 23++[12,13,14]),[0],[]⟩)]⟩
abbrev keditsG_a0 (v13:api_Edit):={Day:=v13.1,Known:=v13.2,Kind:=v13.3,Parcels:=v13.4,Regions:=v13.5:api_Edit}
def keditsG_W (most:Int)(step:Int)(post:List (api_Edit)->List (api_Parcel)->Prop):Prop:=Int.NonNeg 9223372036854775802/\∀(v1:Int),0<=v1->v1<5\/v1=0->IntKind.i64.wrap (most+1)<=9223372036854775807/\∀(v2:Int),0<=v2->v2<IntKind.i64.wrap (most+1)\/v2=0->LOOP [Ty.int IntKind.i64,(Ty.st Sn.api_Edit).sl,(Ty.st Sn.api_Parcel).sl,Ty.int IntKind.i64] (λ(rec3:Int->List api_Edit->List api_Parcel->Int->Prop) (z4:Int) (z5:List api_Edit) (z6:List api_Parcel) (z7:Int)=>IFB (decide ((0:Int)<z4)) (JOIN [(Ty.st Sn.api_Edit).sl,(Ty.st Sn.api_Parcel).sl,Ty.int IntKind.i64] (λ(y8:List api_Edit) (y9:List api_Parcel) (y10:Int)=>rec3 (IntKind.i64.wrap (z4-1)) y8 y9 y10) λ(J11:List api_Edit->List api_Parcel->Int->Prop)=>IntKind.i64.wrap (step+1)<=9223372036854775807/\∀(v12:Int),0<=v12->v12<IntKind.i64.wrap (step+1)\/v12=0->(szL z6/\z6.length<=15)/\∀(v13:api_Edit),edG z6 (IntKind.i64.wrap (z7+v12)) v13->(szL z6/\szE (keditsG_a0 v13)/\((v13.3=2->False)->editS z6 (keditsG_a0 v13)=0->(∀(v14:Nat),v14<=v13.5.length->(canonF (cov (partsR (List.take v14 v13.5)))).length<=10000)/\∀(v15:Nat),v15<=v13.4.length->(canonF (cov (outsL z6 (List.take v15 v13.4)))).length<=10000))/\IFB (decide ((applyS z6 (keditsG_a0 v13)).2=0)) ((z5.length+[(keditsG_a0 v13)].length) * (72:Nat)<=140737488355328/\J11 (z5++[(keditsG_a0 v13)]) (applyS z6 (keditsG_a0 v13)).1 (IntKind.i64.wrap (z7+v12))) (J11 z5 z6 (IntKind.i64.wrap (z7+v12)))) (post z5 z6)) (v2,[],[],v1,PUnit.unit)
theorem keditsG_w (most:Int)(step:Int)(post:dens (shT keditsG_sp.rs [])->Prop):keditsG_W most step (λy0 y1=>post (y0,y1,()))=walkG (callR Tryz.prog keditsG_C (drawF Tryz.prog tau) 8 0) 23 true [tv (.int .i64) most,tv (.int .i64) step] keditsG_sp.rs post:=by kernel_rfl
theorem keditsG_of (h:∀most step post,keditsG_P most step post->keditsG_W most step post):SpecOK Tryz.prog keditsG_sp:=SpecOK.of_rules (C:=keditsG_C) (dr:=drawF Tryz.prog tau) (n:=8) (fk:=0) (.cons (rule1_ok knext_ok) (.cons (rule1_ok keditG_ok) (.cons (rule1_ok rappA_ok) .nil))) (drawF_ok tau) λx post hp=>HoldW.of (keditsG_w x.1 x.2.1 post) (h x.1 x.2.1 (λy0 y1=>post (y0,y1,())) hp)
theorem keditsG_ok:SpecOK Tryz.prog keditsG_sp:=keditsG_of λmost step post hp=>by
 obtain⟨⟨m0,m1,s0,s1⟩,hp⟩:=hp
 unfold keditsG_W keditsG_a0
 have w1:IntKind.i64.wrap (most+1)=most+1:=wrap_in (by omega) (by omega)
 have w2:IntKind.i64.wrap (step+1)=step+1:=wrap_in (by omega) (by omega)
 rw[w1,w2]
 refine⟨.mk _,λd hd0 hd1=>⟨by omega,λn hn0 hn1=> ?_⟩⟩
 refine LOOP.fuel (λu=>∃i:Nat,u.1=n-(i:Int)/\(i:Int)<=n/\HistG i u.2.1 u.2.2.1/\ @LE.le Int _ 0 u.2.2.2.1/\ @LE.le Int _ u.2.2.2.1 (4+10 * (i:Int))) (λu=>Int.toNat u.1) ⟨0,by show n=n-((0:Nat):Int);omega,by omega,histG_nil,hd0,by show d<=_;omega⟩ ?_
 rintro rec ⟨(z4:Int),(z5:List Ed),(z6:List Pc),(z7:Int),⟨⟩⟩ ⟨i,f1,i2,f3,f4,f5⟩ hrec
 have e1:z4=n-(i:Int):=f1
 have hh:HistG i z5 z6:=f3
 have d0:0<=z7:=f4
 have d1:z7<=4+10 * (i:Int):=f5
 clear f1 f3 f4 f5
 subst e1
 refine IFB.mk (λhb=> ?_) (λhb=> ?_)
 ·have hb:0<n-(i:Int):=of_decide_eq_true hb
  have hi:i<=7:=by omega
  have hlen:=hh.len
  have hxl:=hh.xl
  have hx15:z6.length<=15:=by omega
  have hz5:(z5.length+1) * 72<=140737488355328:=by omega
  refine JOIN.opq λ(J:List api_Edit->List api_Parcel->Int->Prop) hJ=>⟨by omega,λv v0 v1=>⟨⟨hh.sz,hx15⟩,λe hef=> ?_⟩⟩
  obtain⟨he,hf⟩:edQ _ _ e/\edF _ e:=hef
  have w3:IntKind.i64.wrap (z7+v)=z7+v:=wrap_in (by omega) (by omega)
  rw[w3] at he ⊢
  have w4:IntKind.i64.wrap (n-(i:Int)-1)=n-((i+1:Nat):Int):=by rw[wrap_in (by omega) (by omega)];omega
  obtain⟨r1,r2⟩:=hh.reach hi he
  have hc:=combK_of (e:=e) (N:=39+8 * (z5.length:Int)) (by omega) (by omega) r1 r2
  have next:∀(a:List Ed)(b:List Pc),HistG (i+1) a b->J a b (z7+v):=λa b hab=>by
   rw[hJ,w4]
   exact hrec (n-((i+1:Nat):Int),a,b,z7+v,()) ⟨i+1,rfl,by omega,hab,by show 0<=z7+v;omega,by show z7+v<=4+10 * ((i+1:Nat):Int);omega⟩ (by show (n-((i+1:Nat):Int)).toNat<(n-(i:Int)).toNat;omega)
  refine⟨⟨hh.sz,he.1,λ_=>hc⟩,IFB.mk (λhq=> ?_) (λhq=>next _ _ (hh.monoG (by omega)))⟩
  have hq:(applyS z6 e).2=0:=of_decide_eq_true hq
  exact⟨hz5,next _ _ (hh.stepG hi ⟨by omega,by omega⟩ he hf hq)⟩
 ·have hb:¬0<n-(i:Int):=of_decide_eq_false hb
  exact hp _ _ (hh.monoG (by omega))
def pawake_P (post:Bool->Prop):Prop:=post true
def pawake_sp:Spec:=⟨11,false,false,[],.dat (.bool),λx post=>pawake_P (λy0=>post (y0,()))⟩
def pawake_C:CtxR:=⟨tau,[rule1 prunV_sp,rule1 pheirsV_sp,rule1 pshareV_sp,rule1 rints_sp],lookJ []⟩
abbrev pawake_a0:={Day:=(5:Int),Known:=(0:Int),Kind:=(3:Int),Parcels:=[(1:Int)],Regions:=[{Rects:=[{Left:=(0:Int),Low:=(0:Int),Right:=(1:Int),High:=(1:Int):api_Rect}]:api_Region},{Rects:=[{Left:=(1:Int),Low:=(0:Int),Right:=(4:Int),High:=(1:Int):api_Rect}]:api_Region}]:api_Edit}
abbrev pawake_a1:={Day:=(0:Int),Known:=(0:Int),Kind:=(1:Int),Parcels:=[],Regions:=[{Rects:=[{Left:=(0:Int),Low:=(0:Int),Right:=(4:Int),High:=(1:Int):api_Rect}]:api_Region}]:api_Edit}
def pawake_W (post:Bool->Prop):Prop:=(Nat.le ((2:Nat)) ((1000000:Nat))/\∀(v1:api_Edit),v1∈[(pawake_a1),(pawake_a0)]->szE v1/\(v1.3=2->False))/\∀(v2:List api_Parcel)(v3 v4:Int),szL v2/\runS [(pawake_a1),(pawake_a0)]=(v2,v3,v4)->szL v2/\∀(v5:List Int)(v6:Int),v5=heirsS v2 (1:Int) 9/\v6=heirE v2 (1:Int) 9->szL v2/\∀(v7:List arr2_i64)(v8:Int),v7=shareS v2 (1:Int) 5/\v8=heirE v2 (1:Int) 5->IFB (gx true (decide (v4=0)&&decide (v3=2)&&decide (v6=0))) (JOIN [Ty.bool] (λ(y9:Bool)=>(gx true (decide (v4=0)&&decide (v3=2)&&decide (v6=0)&&y9&&decide (v8=0))=true->(↑v7.length:Int)<=9223372036854775807)->(gx true (decide (v4=0)&&decide (v3=2)&&decide (v6=0)&&y9&&decide (v8=0)&&decide ((↑v7.length:Int)=2))=true->Int.NonNeg 1/\1<(↑v7.length:Int))/\post (decide (v4=0)&&decide (v3=2)&&decide (v6=0)&&y9&&decide (v8=0)&&decide ((↑v7.length:Int)=2)&&(decide ((ix v7 1).1=3)&&(decide ((ix v7 1).2=3)&&true)))) λ(J10:Bool->Prop)=>IFB (gx true (decide (v4=0)&&decide (v3=2)&&decide (v6=0))) (∀(v11:Bool),(v11=true↔v5=[(2:Int),(3:Int)])->J10 v11) (J10 false)) (JOIN [Ty.bool] (λ(y12:Bool)=>(gx true (decide (v4=0)&&decide (v3=2)&&decide (v6=0)&&y12&&decide (v8=0))=true->(↑v7.length:Int)<=9223372036854775807)->(gx true (decide (v4=0)&&decide (v3=2)&&decide (v6=0)&&y12&&decide (v8=0)&&decide ((↑v7.length:Int)=2))=true->Int.NonNeg 1/\1<(↑v7.length:Int))/\post (decide (v4=0)&&decide (v3=2)&&decide (v6=0)&&y12&&decide (v8=0)&&decide ((↑v7.length:Int)=2)&&(decide ((ix v7 1).1=3)&&(decide ((ix v7 1).2=3)&&true)))) λ(J13:Bool->Prop)=>IFB (gx true (decide (v4=0)&&decide (v3=2)&&decide (v6=0))) False (J13 false))
theorem pawake_w (post:dens (shT pawake_sp.rs [])->Prop):pawake_W (λy0=>post (y0,()))=walkG (callR Tryz.prog pawake_C (drawF Tryz.prog tau) 10 0) 11 false [] pawake_sp.rs post:=by kernel_rfl
theorem pawake_of (h:∀post,pawake_P post->pawake_W post):SpecOK Tryz.prog pawake_sp:=SpecOK.of_rules (C:=pawake_C) (dr:=drawF Tryz.prog tau) (n:=10) (fk:=0) (.cons (rule1_ok prunV_ok) (.cons (rule1_ok pheirsV_ok) (.cons (rule1_ok pshareV_ok) (.cons (rule1_ok rints_ok) .nil)))) (drawF_ok tau) λx post hp=>HoldW.of (pawake_w post) (h (λy0=>post (y0,())) hp)
theorem heirs_go {l:List Pc}{n d:Int}(h:regP l)(h2:l.length<=60)(h3:0<=d)(h4:d<=36864)(h5:1<=n)(h6:n<=(l.length:Int))(h7:(ix l (n-1)).From<=d):heirE l n d=0/\heirsS l n d=heirsL l n d/\shareS l n d=shareL l n d (heirsL l n d):=by
 have e:heirE l n d=0:=heirE_0.2 ⟨check_reg h h2,h3,h4,h5,h6,h7⟩
 refine⟨e,?_,?_⟩
 ·unfold heirsS;rw[if_pos e]
 ·unfold shareS;rw[if_pos e]
theorem hs_yes {d n s u:Int}{ps f r:List Int}{a:Rn}(h:∃k∈ps,k∈f):hStep d (f,r) (pcl n s u ps a)=(f++[n],if s<=d/\d<u then r++[n] else r):=by
 unfold hStep
 rw[if_pos (show ∃k∈(pcl n s u ps a).Parents,k∈(f,r).1 from h)]
 dsimp only
 have hn:n∈f++[n]:=by simp
 by_cases h1:s<=d/\d<u
 ·rw[if_pos (show thereP (pcl n s u ps a) d/\(pcl n s u ps a).Number∈f++[(pcl n s u ps a).Number] from ⟨h1,hn⟩),if_pos h1];rfl
 ·rw[if_neg (show ¬(thereP (pcl n s u ps a) d/\(pcl n s u ps a).Number∈f++[(pcl n s u ps a).Number]) from λh=>h1 h.1),if_neg h1];rfl
theorem hs_no {d n s u:Int}{ps f r:List Int}{a:Rn}(h:¬∃k∈ps,k∈f)(h2:¬(s<=d/\d<u)):hStep d (f,r) (pcl n s u ps a)=(f,r):=by
 unfold hStep
 rw[if_neg (show ¬∃k∈(pcl n s u ps a).Parents,k∈(f,r).1 from h)]
 dsimp only
 rw[if_neg (λh=>h2 h.1)]
theorem heirs_L2 {a b c:Rn}{d e:Int}(h0:0<=d)(h1:d<=e)(h2:e<36865):heirsL (L2 d 36865 a b c) 1 e=[2,3]:=by
 have q:heirsL (L2 d 36865 a b c) 1 e=(hStep e (hStep e (hStep e ([1],[]) (pcl 1 0 d [] a)) (pcl 2 d 36865 [1] b)) (pcl 3 d 36865 [1] c)).2:=rfl
 rw[q,hs_no (d:=e) (n:=1) (s:=0) (u:=d) (ps:=[]) (f:=[1]) (r:=[]) (by simp) (by omega),hs_yes (f:=[1]) ⟨1,by simp,by simp⟩,if_pos ⟨h1,h2⟩,hs_yes (f:=[1]++[2]) ⟨1,by simp,by simp⟩,if_pos ⟨h1,h2⟩]
 rfl
namespace PL
def exA:Rn:=⟨[⟨0,0,4,1⟩]⟩
def exB:Rn:=⟨[⟨0,0,1,1⟩]⟩
def exC:Rn:=⟨[⟨1,0,4,1⟩]⟩
end PL
theorem cov_one {r:Rc}{x y:Int}:cov [r] x y=true↔r.Left<=x/\x<r.Right/\r.Low<=y/\y<r.High:=by
 rw[cov_mem]
 constructor
 ·rintro ⟨q,hq,h⟩;rw[List.mem_singleton.1 hq] at h;exact hit_iff.1 h
 ·exact λh=>⟨r,by simp,hit_iff.2 h⟩
theorem prop_one {r:Rc}(h:proper r):propR ⟨[r]⟩:=⟨by simp,by simp,λq hq=>by
 have hq:q∈[r]:=hq
 rw[List.mem_singleton.1 hq];exact h,canon_one h⟩
theorem ex_parts:Parts exA exB exC where
 pa:=prop_one (by unfold proper;decide)
 pb:=prop_one (by unfold proper;decide)
 pc:=prop_one (by unfold proper;decide)
 dis:=λx y h=>by
  have h1:=cov_one.1 h.1
  have h2:=cov_one.1 h.2
  dsimp only at h1 h2
  omega
 all:=λx y=>by
  rw[Bool.eq_iff_iff,Bool.or_eq_true]
  unfold exA exB exC
  rw[cov_one,cov_one,cov_one]
  dsimp only
  omega
theorem ex_share:ix (shareL (L2 5 36865 exA exB exC) 1 5 [2,3]) 1=⟨3,3⟩:=by
 have e:ix (shareL (L2 5 36865 exA exB exC) 1 5 [2,3]) 1=⟨3,sizeS (canonF (comb (howS 2) exA.Rects exC.Rects))⟩:=rfl
 rw[e,canonF_eq (l:=exC.Rects) ex_parts.pc.2.2.2 λx y=>by
  show _=howS 2 (cov exA.Rects x y) (cov exC.Rects x y)
  rw[ex_parts.all]
  cases cov exB.Rects x y<;>cases cov exC.Rects x y<;>rfl]
 rfl
theorem pawake_ok:SpecOK Tryz.prog pawake_sp:=pawake_of λpost hp=>by
 unfold pawake_W pawake_a1 pawake_a0
 refine⟨⟨by show 2<=1000000;omega,λv h=> ?_⟩,λv2 v3 v4 ⟨hz,hr⟩=>⟨hz,λv5 v6 ⟨h5,h6⟩=>⟨hz,λv7 v8 ⟨h7,h8⟩=> ?_⟩⟩⟩
 ·simp only[List.mem_cons,List.not_mem_nil,or_false] at h
  rcases h with rfl|rfl
  ·exact⟨⟨by show 0<=1000000;omega,by show 1<=1000000;omega,λa ha=>by rw[List.mem_singleton.1 ha];show 1<=1000000;omega⟩,by show (1:Int)=2->False;decide⟩
  ·exact⟨⟨by show 1<=1000000;omega,by show 2<=1000000;omega,λa ha=>by
    simp only[List.mem_cons,List.not_mem_nil,or_false] at ha
    rcases ha with rfl|rfl
    ·show 1<=1000000;omega
    ·show 1<=1000000;omega⟩,by show (3:Int)=2->False;decide⟩
 ·have hr0:=run_2 (d:=5) ex_parts (by decide) (by decide)
  have hr:runS [⟨0,0,1,[],[exA]⟩,⟨5,0,3,[1],[exB,exC]⟩]=(v2,v3,v4):=hr
  rw[hr0] at hr
  injection hr with e2 e34
  injection e34 with e3 e4
  subst e2 e3 e4
  have hreg:=reg_L2 (d:=5) (u:=36865) ex_parts (by decide) (by decide) (by decide) (by decide)
  have hl3:(L2 5 36865 exA exB exC).length=3:=rfl
  obtain⟨g1,g2,_⟩:=heirs_go (n:=1) (d:=9) hreg (by omega) (by decide) (by decide) (by decide) (by rw[hl3];decide) (by show (0:Int)<=9;decide)
  obtain⟨g4,_,g6⟩:=heirs_go (n:=1) (d:=5) hreg (by omega) (by decide) (by decide) (by decide) (by rw[hl3];decide) (by show (0:Int)<=5;decide)
  rw[heirs_L2 (by decide) (by decide) (by decide)] at g2
  rw[heirs_L2 (by decide) (by decide) (by decide)] at g6
  rw[g1] at h6
  rw[g2] at h5
  rw[g6] at h7
  rw[g4] at h8
  have hx:=ex_share
  subst h5 h6 h8
  rw[<-h7] at hx
  have hl7:v7.length=2:=by rw[h7];rfl
  clear h7 g6 g4 g1 g2 hr0 hreg hl3
  refine IFB.yes rfl ?_
  refine JOIN.opq λ(J:Bool->Prop) hJ=> ?_
  refine IFB.yes rfl λv11 h11=> ?_
  have h11:v11=true:=h11.2 rfl
  subst h11
  rw[hJ]
  dsimp only
  refine λ_=>⟨λ_=>⟨Int.NonNeg.mk 1,by omega⟩,?_⟩
  rw[hx,hl7]
  exact hp
def lApart_C:CtxR:=⟨tau,[ruleN 12,rule1 keditsG_sp,rule1 pappA_sp,rule1 rchk_sp,rule1 pon_sp,rule1 popen_sp,rule1 rof_sp,rule1 rsame_sp,rule1 rdisj_sp,rule1 pawake_sp],lookJ [(0,65,⟨[(24,.dat (.int .i64))],[],(List.range' 27 7++List.range' 143 38++[25]),[],[]⟩),(0,73,⟨[(151,.dat (.int .i64)),(25,.own 29 (.st .api_Region))],[],(List.range' 152 17++[27,28,29]),[],[]⟩),(0,9,⟨[(42,.dat (.int .i64)),(5,.dat (.sl (.st .api_Parcel)))],[],(List.range' 7 5++List.range' 17 7++List.range' 43 100++[13,14,15]),[],[]⟩),(0,58,⟨[],[],(List.range' 17 7++List.range' 59 82++[10,11,13,14,15]),[],[]⟩),(0,39,⟨[(93,.dat (.int .i64)),(11,.own 65 (.st .api_Rect))],[],(List.range' 94 20++[17,18,19]),[],[]⟩),(0,48,⟨[(11,.own 65 (.st .api_Rect))],[],(List.range' 95 18++[17,18,19]),[2],[]⟩),(0,25,⟨[(70,.dat (.int .i64)),(10,.own 65 (.st .api_Rect))],[],(List.range' 71 17++[13,14,15]),[],[]⟩),(0,34,⟨[(10,.own 65 (.st .api_Rect))],[],(List.range' 72 15++[13,14,15]),[1],[]⟩)]⟩
abbrev lApart_a0 (v1:List api_Edit)(z4:Int):={Day:=(ix v1 z4).1,Known:=(ix v1 z4).2,Kind:=(ix v1 z4).3,Parcels:=(ix v1 z4).4,Regions:=(ix v1 z4).5:api_Edit}
def lApart_W (l:List (Int))(post:Bool->Prop):Prop:=(Int.NonNeg 8/\Int.NonNeg 0/\Int.NonNeg 4/\(4:Int)<=10)/\∀(v1:List api_Edit)(v2:List api_Parcel),HistG ((8:Nat)) v1 v2->(↑v1.length:Int)<=9223372036854775807->LOOP [Ty.int IntKind.i64,(Ty.st Sn.api_Parcel).sl] (λ(rec3:Int->List api_Parcel->Prop) (z4:Int) (z5:List api_Parcel)=>IFB (decide (z4<(↑v1.length:Int))) (((0:Int)<=z4/\z4<(↑v1.length:Int))/\(szL z5/\szE (lApart_a0 v1 z4))/\JOIN [Ty.int IntKind.i64] (λ(y6:Int)=>IFB (!decide ((applyS z5 (lApart_a0 v1 z4)).2=0)|| !decide (y6=0)) (post false) (JOIN [] (rec3 (IntKind.i64.wrap (z4+1)) (applyS z5 (lApart_a0 v1 z4)).1) λ(J7:Prop)=>IFB (decide ((ix v1 z4).3=3)||decide ((ix v1 z4).3=4)) ((↑(ix v1 z4).4.length:Int)<=9223372036854775807->LOOP [Ty.int IntKind.i64,(Ty.st Sn.api_Rect).sl] (λ(rec8:Int->List api_Rect->Prop) (z9:Int) (z10:List api_Rect)=>IFB (decide (z9<(↑(ix v1 z4).4.length:Int))) (JOIN [(Ty.st Sn.api_Rect).sl] (λ(y11:List api_Rect)=>rec8 (IntKind.i64.wrap (z9+1)) y11) λ(J12:List api_Rect->Prop)=>((0:Int)<=z9/\z9<(↑(ix v1 z4).4.length:Int))/\szL z5/\∀(v13:List api_Rect)(v14:Bool),v13=(onS z5 (ix (ix v1 z4).4 z9) (ix v1 z4).1).1/\(v14=true↔onP z5 (ix (ix v1 z4).4 z9) (ix v1 z4).1)->IFB v14 ((z10.length+v13.length) * (32:Nat)<=140737488355328/\J12 (z10++v13)) (J12 z10)) (szL (applyS z5 (lApart_a0 v1 z4)).1/\((↑(openS (applyS z5 (lApart_a0 v1 z4)).1 (ix v1 z4).1).length:Int)<=9223372036854775807->LOOP [Ty.int IntKind.i64,(Ty.st Sn.api_Rect).sl] (λ(rec15:Int->List api_Rect->Prop) (z16:Int) (z17:List api_Rect)=>IFB (decide (z16<(↑(openS (applyS z5 (lApart_a0 v1 z4)).1 (ix v1 z4).1).length:Int))) (JOIN [(Ty.st Sn.api_Rect).sl] (λ(y18:List api_Rect)=>rec15 (IntKind.i64.wrap (z16+1)) y18) λ(J19:List api_Rect->Prop)=>((0:Int)<=z16/\z16<(↑(openS (applyS z5 (lApart_a0 v1 z4)).1 (ix v1 z4).1).length:Int))/\((↑z5.length:Int)<=9223372036854775807->IFB (decide ((↑z5.length:Int)<ix (openS (applyS z5 (lApart_a0 v1 z4)).1 (ix v1 z4).1) z16)) (szL (applyS z5 (lApart_a0 v1 z4)).1/\∀(v20:List api_Rect)(v21:Bool),v20=(onS (applyS z5 (lApart_a0 v1 z4)).1 (ix (openS (applyS z5 (lApart_a0 v1 z4)).1 (ix v1 z4).1) z16) (ix v1 z4).1).1/\(v21=true↔onP (applyS z5 (lApart_a0 v1 z4)).1 (ix (openS (applyS z5 (lApart_a0 v1 z4)).1 (ix v1 z4).1) z16) (ix v1 z4).1)->(z17.length+v20.length) * (32:Nat)<=140737488355328/\J19 (z17++v20)) (J19 z17))) ((gx false (!decide ((ofS z10).2=0)|| !decide ((ofS z17).2=0))=true->(↑z17.length:Int)<=9223372036854775807)->JOIN [Ty.bool] (λ(y22:Bool)=>IFB (!decide ((ofS z10).2=0)|| !decide ((ofS z17).2=0)||decide ((↑z17.length:Int)=0)|| !y22) (post false) J7) λ(J23:Bool->Prop)=>IFB (gx false (!decide ((ofS z10).2=0)|| !decide ((ofS z17).2=0)||decide ((↑z17.length:Int)=0))) ((ofS z10).1.length<=1000000000/\∀(v24:Bool),(v24=true↔{Rects:=(ofS z10).1:api_Region}={Rects:=(ofS z17).1:api_Region})->J23 v24) (J23 false))) ((0:Int),[],PUnit.unit)))) ((0:Int),[],PUnit.unit)) J7)) λ(J25:Int->Prop)=>IFB (gx false !decide ((applyS z5 (lApart_a0 v1 z4)).2=0)) (szL (applyS z5 (lApart_a0 v1 z4)).1/\J25 (checkS (applyS z5 (lApart_a0 v1 z4)).1)) (J25 0)) (LOOP [Ty.int IntKind.i64] (λ(rec26:Int->Prop) (z27:Int)=>IFB (decide (z27<40)) (szL z5/\((↑(openS z5 z27).length:Int)<=9223372036854775807->LOOP [Ty.int IntKind.i64,(Ty.st Sn.api_Region).sl] (λ(rec28:Int->List api_Region->Prop) (z29:Int) (z30:List api_Region)=>IFB (decide (z29<(↑(openS z5 z27).length:Int))) (((0:Int)<=z29/\z29<(↑(openS z5 z27).length:Int))/\szL z5/\∀(v31:List api_Rect)(v32:Bool),v31=(onS z5 (ix (openS z5 z27) z29) z27).1/\(v32=true↔onP z5 (ix (openS z5 z27) z29) z27)->IFB (!v32) (post false) ((z30.length+[(⟨v31⟩:api_Region)].length) * (24:Nat)<=140737488355328/\rec28 (IntKind.i64.wrap (z29+1)) (z30++[(⟨v31⟩:api_Region)]))) ((z30.length<=60/\∀(v33:api_Region),v33∈z30->v33.1.length<=120/\(∀(v34:api_Rect),v34∈v33.1->0<=v34.1/\v34.1<v34.3/\v34.3<=16384/\0<=v34.2/\v34.2<v34.4/\v34.4<=16384)/\Canon v33.1)/\∀(v35 v36:Int)(v37:Bool),(v37=true↔apartP z30->False)->IFB (v37|| !decide ((0:Int)=0)) (post false) (rec26 (IntKind.i64.wrap (z27+1))))) ((0:Int),[],PUnit.unit))) (post true)) ((0:Int),PUnit.unit))) ((0:Int),[],PUnit.unit)
theorem lApart_w (l:List (Int))(post:Bool->Prop):lApart_W l post=lawG (callR Tryz.prog lApart_C (drawF Tryz.prog tau) 12 0) 6 [tv (.sl (.int .i64)) l] post:=by kernel_rfl
theorem lApart_calls (l:List (Int))(h:lApart_W l λb=>b=true){w:World}{S:Cells}{us:List Value}(h1:∀b o,S b o->b<w.heap.size)(h3:us.length=1)(h4:∀(i:Nat)(d:D)(u:Value),[tv (.sl (.int .i64)) l][i]? =some d->us[i]? =some u->Rd S w d u):Calls Tryz.prog 6 us.toArray w λe w'=>(∃b,e= .returned (.bool b)/\b=true)/\Below w.heap.size w w':=lawG_okH (cp:=callR Tryz.prog lApart_C (drawF Tryz.prog tau) 12 0) (callR_ok (C:=lApart_C) (dr:=drawF Tryz.prog tau) (.cons (ruleN_ok knew_ok) (.cons (rule1_ok keditsG_ok) (.cons (rule1_ok pappA_ok) (.cons (rule1_ok rchk_ok) (.cons (rule1_ok pon_ok) (.cons (rule1_ok popen_ok) (.cons (rule1_ok rof_ok) (.cons (rule1_ok rsame_ok) (.cons (rule1_ok rdisj_ok) (.cons (rule1_ok pawake_ok) .nil)))))))))) (drawF_ok tau) 12 0) (HoldW.of (lApart_w l λb=>b=true) h) h1 h3 h4
theorem on_lena {l:List Pc}(h:szL l){n d:Int}:(onS l n d).Rects.length<=1000000:=by
 by_cases hp:onP l n d
 ·obtain⟨h1,h2⟩:=on_mem hp (checkS_0.1 hp.2.2.1).2
  exact (h.all _ h2).rect _ h1
 ·unfold onS
  rw[if_neg hp]
  simp
theorem ofS_len {l:List Rc}{c:List Rc}(h:ofS l=(c,0)):c.length<=120:=by
 unfold ofS at h
 split at h
 ·injection h with h1 h2;cases h2
 split at h
 ·injection h with h1 h2;cases h2
 split at h
 ·injection h with h1 h2;cases h2
 ·injection h with h1 h2
  rw[<-h1];omega
theorem outs_step {l:List Pc}{ps:List Int}{j:Nat}(hj:j<ps.length):outsL l (ps.take (j+1))=outsL l (ps.take j)++(nowR (ix l (ix ps (j:Int)-1))).Rects:=by
 unfold outsL partsR
 rw[List.take_succ_eq_append_getElem hj,List.map_append,List.flatMap_append,ix_lt hj]
 simp
theorem outs_take {l:List Pc}{ps:List Int}{j:Nat}:(outsL l (ps.take j)).length<=(outsL l ps).length:=by
 conv=>rhs;rw[<-List.take_append_drop j ps]
 unfold outsL partsR
 rw[List.map_append,List.flatMap_append,List.length_append]
 omega
set_option maxHeartbeats 4000000 in
theorem lApart_h (l:List Int):lApart_W l λb=>b=true:=by
 unfold lApart_W lApart_a0
 refine⟨⟨.mk _,.mk _,.mk _,by omega⟩,λes x hh _=> ?_⟩
 have hh:HistG 8 es x:=hh
 have hlen:=hh.len
 refine LOOP.fuel2 (λ(z:Int) (b:List Pc)=>∃k:Nat,z=(k:Int)/\k<=es.length/\szL b/\runG [] 0 (es.take k)=(b,(k:Int),0)/\checkS b=0) (λz _=>es.length-Int.toNat z) ⟨0,rfl,Nat.zero_le _,szL_nil,rfl,checkS_nil⟩ ?_
 rintro rec (z:Int) (b:List Pc) ⟨k,i1,i2,i3,i4,i5⟩ hrec
 subst i1
 obtain⟨h60,hreg⟩:=checkS_0.1 i5
 refine IFB.mk (λhb=> ?_) (λhb=> ?_)
 ·have hb:(k:Int)<es.length:=of_decide_eq_true hb
  have hk:k<es.length:=by omega
  have hed:=hh.ed _ (ix_mem (l:=es) (i:=(k:Int)) (by omega) hb)
  obtain⟨y,X,Y,g1,g2,g3,g4,g5⟩:=hh.grid k hk
  have hby:b=y:=by
   rw[i4] at g1
   injection g1
  subst hby
  obtain⟨m,hm,hrun⟩:∃m,applyS b (ix es (k:Int))=(m,0)/\runG [] 0 (es.take (k+1))=(m,((k+1:Nat):Int),0):=by
   obtain⟨z1,h1,h2⟩:=runG_cut hh.run (k:=k) (by omega)
   rw[Int.zero_add] at h1 h2
   rw[i4] at h1
   injection h1 with h1 _
   subst h1
   rw[List.drop_eq_getElem_cons hk] at h2
   obtain⟨m,hm,_⟩:=runG_cons h2
   rw[<-ix_lt hk] at hm
   refine⟨m,hm,?_⟩
   rw[List.take_succ_eq_append_getElem hk,<-ix_lt hk,(runG_snoc i4).2.1 (by rw[hm]),hm]
   show (m,(k:Int)+1,(0:Int))=_
   rw[show (k:Int)+1=((k+1:Nat):Int) by omega]
  obtain⟨c1,c2,c3⟩:=apply_reg hm
  have hszm:szL m:=by
   have:=applyS_sz i3 hed.1
   rw[hm] at this
   exact this
  obtain⟨e,hE⟩:∃e,ix es (k:Int)=e:=⟨_,rfl⟩
  rw[hE] at hm g5 hed ⊢
  have heta:(⟨e.1,e.2,e.3,e.4,e.5⟩:api_Edit)=e:=rfl
  rw[hm]
  dsimp only
  refine⟨⟨by omega,hb⟩,⟨i3,hed.1⟩,?_⟩
  refine JOIN.opq λ(J25:Int->Prop) hJ25=>IFB.yes rfl ⟨hszm,?_⟩
  rw[hJ25,c1]
  refine IFB.no rfl ?_
  refine JOIN.opq λ(J7:Prop) hJ7=> ?_
  have next:J7:=by
   rw[hJ7,wrapS (by omega)]
   exact hrec ((k+1:Nat):Int) m ⟨k+1,rfl,hk,hszm,hrun,c1⟩ (by show es.length-((k+1:Nat):Int).toNat<es.length-(k:Int).toNat;omega)
  clear hrec hJ7 hJ25
  refine IFB.mk (λhc=> ?_) (λ_=>next)
  have hk34:e.Kind=3\/e.Kind=4:=by
   rw[Bool.or_eq_true,decide_eq_true_eq,decide_eq_true_eq] at hc
   exact hc
  obtain⟨s1,s2⟩:=edit_sides hm hk34
  have hfit:=(editS_0.1 (apply_form hm).1).2.2.2.1.1
  obtain⟨o1,o2,o3,o4⟩:=edit_of hm hk34 g2 g3 g4 (by omega) g5 (λh3=>by have:=hed.2.2.2.2.2.1;unfold fitsP at hfit;omega)
  have hpl:e.Parcels.length<=16:=hed.2.2.2.2.2.2.1
  have hol:(openS m e.Day).length<=60:=by
   have:=openS_len (l:=m) (d:=e.Day)
   have:=(checkS_0.1 c1).1
   omega
  intro _
  refine LOOP.fuel2 (λ(z:Int) (a:List Rc)=>∃j:Nat,z=(j:Int)/\j<=e.Parcels.length/\a=outsL b (e.Parcels.take j)) (λz _=>e.Parcels.length-Int.toNat z) ⟨0,rfl,Nat.zero_le _,rfl⟩ ?_
  rintro rec (z:Int) (a:List Rc) ⟨j,j1,j2,j3⟩ hrec
  subst j1
  have hal:a.length<=1000:=by
   rw[j3]
   exact Nat.le_trans outs_take o4
  refine IFB.mk (λhp=> ?_) (λhp=> ?_)
  ·have hp:(j:Int)<(e.Parcels.length:Int):=of_decide_eq_true hp
   have hj:j<e.Parcels.length:=by omega
   refine JOIN.opq λ(J:List Rc->Prop) hJ=>⟨⟨by omega,hp⟩,i3,λv q hA=> ?_⟩
   obtain⟨hA1,hA2⟩:=hA
   obtain⟨n1,n2⟩:=s1 _ (ix_mem (l:=e.Parcels) (i:=(j:Int)) (by omega) hp)
   have hv:v=(nowR (ix b (ix e.Parcels (j:Int)-1))).Rects:=hA1.trans n2
   have hvl:v.length<=1000000:=by rw[hA1];exact on_lena i3
   refine IFB.yes (hA2.2 n1) ⟨by omega,?_⟩
   rw[hJ,wrapS (by omega)]
   exact hrec ((j+1:Nat):Int) _ ⟨j+1,rfl,hj,by rw[outs_step hj,j3,hv]⟩ (by show e.Parcels.length-((j+1:Nat):Int).toNat<e.Parcels.length-(j:Int).toNat;omega)
  have hp:¬(j:Int)<(e.Parcels.length:Int):=of_decide_eq_false hp
  have ha:a=outsL b e.Parcels:=by rw[j3,List.take_of_length_le (by omega)]
  refine⟨hszm,λ_=> ?_⟩
  refine LOOP.fuel2 (λ(z:Int) (c:List Rc)=>∃j:Nat,z=(j:Int)/\j<=(openS m e.Day).length/\c=((openS m e.Day).take j).foldl (newF m (b.length:Int) e.Day) []/\c.length<=1000000 * j) (λz _=>(openS m e.Day).length-Int.toNat z) ⟨0,rfl,Nat.zero_le _,rfl,Nat.le_refl _⟩ ?_
  clear hrec
  rintro rec (z:Int) (c:List Rc) ⟨j,k1,k2,k3,k4⟩ hrec
  subst k1
  refine IFB.mk (λhq=> ?_) (λhq=> ?_)
  ·have hq:(j:Int)<((openS m e.Day).length:Int):=of_decide_eq_true hq
   have hj:j<(openS m e.Day).length:=by omega
   refine JOIN.opq λ(J:List Rc->Prop) hJ=>⟨⟨by omega,hq⟩,λ_=> ?_⟩
   have hst:((openS m e.Day).take (j+1)).foldl (newF m (b.length:Int) e.Day) []=newF m (b.length:Int) e.Day c (ix (openS m e.Day) (j:Int)):=by
    rw[List.take_succ_eq_append_getElem hj,List.foldl_append,<-k3,ix_lt hj]
    rfl
   have nx:∀c':List Rc,c'=newF m (b.length:Int) e.Day c (ix (openS m e.Day) (j:Int))->c'.length<=1000000 * (j+1)->J c':=λc' h1 h2=>by
    rw[hJ,wrapS (by omega)]
    exact hrec ((j+1:Nat):Int) _ ⟨j+1,rfl,hj,by rw[hst];exact h1,h2⟩ (by show (openS m e.Day).length-((j+1:Nat):Int).toNat<(openS m e.Day).length-(j:Int).toNat;omega)
   refine IFB.mk (λhn=>⟨hszm,λv q hA=> ?_⟩) (λhn=> ?_)
   ·have hn:(b.length:Int)<ix (openS m e.Day) (j:Int):=of_decide_eq_true hn
    have hvl:v.length<=1000000:=by rw[hA.1];exact on_lena hszm
    refine⟨by omega,nx _ ?_ (by rw[List.length_append];omega)⟩
    unfold newF
    rw[if_pos hn,hA.1]
   ·have hn:¬(b.length:Int)<ix (openS m e.Day) (j:Int):=of_decide_eq_false hn
    refine nx _ ?_ (by omega)
    unfold newF
    rw[if_neg hn]
  have hq:¬(j:Int)<((openS m e.Day).length:Int):=of_decide_eq_false hq
  have hcc:c=partsR (rsS b e):=by rw[k3,List.take_of_length_le (by omega),s2]
  have hc0:¬(c.length:Int)=0:=by
   rw[hcc]
   have:=List.length_pos_iff.2 o3
   omega
  have q1:ofS a=(canonF (cov (outsL b e.Parcels)),0):=by rw[ha];exact o1
  have q2:ofS c=(canonF (cov (outsL b e.Parcels)),0):=by rw[hcc];exact o2
  have q3:=ofS_len q1
  intro _
  rw[q1,q2]
  dsimp only
  refine JOIN.opq λ(J23:Bool->Prop) hJ23=>IFB.yes (by rw[decide_eq_false hc0];rfl) ⟨by omega,λv hv=> ?_⟩
  have hv:v=true:=hv.2 rfl
  subst hv
  rw[hJ23]
  exact IFB.no (by rw[decide_eq_false hc0];rfl) next
 ·clear hrec
  refine loopCmp (n:=40) (by omega) (p:=λ_=>True) (λrec d hd _ hrec=>⟨i3,λ_=> ?_⟩) (λ_=>rfl)
  obtain⟨d1,d2,d3,d4⟩:=day_apart i5 (d:=(d:Int))
  refine LOOP.fuel2 (λ(z:Int) (c:List Rn)=>∃j:Nat,z=(j:Int)/\j<=(openS b (d:Int)).length/\c=((openS b (d:Int)).take j).map λn=>onS b n (d:Int)) (λz _=>(openS b (d:Int)).length-Int.toNat z) ⟨0,rfl,Nat.zero_le _,rfl⟩ ?_
  rintro rec2 (z:Int) (c:List Rn) ⟨j,k1,k2,k3⟩ hrec2
  subst k1
  have hcl:c.length=j:=by rw[k3,List.length_map,List.length_take];omega
  refine IFB.mk (λhq=> ?_) (λhq=> ?_)
  ·have hq:(j:Int)<((openS b (d:Int)).length:Int):=of_decide_eq_true hq
   have hj:j<(openS b (d:Int)).length:=by omega
   refine⟨⟨by omega,hq⟩,i3,λv q hA=> ?_⟩
   have hqt:q=true:=hA.2.2 (d1 _ (ix_mem (by omega) hq))
   subst hqt
   refine IFB.no rfl ⟨by simp only[List.length_cons,List.length_nil];omega,?_⟩
   rw[wrapS (by omega)]
   refine hrec2 ((j+1:Nat):Int) _ ⟨j+1,rfl,hj,?_⟩ (by show (openS b (d:Int)).length-((j+1:Nat):Int).toNat<(openS b (d:Int)).length-(j:Int).toNat;omega)
   show c++[(⟨v⟩:Rn)]=_
   rw[List.take_succ_eq_append_getElem hj,List.map_append,<-k3,hA.1,ix_lt hj]
   rfl
  ·have hq:¬(j:Int)<((openS b (d:Int)).length:Int):=of_decide_eq_false hq
   have hc:c=(openS b (d:Int)).map λn=>onS b n (d:Int):=by rw[k3,List.take_of_length_le (by omega)]
   refine⟨⟨by omega,λa ha=>d3 a (by rw[<-hc];exact ha)⟩,λi1 i2 q hq=> ?_⟩
   have hqf:q=false:=by
    cases q with
    |false=>rfl
    |true=>exact (hq.1 rfl (by rw[hc];exact d4)).elim
   subst hqf
   exact IFB.no rfl (hrec trivial)
end RE
end Go.Proofs.YtpeggkeenboacaaGreat
