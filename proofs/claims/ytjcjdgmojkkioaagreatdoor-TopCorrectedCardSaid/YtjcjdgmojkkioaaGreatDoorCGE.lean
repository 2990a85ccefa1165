/-
  Texts of the proof of TopCorrected, part GE.
-/
import Derived.Test.YtjcjdgmojkkioaaGreatDoorCGD
import Derived.Test.YtjcjdgmojkkioaaGreatDoorCGC
import Derived.Test.YtjcjdgmojkkioaaGreatDoorCGB
import Derived.Shelf.Spec.SlicesGrow
import Derived.Ground.Names8Prog
import Derived.Test.YtjcjdgmojkkioaaGreatDoorProg
import Derived.Lib.Bytealg
import Derived.KernelRfl
import Derived.RangeFuncNested
import Derived.RangeFuncBound
import Derived.RangeFuncCalls
import Derived.RangeFuncLeaves
import Derived.Shelf.Abstract
import Derived.Shelf.RegionOpen
import Derived.WalkKit
import Derived.OwnWalkIn
import Derived.TacticsInMore
import Derived.LoopNIn
import Derived.LoopIn
import Derived.BigRegionIn
import Derived.Test.YtjcjdgmojkkioaaGreatDoorCGW
set_option linter.unusedVariables false
noncomputable section
namespace Go.Proofs.YtjcjdgmojkkioaaGreatDoor
namespace RE
set_option maxRecDepth 100000
open Go.RowKit
open PL
def pallD_P (l:List (api_Parcel))(post:List (api_Parcel)->Prop):Prop:=(szL l)/\post (l)
def pallD_sp:Spec:=⟨139,false,true,[.sl (.st .api_Parcel)],.own 1000071 (.st .api_Parcel),λx post=>pallD_P (x.1:List (api_Parcel)) (λy0=>post (y0,()))⟩
def pallD_C:CtxR:=⟨tauD,[rule1 pclI_sp,rule1 pclR_sp,rule1 pcpy_sp],lookJ [(0,7,⟨[(10,.dat (.int .i64)),(3,.own 1000071 (.st .api_Parcel))],[],(List.range' 11 35++[5,6,7]),[],[]⟩),(0,15,⟨[(29,.dat (.int .i64))],[],(List.range' 30 11++[6,7]),[],[(4,56,(.st .api_Region))]⟩),(0,1000005,⟨[],[(1,[.dat (.int .i64),.dat (.int .i64),.dat (.int .i64),.own 3 (.int .i64),.own 3 (.int .i64),.own 56 (.st .api_Region)])],(List.range' 14 12),[],[]⟩)]⟩
def pallD_W (l:List (api_Parcel))(post:List (api_Parcel)->Prop):Prop:=(↑l.length:Int)<=9223372036854775807->LOOP [Ty.int IntKind.i64,(Ty.st Sn.api_Parcel).sl] (λ(rec1:Int->List api_Parcel->Prop) (z2:Int) (z3:List api_Parcel)=>IFB (decide (z2<(↑l.length:Int))) (((0:Int)<=z2/\z2<(↑l.length:Int))/\JOIN [Ty.int IntKind.i64,Ty.int IntKind.i64,Ty.int IntKind.i64,(Ty.int IntKind.i64).sl,(Ty.int IntKind.i64).sl,(Ty.st Sn.api_Region).sl] (λ(y4 y5 y6:Int) (y7 y8:List Int) (y9:List api_Region)=>(↑y9.length:Int)<=9223372036854775807->LOOP [Ty.int IntKind.i64,(Ty.st Sn.api_Region).sl] (λ(rec10:Int->List api_Region->Prop) (z11:Int) (z12:List api_Region)=>IFB (decide (z11<(↑y9.length:Int))) (((0:Int)<=z11/\z11<(↑z12.length:Int))/\(ix z12 z11).1.length<=4000000/\((0:Int)<=z11/\z11<(↑z12.length:Int))/\rec10 (IntKind.i64.wrap (z11+1)) (z12.set z11.toNat {Rects:=(ix z12 z11).1:api_Region})) ((z3.length+[(⟨y4,y5,y6,y7,y8,z12⟩:api_Parcel)].length) * (96:Nat)<=140737488355328/\rec1 (IntKind.i64.wrap (z2+1)) (z3++[(⟨y4,y5,y6,y7,y8,z12⟩:api_Parcel)]))) ((0:Int),y9,PUnit.unit)) λ(J13:Int->Int->Int->List Int->List Int->List api_Region->Prop)=>(ix l z2).4.length<=4000000/\(ix l z2).5.length<=4000000/\(ix l z2).6.length<=4000000/\J13 (ix l z2).1 (ix l z2).2 (ix l z2).3 (ix l z2).4 (ix l z2).5 (ix l z2).6) (post z3)) ((0:Int),[],PUnit.unit)
theorem pallD_w (l:List (api_Parcel))(post:dens (shT pallD_sp.rs [])->Prop):pallD_W l (λy0=>post (y0,()))=walkG (callR Tryz.prog pallD_C (drawF Tryz.prog tauD) 8 0) 139 false [tv (.sl (.st .api_Parcel)) l] pallD_sp.rs post:=by kernel_rfl
theorem pallD_of (h:∀l post,pallD_P l post->pallD_W l post):SpecOK Tryz.prog pallD_sp:=SpecOK.of_rules (C:=pallD_C) (dr:=drawF Tryz.prog tauD) (n:=8) (fk:=0) (.cons (rule1_ok pclI_ok) (.cons (rule1_ok pclR_ok) (.cons (rule1_ok pcpy_ok) .nil))) (drawF_ok tauD) λx post hp=>HoldW.of (pallD_w x.1 post) (h x.1 (λy0=>post (y0,())) hp)
theorem pallD_ok:SpecOK Tryz.prog pallD_sp:=pallD_of λl post hp=>by
 obtain⟨hsz,hp⟩:=hp
 have hl:=hsz.len
 unfold pallD_W
 refine λ_=>LOOP.fuel2 (λz b=>allI l z b) (λz _=>l.length-Int.toNat z) ⟨0,rfl,Nat.zero_le _,rfl⟩ ?_
 rintro rec (z:Int) (b:List Pc) ⟨k,i1,i2,i3⟩ hrec
 subst i1
 refine IFB.mk (λhb=> ?_) (λhb=> ?_)
 ·have hb:(k:Int)<l.length:=of_decide_eq_true hb
  have hk:k<l.length:=by omega
  have hx:=hsz.all _ (ix_mem (l:=l) (i:=(k:Int)) (by omega) (by omega))
  have x1:=hx.days
  have x2:=hx.regs
  have x3:=hx.pars
  have x4:=hx.rect
  refine⟨by omega,JOIN.opq λ(J:Int->Int->Int->List Int->List Int->List api_Region->Prop) hJ=>⟨by omega,by omega,by omega,?_⟩⟩
  rw[hJ]
  refine λ_=>LOOP.fuel2 (λ(u:Int) (c:List api_Region)=>∃j:Nat,u=(j:Int)/\j<=(ix l (k:Int)).6.length/\c=(ix l (k:Int)).6) (λu _=>(ix l (k:Int)).6.length-Int.toNat u) ⟨0,rfl,Nat.zero_le _,rfl⟩ ?_
  rintro rec2 (u:Int) (c:List api_Region) ⟨j,j1,j2,j3⟩ hrec2
  subst j1 j3
  refine IFB.mk (λhc=> ?_) (λhc=> ?_)
  ·have hc:(j:Int)<(ix l (k:Int)).6.length:=of_decide_eq_true hc
   have hj:j<(ix l (k:Int)).6.length:=by omega
   refine⟨by omega,?_,by omega,?_⟩
   ·have:=x4 _ (ix_mem (l:=(ix l (k:Int)).6) (i:=(j:Int)) (by omega) (by omega));omega
   ·rw[wrapS (by omega)]
    have e:(ix l (k:Int)).6.set (j:Int).toNat {Rects:=(ix (ix l (k:Int)).6 (j:Int)).1}=(ix l (k:Int)).6:=by
     show List.set _ j (ix (ix l (k:Int)).6 (j:Int))=_
     rw[ix_lt hj];exact List.set_getElem_self hj
    rw[e]
    exact hrec2 ((j+1:Nat):Int) _ ⟨j+1,rfl,hj,rfl⟩ (by show (ix l (k:Int)).6.length-((j+1:Nat):Int).toNat<(ix l (k:Int)).6.length-(j:Int).toNat;omega)
  ·have hbl:b.length<=1000000:=by rw[i3,List.length_take];omega
   refine⟨by simp only[List.length_cons,List.length_nil];omega,?_⟩
   rw[wrapS (by omega)]
   refine hrec ((k+1:Nat):Int) _ ⟨k+1,rfl,hk,?_⟩ (by show l.length-((k+1:Nat):Int).toNat<l.length-(k:Int).toNat;omega)
   show b++[ix l (k:Int)]=_
   rw[i3,List.take_succ_eq_append_getElem hk,ix_lt hk]
 ·have hb:¬(k:Int)<l.length:=of_decide_eq_false hb
  have hk:k=l.length:=by omega
  have e:b=l:=by rw[i3,hk,List.take_length]
  show post b
  rw[e];exact hp
def pmeL_P (l:List (api_Parcel))(a:api_Region)(but:Int)(post:Bool->Prop):Prop:=(l.length<=1000000/\∀p∈l,0<p.6.length/\p.6.length<=1000000)/\∀q:Bool,(q=true↔hitP l a but)->post q
def pmeL_sp:SpecL:=⟨287,.st .api_Parcel,[.st .api_Region,.int .i64],λl x post=>pmeL_P (l:List (api_Parcel)) (x.1:api_Region) (x.2.1:Int) post⟩
def pmeL_C:CtxR:=⟨tau,[rule1 pmts_sp],lookJ [(1070587931,0,⟨[(0,.dat (.int .i64))],[],[],[],[]⟩),(1070587931,5,⟨[(8,.dat (.int .i64))],[],(List.range' 9 8++[5,18]),[],[]⟩),(1116024753383661,1000001,⟨[(4,.dat .bool)],[],(List.range' 5 15),[],[]⟩)]⟩
def pmeL_W (l:List (api_Parcel))(a:api_Region)(but:Int)(post:Bool->Prop):Prop:=JOIN [Ty.int IntKind.i64] (λ(y1:Int)=>post (decide ((0:Int)<=y1))) λ(J2:Int->Prop)=>(↑l.length:Int)<=9223372036854775807->LOOP [Ty.int IntKind.i64] (λ(rec3:Int->Prop) (z4:Int)=>IFB (decide (z4<(↑l.length:Int))) (((0:Int)<=z4/\z4<(↑l.length:Int))/\JOIN [Ty.bool] (λ(y5:Bool)=>IFB y5 (J2 z4) (rec3 (IntKind.i64.wrap (z4+1)))) λ(J6:Bool->Prop)=>JOIN [Ty.st Sn.api_Region] (λ(y7:api_Region)=>JOIN [Ty.bool] (λ(y8:Bool)=>J6 (decide ((ix l z4).3=36865)&& !decide ((ix l z4).1=but)&&y8)) λ(J9:Bool->Prop)=>IFB (gx true (decide ((ix l z4).3=36865)&& !decide ((ix l z4).1=but))) (∀(v10:Bool),(v10=true↔meetP a.1 y7.1)->J9 v10) (J9 false)) λ(J11:api_Region->Prop)=>IFB (gx true (decide ((ix l z4).3=36865)&& !decide ((ix l z4).1=but))) ((↑(ix l z4).6.length:Int)<=9223372036854775807->((0:Int)<=IntKind.i64.wrap ((↑(ix l z4).6.length:Int)-1)/\IntKind.i64.wrap ((↑(ix l z4).6.length:Int)-1)<(↑(ix l z4).6.length:Int))/\J11 {Rects:=(ix (ix l z4).6 (IntKind.i64.wrap ((↑(ix l z4).6.length:Int)-1))).1:api_Region}) (J11 (dflt (Ty.st Sn.api_Region),()).fst)) (J2 (-1:Int))) ((0:Int),PUnit.unit)
theorem pmeL_w (l:List (api_Parcel))(a:api_Region)(but:Int)(post:Bool->Prop):pmeL_W l a but post=walkL (callR Tryz.prog pmeL_C (drawF Tryz.prog tau) 8 0) 287 (.st .api_Parcel) l [tv (.st .api_Region) a,tv (.int .i64) but] post:=by kernel_rfl
theorem pmeL_of (h:∀l a but post,pmeL_P l a but post->pmeL_W l a but post):SpecLOK Tryz.prog pmeL_sp:=SpecLOK.of_rules (C:=pmeL_C) (dr:=drawF Tryz.prog tau) (n:=8) (fk:=0) (.cons (rule1_ok pmts_ok) .nil) (drawF_ok tau) λl x post hp=>HoldW.of (pmeL_w l x.1 x.2.1 post) (h l x.1 x.2.1 post hp)
theorem pmeL_ok:SpecLOK Tryz.prog pmeL_sp:=pmeL_of λl a but post hp=>by
 obtain⟨⟨hl,hr⟩,hp⟩:=hp
 unfold pmeL_W
 refine JOIN.opq λ(J2:Int->Prop) hJ2 _=> ?_
 refine meets_in (a:=a) (but:=but) hl hr (λz h0 hh=> ?_) (λhh=> ?_)
 ·rw[hJ2]
  exact hp _ ⟨λ_=>hh,λ_=>decide_eq_true h0⟩
 ·rw[hJ2]
  exact hp _ ⟨λh=>(by cases h),λh=>absurd h hh⟩
def papp2_P (l:List (api_Parcel))(e:api_Edit)(post:List (api_Parcel)->Int->Prop):Prop:=(szL l/\szE e/\e.Kind=2)/\post (applyS l e).1 (applyS l e).2
def papp2_sp:Spec:=⟨49,false,true,[.sl (.st .api_Parcel),.st .api_Edit],.tup [.dat (.sl (.st .api_Parcel)),.dat (.int .i64)],λx post=>papp2_P (x.1:List (api_Parcel)) (x.2.1:api_Edit) (λy0 y1=>post (y0,y1,()))⟩
def papp2_C:CtxR:=⟨tauD,[rule1 pedit_sp,rule1 pallD_sp,ruleMap 140 false Forms.es,ruleL pmeL_sp,rule1 pcpy_sp],lookJ []⟩
abbrev papp2_a0 (post:List (api_Parcel)->Int->Prop)(l:List (api_Parcel))(ps:List (Int))(day:Int)(rs:List (api_Region)):=(post (l.set (IntKind.i64.wrap (ix ps (0:Int)-(1:Int))).toNat {Number:=(ix l (IntKind.i64.wrap (ix ps (0:Int)-(1:Int)))).1,From:=(ix l (IntKind.i64.wrap (ix ps (0:Int)-(1:Int)))).2,Until:=(ix l (IntKind.i64.wrap (ix ps (0:Int)-(1:Int)))).3,Parents:=(ix l (IntKind.i64.wrap (ix ps (0:Int)-(1:Int)))).4,Days:=(ix l (IntKind.i64.wrap (ix ps (0:Int)-(1:Int)))).5++[day],Regions:=(ix l (IntKind.i64.wrap (ix ps (0:Int)-(1:Int)))).6++[{Rects:=(ix rs (0:Int)).1:api_Region}]:api_Parcel}) (0:Int))
abbrev papp2_a1 (l:List (api_Parcel))(ps:List (Int)):=(ix l (IntKind.i64.wrap (ix ps (0:Int)-(1:Int))))
abbrev papp2_a2 (l:List (api_Parcel))(ps:List (Int))(day:Int)(rs:List (api_Region))(post:List (api_Parcel)->Int->Prop):=(((papp2_a1 l ps).5.length+[day].length) * (8:Nat)<=(140737488355328:Nat)/\(IntKind.i64.wrap (ix ps (0:Int)-(1:Int))=IntKind.i64.wrap (ix ps (0:Int)-(1:Int))/\(ix rs (0:Int)).1.length<=(4000000:Nat)/\((papp2_a1 l ps).6.length+[{Rects:=(ix rs (0:Int)).1:api_Region}].length) * (24:Nat)<=(140737488355328:Nat)/\IntKind.i64.wrap (ix ps (0:Int)-(1:Int))=IntKind.i64.wrap (ix ps (0:Int)-(1:Int))/\IntKind.i64.wrap (ix ps (0:Int)-(1:Int))=IntKind.i64.wrap (ix ps (0:Int)-(1:Int))/\IFB false (szL l/\post l (0:Int)) (papp2_a0 post l ps day rs))/\(ix rs (0:Int)).1.length<=(4000000:Nat)/\(IntKind.i64.wrap (ix ps (0:Int)-(1:Int))=IntKind.i64.wrap (ix ps (0:Int)-(1:Int))/\((papp2_a1 l ps).6.length+[{Rects:=(ix rs (0:Int)).1:api_Region}].length) * (24:Nat)<=(140737488355328:Nat)/\IntKind.i64.wrap (ix ps (0:Int)-(1:Int))=IntKind.i64.wrap (ix ps (0:Int)-(1:Int))/\IntKind.i64.wrap (ix ps (0:Int)-(1:Int))=IntKind.i64.wrap (ix ps (0:Int)-(1:Int))/\IFB false (szL l/\post l (0:Int)) (papp2_a0 post l ps day rs))/\IntKind.i64.wrap (ix ps (0:Int)-(1:Int))=IntKind.i64.wrap (ix ps (0:Int)-(1:Int))/\((papp2_a1 l ps).6.length+[{Rects:=(ix rs (0:Int)).1:api_Region}].length) * (24:Nat)<=(140737488355328:Nat)/\IntKind.i64.wrap (ix ps (0:Int)-(1:Int))=IntKind.i64.wrap (ix ps (0:Int)-(1:Int))/\IntKind.i64.wrap (ix ps (0:Int)-(1:Int))=IntKind.i64.wrap (ix ps (0:Int)-(1:Int))/\IFB false (szL l/\post l (0:Int)) (papp2_a0 post l ps day rs))
abbrev papp2_a3 (l:List (api_Parcel))(ps:List (Int))(rs:List (api_Region)):=(l.set (IntKind.i64.wrap (ix ps (0:Int)-(1:Int))).toNat {Number:=(papp2_a1 l ps).1,From:=(papp2_a1 l ps).2,Until:=(papp2_a1 l ps).3,Parents:=(papp2_a1 l ps).4,Days:=(papp2_a1 l ps).5,Regions:=(papp2_a1 l ps).6.set (IntKind.i64.wrap ((↑(papp2_a1 l ps).5.length:Int)-(1:Int))).toNat {Rects:=(ix rs (0:Int)).1:api_Region}:api_Parcel})
abbrev papp2_a4 (l:List (api_Parcel))(ps:List (Int))(rs:List (api_Region)):=((papp2_a1 l ps).6.length+[{Rects:=(ix rs (0:Int)).1:api_Region}].length)
def papp2_W (l:List (api_Parcel))(day:Int)(known:Int)(ps:List (Int))(rs:List (api_Region))(post:List (api_Parcel)->Int->Prop):Prop:=(szL l/\szE (⟨day,known,(2:Int),ps,rs⟩:api_Edit))/\IFB (!decide (editS l (⟨day,known,(2:Int),ps,rs⟩:api_Edit)=0)) (szL l/\post l (editS l (⟨day,known,(2:Int),ps,rs⟩:api_Edit))) (szL l/\(Int.NonNeg 0/\0<(↑rs.length:Int))/\(Int.NonNeg 0/\0<(↑ps.length:Int))/\(l.length<=1000000/\∀(v1:api_Parcel),v1∈l->0<v1.6.length/\v1.6.length<=1000000)/\∀(v2:Bool),(v2=true↔hitP l {Rects:=(ix rs 0).1:api_Region} (ix ps 0))->IFB v2 (IFB true (szL l/\post l 11) (post l 0)) ((Int.NonNeg 0/\0<(↑ps.length:Int))/\((0:Int)<=IntKind.i64.wrap (ix ps 0-1)/\IntKind.i64.wrap (ix ps 0-1)<(↑l.length:Int))/\IntKind.i64.wrap (ix ps 0-1)=IntKind.i64.wrap (ix ps 0-1)/\((↑(papp2_a1 l ps).5.length:Int)<=9223372036854775807->IntKind.i64.wrap (ix ps 0-1)=IntKind.i64.wrap (ix ps 0-1)/\((0:Int)<=IntKind.i64.wrap ((↑(papp2_a1 l ps).5.length:Int)-1)/\IntKind.i64.wrap ((↑(papp2_a1 l ps).5.length:Int)-1)<(↑(papp2_a1 l ps).5.length:Int))/\IFB (decide (ix (papp2_a1 l ps).5 (IntKind.i64.wrap ((↑(papp2_a1 l ps).5.length:Int)-1))=day)) ((Int.NonNeg 0/\0<(↑rs.length:Int))/\(IntKind.i64.wrap (ix ps 0-1)=IntKind.i64.wrap (ix ps 0-1)/\(ix rs 0).1.length<=4000000/\((0:Int)<=IntKind.i64.wrap ((↑(papp2_a1 l ps).5.length:Int)-1)/\IntKind.i64.wrap ((↑(papp2_a1 l ps).5.length:Int)-1)<(↑(papp2_a1 l ps).6.length:Int))/\IFB false (szL l/\post l 0) (post (papp2_a3 l ps rs) 0))/\(ix rs 0).1.length<=4000000/\IntKind.i64.wrap (ix ps 0-1)=IntKind.i64.wrap (ix ps 0-1)/\((0:Int)<=IntKind.i64.wrap ((↑(papp2_a1 l ps).5.length:Int)-1)/\IntKind.i64.wrap ((↑(papp2_a1 l ps).5.length:Int)-1)<(↑(papp2_a1 l ps).6.length:Int))/\IFB false (szL l/\post l 0) (post (papp2_a3 l ps rs) 0)) ((Int.NonNeg 0/\0<(↑rs.length:Int))/\(IntKind.i64.wrap (ix ps 0-1)=IntKind.i64.wrap (ix ps 0-1)/\((papp2_a2 l ps day rs post)/\IntKind.i64.wrap (ix ps 0-1)=IntKind.i64.wrap (ix ps 0-1)/\((papp2_a1 l ps).5.length+[day].length) * (8:Nat)<=140737488355328/\(ix rs 0).1.length<=4000000/\(papp2_a4 l ps rs) * (24:Nat)<=140737488355328/\IntKind.i64.wrap (ix ps 0-1)=IntKind.i64.wrap (ix ps 0-1)/\IntKind.i64.wrap (ix ps 0-1)=IntKind.i64.wrap (ix ps 0-1)/\IFB false (szL l/\post l 0) (papp2_a0 post l ps day rs))/\IntKind.i64.wrap (ix ps 0-1)=IntKind.i64.wrap (ix ps 0-1)/\((papp2_a1 l ps).5.length+[day].length) * (8:Nat)<=140737488355328/\(ix rs 0).1.length<=4000000/\(papp2_a4 l ps rs) * (24:Nat)<=140737488355328/\IntKind.i64.wrap (ix ps 0-1)=IntKind.i64.wrap (ix ps 0-1)/\IntKind.i64.wrap (ix ps 0-1)=IntKind.i64.wrap (ix ps 0-1)/\IFB false (szL l/\post l 0) (papp2_a0 post l ps day rs))/\((IntKind.i64.wrap (ix ps 0-1)=IntKind.i64.wrap (ix ps 0-1)/\(papp2_a2 l ps day rs post)/\IntKind.i64.wrap (ix ps 0-1)=IntKind.i64.wrap (ix ps 0-1)/\((papp2_a1 l ps).5.length+[day].length) * (8:Nat)<=140737488355328/\(ix rs 0).1.length<=4000000/\(papp2_a4 l ps rs) * (24:Nat)<=140737488355328/\IntKind.i64.wrap (ix ps 0-1)=IntKind.i64.wrap (ix ps 0-1)/\IntKind.i64.wrap (ix ps 0-1)=IntKind.i64.wrap (ix ps 0-1)/\IFB false (szL l/\post l 0) (papp2_a0 post l ps day rs))/\IntKind.i64.wrap (ix ps 0-1)=IntKind.i64.wrap (ix ps 0-1)/\IntKind.i64.wrap (ix ps 0-1)=IntKind.i64.wrap (ix ps 0-1)/\((papp2_a1 l ps).5.length+[day].length) * (8:Nat)<=140737488355328/\(ix rs 0).1.length<=4000000/\(papp2_a4 l ps rs) * (24:Nat)<=140737488355328/\IntKind.i64.wrap (ix ps 0-1)=IntKind.i64.wrap (ix ps 0-1)/\IntKind.i64.wrap (ix ps 0-1)=IntKind.i64.wrap (ix ps 0-1)/\IFB false (szL l/\post l 0) (papp2_a0 post l ps day rs))/\IntKind.i64.wrap (ix ps 0-1)=IntKind.i64.wrap (ix ps 0-1)/\(IntKind.i64.wrap (ix ps 0-1)=IntKind.i64.wrap (ix ps 0-1)/\((papp2_a1 l ps).5.length+[day].length) * (8:Nat)<=140737488355328/\(ix rs 0).1.length<=4000000/\(papp2_a4 l ps rs) * (24:Nat)<=140737488355328/\IntKind.i64.wrap (ix ps 0-1)=IntKind.i64.wrap (ix ps 0-1)/\IntKind.i64.wrap (ix ps 0-1)=IntKind.i64.wrap (ix ps 0-1)/\IFB false (szL l/\post l 0) (papp2_a0 post l ps day rs))/\IntKind.i64.wrap (ix ps 0-1)=IntKind.i64.wrap (ix ps 0-1)/\((papp2_a1 l ps).5.length+[day].length) * (8:Nat)<=140737488355328/\(ix rs 0).1.length<=4000000/\(papp2_a4 l ps rs) * (24:Nat)<=140737488355328/\IntKind.i64.wrap (ix ps 0-1)=IntKind.i64.wrap (ix ps 0-1)/\IntKind.i64.wrap (ix ps 0-1)=IntKind.i64.wrap (ix ps 0-1)/\IFB false (szL l/\post l 0) (papp2_a0 post l ps day rs)))))
theorem papp2_w (l:List (api_Parcel))(day:Int)(known:Int)(ps:List (Int))(rs:List (api_Region))(post:dens (shT papp2_sp.rs [])->Prop):papp2_W l day known ps rs (λy0 y1=>post (y0,y1,()))=walkG (stlCP (callR Tryz.prog papp2_C (drawF Tryz.prog tauD) 12 0)) 49 false [tv (.sl (.st .api_Parcel)) (l),tv (.st .api_Edit) (⟨day,known,2,ps,rs⟩)] papp2_sp.rs post:=by kernel_rfl
theorem papp2_of (h:∀x (post:dens (shT papp2_sp.rs [])->Prop),papp2_sp.pt x post->HoldW (walkG (stlCP (callR Tryz.prog papp2_C (drawF Tryz.prog tauD) 12 0)) papp2_sp.f papp2_sp.tp (tvs papp2_sp.ts x) papp2_sp.rs post)):SpecOK Tryz.prog papp2_sp:=SpecOK.of_rulesS (C:=papp2_C) (dr:=drawF Tryz.prog tauD) (n:=12) (fk:=0) (.cons (rule1_ok pedit_ok) (.cons (rule1_ok pallD_ok) (.cons (ruleMap_ok Forms.forms_mk) (.cons (ruleL_ok pmeL_ok) (.cons (rule1_ok pcpy_ok) .nil))))) (drawF_ok tauD) h
theorem applyS_2 {l:List Pc}{day known:Int}{p:Int}{a:Rn}(h:editS l ⟨day,known,2,[p],[a]⟩=0):((hitP l a p/\applyS l ⟨day,known,2,[p],[a]⟩=(l,11))\/(¬hitP l a p/\applyS l ⟨day,known,2,[p],[a]⟩=(l.set (p-1).toNat (drawnP (ix l (p-1)) day a),0))):=by
 unfold applyS
 rw[if_neg (by rw[h];simp),if_neg (by simp),if_pos rfl]
 have e1:ix ([a]:List api_Region) (0:Int)=a:=rfl
 have e2:ix ([p]:List Int) (0:Int)=p:=rfl
 dsimp only
 rw[e1,e2]
 by_cases hh:hitP l a p
 ·rw[if_pos hh];exact .inl ⟨hh,rfl⟩
 ·rw[if_neg hh];exact .inr ⟨hh,rfl⟩
set_option maxHeartbeats 2000000 in
theorem papp2_h (l:List api_Parcel)(day known:Int)(ps:List Int)(rs:List api_Region)(post:List api_Parcel->Int->Prop)(hsz:szL l)(hse:szE ⟨day,known,2,ps,rs⟩)(hp:post (applyS l ⟨day,known,2,ps,rs⟩).1 (applyS l ⟨day,known,2,ps,rs⟩).2):papp2_W l day known ps rs post:=by
 unfold papp2_W papp2_a4 papp2_a3 papp2_a2 papp2_a1 papp2_a0
 refine⟨⟨hsz,hse⟩,IFB.mk (λhb=> ?_) (λhb=> ?_)⟩
 ·have hne:editS l ⟨day,known,2,ps,rs⟩≠0:=by simpa using hb
  rw[applyS_err hne] at hp
  exact⟨hsz,hp⟩
 have h0:editS l ⟨day,known,2,ps,rs⟩=0:=by simpa using hb
 obtain⟨e1,e2,e3,⟨e4,e5⟩,e6,e7⟩:=editS_0.1 h0
 have hps:ps.length=1/\rs.length=1:=by
  unfold fitsP at e4
  dsimp only at e4
  omega
 obtain⟨p,rfl⟩:∃p,ps=[p]:=List.length_eq_one_iff.1 hps.1
 obtain⟨a,rfl⟩:∃a,rs=[a]:=List.length_eq_one_iff.1 hps.2
 obtain⟨h60,hreg⟩:=checkS_0.1 e1
 have hl:=hsz.len
 obtain⟨o1,o2,o3⟩:=e6 p (by simp)
 have hm:ix l (p-1)∈l:=ix_mem (by omega) (by omega)
 obtain⟨d1,d2⟩:=regP_days hreg _ hm
 have hx:=hsz.all _ hm
 have x1:=hx.days
 have x2:=hx.regs
 have ha:a.1.length<=4000000:=by have:=hse.rect a (by simp);omega
 have k1:ix ([a]:List api_Region) (0:Int)=a:=rfl
 have k2:ix ([p]:List Int) (0:Int)=p:=rfl
 have w1:IntKind.i64.wrap (p-1)=p-1:=wrap_in (by omega) (by omega)
 have w2:IntKind.i64.wrap (((ix l (p-1)).5.length:Int)-1)=((ix l (p-1)).5.length:Int)-1:=wrap_in (by omega) (by omega)
 simp only[k1,k2,w1,w2]
 have hA:¬hitP l a p->ix (ix l (p-1)).5 (((ix l (p-1)).5.length:Int)-1)=day->post (l.set (p-1).toNat ⟨(ix l (p-1)).1,(ix l (p-1)).2,(ix l (p-1)).3,(ix l (p-1)).4,(ix l (p-1)).5,(ix l (p-1)).6.set (((ix l (p-1)).5.length:Int)-1).toNat ⟨a.1⟩⟩) 0:=λhh hd=>by
  rcases applyS_2 h0 with⟨h,_⟩|⟨_,h⟩
  ·exact absurd h hh
  ·rw[h] at hp
   have e:drawnP (ix l (p-1)) day a=⟨(ix l (p-1)).1,(ix l (p-1)).2,(ix l (p-1)).3,(ix l (p-1)).4,(ix l (p-1)).5,(ix l (p-1)).6.set (((ix l (p-1)).5.length:Int)-1).toNat ⟨a.1⟩⟩:=by
    unfold drawnP
    rw[if_pos hd,show (((ix l (p-1)).5.length:Int)-1).toNat=(ix l (p-1)).5.length-1 by omega]
   rw[e] at hp
   exact hp
 have hB:¬hitP l a p->ix (ix l (p-1)).5 (((ix l (p-1)).5.length:Int)-1)≠day->post (l.set (p-1).toNat ⟨(ix l (p-1)).1,(ix l (p-1)).2,(ix l (p-1)).3,(ix l (p-1)).4,(ix l (p-1)).5++[day],(ix l (p-1)).6++[⟨a.1⟩]⟩) 0:=λhh hd=>by
  rcases applyS_2 h0 with⟨h,_⟩|⟨_,h⟩
  ·exact absurd h hh
  ·rw[h] at hp
   have e:drawnP (ix l (p-1)) day a=⟨(ix l (p-1)).1,(ix l (p-1)).2,(ix l (p-1)).3,(ix l (p-1)).4,(ix l (p-1)).5++[day],(ix l (p-1)).6++[⟨a.1⟩]⟩:=by
    unfold drawnP
    rw[if_neg hd]
   rw[e] at hp
   exact hp
 have hz:Int.NonNeg (0:Int):=Int.NonNeg.mk 0
 have z1:(0:Int)<(([a]:List api_Region).length:Int):=by simp
 have z2:(0:Int)<(([p]:List Int).length:Int):=by simp
 have z3:(0:Int)<=p-1:=by omega
 have z4:p-1<(l.length:Int):=by omega
 have z5:(0:Int)<=((ix l (p-1)).5.length:Int)-1:=by omega
 have z6:((ix l (p-1)).5.length:Int)-1<((ix l (p-1)).5.length:Int):=by omega
 have z7:((ix l (p-1)).5.length:Int)-1<((ix l (p-1)).6.length:Int):=by omega
 have z8:((ix l (p-1)).5.length+[day].length) * 8<=140737488355328:=by simp only[List.length_cons,List.length_nil];omega
 have z9:((ix l (p-1)).6.length+[(⟨a.1⟩:api_Region)].length) * 24<=140737488355328:=by simp only[List.length_cons,List.length_nil];omega
 refine⟨hsz,⟨hz,z1⟩,⟨hz,z2⟩,⟨hl,λp hp=>⟨by have:=regP_days hreg p hp;omega,(hsz.all p hp).regs⟩⟩,λv hv=>IFB.mk (λhc=>IFB.yes rfl ⟨hsz,?_⟩) (λhc=> ?_)⟩
 ·rcases applyS_2 h0 with⟨_,h⟩|⟨h,_⟩
  ·rw[h] at hp;exact hp
  ·exact absurd (hv.1 hc) h
 have hn:¬hitP l a p:=λh=>by rw[hv.2 h] at hc;cases hc
 refine⟨⟨hz,z2⟩,⟨z3,z4⟩,trivial,λ_=>⟨trivial,⟨z5,z6⟩,IFB.mk (λhd=> ?_) (λhd=> ?_)⟩⟩
 ·have hA':=hA hn (of_decide_eq_true hd)
  repeat' (first|with_reducible assumption|exact True.intro|exact IFB.no rfl hA'|with_reducible apply And.intro)
 ·have hB':=hB hn (of_decide_eq_false hd)
  repeat' (first|with_reducible assumption|exact True.intro|exact IFB.no rfl hB'|with_reducible apply And.intro)
theorem papp2_ok:SpecOK Tryz.prog papp2_sp:=papp2_of λx post hp=>by
 obtain⟨l,e,u⟩:=x
 obtain⟨day,known,kind,ps,rs⟩:=e
 obtain⟨⟨hsz,hse,hk⟩,hp⟩:=hp
 have hk:kind=2:=hk
 subst hk
 exact HoldW.of (papp2_w l day known ps rs post) (papp2_h l day known ps rs (λy0 y1=>post (y0,y1,())) hsz hse hp)
def pappA_P (l:List (api_Parcel))(e:api_Edit)(post:List (api_Parcel)->Int->Prop):Prop:=(szL l/\szE e)/\post (applyS l e).1 (applyS l e).2
def pappA_sp:Spec:=⟨49,false,true,[.sl (.st .api_Parcel),.st .api_Edit],.tup [.dat (.sl (.st .api_Parcel)),.dat (.int .i64)],λx post=>pappA_P (x.1:List (api_Parcel)) (x.2.1:api_Edit) (λy0 y1=>post (y0,y1,()))⟩
theorem pappA_ok:SpecOK Tryz.prog pappA_sp:=λx post hp=>by
 obtain⟨l,e,u⟩:=x
 have hp:(szL l/\szE e)/\post ((applyS l e).1,(applyS l e).2,()):=hp
 obtain⟨⟨hsz,hse⟩,hp⟩:=hp
 by_cases h:e.Kind=2
 ·exact papp2_ok (l,e,()) post ⟨⟨hsz,hse,h⟩,hp⟩
 ·exact pappN_ok (l,e,()) post ⟨⟨hsz,hse,h⟩,hp⟩
def pthe_P (p:api_Parcel)(d:Int)(post:Bool->Prop):Prop:=∀q:Bool,(q=true↔thereP p d)->post q
def pthe_sp:Spec:=⟨55,false,false,[.st .api_Parcel,.int .i64],.dat (.bool),λx post=>pthe_P (x.1:api_Parcel) (x.2.1:Int) (λy0=>post (y0,()))⟩
def pthe_C:CtxR:=⟨tau,[],lookJ []⟩
def pthe_W (p:api_Parcel)(d:Int)(post:Bool->Prop):Prop:=post (decide (p.2<=d)&&decide (d<p.3))
theorem pthe_w (p:api_Parcel)(d:Int)(post:dens (shT pthe_sp.rs [])->Prop):pthe_W p d (λy0=>post (y0,()))=walkG (callR Tryz.prog pthe_C (drawR Tryz.prog tau) 8 0) 55 false [tv (.st .api_Parcel) p,tv (.int .i64) d] pthe_sp.rs post:=by kernel_rfl
theorem pthe_of (h:∀p d post,pthe_P p d post->pthe_W p d post):SpecOK Tryz.prog pthe_sp:=SpecOK.of_rules (C:=pthe_C) (dr:=drawR Tryz.prog tau) (n:=8) (fk:=0) .nil (drawR_ok tau) λx post hp=>HoldW.of (pthe_w x.1 x.2.1 post) (h x.1 x.2.1 (λy0=>post (y0,())) hp)
theorem pthe_ok:SpecOK Tryz.prog pthe_sp:=pthe_of λp d post hp=>hp _ (by
 unfold thereP
 rw[Bool.and_eq_true,decide_eq_true_iff,decide_eq_true_iff])
def pout_P (p:api_Parcel)(d:Int)(post:api_Region->Prop):Prop:=(p.Days.length=p.Regions.length/\0<p.Regions.length/\p.Regions.length<=1000000)/\post (outlS p d)
def pout_sp:Spec:=⟨57,false,true,[.st .api_Parcel,.int .i64],.dat (.st .api_Region),λx post=>pout_P (x.1:api_Parcel) (x.2.1:Int) (λy0=>post (y0,()))⟩
def pout_C:CtxR:=⟨tau,[],lookJ [(0,7,⟨[(15,.dat (.int .i64))],[(2,[.dat (.sl (.st .api_Rect))])],(List.range' 16 13++[6,7]),[],[]⟩),(0,14,⟨[],[(2,[.dat (.sl (.st .api_Rect))])],(List.range' 17 11++[6,7]),[],[]⟩)]⟩
def pout_W (p:api_Parcel)(d:Int)(post:api_Region->Prop):Prop:=(Int.NonNeg 0/\0<(↑p.6.length:Int))/\((↑p.5.length:Int)<=9223372036854775807->LOOP [Ty.int IntKind.i64,(Ty.st Sn.api_Rect).sl] (λ(rec1:Int->List api_Rect->Prop) (z2:Int) (z3:List api_Rect)=>IFB (decide (z2<(↑p.5.length:Int))) (JOIN [(Ty.st Sn.api_Rect).sl] (λ(y4:List api_Rect)=>rec1 (IntKind.i64.wrap (z2+1)) y4) λ(J5:List api_Rect->Prop)=>((0:Int)<=z2/\z2<(↑p.5.length:Int))/\IFB (decide (ix p.5 z2<=d)) (((0:Int)<=z2/\z2<(↑p.6.length:Int))/\J5 (ix p.6 z2).1) (J5 z3)) (post (⟨z3⟩:api_Region))) ((0:Int),(ix p.6 0).1,PUnit.unit))
theorem pout_w (p:api_Parcel)(d:Int)(post:dens (shT pout_sp.rs [])->Prop):pout_W p d (λy0=>post (y0,()))=walkG (callR Tryz.prog pout_C (drawR Tryz.prog tau) 8 0) 57 false [tv (.st .api_Parcel) p,tv (.int .i64) d] pout_sp.rs post:=by kernel_rfl
theorem pout_of (h:∀p d post,pout_P p d post->pout_W p d post):SpecOK Tryz.prog pout_sp:=SpecOK.of_rules (C:=pout_C) (dr:=drawR Tryz.prog tau) (n:=8) (fk:=0) .nil (drawR_ok tau) λx post hp=>HoldW.of (pout_w x.1 x.2.1 post) (h x.1 x.2.1 (λy0=>post (y0,())) hp)
theorem pout_ok:SpecOK Tryz.prog pout_sp:=pout_of λp d post hp=>by
 obtain⟨⟨h1,h2,h3⟩,hp⟩:=hp
 unfold pout_W
 have h1:p.5.length=p.6.length:=h1
 have h2:0<p.6.length:=h2
 have h3:p.6.length<=1000000:=h3
 refine⟨⟨Int.NonNeg.mk 0,by omega⟩,λ_=> ?_⟩
 refine LOOP.fuel2 (λ(z:Int) (b:List Rc)=>∃k:Nat,z=(k:Int)/\k<=p.5.length/\b=(outlF p d k).1) (λz _=>p.5.length-Int.toNat z) ⟨0,rfl,Nat.zero_le _,rfl⟩ ?_
 rintro rec (z:Int) (b:List Rc) ⟨k,i1,i2,i3⟩ hrec
 subst i1
 refine IFB.mk (λhb=> ?_) (λhb=> ?_)
 ·have hb:(k:Int)<p.5.length:=of_decide_eq_true hb
  have hk:k<p.5.length:=by omega
  refine JOIN.opq λ(J:List Rc->Prop) hJ=>⟨by omega,?_⟩
  have fin:∀y:List Rc,y=(outlF p d (k+1)).1->J y:=λy hy=>by
   rw[hJ]
   show rec (IntKind.i64.wrap ((k:Int)+1)) y
   rw[wrapS (by omega)]
   exact hrec ((k+1:Nat):Int) y ⟨k+1,rfl,hk,hy⟩ (by show p.5.length-((k+1:Nat):Int).toNat<p.5.length-(k:Int).toNat;omega)
  refine IFB.mk (λhc=>⟨by omega,fin _ ?_⟩) (λhc=>fin _ ?_)
  ·rw[outlF_succ,if_pos (of_decide_eq_true hc)]
  ·rw[outlF_succ,if_neg (of_decide_eq_false hc)];exact i3
 ·have hb:¬(k:Int)<p.5.length:=of_decide_eq_false hb
  have hk:k=p.5.length:=by omega
  rw[hk] at i3
  have e:({Rects:=b}:api_Region)=outlS p d:=by rw[i3];rfl
  show post {Rects:=b}
  rw[e];exact hp
def pon_P (l:List (api_Parcel))(n:Int)(d:Int)(post:List (api_Rect)->Bool->Prop):Prop:=szL l/\∀(r:List api_Rect)(q:Bool),(r=(onS l n d).Rects/\(q=true↔onP l n d))->post r q
def pon_sp:Spec:=⟨17,false,true,[.sl (.st .api_Parcel),.int .i64,.int .i64],.tup [.agg [.dat (.sl (.st .api_Rect))],.dat (.bool)],λx post=>pon_P (x.1:List (api_Parcel)) (x.2.1:Int) (x.2.2.1:Int) (λy0 y1=>post (y0,y1,()))⟩
def pon_C:CtxR:=⟨tau,[rule1 pchk_sp,rule1 pthe_sp,rule1 pout_sp,rule1 pcpy_sp],lookJ []⟩
abbrev pon_a0 (l:List (api_Parcel))(n:Int):={Number:=(ix l (IntKind.i64.wrap (n-(1:Int)))).1,From:=(ix l (IntKind.i64.wrap (n-(1:Int)))).2,Until:=(ix l (IntKind.i64.wrap (n-(1:Int)))).3,Parents:=(ix l (IntKind.i64.wrap (n-(1:Int)))).4,Days:=(ix l (IntKind.i64.wrap (n-(1:Int)))).5,Regions:=(ix l (IntKind.i64.wrap (n-(1:Int)))).6:api_Parcel}
def pon_W (l:List (api_Parcel))(n:Int)(d:Int)(post:List (api_Rect)->Bool->Prop):Prop:=(gx false (decide (n<1))=true->(↑l.length:Int)<=9223372036854775807)->JOIN [Ty.int IntKind.i64] (λ(y1:Int)=>(gx false (decide (n<1)||decide ((↑l.length:Int)<n)|| !decide (y1=0))=true->0<=IntKind.i64.wrap (n-1)/\IntKind.i64.wrap (n-1)<(↑l.length:Int))/\JOIN [Ty.bool] (λ(y2:Bool)=>IFB (decide (n<1)||decide ((↑l.length:Int)<n)|| !decide (y1=0)|| !y2) (post [] false) (((0:Int)<=IntKind.i64.wrap (n-1)/\IntKind.i64.wrap (n-1)<(↑l.length:Int))/\((ix l (IntKind.i64.wrap (n-1))).5.length=(ix l (IntKind.i64.wrap (n-1))).6.length/\0<(ix l (IntKind.i64.wrap (n-1))).6.length/\(ix l (IntKind.i64.wrap (n-1))).6.length<=1000000)/\(outlS (pon_a0 l n) d).1.length<=4000000/\post (outlS (pon_a0 l n) d).1 true)) λ(J3:Bool->Prop)=>IFB (gx false (decide (n<1)||decide ((↑l.length:Int)<n)|| !decide (y1=0))) (∀(v4:Bool),(v4=true↔thereP (pon_a0 l n) d)->J3 v4) (J3 false)) λ(J5:Int->Prop)=>IFB (gx false (decide (n<1)||decide ((↑l.length:Int)<n))) (szL l/\J5 (checkS l)) (J5 0)
theorem pon_w (l:List (api_Parcel))(n:Int)(d:Int)(post:dens (shT pon_sp.rs [])->Prop):pon_W l n d (λy0 y1=>post (y0,y1,()))=walkG (callR Tryz.prog pon_C (drawF Tryz.prog tau) 8 0) 17 false [tv (.sl (.st .api_Parcel)) l,tv (.int .i64) n,tv (.int .i64) d] pon_sp.rs post:=by kernel_rfl
theorem pon_of (h:∀l n d post,pon_P l n d post->pon_W l n d post):SpecOK Tryz.prog pon_sp:=SpecOK.of_rules (C:=pon_C) (dr:=drawF Tryz.prog tau) (n:=8) (fk:=0) (.cons (rule1_ok pchk_ok) (.cons (rule1_ok pthe_ok) (.cons (rule1_ok pout_ok) (.cons (rule1_ok pcpy_ok) .nil)))) (drawF_ok tau) λx post hp=>HoldW.of (pon_w x.1 x.2.1 x.2.2.1 post) (h x.1 x.2.1 x.2.2.1 (λy0 y1=>post (y0,y1,())) hp)
theorem reg_days {l:List Pc}(hsz:szL l)(h:checkS l=0){n:Int}(h1:1<=n)(h2:n<=(l.length:Int)):ix l (n-1)∈l/\(ix l (n-1)).5.length=(ix l (n-1)).6.length/\0<(ix l (n-1)).6.length/\(ix l (n-1)).6.length<=1000000/\IntKind.i64.wrap (n-1)=n-1:=by
 have hm:=ix_mem (l:=l) (i:=n-1) (by omega) (by omega)
 have hr:=regP_days (checkS_0.1 h).2 _ hm
 have:=hsz.len
 exact⟨hm,hr.2,by have:=hr.1;omega,(hsz.all _ hm).regs,wrap_in (by omega) (by omega)⟩
theorem pon_ok:SpecOK Tryz.prog pon_sp:=pon_of λl n d post hp=>by
 obtain⟨hsz,hp⟩:=hp
 have hl:=hsz.len
 unfold pon_W pon_a0
 refine λ_=>JOIN.opq λ(J:Int->Prop) hJ=> ?_
 have k1:∀y:Int,(1<=n/\n<=(l.length:Int)->y=checkS l)->J y:=λy hy=>by
  rw[hJ]
  refine⟨λh=> ?_,JOIN.opq λ(J2:Bool->Prop) hJ2=> ?_⟩
  ·simp only[Bool.not_eq_true',Bool.not_eq_false',Bool.or_eq_false_iff,decide_eq_true_eq,decide_eq_false_iff_not,gx_f] at h
   rw[wrap_in (by omega) (by omega)];omega
  have k2:∀c:Bool,(1<=n/\n<=(l.length:Int)/\checkS l=0->(c=true↔thereP (ix l (n-1)) d))->J2 c:=λc hc=>by
   rw[hJ2]
   refine IFB.mk (λh=> ?_) (λh=> ?_)
   ·simp only[Bool.or_eq_true,Bool.not_eq_true',decide_eq_true_eq,decide_eq_false_iff_not] at h
    have hn:¬onP l n d:=by
     rintro ⟨o1,o2,o3,o4⟩
     rcases h with ((h|h)|h)|h
     ·omega
     ·omega
     ·exact h ((hy ⟨o1,o2⟩).trans o3)
     ·have:=(hc ⟨o1,o2,o3⟩).2 o4;rw[h] at this;cases this
    refine hp [] false ⟨?_,λh=>(by cases h),λh=>absurd h hn⟩
    unfold onS;rw[if_neg hn]
   ·simp only[Bool.not_eq_false',Bool.or_eq_false_iff,decide_eq_true_eq,decide_eq_false_iff_not] at h
    obtain⟨⟨⟨b1,b2⟩,b3⟩,b4⟩:=h
    have hb:1<=n/\n<=(l.length:Int):=by omega
    have h0:checkS l=0:=(hy hb).symm.trans b3
    obtain⟨m1,m2,m3,m4,m5⟩:=reg_days hsz h0 hb.1 hb.2
    have hon:onP l n d:=⟨hb.1,hb.2,h0,(hc ⟨hb.1,hb.2,h0⟩).1 b4⟩
    rw[m5]
    have hr:(outlS (ix l (n-1)) d).Rects.length<=1000000:=(hsz.all _ m1).rect _ (outlF_mem m3 (by rw[<-m2];exact Nat.le_refl _))
    have he:onS l n d=outlS (ix l (n-1)) d:=by unfold onS;rw[if_pos hon]
    have hpost:post (outlS (ix l (n-1)) d).Rects true:=hp _ true ⟨by rw[he],λ_=>hon,λ_=>rfl⟩
    have hA:0<=n-1/\n-1<(l.length:Int):=by omega
    have hB:(ix l (n-1)).5.length=(ix l (n-1)).6.length/\0<(ix l (n-1)).6.length/\(ix l (n-1)).6.length<=1000000:=⟨m2,m3,m4⟩
    have hC:(outlS (ix l (n-1)) d).Rects.length<=4000000:=by omega
    repeat' (first|exact hA|exact hB|exact hC|exact hpost|with_reducible apply And.intro)
  refine IFB.mk (λhg=> ?_) (λhg=>k2 false λhc=> ?_)
  ·simp only[Bool.not_eq_true',Bool.not_eq_false',Bool.or_eq_false_iff,decide_eq_true_eq,decide_eq_false_iff_not,gx_f] at hg
   rw[wrap_in (by omega) (by omega)]
   exact λv hv=>k2 v λ_=>hv
  ·simp only[Bool.or_eq_true,Bool.not_eq_true',Bool.not_eq_false',decide_eq_true_eq,decide_eq_false_iff_not,gx_f] at hg
   rcases hg with (hg|hg)|hg
   ·omega
   ·omega
   ·exact absurd ((hy ⟨hc.1,hc.2.1⟩).trans hc.2.2) hg
 refine IFB.mk (λhg=>⟨hsz,k1 _ λ_=>rfl⟩) (λhg=>k1 0 λh=> ?_)
 simp only[Bool.or_eq_true,Bool.not_eq_false',decide_eq_true_eq,gx_f] at hg
 omega
theorem runG_ok {l:List Ed}{K:List Pc->Int->Int->Prop}{x:List Pc}{k:Nat}(hk:k<=l.length)(h:K (runG x (k:Int) (l.drop k)).1 (runG x (k:Int) (l.drop k)).2.1 (runG x (k:Int) (l.drop k)).2.2):(k=l.length->K x (l.length:Int) 0)/\(k<l.length->if (applyS x (ix l (k:Int))).2≠0 then K x (k:Int) (applyS x (ix l (k:Int))).2 else K (runG (applyS x (ix l (k:Int))).1 ((k+1:Nat):Int) (l.drop (k+1))).1 (runG (applyS x (ix l (k:Int))).1 ((k+1:Nat):Int) (l.drop (k+1))).2.1 (runG (applyS x (ix l (k:Int))).1 ((k+1:Nat):Int) (l.drop (k+1))).2.2):=by
 refine⟨λe=> ?_,λhlt=> ?_⟩
 ·subst e
  rw[List.drop_length] at h
  exact h
 ·have hd:l.drop k=ix l (k:Int)::l.drop (k+1):=by rw[ix_lt hlt];exact List.drop_eq_getElem_cons hlt
  rw[hd] at h
  unfold runG at h
  split
  ·rename_i h0
   rw[if_pos h0] at h;exact h
  ·rename_i h0
   rw[if_neg h0] at h
   exact h
end RE
end Go.Proofs.YtjcjdgmojkkioaaGreatDoor
set_option maxRecDepth 100000
set_option linter.unusedVariables false
namespace Go.Proofs.YtjcjdgmojkkioaaGreatDoor
open Go.RowKit
namespace RE
open PL
namespace PL
end PL
end RE
end Go.Proofs.YtjcjdgmojkkioaaGreatDoor
namespace Go.Proofs.YtjcjdgmojkkioaaGreatDoor
namespace RE
set_option maxRecDepth 100000
open Go.RowKit
open PL
theorem run_sz {l:List Ed}(h:∀e∈l,szE e):szL (runS l).1:=by
 unfold runS
 split
 ·exact szL_nil
 ·exact runG_take h szL_nil
def prunA_P (l:List (api_Edit))(post:List (api_Parcel)->Int->Int->Prop):Prop:=(l.length<=1000000/\∀e∈l,szE e)/\∀(x:List Pc)(n g:Int),(szL x/\runS l=(x,n,g))->post x n g
def prunA_sp:Spec:=⟨14,false,true,[.sl (.st .api_Edit)],.tup [.dat (.sl (.st .api_Parcel)),.dat (.int .i64),.dat (.int .i64)],λx post=>prunA_P (x.1:List (api_Edit)) (λy0 y1 y2=>post (y0,y1,y2,()))⟩
def prunA_C:CtxR:=⟨tau,[rule1 pappA_sp],lookJ [(0,11,⟨[(15,.dat (.int .i64)),(5,.dat (.sl (.st .api_Parcel)))],[],(List.range' 16 12++[6,7,8,9,31,32]),[],[]⟩)]⟩
def prunA_W (l:List (api_Edit))(post:List (api_Parcel)->Int->Int->Prop):Prop:=(↑l.length:Int)<=9223372036854775807->IFB (decide ((120:Int)<(↑l.length:Int))) (post [] (0:Int) 1) ((↑l.length:Int)<=9223372036854775807->LOOP [Ty.int IntKind.i64,(Ty.st Sn.api_Parcel).sl] (λ(rec1:Int->List api_Parcel->Prop) (z2:Int) (z3:List api_Parcel)=>IFB (decide (z2<(↑l.length:Int))) (((0:Int)<=z2/\z2<(↑l.length:Int))/\(szL z3/\szE {Day:=(ix l z2).1,Known:=(ix l z2).2,Kind:=(ix l z2).3,Parcels:=(ix l z2).4,Regions:=(ix l z2).5:api_Edit})/\IFB (!decide ((applyS z3 {Day:=(ix l z2).1,Known:=(ix l z2).2,Kind:=(ix l z2).3,Parcels:=(ix l z2).4,Regions:=(ix l z2).5:api_Edit}).2=0)) (post z3 z2 (applyS z3 {Day:=(ix l z2).1,Known:=(ix l z2).2,Kind:=(ix l z2).3,Parcels:=(ix l z2).4,Regions:=(ix l z2).5:api_Edit}).2) (rec1 (IntKind.i64.wrap (z2+1)) (applyS z3 {Day:=(ix l z2).1,Known:=(ix l z2).2,Kind:=(ix l z2).3,Parcels:=(ix l z2).4,Regions:=(ix l z2).5:api_Edit}).1)) ((↑l.length:Int)<=9223372036854775807->post z3 (↑l.length:Int) 0)) ((0:Int),[],PUnit.unit))
theorem prunA_w (l:List (api_Edit))(post:dens (shT prunA_sp.rs [])->Prop):prunA_W l (λy0 y1 y2=>post (y0,y1,y2,()))=walkG (callR Tryz.prog prunA_C (drawF Tryz.prog tau) 10 0) 14 false [tv (.sl (.st .api_Edit)) l] prunA_sp.rs post:=by kernel_rfl
theorem prunA_of (h:∀l post,prunA_P l post->prunA_W l post):SpecOK Tryz.prog prunA_sp:=SpecOK.of_rules (C:=prunA_C) (dr:=drawF Tryz.prog tau) (n:=10) (fk:=0) (.cons (rule1_ok pappA_ok) .nil) (drawF_ok tau) λx post hp=>HoldW.of (prunA_w x.1 post) (h x.1 (λy0 y1 y2=>post (y0,y1,y2,())) hp)
theorem prunA_ok:SpecOK Tryz.prog prunA_sp:=prunA_of λl post hp=>by
 obtain⟨⟨hl,he⟩,hp⟩:=hp
 unfold prunA_W
 replace hp:post (runS l).1 (runS l).2.1 (runS l).2.2:=hp _ _ _ ⟨run_sz he,rfl⟩
 unfold runS at hp
 intro _
 refine IFB.mk (λhb=> ?_) (λhb _=> ?_)
 ·have hb:(120:Int)<(l.length:Int):=of_decide_eq_true hb
  rw[if_pos (by omega)] at hp;exact hp
 have hb:¬(120:Int)<(l.length:Int):=of_decide_eq_false hb
 rw[if_neg (by omega)] at hp
 refine LOOP.fuel2 (λ(z:Int) (x:List Pc)=>∃k:Nat,z=(k:Int)/\k<=l.length/\(szL x)/\post (runG x (k:Int) (l.drop k)).1 (runG x (k:Int) (l.drop k)).2.1 (runG x (k:Int) (l.drop k)).2.2) (λz _=>l.length-Int.toNat z) ⟨0,rfl,Nat.zero_le _,szL_nil,hp⟩ ?_
 rintro rec (z:Int) (x:List Pc) ⟨k,i1,i2,i3,i4⟩ hrec
 subst i1
 have h4:=runG_ok i2 i4
 refine IFB.mk (λhb=> ?_) (λhb=> ?_)
 ·have hb:(k:Int)<l.length:=of_decide_eq_true hb
  have hk:k<l.length:=by omega
  have hm:=he _ (ix_mem (l:=l) (i:=(k:Int)) (by omega) (by omega))
  have h4:=h4.2 hk
  refine⟨by omega,⟨i3,hm⟩,IFB.mk (λhc=> ?_) (λhc=> ?_)⟩
  ·rw[if_pos (by simpa using hc)] at h4;exact h4
  ·rw[if_neg (by simpa using hc)] at h4
   rw[wrapS (by omega)]
   exact hrec ((k+1:Nat):Int) _ ⟨k+1,rfl,hk,applyS_sz i3 hm,h4⟩ (by show l.length-((k+1:Nat):Int).toNat<l.length-(k:Int).toNat;omega)
 ·have hb:¬(k:Int)<l.length:=of_decide_eq_false hb
  exact λ_=>h4.1 (by omega)
def pknown_P (l:List (api_Edit))(day:Int)(post:List (api_Edit)->Int->Prop):Prop:=(l.length<=19/\∀e∈l,szE e)/\∀(x:List Ed)(g:Int),(x=(knownS l day).1/\g=(knownS l day).2)->post x g
def pknown_sp:Spec:=⟨27,false,true,[.sl (.st .api_Edit),.int .i64],.tup [.dat (.sl (.st .api_Edit)),.dat (.int .i64)],λx post=>pknown_P (x.1:List (api_Edit)) (x.2.1:Int) (λy0 y1=>post (y0,y1,()))⟩
def pknown_C:CtxR:=⟨tau,[rule1 pclI_sp,rule1 pclR_sp,rule1 pcpy_sp,ruleNo 257],lookJ [(26610391412,15,⟨[(6,.dat (.int .i64))],[],(List.range' 28 35++[7,8,9]),[],[]⟩),(26610391412,19,⟨[(8,.dat (.int .i64)),(7,.dat (.int .i64))],[],(List.range' 33 16),[],[]⟩),(26610391412,32,⟨[],[],(List.range' 49 12++[9]),[],[]⟩),(27739763033922823,3,⟨[(8,.dat (.int .i64))],[],(List.range' 12 41++[9]),[],[(0,80,(.st .api_Edit))]⟩),(27739763033922823,9,⟨[(9,.dat (.int .i64))],[],(List.range' 18 35),[],[(0,80,(.st .api_Edit))]⟩),(30144335528398783163330718548,0,⟨[(0,.dat (.int .i64))],[],[],[],[]⟩),(26610391412,5,⟨[(8,.dat (.int .i64)),(7,.dat (.int .i64))],[],(List.range' 11 12),[],[(0,80,(.st .api_Edit))]⟩),(27739763033919760,3,⟨[(8,.dat (.int .i64))],[],(List.range' 12 41++[9]),[],[(0,80,(.st .api_Edit))]⟩),(27739763033919760,9,⟨[(9,.dat (.int .i64))],[],(List.range' 18 35),[],[(0,80,(.st .api_Edit))]⟩),(30144335528395454652571251245,0,⟨[(0,.dat (.int .i64))],[],[],[],[]⟩),(0,29,⟨[(55,.dat (.int .i64)),(9,.own 80 (.st .api_Edit))],[],(List.range' 56 35++[11,12,13]),[],[]⟩),(0,48,⟨[(9,.own 80 (.st .api_Edit))],[],(List.range' 57 33++[11,12,13]),[0],[]⟩),(0,39,⟨[(74,.dat (.int .i64))],[],(List.range' 75 11++[12,13]),[],[(3,56,(.st .api_Region))]⟩),(0,1000017,⟨[],[(1,[.dat (.int .i64),.dat (.int .i64),.dat (.int .i64),.own 3 (.int .i64),.own 56 (.st .api_Region)])],[63,64,65,66,67,68,69,70],[],[]⟩),(0,11,⟨[(19,.dat (.int .i64))],[],(List.range' 20 30++[7,8]),[],[]⟩),(0,1000007,⟨[(48,.dat .bool)],[],(List.range' 24 24),[],[]⟩)]⟩
abbrev pknown_a0 (z30:List api_Edit)(z29:Int):=(z30.set z29.toNat {Day:=(ix z30 (IntKind.i64.wrap (z29-(1:Int)))).1,Known:=(ix z30 (IntKind.i64.wrap (z29-(1:Int)))).2,Kind:=(ix z30 (IntKind.i64.wrap (z29-(1:Int)))).3,Parcels:=(ix z30 (IntKind.i64.wrap (z29-(1:Int)))).4,Regions:=(ix z30 (IntKind.i64.wrap (z29-(1:Int)))).5:api_Edit})
abbrev pknown_a1 (z40:List api_Edit)(z39:Int):=(z40.set z39.toNat {Day:=(ix z40 (IntKind.i64.wrap (z39-(1:Int)))).1,Known:=(ix z40 (IntKind.i64.wrap (z39-(1:Int)))).2,Kind:=(ix z40 (IntKind.i64.wrap (z39-(1:Int)))).3,Parcels:=(ix z40 (IntKind.i64.wrap (z39-(1:Int)))).4,Regions:=(ix z40 (IntKind.i64.wrap (z39-(1:Int)))).5:api_Edit})
def pknown_W (l:List (api_Edit))(day:Int)(post:List (api_Edit)->Int->Prop):Prop:=(↑l.length:Int)<=9223372036854775807->IFB (decide ((120:Int)<(↑l.length:Int))) (post [] 1) ((↑l.length:Int)<=9223372036854775807->LOOP [Ty.int IntKind.i64] (λ(rec1:Int->Prop) (z2:Int)=>IFB (decide (z2<(↑l.length:Int))) (((0:Int)<=z2/\z2<(↑l.length:Int))/\JOIN [Ty.bool] (λ(y3:Bool)=>IFB y3 (post [] 9) (rec1 (IntKind.i64.wrap (z2+1)))) λ(J4:Bool->Prop)=>JOIN [Ty.bool] (λ(y5:Bool)=>((gx false (decide ((ix l z2).1<0)||decide ((36864:Int)<(ix l z2).1)||y5)&&gx true (decide ((0:Int)<z2)))=true->0<=IntKind.i64.wrap (z2-1)/\IntKind.i64.wrap (z2-1)<(↑l.length:Int))/\J4 (decide ((ix l z2).1<0)||decide ((36864:Int)<(ix l z2).1)||y5||decide ((0:Int)<z2)&&decide ((ix l z2).2<(ix l (IntKind.i64.wrap (z2-1))).2))/\J4 (decide ((ix l z2).1<0)||decide ((36864:Int)<(ix l z2).1)||y5||decide ((0:Int)<z2)&&decide ((ix l z2).2<(ix l (IntKind.i64.wrap (z2-1))).2))) λ(J6:Bool->Prop)=>IFB (gx false (decide ((ix l z2).1<0)||decide ((36864:Int)<(ix l z2).1))) (J6 (decide ((ix l z2).2<0)||decide ((36864:Int)<(ix l z2).2))) (J6 false)) (IFB (decide (day<0)||decide ((36864:Int)<day)) (post [] 9) ((↑l.length:Int)<=9223372036854775807->LOOP [Ty.int IntKind.i64,(Ty.st Sn.api_Edit).sl] (λ(rec7:Int->List api_Edit->Prop) (z8:Int) (z9:List api_Edit)=>IFB (decide (z8<(↑l.length:Int))) (JOIN [(Ty.st Sn.api_Edit).sl] (λ(y10:List api_Edit)=>rec7 (IntKind.i64.wrap (z8+1)) y10) λ(J11:List api_Edit->Prop)=>((0:Int)<=z8/\z8<(↑l.length:Int))/\IFB (decide (day<(ix l z8).2)) (J11 z9) (JOIN [Ty.int IntKind.i64,Ty.int IntKind.i64,Ty.int IntKind.i64,(Ty.int IntKind.i64).sl,(Ty.st Sn.api_Region).sl] (λ(y12 y13 y14:Int) (y15:List Int) (y16:List api_Region)=>(↑y16.length:Int)<=9223372036854775807->LOOP [Ty.int IntKind.i64,(Ty.st Sn.api_Region).sl] (λ(rec17:Int->List api_Region->Prop) (z18:Int) (z19:List api_Region)=>IFB (decide (z18<(↑y16.length:Int))) (((0:Int)<=z18/\z18<(↑z19.length:Int))/\(ix z19 z18).1.length<=4000000/\((0:Int)<=z18/\z18<(↑z19.length:Int))/\rec17 (IntKind.i64.wrap (z18+1)) (z19.set z18.toNat {Rects:=(ix z19 z18).1:api_Region})) ((z9.length+[(⟨y12,y13,y14,y15,z19⟩:api_Edit)].length) * (72:Nat)<=140737488355328/\J11 (z9++[(⟨y12,y13,y14,y15,z19⟩:api_Edit)]))) ((0:Int),y16,PUnit.unit)) λ(J20:Int->Int->Int->List Int->List api_Region->Prop)=>(ix l z8).4.length<=4000000/\(ix l z8).5.length<=4000000/\J20 (ix l z8).1 (ix l z8).2 (ix l z8).3 (ix l z8).4 (ix l z8).5)) ((↑z9.length:Int)<=9223372036854775807->LOOP [Ty.int IntKind.i64,Ty.int IntKind.i64,(Ty.st Sn.api_Edit).sl] (λ(rec21:Int->Int->List api_Edit->Prop) (z22 z23:Int) (z24:List api_Edit)=>IFB (decide (z22<=(↑z9.length:Int))) (LOOP [Ty.int IntKind.i64,(Ty.st Sn.api_Edit).sl] (λ(rec25:Int->List api_Edit->Prop) (z26:Int) (z27:List api_Edit)=>IFB (decide (z26<z22)) (LOOP [Ty.int IntKind.i64,(Ty.st Sn.api_Edit).sl] (λ(rec28:Int->List api_Edit->Prop) (z29:Int) (z30:List api_Edit)=>(gx true (decide (z23<z29))=true->0<=z29/\z29<(↑z30.length:Int))/\(gx true (decide (z23<z29))=true->0<=IntKind.i64.wrap (z29-1)/\IntKind.i64.wrap (z29-1)<(↑z30.length:Int))/\JOIN [Ty.int IntKind.i64] (λ(y31:Int)=>IFB (decide (z23<z29)&&decide (y31<0)) (((0:Int)<=IntKind.i64.wrap (z29-1)/\IntKind.i64.wrap (z29-1)<(↑z30.length:Int))/\((0:Int)<=z29/\z29<(↑z30.length:Int))/\((0:Int)<=z29/\z29<(↑z30.length:Int))/\((0:Int)<=IntKind.i64.wrap (z29-1)/\IntKind.i64.wrap (z29-1)<(↑(pknown_a0 z30 z29).length:Int))/\rec28 (IntKind.i64.wrap (z29-1)) ((pknown_a0 z30 z29).set (IntKind.i64.wrap (z29-1)).toNat {Day:=(ix z30 z29).1,Known:=(ix z30 z29).2,Kind:=(ix z30 z29).3,Parcels:=(ix z30 z29).4,Regions:=(ix z30 z29).5:api_Edit})) (rec25 (IntKind.i64.wrap (z26+1)) z30)) λ(J32:Int->Prop)=>IFB (gx true (decide (z23<z29))) (JOIN [Ty.int IntKind.i64] (λ(y33:Int)=>J32 y33) λ(J34:Int->Prop)=>IFB (!decide ((ix z30 z29).1=(ix z30 z29).1)) (IFB (!decide ((ix z30 (IntKind.i64.wrap (z29-1))).1=(ix z30 (IntKind.i64.wrap (z29-1))).1)) (J34 0) (J34 (-1:Int))) (IFB (!decide ((ix z30 (IntKind.i64.wrap (z29-1))).1=(ix z30 (IntKind.i64.wrap (z29-1))).1)) (J34 1) (IFB (decide ((ix z30 z29).1<(ix z30 (IntKind.i64.wrap (z29-1))).1)) (J34 (-1:Int)) (IFB (decide ((ix z30 (IntKind.i64.wrap (z29-1))).1<(ix z30 z29).1)) (J34 1) (J34 0))))) (J32 0)) (z26,z27,PUnit.unit)) (rec21 (IntKind.i64.wrap (z22+20)) z22 z27)) (IntKind.i64.wrap (z23+1),z24,PUnit.unit)) (LOOP [Ty.int IntKind.i64,(Ty.st Sn.api_Edit).sl] (λ(rec35:Int->List api_Edit->Prop) (z36:Int) (z37:List api_Edit)=>IFB (decide (z36<(↑z9.length:Int))) (LOOP [Ty.int IntKind.i64,(Ty.st Sn.api_Edit).sl] (λ(rec38:Int->List api_Edit->Prop) (z39:Int) (z40:List api_Edit)=>(gx true (decide (z23<z39))=true->0<=z39/\z39<(↑z40.length:Int))/\(gx true (decide (z23<z39))=true->0<=IntKind.i64.wrap (z39-1)/\IntKind.i64.wrap (z39-1)<(↑z40.length:Int))/\JOIN [Ty.int IntKind.i64] (λ(y41:Int)=>IFB (decide (z23<z39)&&decide (y41<0)) (((0:Int)<=IntKind.i64.wrap (z39-1)/\IntKind.i64.wrap (z39-1)<(↑z40.length:Int))/\((0:Int)<=z39/\z39<(↑z40.length:Int))/\((0:Int)<=z39/\z39<(↑z40.length:Int))/\((0:Int)<=IntKind.i64.wrap (z39-1)/\IntKind.i64.wrap (z39-1)<(↑(pknown_a1 z40 z39).length:Int))/\rec38 (IntKind.i64.wrap (z39-1)) ((pknown_a1 z40 z39).set (IntKind.i64.wrap (z39-1)).toNat {Day:=(ix z40 z39).1,Known:=(ix z40 z39).2,Kind:=(ix z40 z39).3,Parcels:=(ix z40 z39).4,Regions:=(ix z40 z39).5:api_Edit})) (rec35 (IntKind.i64.wrap (z36+1)) z40)) λ(J42:Int->Prop)=>IFB (gx true (decide (z23<z39))) (JOIN [Ty.int IntKind.i64] (λ(y43:Int)=>J42 y43) λ(J44:Int->Prop)=>IFB (!decide ((ix z40 z39).1=(ix z40 z39).1)) (IFB (!decide ((ix z40 (IntKind.i64.wrap (z39-1))).1=(ix z40 (IntKind.i64.wrap (z39-1))).1)) (J44 0) (J44 (-1:Int))) (IFB (!decide ((ix z40 (IntKind.i64.wrap (z39-1))).1=(ix z40 (IntKind.i64.wrap (z39-1))).1)) (J44 1) (IFB (decide ((ix z40 z39).1<(ix z40 (IntKind.i64.wrap (z39-1))).1)) (J44 (-1:Int)) (IFB (decide ((ix z40 (IntKind.i64.wrap (z39-1))).1<(ix z40 z39).1)) (J44 1) (J44 0))))) (J42 0)) (z36,z37,PUnit.unit)) (LOOP [Ty.int IntKind.i64] (λ(rec45:Int->Prop) (z46:Int)=>IFB (decide (z46<(↑z9.length:Int))) (LOOP [Ty.int IntKind.i64,Ty.int IntKind.i64] (λ(rec47:Int->Int->Prop) (z48 z49:Int)=>IFB (decide (z48<=(↑z9.length:Int))) False (JOIN [] (rec45 (IntKind.i64.wrap (z46 * 2))) λ(J50:Prop)=>IFB (decide (IntKind.i64.wrap (z49+z46)<(↑z9.length:Int))) False J50)) (IntKind.i64.wrap ((2:Int) * z46),(0:Int),PUnit.unit)) (post z37 0)) ((20:Int),PUnit.unit))) (IntKind.i64.wrap (z23+1),z24,PUnit.unit))) ((20:Int),(0:Int),z9,PUnit.unit))) ((0:Int),[],PUnit.unit)))) ((0:Int),PUnit.unit))
theorem pknown_w (l:List (api_Edit))(day:Int)(post:dens (shT pknown_sp.rs [])->Prop):pknown_W l day (λy0 y1=>post (y0,y1,()))=walkG (callR Tryz.prog pknown_C (drawF Tryz.prog tau) 12 0) 27 false [tv (.sl (.st .api_Edit)) l,tv (.int .i64) day] pknown_sp.rs post:=by kernel_rfl
theorem pknown_of (h:∀l day post,pknown_P l day post->pknown_W l day post):SpecOK Tryz.prog pknown_sp:=SpecOK.of_rules (C:=pknown_C) (dr:=drawF Tryz.prog tau) (n:=12) (fk:=0) (.cons (rule1_ok pclI_ok) (.cons (rule1_ok pclR_ok) (.cons (rule1_ok pcpy_ok) (.cons (ruleNo_ok 257) .nil)))) (drawF_ok tau) λx post hp=>HoldW.of (pknown_w x.1 x.2.1 post) (h x.1 x.2.1 (λy0 y1=>post (y0,y1,())) hp)
theorem known_take {l:List Ed}{d:Int}{k:Nat}(hk:k<l.length):knownL (l.take (k+1)) d=if (ix l (k:Int)).Known<=d then knownL (l.take k) d++[ix l (k:Int)] else knownL (l.take k) d:=by
 unfold knownL
 rw[List.take_succ_eq_append_getElem hk,List.filter_append,ix_lt hk]
 split
 ·rename_i h;rw[List.filter_cons_of_pos (by simpa using h)];rfl
 ·rename_i h;rw[List.filter_cons_of_neg (by simpa using h),List.filter_nil,List.append_nil]
set_option maxHeartbeats 2000000 in
theorem pknown_ok:SpecOK Tryz.prog pknown_sp:=pknown_of λl day post hp=>by
 obtain⟨⟨hl,he⟩,hp⟩:=hp
 have hp:=hp _ _ ⟨rfl,rfl⟩
 unfold pknown_W pknown_a1 pknown_a0
 intro _
 refine IFB.mk (λh=> ?_) (λ_ _=> ?_)
 ·have h:(120:Int)<(l.length:Int):=of_decide_eq_true h
  omega
 have bad:badK l\/¬okD day->post [] 9:=λh=>by
  have e:knownS l day=([],9):=by unfold knownS;rw[if_pos h]
  rw[e] at hp;exact hp
 refine loopCmp (n:=l.length) (by omega) (p:=λi=>¬badAt l i) (λrec k hk _ hrec=> ?_) λhall=> ?_
 ·refine⟨by omega,JOIN.opq λ(J4:Bool->Prop) hJ4=>JOIN.opq λ(J6:Bool->Prop) hJ6=> ?_⟩
  have k4:∀y:Bool,(y=true↔badAt l k)->J4 y:=λy h=>by
   rw[hJ4]
   refine IFB.mk (λhb=>bad (.inl ⟨k,hk,h.1 hb⟩)) (λhb=>hrec λh2=>by rw[h.2 h2] at hb;cases hb)
  have hprev:∀h0:0<k,IntKind.i64.wrap ((k:Int)-1)=((k-1:Nat):Int):=λh0=>wrapP (by omega) h0
  have k6:∀y:Bool,((decide ((ix l (k:Int)).1<(0:Int))||decide ((36864:Int)<(ix l (k:Int)).1)||y)=true↔(¬okD (ix l (k:Int)).Day\/¬okD (ix l (k:Int)).Known))->J6 y:=λy h=>by
   rw[hJ6]
   dsimp only
   generalize (decide ((ix l (k:Int)).1<(0:Int))||decide ((36864:Int)<(ix l (k:Int)).1)||y)=a at h ⊢
   have main:(a||decide ((0:Int)<(k:Int))&&decide ((ix l (k:Int)).2<(ix l (IntKind.i64.wrap ((k:Int)-(1:Int)))).2))=true↔badAt l k:=by
    unfold badAt
    rw[Bool.or_eq_true,Bool.and_eq_true,decide_eq_true_eq,decide_eq_true_eq,h,or_assoc]
    by_cases h0:0<k
    ·rw[hprev h0]
     have:(0:Int)<(k:Int):=by omega
     simp only[h0,this,true_and]
    ·have:¬(0:Int)<(k:Int):=by omega
     simp only[h0,this,false_and]
   refine⟨λh2=> ?_,k4 _ main,k4 _ main⟩
   have h0:0<k:=by
    rw[Bool.and_eq_true] at h2
    have:=of_decide_eq_true h2.2
    omega
   rw[hprev h0];omega
  refine IFB.mk (λhb=>k6 _ ?_) (λhb=>k6 _ ?_)
  ·rw[gx_f,Bool.not_eq_true'] at hb
   rw[hb]
   rw[Bool.or_eq_false_iff,decide_eq_false_iff_not,decide_eq_false_iff_not] at hb
   unfold okD
   rw[Bool.false_or,Bool.or_eq_true,decide_eq_true_eq,decide_eq_true_eq]
   omega
  ·rw[gx_f,Bool.not_eq_false'] at hb
   rw[hb]
   rw[Bool.or_eq_true,decide_eq_true_eq,decide_eq_true_eq] at hb
   unfold okD
   constructor
   ·intro _;left;omega
   ·intro _;rfl
 refine IFB.mk (λhb=>bad (.inr ?_)) (λhb _=> ?_)
 ·rw[Bool.or_eq_true,decide_eq_true_eq,decide_eq_true_eq] at hb
  unfold okD;omega
 have hok:okD day:=by
  rw[Bool.or_eq_false_iff,decide_eq_false_iff_not,decide_eq_false_iff_not] at hb
  unfold okD;omega
 have e:knownS l day=(isE (knownL l day),0):=by
  unfold knownS
  rw[if_neg]
  rintro (⟨i,hi,h⟩|h)
  ·exact hall i hi h
  ·exact h hok
 rw[e] at hp
 clear bad hall hb e
 refine LOOP.fuel2 (λ(z:Int) (b:List Ed)=>∃k:Nat,z=(k:Int)/\k<=l.length/\b=knownL (l.take k) day) (λz _=>l.length-Int.toNat z) ⟨0,rfl,Nat.zero_le _,rfl⟩ ?_
 rintro rec (z:Int) (b:List Ed) ⟨k,i1,i2,i3⟩ hrec
 subst i1
 have hbl:b.length<=k:=by
  rw[i3];unfold knownL
  exact Nat.le_trans (List.length_filter_le _ _) (by rw[List.length_take];omega)
 refine IFB.mk (λhb=> ?_) (λhb=> ?_)
 ·have hb:(k:Int)<l.length:=of_decide_eq_true hb
  have hk:k<l.length:=by omega
  refine JOIN.opq λ(J11:List Ed->Prop) hJ11=>⟨by omega,?_⟩
  have k11:∀b2:List Ed,b2=knownL (l.take (k+1)) day->J11 b2:=λb2 h=>by
   rw[hJ11]
   show rec (IntKind.i64.wrap ((k:Int)+1)) b2
   rw[wrapS (by omega)]
   exact hrec ((k+1:Nat):Int) _ ⟨k+1,rfl,hk,h⟩ (by show l.length-((k+1:Nat):Int).toNat<l.length-(k:Int).toNat;omega)
  have hs:=he _ (ix_mem (l:=l) (i:=(k:Int)) (by omega) (by omega))
  refine IFB.mk (λhc=>k11 _ ?_) (λhc=> ?_)
  ·have hc:day<(ix l (k:Int)).Known:=of_decide_eq_true hc
   rw[known_take hk,if_neg (by omega)];exact i3
  have hc:¬day<(ix l (k:Int)).Known:=of_decide_eq_false hc
  refine JOIN.opq λ(J20:Int->Int->Int->List Int->List api_Region->Prop) hJ20=>⟨by have:=hs.pars;omega,by have:=hs.regs;omega,?_⟩
  rw[hJ20]
  refine λ_=>LOOP.fuel2 (λ(u:Int) (c:List api_Region)=>∃j:Nat,u=(j:Int)/\j<=(ix l (k:Int)).5.length/\c=(ix l (k:Int)).5) (λu _=>(ix l (k:Int)).5.length-Int.toNat u) ⟨0,rfl,Nat.zero_le _,rfl⟩ ?_
  rintro rec2 (u:Int) (c:List api_Region) ⟨j,j1,j2,j3⟩ hrec2
  subst j1 j3
  refine IFB.mk (λhd=> ?_) (λhd=> ?_)
  ·have hd:(j:Int)<(ix l (k:Int)).5.length:=of_decide_eq_true hd
   have hj:j<(ix l (k:Int)).5.length:=by omega
   refine⟨by omega,?_,by omega,?_⟩
   ·have:=hs.rect _ (ix_mem (l:=(ix l (k:Int)).5) (i:=(j:Int)) (by omega) (by omega));omega
   ·rw[wrapS (by have:=hs.regs;omega)]
    have e:(ix l (k:Int)).5.set (j:Int).toNat {Rects:=(ix (ix l (k:Int)).5 (j:Int)).1}=(ix l (k:Int)).5:=by
     show List.set _ j (ix (ix l (k:Int)).5 (j:Int))=_
     rw[ix_lt hj];exact List.set_getElem_self hj
    rw[e]
    exact hrec2 ((j+1:Nat):Int) _ ⟨j+1,rfl,hj,rfl⟩ (by show (ix l (k:Int)).5.length-((j+1:Nat):Int).toNat<(ix l (k:Int)).5.length-(j:Int).toNat;omega)
  ·refine⟨by simp only[List.length_cons,List.length_nil];omega,k11 _ ?_⟩
   rw[known_take hk,if_pos (by omega),<-i3]
 have hb:¬(k:Int)<l.length:=of_decide_eq_false hb
 have hk:k=l.length:=by omega
 rw[hk,List.take_length] at i3
 rw[<-i3] at hp
 have hb19:b.length<=19:=by omega
 clear i3 i2 hrec hbl hb hk
 intro _
 refine LOOP.fuel3 (λ(z y:Int) (c:List Ed)=>z=20/\y=0/\c=b) (λ_ _ _=>0) ⟨rfl,rfl,rfl⟩ ?_
 rintro rec3 (z:Int) (y:Int) (c:List Ed) ⟨rfl,rfl,rfl⟩ _
 refine IFB.mk (λh=> ?_) (λ_=> ?_)
 ·have h:(20:Int)<=(c.length:Int):=of_decide_eq_true h
  omega
 refine LOOP.fuel2 (λ(z:Int) (d:List Ed)=>∃k:Nat,z=(k:Int)/\1<=k/\(k<=c.length\/k=1)/\d=isE (c.take k)++c.drop k) (λz _=>100-Int.toNat z) ⟨1,rfl,Nat.le_refl _,.inr rfl,?_⟩ ?_
 ·cases c with
  |nil=>rfl
  |cons x r=>rfl
 rintro rec4 (z:Int) (d:List Ed) ⟨k,i1,i2,i3,i4⟩ hrec4
 subst i1
 refine IFB.mk (λhk=> ?_) (λhk=> ?_)
 rotate_left
 ·have hk:¬(k:Int)<c.length:=of_decide_eq_false hk
  rw[List.take_of_length_le (by omega),List.drop_eq_nil_of_le (by omega),List.append_nil] at i4
  subst i4
  refine LOOP.fuel (λu=>u=((20:Int),())) (λ_=>0) rfl ?_
  rintro rec5 _ rfl _
  show IFB _ _ _
  refine IFB.mk (λhb=> ?_) (λ_=>hp)
  have hb:(20:Int)<c.length:=of_decide_eq_true hb
  omega
 have hk:(k:Int)<c.length:=of_decide_eq_true hk
 have hkl:k<c.length:=by omega
 have hsl:(isE (c.take k)).length=k:=by rw[isE_len,List.length_take];omega
 have hdk:c.drop k=ix c (k:Int)::c.drop (k+1):=by rw[ix_lt hkl];exact List.drop_eq_getElem_cons hkl
 have hnx:isE (c.take (k+1))=bub (isE (c.take k)) (ix c (k:Int)) k:=by rw[List.take_succ_eq_append_getElem hkl,isE_app,ix_lt hkl,hsl]
 rw[hdk] at i4
 generalize isE (c.take k)=S at *
 generalize ix c (k:Int)=x at *
 have hR:(c.drop (k+1)).length=c.length-(k+1):=List.length_drop ..
 generalize hRd:c.drop (k+1)=R at *
 refine LOOP.fuel2 (λ(z:Int) (d:List Ed)=>∃j:Nat,z=(j:Int)/\j<=k/\d=S.take j++x::(S.drop j++R)/\bub S x k=bub S x j) (λz _=>Int.toNat z) ⟨k,rfl,Nat.le_refl _,by rw[i4,List.take_of_length_le (by omega),List.drop_eq_nil_of_le (by omega)];rfl,rfl⟩ ?_
 rintro rec5 (z:Int) (d:List Ed) ⟨j,j1,j2,j3,j4⟩ hrec5
 subst j1
 have htk:(S.take j).length=j:=by rw[List.length_take];omega
 have hdl:d.length=c.length:=by
  rw[j3,List.length_append,List.length_cons,List.length_append,htk,List.length_drop];omega
 have done:(∀h0:0<j,¬x.Day<(ix S ((j-1:Nat):Int)).Day)->rec4 (IntKind.i64.wrap ((k:Int)+1)) d:=λh=>by
  rw[wrapS (by omega)]
  refine hrec4 ((k+1:Nat):Int) _ ⟨k+1,rfl,by omega,.inl hkl,?_⟩ (by show 100-((k+1:Nat):Int).toNat<100-(k:Int).toNat;omega)
  rw[hnx,j4,hRd,j3]
  cases j with
  |zero=>rfl
  |succ j=>
   have hn:¬x.Day<(ix S (j:Int)).Day:=h (by omega)
   unfold bub
   rw[if_neg hn,List.append_assoc];rfl
 have hw:∀h0:0<j,IntKind.i64.wrap ((j:Int)-1)=((j-1:Nat):Int):=λh0=>wrapP (by omega) h0
 refine⟨λh=>by omega,λh=> ?_,JOIN.opq λ(J32:Int->Prop) hJ32=> ?_⟩
 ·have h:(0:Int)<(j:Int):=of_decide_eq_true h
  rw[hw (by omega)];omega
 have k32:∀y:Int,(∀h0:0<j,(y<0↔x.Day<(ix S ((j-1:Nat):Int)).Day))->J32 y:=λy h=>by
  rw[hJ32]
  refine IFB.mk (λhb=> ?_) (λhb=>done λh0 h2=> ?_)
  ·rw[Bool.and_eq_true,decide_eq_true_eq,decide_eq_true_eq] at hb
   obtain⟨b1,b2⟩:=hb
   obtain⟨i,rfl⟩:∃i,j=i+1:=⟨j-1,by omega⟩
   have b2:=(h (by omega)).1 b2
   rw[show i+1-1=i by omega] at b2
   obtain⟨s1,s2⟩:=bub_step (S:=S) (R:=R) (x:=x) (j:=i) (by omega)
   have tl:(S.take i).length=i:=by rw[List.length_take];omega
   have e1:ix d (((i+1:Nat):Nat):Int)=x:=by
    rw[j3];exact at_mid htk.symm
   have e2:ix d (i:Int)=ix S (i:Int):=by
    rw[j3,s1];exact at_mid tl.symm
   rw[hw (by omega)]
   rw[show i+1-1=i by omega]
   refine⟨by omega,by omega,by omega,by rw[List.length_set];omega,?_⟩
   refine hrec5 (i:Int) _ ⟨i,rfl,by omega,?_,?_⟩ (by show (i:Int).toNat<((i+1:Nat):Int).toNat;omega)
   ·show (d.set (((i+1:Nat):Int)).toNat (ix d (i:Int))).set (i:Int).toNat (ix d ((i+1:Nat):Int))=_
    rw[e1,e2,j3,s1]
    have:=swap_at (P:=S.take i) (a:=ix S (i:Int)) (b:=x) (Q:=S.drop (i+1)++R)
    rw[tl] at this
    show ((S.take i++ix S (i:Int)::x::(S.drop (i+1)++R)).set (i+1) (ix S (i:Int))).set i x=_
    rw[this,s2]
   ·rw[j4]
    show (if x.Day<(ix S (i:Int)).Day then bub S x i else _)=_
    rw[if_pos b2]
  ·have:(decide ((0:Int)<(j:Int))&&decide (y<0))=true:=by
    rw[Bool.and_eq_true,decide_eq_true_eq,decide_eq_true_eq]
    exact⟨by omega,(h h0).2 h2⟩
   rw[this] at hb;cases hb
 refine IFB.mk (λhb=> ?_) (λhb=>k32 _ λh0=> ?_)
 ·have hb:(0:Int)<(j:Int):=of_decide_eq_true hb
  obtain⟨i,rfl⟩:∃i,j=i+1:=⟨j-1,by omega⟩
  obtain⟨s1,s2⟩:=bub_step (S:=S) (R:=R) (x:=x) (j:=i) (by omega)
  have tl:(S.take i).length=i:=by rw[List.length_take];omega
  have e1:ix d (((i+1:Nat):Nat):Int)=x:=by
   rw[j3];exact at_mid htk.symm
  have e2:ix d (i:Int)=ix S (i:Int):=by
   rw[j3,s1];exact at_mid tl.symm
  rw[hw (by omega)]
  rw[show i+1-1=i by omega,e1,e2]
  rw[show i+1-1=i by omega] at k32
  refine JOIN.opq λ(J34:Int->Prop) hJ34=> ?_
  have k34:∀y:Int,(y<0↔x.Day<(ix S (i:Int)).Day)->J34 y:=λy h=>by
   rw[hJ34]
   exact k32 y λ_=>h
  refine IFB.mk (λhc=>by simp at hc) (λ_=>IFB.mk (λhc=>by simp at hc) (λ_=>IFB.mk (λhc=>k34 _ ?_) (λhc=>IFB.mk (λhc2=>k34 _ ?_) (λhc2=>k34 _ ?_))))
  ·have hc:x.Day<(ix S (i:Int)).Day:=of_decide_eq_true hc
   omega
  ·have hc:¬x.Day<(ix S (i:Int)).Day:=of_decide_eq_false hc
   omega
  ·have hc:¬x.Day<(ix S (i:Int)).Day:=of_decide_eq_false hc
   omega
 ·have hb:¬(0:Int)<(j:Int):=of_decide_eq_false hb
  omega
variable {P:Program}
def intTyB (P:Program)(t:TypeId):Bool:=match P.underlying t with
 |some (.int _)=>true
 |_=>false
def k2Ty (P:Program)(t:TypeId):Bool:=match P.underlying t with
 |some (.struct fs)=>(match fs.toList with
  |[f,g]=>(f.name != "_")&&(g.name != "_")&&Nat.beq f.offset 0&&Nat.beq g.offset 1&&intTyB P f.type&&intTyB P g.type
  |_=>false)&&cmpTy P 10000 t==some [false,false]
 |_=>false
def k2V (a b:Int):Value:= .agg #[.int .i64 a,.int .i64 b]
theorem k2_eq (a b:Int):keyV [a,b]=k2V a b:=rfl
theorem intTyB_spec {t:TypeId}(h:intTyB P t=true):∃k,P.underlying t=some (.int k):=by
 unfold intTyB at h
 split at h
 ·exact⟨_,by assumption⟩
 ·cases h
theorem part_int {t:TypeId}(h:intTyB P t=true)(w:World)(cs:Array Value)(i:Nat)(v:Value)(hi:cs[i]? =some v):(part t cs i).run P w= .ok v w:=by
 obtain⟨k,hk⟩:=intTyB_spec h
 simp[part,isAgg,run_underlying hk,hi]
theorem check2 {t:TypeId}(h:k2Ty P t=true)(e:Bool)(n:Nat)(a b:Int)(w:World):(Instr.checkKey e (n+2) t (k2V a b)).run P w= .ok () w:=by
 unfold k2Ty at h
 split at h
 ·rename_i fs hu
  obtain⟨h,_⟩:=Bool.and_eq_true_iff.1 h
  split at h
  ·rename_i f g hfs
   simp only[Bool.and_eq_true,bne_iff_ne,ne_eq] at h
   obtain⟨⟨⟨⟨⟨h1,h2⟩,h3⟩,h4⟩,h5⟩,h6⟩:=h
   obtain⟨kf,hf⟩:=intTyB_spec h5
   obtain⟨kg,hg⟩:=intTyB_spec h6
   have c1:∀z:Int,(Instr.checkKey e (n+1) f.type (.int .i64 z)).run P w= .ok () w:=λz=>by
    unfold Instr.checkKey
    simp[run_underlying hf]
   have c2:∀z:Int,(Instr.checkKey e (n+1) g.type (.int .i64 z)).run P w= .ok () w:=λz=>by
    unfold Instr.checkKey
    simp[run_underlying hg]
   have p1:=part_int (P:=P) h5 w #[.int .i64 a,.int .i64 b] f.offset (.int .i64 a) (by rw[beq_eq h3];rfl)
   have p2:=part_int (P:=P) h6 w #[.int .i64 a,.int .i64 b] g.offset (.int .i64 b) (by rw[beq_eq h4];rfl)
   show (Instr.checkKey e ((n+1)+1) t (k2V a b)).run P w=_
   unfold Instr.checkKey
   simp only[Sem.run_bind,run_underlying hu,Result.andThen_ok,k2V]
   rw[<-Array.forIn_toList,hfs]
   simp only[List.forIn_cons,List.forIn_nil,Sem.run_bind,h1,h2,ne_eq,not_false_eq_true,if_true,Result.andThen_ok,p1,p2,c1,c2,Sem.run_pure]
  ·cases h
 ·cases h
theorem k2_struct {t:TypeId}(h:k2Ty P t=true):(∃fs,P.underlying t=some (.struct fs))/\cmpTy P 10000 t=some [false,false]:=by
 unfold k2Ty at h
 split at h
 ·rename_i fs hu
  obtain⟨_,h⟩:=Bool.and_eq_true_iff.1 h
  exact⟨⟨fs,hu⟩,by simpa using h⟩
 ·cases h
theorem eq2 {t:TypeId}(h:k2Ty P t=true)(a b a' b':Int)(w:World):(Op.equal t (k2V a b) (k2V a' b')).run P w= .ok (decide (a=a')&&(decide (b=b')&&true)) w:=by
 obtain⟨⟨fs,hu⟩,hc⟩:=k2_struct h
 have:=eq_run 10000 t [false,false] hc w [.v (.int .i64 a),.v (.int .i64 b)] [.v (.int .i64 a'),.v (.int .i64 b')] (decide (a=a')&&(decide (b=b')&&true)) (by simp[eqS])
 simp only[hu] at this
 exact this
def findW (a b:Int):List (List Int×SV)->Nat->Option (Nat×SV)
 |[],_=>none
 |([a',b'],s)::r,n=>bif decide (a=a')&&(decide (b=b')&&true) then some (n,s) else findW a b r (n+1)
 |_::r,n=>findW a b r (n+1)
def all2 (es:List (List Int×SV)):Bool:=es.all λe=>Nat.beq e.1.length 2
theorem ask2 {t:TypeId}(h:k2Ty P t=true){c:Cx}{w:World}(a b:Int):∀(ms:List MapEntry)(es:List (List Int×SV))(n:Nat),ms.length=es.length->all2 es=true->
 (∀(i:Nat)(k:List Int)(s:SV)(m:MapEntry),es[i]? =some (k,s)->ms[i]? =some m->m.key=keyV k/\SRel c w s m.val)->
 (∃(i:Nat)(s:SV)(m:MapEntry),findW a b es n=some (n+i,s)/\ms[i]? =some m/\m.key=k2V a b/\es[i]? =some ([a,b],s)/\SRel c w s m.val/\(Instr.findAsking t (k2V a b) ms n).run P w= .ok (some (n+i,m.val)) w)\/
 (findW a b es n=none/\(Instr.findAsking t (k2V a b) ms n).run P w= .ok none w)
 |[],[],n,_,_,_=> .inr ⟨rfl,by simp[Instr.findAsking]⟩
 |[],_::_,n,hl,_,_=>by simp at hl
 |_::_,[],n,hl,_,_=>by simp at hl
 |m::ms,(k,s)::es,n,hl,h2,hr=>by
  obtain⟨q1,q2⟩:=hr 0 k s m rfl rfl
  unfold all2 at h2
  simp only[List.all_cons,Bool.and_eq_true] at h2
  obtain⟨h2a,h2⟩:=h2
  match k,h2a with
  |[a',b'],_=>
  have he:(Op.equal t (k2V a b) m.key).run P w= .ok (decide (a=a')&&(decide (b=b')&&true)) w:=by
   rw[q1,k2_eq];exact eq2 h a b a' b' w
  cases hb:(decide (a=a')&&(decide (b=b')&&true)) with
  |true=>
   rw[hb] at he
   simp only[Bool.and_eq_true,decide_eq_true_eq] at hb
   obtain⟨e1,e2,_⟩:=hb
   subst e1 e2
   refine .inl ⟨0,s,m,?_,rfl,q1,rfl,q2,?_⟩
   ·unfold findW;simp
   ·unfold Instr.findAsking;simp[he]
  |false=>
   rw[hb] at he
   have hf:findW a b (([a',b'],s)::es) n=findW a b es (n+1):=by
    conv=>lhs;unfold findW
    rw[hb];rfl
   have hg:(Instr.findAsking t (k2V a b) (m::ms) n).run P w=(Instr.findAsking t (k2V a b) ms (n+1)).run P w:=by
    conv=>lhs;unfold Instr.findAsking
    simp[he]
   rw[hf,hg]
   rcases ask2 h a b ms es (n+1) (by simpa using hl) h2 (λi k s m hi hm=>hr (i+1) k s m (by simpa using hi) (by simpa using hm)) with⟨i,s',m',g1,g2,g3,g4,g5,g6⟩|⟨g1,g2⟩
   ·refine .inl ⟨i+1,s',m',?_,by simpa using g2,g3,by simpa using g4,g5,?_⟩
    ·rw[g1];congr 2;omega
    ·rw[g6];congr 3;omega
   ·exact .inr ⟨g1,g2⟩
theorem key2 {t:TypeId}(h:k2Ty P t=true){c:Cx}{w:World}(a b:Int)(ms:List MapEntry)(es:List (List Int×SV))(hl:ms.length=es.length)(h2:all2 es=true)
 (hr:∀(i:Nat)(k:List Int)(s:SV)(m:MapEntry),es[i]? =some (k,s)->ms[i]? =some m->m.key=keyV k/\SRel c w s m.val):
 (∃(i:Nat)(s:SV)(m:MapEntry),findW a b es 0=some (i,s)/\ms[i]? =some m/\m.key=k2V a b/\es[i]? =some ([a,b],s)/\SRel c w s m.val/\(Instr.findKey t (k2V a b) ms).run P w= .ok (some (i,m.val)) w)\/
 (findW a b es 0=none/\(Instr.findKey t (k2V a b) ms).run P w= .ok none w):=by
 obtain⟨⟨fs,hu⟩,_⟩:=k2_struct h
 have hk:(Instr.findKey t (k2V a b) ms).run P w=(Instr.findAsking t (k2V a b) ms 0).run P w:=by
  unfold Instr.findKey
  cases ms with
  |nil=>simp[run_underlying hu,Instr.findNow,Instr.findAsking]
  |cons m ms=>simp[run_underlying hu,Instr.findNow,Instr.sameNow]
 rw[hk]
 rcases ask2 (c:=c) h a b ms es 0 hl h2 hr with⟨i,s,m,g1,g2,g3,g4,g5,g6⟩|g
 ·refine .inl ⟨i,s,m,by rw[g1,Nat.zero_add],g2,g3,g4,g5,by rw[g6,Nat.zero_add]⟩
 ·exact .inr g
theorem OX.mwPut {ob:Obs}{U:Nat->Prop}{tp:Bool}{w:World}{c:Cx}(h:OX ob U tp w c){id b:Nat}{es es':List (List Int×SV)}{arr':Array MapEntry}(hid:ob id=some (.mw es))(hb:c.H id= .map (some b))(hsz:arr'.size=es'.length)
 (hr:∀(i:Nat)(k:List Int)(s:SV)(m:MapEntry),es'[i]? =some (k,s)->arr'[i]? =some m->m.key=keyV k/\m.born=i/\SRel c w s m.val) (hU:inUL U (es'.map (·.2))):
 OX (put ob id (some (.mw es'))) U tp {w with heap:=w.heap.setIfInBounds b (.map arr' es'.length)} c/\Tr ob U w c (put ob id (some (.mw es'))) U {w with heap:=w.heap.setIfInBounds b (.map arr' es'.length)} c:=by
 obtain⟨hUid,hUes,b',arr,e1,hF,hh,hal,hra⟩:=h.objs id _ hid
 rw[hb] at e1
 injection e1 with e1
 injection e1 with e1
 subst e1
 have hf:=h.fb id _ hid rfl b ((hF b).2 rfl)
 obtain⟨hw',hwo⟩:∃w',w'=({w with heap:=w.heap.setIfInBounds b (.map arr' es'.length)}:World):=⟨_,rfl⟩
 have hblk:∀k,k≠b->hw'.heap[k]? =w.heap[k]? :=λk hk=>by rw[hwo];exact Array.getElem?_setIfInBounds_ne (Ne.symm hk)
 have hnew:hw'.heap[b]? =some (.map arr' es'.length):=by
  rw[hwo]
  have:b<w.heap.size:=hf.1
  simp[this]
 have hsz':hw'.heap.size=w.heap.size:=by rw[hwo];simp
 rw[<-hwo]
 refine h.upd id (.mw es') (λi=>i≠id) (λ_ h=>h) hUid (put_same _ _ _) (λi y hi e=>⟨e,by rw[put_ne _ _ e] at hi;exact hi⟩) (λe=>e rfl) (λ_ _=>⟨rfl,rfl⟩) (λ_ _ h=>h) (λ_ _ h=> .inl h) (λb' o hb'=>by rw[hsz'];exact h.sb b' o hb') rfl (by rw[hwo]) (by rw[hwo]) (by rw[hwo]) (by rw[hsz'];exact Nat.le_refl _)
  (λk hk hn=>hblk k (λe=>hn id _ hid rfl (λe=>e rfl) (by rw[e];exact (hF b).2 rfl))) ?_ hU (λ_ k hk=> .inl ⟨id,_,hid,rfl,λe=>e rfl,hk⟩) (λ_ k hk=>by rw[hsz'];exact⟨(h.fb id _ hid rfl k hk).1,(h.fb id _ hid rfl k hk).2.1⟩)
 refine⟨b,arr',hb,hF,hnew,hsz,λi k s m hi hm=> ?_⟩
 obtain⟨q1,q2,q3⟩:=hr i k s m hi hm
 refine⟨q1,q2,SRel.mono (U:=U) (λ_ _ h=>h) (λb' o hs=>World.cell?_of_block (hblk b' (λe=>hf.2.1 o (e ▸ hs)))) (λ_ h=>h) (λ_ _=>rfl) q3 (inUL_get hU (by rw[List.getElem?_map,hi];rfl))⟩
def eMwMake (k:Nat):ERes:=⟨[],[],.os k,[(k,some (.mw []))],1⟩
theorem eMwMake_ok {o:Oper}{m:Mem}{ρ:Operand->SV}{k:Nat}{t:TypeId}(he:o.op= .makeMap t none):EffR P o m ρ k (eMwMake k):=by
 intro a w c hr hk hp K Q hK
 have hk':¬m.U k:=hk k (Nat.le_refl _) (by show k<k+1;omega)
 have hne:∀i,m.U i->i≠k:=λi hi e=>hk' (e ▸ hi)
 obtain⟨w',hw'⟩:∃w',w'=w.alloc (.map #[] 0):=⟨_,rfl⟩
 have hkeep:∀b,b<w.heap.size->w'.heap[b]? =w.heap[b]? :=λb hb=>by rw[hw'];exact heap_alloc_old w _ hb
 obtain⟨r1,r2⟩:=hr.ox.upd (ob':=put m.ob k (some (.mw []))) (U':=addU m.U k) (w':=w') (c':=⟨c.S,put c.H k (.map (some w.heap.size)),put c.F k (·=w.heap.size),c.T⟩) k (.mw []) (λi=>i≠k)
  (λ_ h=> .inl h) (.inr rfl) (put_same _ _ _) (λi y hi e=>by rw[put_ne _ _ e] at hi;exact⟨e,hi⟩) (λe=>e rfl) (λi hi=>⟨put_ne _ _ (hne i hi),put_ne _ _ (hne i hi)⟩) (λ_ _ h=>h) (λ_ _ h=> .inl h) (λb o' hb=>by rw[hw'];exact Nat.lt_of_lt_of_le (hr.ox.sb b o' hb) (by simp))
  rfl (by rw[hw'];rfl) (by rw[hw'];rfl) (by rw[hw'];rfl) (by rw[hw'];simp) (λb hb _=>hkeep b hb) (by
   refine⟨w.heap.size,#[],put_same _ _ _,λx=> ?_,by rw[hw'];exact heap_alloc_new w _,rfl,λi k s m hi=>by simp at hi⟩
   show put c.F k (·=w.heap.size) k x↔_
   rw[put_same]) trivial (λ_ b hb=>by
   have hb:put c.F k (·=w.heap.size) k b:=hb
   rw[put_same] at hb
   exact .inr (Nat.le_of_eq hb.symm)) (λ_ b hb=>by
   have hb:put c.F k (·=w.heap.size) k b:=hb
   rw[put_same] at hb
   subst hb
   rw[hw']
   exact⟨by simp,λo' ho=>by have:=hr.ox.sb _ _ ho;omega⟩)
 subst hw'
 refine wp_value (v:= .map (some w.heap.size)) (w':=w.alloc (.map #[] 0)) (by
  have hm:(Instr.makeMap t none).run P w= .ok (.map (some w.heap.size)) (w.alloc (.map #[] 0)):=rfl
  simp only[execOp,he,Option.map_none,Sem.run_bind,hm,Result.andThen_ok];rfl) (hK _ ⟨c.S,put c.H k (.map (some w.heap.size)),put c.F k (·=w.heap.size),c.T⟩ _ ?_ ?_ ?_ (.inr ⟨Nat.le_refl _,by show k<k+1;omega⟩) trivial)
 ·show OX (ovr m.ob [_]) (addN m.U k 1) _ _ _
  rw[ovr_cons,ovr_nil,addN_one];exact r1
 ·show Tr _ _ _ _ (ovr m.ob [_]) (addN m.U k 1) _ _
  rw[ovr_cons,ovr_nil,addN_one];exact r2
 ·have:=SRel.os (c:=⟨c.S,put c.H k (.map (some w.heap.size)),put c.F k (·=w.heap.size),c.T⟩) (w:=w.alloc (.map #[] 0)) k
  dsimp only at this
  rw[put_same] at this
  exact this
def mwOf (m:Mem):SV->Option (Nat×List (List Int×SV))
 | .os id=>match m.ob id with
  |some (.mw es)=>bif all2 es then some (id,es) else none
  |_=>none
 |_=>none
theorem mwOf_spec {m:Mem}{s:SV}{id:Nat}{es:List (List Int×SV)}(h:mwOf m s=some (id,es)):s= .os id/\m.ob id=some (.mw es)/\all2 es=true:=by
 unfold mwOf at h
 split at h
 ·rename_i id0
  split at h
  ·rename_i es0 hob
   cases hb:all2 es0 with
   |false=>rw[hb] at h;cases h
   |true=>
    rw[hb] at h
    injection h with h
    injection h with h1 h2
    subst h1 h2
    exact⟨rfl,hob,hb⟩
  ·cases h
 ·cases h
def k2Of:SV->Option (Int×Int)
 | .d (.agg [.v (.int .i64 a),.v (.int .i64 b)])=>some (a,b)
 | .agg [.d (.v (.int .i64 a)),.d (.v (.int .i64 b))]=>some (a,b)
 |_=>none
theorem k2Of_rel {s:SV}{a b:Int}(h:k2Of s=some (a,b)){c:Cx}{w:World}{u:Value}(hr:SRel c w s u):u=k2V a b:=by
 unfold k2Of at h
 split at h
 ·rename_i a' b'
  injection h with h
  injection h with h1 h2
  subst h1 h2
  have hr:=srel_d hr
  cases hr with
  |agg _ us hl h1 h=>
   match us,hl with
   |[u,v],_=>
    have e1:=rd_v (h 0 _ u rfl rfl)
    have e2:=rd_v (h 1 _ v rfl rfl)
    subst e1 e2
    rfl
 ·rename_i a' b'
  injection h with h
  injection h with h1 h2
  subst h1 h2
  obtain⟨us,rfl,hl,_,h⟩:=srel_agg hr
  match us,hl with
  |[u,v],_=>
   have e1:=srel_v (h 0 _ u rfl rfl)
   have e2:=srel_v (h 1 _ v rfl rfl)
   subst e1 e2
   rfl
 ·cases h
def mapTy2 (P:Program)(t:TypeId):Option TypeId:=match P.underlying t with
 |some (.map kt et)=>bif k2Ty P kt then some et else none
 |_=>none
theorem mapTy2_spec {t et:TypeId}(h:mapTy2 P t=some et):∃kt,P.underlying t=some (.map kt et)/\k2Ty P kt=true:=by
 unfold mapTy2 at h
 split at h
 ·rename_i kt et' hu
  cases hb:k2Ty P kt with
  |false=>rw[hb] at h;cases h
  |true=>
   rw[hb] at h
   injection h with h
   subst h
   exact⟨kt,hu,hb⟩
 ·cases h
def nilZ (P:Program)(t:TypeId):Bool:=match P.info? t with
 |some i=>match i.zero with
  |some v=>isNil v
  |none=>false
 |none=>false
theorem nilZ_run {t:TypeId}(h:nilZ P t=true)(w:World):(zeroValue t).run P w= .ok (.slice none 0 0) w:=by
 unfold nilZ at h
 split at h
 ·rename_i i hi
  split at h
  ·rename_i v hv
   have:=isNil_eq h
   subst this
   simp[zeroValue,typeInfo,hi,hv]
  ·cases h
 ·cases h
def nilW:SV:= .d (.v (.slice none 0 0))
def eMwLook (P:Program)(m:Mem)(t:TypeId)(x k:SV):Option ERes:=match mwOf m x,k2Of k,mapTy2 P t with
 |some (_,es),some (a,b),some et=>match findW a b es 0 with
  |some (_,s)=>some ⟨[],[],s,[],0⟩
  |none=>bif nilZ P et then some ⟨[],[],nilW,[],0⟩ else none
 |_,_,_=>none
theorem mw_at {m:Mem}{ρ:Operand->SV}{a:Act}{w:World}{c:Cx}(hr:RelsC m ρ a w c){x:Operand}{id:Nat}{es:List (List Int×SV)}(h:mwOf m (ρ x)=some (id,es)):
 ∃b arr,a.eval x= .map (some b)/\c.H id= .map (some b)/\m.ob id=some (.mw es)/\m.U id/\inUL m.U (es.map (·.2))/\all2 es=true/\(getObj b).run P w= .ok (.map arr es.length) w/\w.heap[b]? =some (.map arr es.length)/\arr.size=es.length/\
  ∀(i:Nat)(k:List Int)(s:SV)(m:MapEntry),es[i]? =some (k,s)->arr[i]? =some m->m.key=keyV k/\m.born=i/\SRel c w s m.val:=by
 obtain⟨h1,h2,h3⟩:=mwOf_spec h
 have hx:=hr.op x
 rw[h1] at hx
 have hx:=srel_os hx
 obtain⟨u1,u2,b,arr,q1,q2,q3,q4,q5⟩:=hr.ox.objs id _ h2
 exact⟨b,arr,hx.trans q1,q1,h2,u1,u2,h3,by simp[getObj,Sem.run,q3],q3,q4,q5⟩
theorem eMwLook_ok {o:Oper}{m:Mem}{ρ:Operand->SV}{k:Nat}{t:TypeId}{x y:Operand}{R:ERes}(he:o.op= .lookup t x y false)(h:eMwLook P m t (ρ x) (ρ y)=some R):EffR P o m ρ k R:=by
 unfold eMwLook at h
 split at h
 rotate_left
 ·cases h
 rename_i id es ka kb et hm hk2 ht
 obtain⟨kt,hu,hkt⟩:=mapTy2_spec ht
 have main:∀(r:SV),(match findW ka kb es 0 with|some (_,s)=>s=r|none=>nilZ P et=true/\r=nilW)->R=⟨[],[],r,[],0⟩->EffR P o m ρ k R:=by
  intro r hfr hR
  refine pure_ok (R':=⟨[],[],r⟩) hR λa w c hr _=> ?_
  obtain⟨b,arr,g1,g2,g3,g4,g5,g6,g7,g8,g9,g10⟩:=mw_at (P:=P) hr hm
  have gk:=k2Of_rel hk2 (hr.op y)
  have hcb:∀q,(Instr.checkKey q 10000 kt (k2V ka kb)).run P w= .ok () w:=λq=>check2 hkt q 9998 ka kb w
  rcases key2 (c:=c) (w:=w) hkt ka kb arr.toList es (by simpa using g9) g6 (λi k s m hi hm=>⟨(g10 i k s m hi (by simpa using hm)).1,(g10 i k s m hi (by simpa using hm)).2.2⟩) with⟨i,s,e,q1,q2,q3,q4,q5,q6⟩|⟨q1,q2⟩
  ·rw[q1] at hfr
   have hfr:s=r:=hfr
   subst hfr
   exact⟨e.val,by simp[execOp,he,Instr.lookup,run_underlying hu,g1,gk,g7,hcb,q6],q5,inUL_get g5 (by rw[List.getElem?_map,q4];rfl),trivial⟩
  ·rw[q1] at hfr
   obtain⟨hz,rfl⟩:=hfr
   exact⟨.slice none 0 0,by simp[execOp,he,Instr.lookup,run_underlying hu,g1,gk,g7,hcb,q2,nilZ_run hz],v_srel _,trivial,trivial⟩
 split at h
 ·rename_i i s hf
  injection h with h
  exact main s (by rw[hf]) h.symm
 ·rename_i hf
  cases hz:nilZ P et with
  |false=>rw[hz] at h;cases h
  |true=>
   rw[hz] at h
   injection h with h
   exact main nilW (by rw[hf];exact⟨hz,rfl⟩) h.symm
def okW:SV->Bool
 | .os _=>true
 | .d (.v _)=>true
 | .d (.sl _ _)=>true
 |_=>false
def eMwUpd (P:Program)(m:Mem)(t:TypeId)(x k y:SV):Option ERes:=match mwOf m x,k2Of k,mapTy2 P t with
 |some (id,es),some (a,b),some _=>bif okW y then match findW a b es 0 with
  |some (i,_)=>some ⟨[],[],.un,[(id,some (.mw (es.set i ([a,b],y))))],0⟩
  |none=>some ⟨[],[],.un,[(id,some (.mw (es++[([a,b],y)])))],0⟩ else none
 |_,_,_=>none
theorem keyStays (a b:Int)(w:World):(Instr.keyThatStays (k2V a b) (k2V a b)).run P w= .ok (k2V a b) w:=by
 have:Instr.sameBits 10000 (k2V a b) (k2V a b)=true:=by
  show Instr.sameBits (9998+1+1) _ _=true
  simp[k2V,Instr.sameBits]
 simp[Instr.keyThatStays,this]
theorem mw_set {c:Cx}{w:World}{es:List (List Int×SV)}{arr:Array MapEntry}(hl:arr.size=es.length)(hr:∀(i:Nat)(k:List Int)(s:SV)(m:MapEntry),es[i]? =some (k,s)->arr[i]? =some m->m.key=keyV k/\m.born=i/\SRel c w s m.val)
 {i:Nat} {k:List Int} {s0 s:SV} {v:Value} (hi:es[i]? =some (k,s0)) (hv:SRel c w s v):
 ∀(q:Nat)(k':List Int)(s':SV)(m':MapEntry),(es.set i (k,s))[q]? =some (k',s')->(arr.modify i λe=>{e with val:=v})[q]? =some m'->m'.key=keyV k'/\m'.born=q/\SRel c w s' m'.val:=by
 intro q k' s' m' hq hm
 rw[Array.getElem?_modify] at hm
 rw[List.getElem?_set] at hq
 by_cases e:i=q
 ·subst e
  have hil:i<es.length:=(List.getElem?_eq_some_iff.1 hi).1
  rw[if_pos rfl,if_pos hil] at hq
  rw[if_pos rfl] at hm
  injection hq with hq
  injection hq with e1 e2
  subst e1 e2
  rw[Option.map_eq_some_iff] at hm
  obtain⟨m0,h0,rfl⟩:=hm
  obtain⟨q1,q2,_⟩:=hr i k s0 m0 hi h0
  exact⟨q1,q2,hv⟩
 ·rw[if_neg e] at hq hm
  exact hr q k' s' m' hq hm
theorem mw_push {c:Cx}{w:World}{es:List (List Int×SV)}{arr:Array MapEntry}(hl:arr.size=es.length)(hr:∀(i:Nat)(k:List Int)(s:SV)(m:MapEntry),es[i]? =some (k,s)->arr[i]? =some m->m.key=keyV k/\m.born=i/\SRel c w s m.val)
 {k:List Int} {s:SV} {v:Value} (hv:SRel c w s v):
 ∀(q:Nat)(k':List Int)(s':SV)(m':MapEntry),(es++[(k,s)])[q]? =some (k',s')->(arr.push {key:=keyV k,val:=v,born:=es.length})[q]? =some m'->m'.key=keyV k'/\m'.born=q/\SRel c w s' m'.val:=by
 intro q k' s' m' hq hm
 rw[Array.getElem?_push] at hm
 by_cases e:q=es.length
 ·subst e
  rw[if_pos hl.symm] at hm
  rw[List.getElem?_append_right (Nat.le_refl _),Nat.sub_self] at hq
  simp at hq
  obtain⟨rfl,rfl⟩:=hq
  injection hm with hm
  subst hm
  exact⟨rfl,rfl,hv⟩
 ·rw[if_neg (by omega)] at hm
  have hql:q<es.length:=by
   have:=(Array.getElem?_eq_some_iff.1 hm).1
   omega
  rw[List.getElem?_append_left hql] at hq
  exact hr q k' s' m' hq hm
theorem inUL_app {U:Nat->Prop}{l r:List SV}(h1:inUL U l)(h2:inUL U r):inUL U (l++r):=inUL_of λi s hs=>by
 by_cases e:i<l.length
 ·rw[List.getElem?_append_left e] at hs;exact inUL_get h1 hs
 ·rw[List.getElem?_append_right (by omega)] at hs;exact inUL_get h2 hs
theorem inUL_setW {U:Nat->Prop}{es:List (List Int×SV)}{i:Nat}{k:List Int}{s:SV}(h1:inUL U (es.map (·.2)))(h2:s.inU U):inUL U ((es.set i (k,s)).map (·.2)):=inUL_of λq x hx=>by
 rw[List.getElem?_map,List.getElem?_set] at hx
 split at hx
 ·split at hx
  ·simp at hx;subst hx;exact h2
  ·cases hx
 ·exact inUL_get h1 (by rw[List.getElem?_map];exact hx)
theorem fin0 {m:Mem}{U:Nat->Prop}(id:Nat)(x:Ob):ovr m.ob [(id,some x)]=put m.ob id (some x):=by rw[ovr_cons,ovr_nil]
theorem eMwUpd_ok {o:Oper}{m:Mem}{ρ:Operand->SV}{k:Nat}{t:TypeId}{x z y:Operand}{R:ERes}(he:o.op= .mapUpdate t x z y)(h:eMwUpd P m t (ρ x) (ρ z) (ρ y)=some R):EffR P o m ρ k R:=by
 intro a w c hr hk hp K Q hK
 unfold eMwUpd at h
 split at h
 rotate_left
 ·cases h
 rename_i id es ka kb et hm hk2 ht
 obtain⟨kt,hu,hkt⟩:=mapTy2_spec ht
 cases hy:okW (ρ y) with
 |false=>rw[hy] at h;cases h
 |true=>
 rw[hy] at h
 simp only[cond_true] at h
 obtain⟨b,arr,g1,g2,g3,g4,g5,g6,g7,g8,g9,g10⟩:=mw_at (P:=P) hr hm
 have gk:=k2Of_rel hk2 (hr.op z)
 have hcb:∀q,(Instr.checkKey q 10000 kt (k2V ka kb)).run P w= .ok () w:=λq=>check2 hkt q 9998 ka kb w
 have hset:∀ob',(setObj b ob').run P w= .ok () {w with heap:=w.heap.setIfInBounds b ob'}:=λob'=>by simp[setObj,Sem.run,g8]
 rcases key2 (c:=c) (w:=w) hkt ka kb arr.toList es (by simpa using g9) g6 (λi k s m hi hm=>⟨(g10 i k s m hi (by simpa using hm)).1,(g10 i k s m hi (by simpa using hm)).2.2⟩) with⟨i,s,e,q1,q2,q3,q4,q5,q6⟩|⟨q1,q2⟩
 ·rw[q1] at h
  injection h with h
  subst h
  have q2':arr[i]? =some e:=by simpa using q2
  obtain⟨r1,r2⟩:=hr.ox.mwPut (es':=es.set i ([ka,kb],ρ y)) (arr':=arr.modify i λe=>{e with val:=a.eval y}) g3 g2 (by simp[g9]) (mw_set g9 g10 q4 (hr.op y)) (inUL_setW g5 (hr.iu y))
  have hl:(es.set i ([ka,kb],ρ y)).length=es.length:=List.length_set ..
  rw[hl] at r1 r2
  have hmod:(arr.modify i λe=>{e with key:=k2V ka kb,val:=a.eval y})=arr.modify i λe=>{e with val:=a.eval y}:=by
   apply Array.ext_getElem?
   intro j
   rw[Array.getElem?_modify,Array.getElem?_modify]
   by_cases ej:i=j
   ·subst ej
    rw[if_pos rfl,if_pos rfl,q2']
    simp[<-q3]
   ·rw[if_neg ej,if_neg ej]
  refine wp_skip' (w':={w with heap:=w.heap.setIfInBounds b (.map (arr.modify i λe=>{e with val:=a.eval y}) es.length)}) (by simp[execOp,he,Instr.mapUpdate,run_underlying hu,g1,gk,g7,hcb,q6,q2',q3,keyStays,hset,hmod]) (hK _ c _ ?_ ?_ (.un _) trivial trivial)
  ·show OX (ovr m.ob [_]) (addN m.U k 0) _ _ _
   rw[fin0 (U:=m.U),addN_zero];exact r1
  ·show Tr _ _ _ _ (ovr m.ob [_]) (addN m.U k 0) _ _
   rw[fin0 (U:=m.U),addN_zero];exact r2
 ·rw[q1] at h
  injection h with h
  subst h
  have hps:=mw_push (k:=[ka,kb]) g9 g10 (hr.op y)
  rw[k2_eq] at hps
  obtain⟨r1,r2⟩:=hr.ox.mwPut (es':=es++[([ka,kb],ρ y)]) (arr':=arr.push {key:=k2V ka kb,val:=a.eval y,born:=es.length}) g3 g2 (by simp[g9]) hps (by
   rw[List.map_append]
   exact inUL_app g5 ⟨hr.iu y,trivial⟩)
  have hl:(es++[([ka,kb],ρ y)]).length=es.length+1:=by simp
  rw[hl] at r1 r2
  refine wp_skip' (w':={w with heap:=w.heap.setIfInBounds b (.map (arr.push {key:=k2V ka kb,val:=a.eval y,born:=es.length}) (es.length+1))}) (by simp[execOp,he,Instr.mapUpdate,run_underlying hu,g1,gk,g7,hcb,q2,hset]) (hK _ c _ ?_ ?_ (.un _) trivial trivial)
  ·show OX (ovr m.ob [_]) (addN m.U k 0) _ _ _
   rw[fin0 (U:=m.U),addN_zero];exact r1
  ·show Tr _ _ _ _ (ovr m.ob [_]) (addN m.U k 0) _ _
   rw[fin0 (U:=m.U),addN_zero];exact r2
def stampW (i:Nat):SV:= .d (.v (.int .i64 (i:Int)))
def eMwEnt (P:Program)(m:Mem)(t:TypeId)(x k:SV):Option ERes:=match mwOf m x,k2Of k,mapTy2 P t with
 |some (id,es),some (a,b),some et=>match findW a b es 0 with
  |some (i,s)=>some ⟨[],[],.tup [s,stampW i],[(id,some (.mw es))],0⟩
  |none=>bif nilZ P et then some ⟨[],[],.tup [nilW,stampW es.length],[(id,some (.mw (es++[([a,b],nilW)])))],0⟩ else none
 |_,_,_=>none
theorem eMwEnt_ok {o:Oper}{m:Mem}{ρ:Operand->SV}{k:Nat}{t:TypeId}{x z:Operand}{R:ERes}(he:o.op= .mapEntry t x z)(h:eMwEnt P m t (ρ x) (ρ z)=some R):EffR P o m ρ k R:=by
 intro a w c hr hk hp K Q hK
 unfold eMwEnt at h
 split at h
 rotate_left
 ·cases h
 rename_i id es ka kb et hm hk2 ht
 obtain⟨kt,hu,hkt⟩:=mapTy2_spec ht
 obtain⟨b,arr,g1,g2,g3,g4,g5,g6,g7,g8,g9,g10⟩:=mw_at (P:=P) hr hm
 have gk:=k2Of_rel hk2 (hr.op z)
 have hcb:∀q,(Instr.checkKey q 10000 kt (k2V ka kb)).run P w= .ok () w:=λq=>check2 hkt q 9998 ka kb w
 have hset:∀ob',(setObj b ob').run P w= .ok () {w with heap:=w.heap.setIfInBounds b ob'}:=λob'=>by simp[setObj,Sem.run,g8]
 have tup:∀{s:SV}{u:Value}{n:Nat}{w':World},SRel c w' s u->SRel c w' (.tup [s,stampW n]) (.tuple #[u,.int .i64 (n:Int)]):=λ{s u n w'} hs=> .tup _ [u,.int .i64 (n:Int)] rfl λi s' u' h1 h2=>by
  match i,h1,h2 with
  |0,h1,h2=>cases h1;cases h2;exact hs
  |1,h1,h2=>cases h1;cases h2;exact v_srel _
  |i+2,h1,h2=>cases h1
 rcases key2 (c:=c) (w:=w) hkt ka kb arr.toList es (by simpa using g9) g6 (λi k s m hi hm=>⟨(g10 i k s m hi (by simpa using hm)).1,(g10 i k s m hi (by simpa using hm)).2.2⟩) with⟨i,s,e,q1,q2,q3,q4,q5,q6⟩|⟨q1,q2⟩
 ·rw[q1] at h
  injection h with h
  subst h
  have q2':arr[i]? =some e:=by simpa using q2
  have hborn:e.born=i:=(g10 i _ s e q4 q2').2.1
  obtain⟨r1,r2⟩:=hr.ox.mwPut (es':=es) (arr':=arr) g3 g2 g9 g10 g5
  have hmod:(arr.modify i λe=>{e with key:=k2V ka kb})=arr:=by
   apply Array.ext_getElem?
   intro j
   rw[Array.getElem?_modify]
   by_cases ej:i=j
   ·subst ej
    rw[if_pos rfl,q2']
    simp[<-q3]
   ·rw[if_neg ej]
  have hsU:s.inU m.U:=inUL_get g5 (by rw[List.getElem?_map,q4];rfl)
  refine wp_value (v:= .tuple #[e.val,.int .i64 (i:Int)]) (w':={w with heap:=w.heap.setIfInBounds b (.map arr es.length)}) (by simp[execOp,he,Instr.mapEntry,run_underlying hu,g1,gk,g7,hcb,q6,q2',q3,keyStays,hset,hmod,hborn,goInt]) (hK _ c _ ?_ ?_ (tup (r2.srel hr.ox q5 hsU)) ⟨SV.inU_mono (λ_ h=> .inl h) _ hsU,trivial,trivial⟩ trivial)
  ·show OX (ovr m.ob [_]) (addN m.U k 0) _ _ _
   rw[fin0 (U:=m.U),addN_zero];exact r1
  ·show Tr _ _ _ _ (ovr m.ob [_]) (addN m.U k 0) _ _
   rw[fin0 (U:=m.U),addN_zero];exact r2
 ·rw[q1] at h
  cases hz:nilZ P et with
  |false=>rw[hz] at h;cases h
  |true=>
  rw[hz] at h
  injection h with h
  subst h
  have hps:=mw_push (k:=[ka,kb]) (s:=nilW) (v:= .slice none 0 0) g9 g10 (v_srel _)
  rw[k2_eq] at hps
  obtain⟨r1,r2⟩:=hr.ox.mwPut (es':=es++[([ka,kb],nilW)]) (arr':=arr.push {key:=k2V ka kb,val:= .slice none 0 0,born:=es.length}) g3 g2 (by simp[g9]) hps (by
   rw[List.map_append]
   exact inUL_app g5 ⟨trivial,trivial⟩)
  have hl:(es++[([ka,kb],nilW)]).length=es.length+1:=by simp
  rw[hl] at r1 r2
  refine wp_value (v:= .tuple #[.slice none 0 0,.int .i64 (es.length:Int)]) (w':={w with heap:=w.heap.setIfInBounds b (.map (arr.push {key:=k2V ka kb,val:= .slice none 0 0,born:=es.length}) (es.length+1))}) (by simp[execOp,he,Instr.mapEntry,run_underlying hu,g1,gk,g7,hcb,q2,hset,nilZ_run hz,goInt]) (hK _ c _ ?_ ?_ (tup (v_srel _)) ⟨trivial,trivial,trivial⟩ trivial)
  ·show OX (ovr m.ob [_]) (addN m.U k 0) _ _ _
   rw[fin0 (U:=m.U),addN_zero];exact r1
  ·show Tr _ _ _ _ (ovr m.ob [_]) (addN m.U k 0) _ _
   rw[fin0 (U:=m.U),addN_zero];exact r2
def eMwES (m:Mem)(x z y:SV):Option ERes:=match mwOf m x,z with
 |some (id,es),.d (.v (.int .i64 (.ofNat i)))=>bif okW y then match es[i]? with
  |some (k,_)=>some ⟨[],[],.un,[(id,some (.mw (es.set i (k,y))))],0⟩
  |none=>none else none
 |_,_=>none
theorem eMwES_ok {o:Oper}{m:Mem}{ρ:Operand->SV}{k:Nat}{t:TypeId}{x z y:Operand}{R:ERes}(he:o.op= .entryStore t x z y)(h:eMwES m (ρ x) (ρ z) (ρ y)=some R):EffR P o m ρ k R:=by
 intro a w c hr hk hp K Q hK
 unfold eMwES at h
 split at h
 rotate_left
 ·cases h
 rename_i id es i hm hz
 cases hy:okW (ρ y) with
 |false=>rw[hy] at h;cases h
 |true=>
 rw[hy] at h
 simp only[cond_true] at h
 split at h
 rotate_left
 ·cases h
 rename_i ky s0 hi
 injection h with h
 subst h
 obtain⟨b,arr,g1,g2,g3,g4,g5,g6,g7,g8,g9,g10⟩:=mw_at (P:=P) hr hm
 have gz:a.eval z= .int .i64 (Int.ofNat i):=by
  have:=hr.op z
  rw[hz] at this
  exact srel_v this
 have hil:i<es.length:=(List.getElem?_eq_some_iff.1 hi).1
 have hset:∀ob',(setObj b ob').run P w= .ok () {w with heap:=w.heap.setIfInBounds b ob'}:=λob'=>by simp[setObj,Sem.run,g8]
 have hborn:∀(j:Nat)(e:MapEntry),arr[j]? =some e->e.born=j:=λj e he=>by
  have hj:j<es.length:=by have:=(Array.getElem?_eq_some_iff.1 he).1;omega
  exact (g10 j es[j].1 es[j].2 e (List.getElem?_eq_getElem hj) he).2.1
 have hfi:arr.findIdx? (λ(e:MapEntry)=>(e.born:Int)==Int.ofNat i)=some i:=by
  rw[Array.findIdx?_eq_some_iff_getElem]
  refine⟨by omega,?_,λj hj=> ?_⟩
  ·have:=hborn i arr[i] (Array.getElem?_eq_getElem (by omega))
   rw[this];simp
  ·have:=hborn j arr[j] (Array.getElem?_eq_getElem (by omega))
   rw[this]
   simp
   omega
 obtain⟨r1,r2⟩:=hr.ox.mwPut (es':=es.set i (ky,ρ y)) (arr':=arr.modify i λe=>{e with val:=a.eval y}) g3 g2 (by simp[g9]) (mw_set g9 g10 hi (hr.op y)) (inUL_setW g5 (hr.iu y))
 have hl:(es.set i (ky,ρ y)).length=es.length:=List.length_set ..
 rw[hl] at r1 r2
 refine wp_skip' (w':={w with heap:=w.heap.setIfInBounds b (.map (arr.modify i λe=>{e with val:=a.eval y}) es.length)}) (by
  have hai:(asInt (a.eval z)).run P w= .ok (Int.ofNat i) w:=by rw[gz];simp[asInt,asIntOf]
  simp only[execOp,he,Instr.entryStore,g1,Sem.run_bind,g7,Result.andThen_ok,hai,hfi,hset]
  rfl) (hK _ c _ ?_ ?_ (.un _) trivial trivial)
 ·show OX (ovr m.ob [_]) (addN m.U k 0) _ _ _
  rw[fin0 (U:=m.U),addN_zero];exact r1
 ·show Tr _ _ _ _ (ovr m.ob [_]) (addN m.U k 0) _ _
  rw[fin0 (U:=m.U),addN_zero];exact r2
def eMkSl (P:Program)(τ:TypeId->Option Ty)(k:Nat)(t:TypeId)(x y:SV):Option ERes:=match x,y with
 | .d (.v (.int .i64 (.ofNat n))),.d (.v (.int .i64 (.ofNat n')))=>match elemOf P t with
  |some e=>match τ e,zeroOf P e,P.info? e with
   |some ty,some zs,some i=>match dec ty (zs.map D.v) with
    |some y=>bif Nat.beq n n'&&Nat.beq (tsz P e) (size ty)&&Nat.ble 1 (size ty)&&Nat.ble n 100000&&Nat.ble i.bytes 1000&&Nat.beq zs.length (size ty) then some ⟨[],[],.os k,[(k,some (.row e ty (List.replicate n y)))],1⟩ else none
    |none=>none
   |_,_,_=>none
  |none=>none
 |_,_=>none
theorem run_mkSl {t e:TypeId}{i:TypeInfo}{z:Value}(hu:P.underlying t=some (.slice e))(hi:P.info? e=some i)(hz:i.zero=some z){n:Nat}(hn:n<=100000)(hb:i.bytes<=1000)(hs:z.cells.size=i.size)(h1:1<=i.size)(w:World):
 ∃arr:Array Value,(Instr.makeSlice t (.int .i64 (n:Int)) (.int .i64 (n:Int))).run P w= .ok (.slice (some ⟨w.heap.size,0,none⟩) n n) (w.alloc (.cells arr e))/\arr.size=n * i.size/\∀(q j:Nat),q<n->j<i.size->arr[q * i.size+j]? =z.cells[j]? :=by
 have hw:IntKind.i64.wrap (n:Int)=n:=IntWalk.i64_in _ (by omega)
 have hmul:i.bytes * n<=1000 * 100000:=Nat.mul_le_mul hb hn
 have hbn:((i.bytes:Int) * (n:Int))<=100000000:=by
  have:((i.bytes * n:Nat):Int)<=((1000 * 100000:Nat):Int):=Int.ofNat_le.2 hmul
  rw[Int.natCast_mul] at this
  simpa using this
 have hroom:¬(n * i.bytes>roomBytes):=by
  rw[Nat.mul_comm]
  unfold roomBytes
  omega
 refine⟨(Array.range (n * i.size)).map (λq=>(if n * i.size=0 then (#[]:Array Value) else z.cells)[q % (if n * i.size=0 then (#[]:Array Value) else z.cells).size]!),?_,by simp,λq j hq hj=> ?_⟩
 ·have hlt:¬((281474976710656:Int)<(i.bytes:Int) * (n:Int)):=by omega
  by_cases h0:n * i.size=0
  ·simp[Instr.makeSlice,run_underlying hu,typeInfo,hi,asInt,asIntOf,hw,hlt,askRoom,sizeOf,h0,Go.newRow]
   exact λhh=>absurd hh (by omega)
  ·simp[Instr.makeSlice,run_underlying hu,typeInfo,hi,asInt,asIntOf,hw,hlt,askRoom,sizeOf,h0,zeroValue,hz,Go.newRow]
   exact λhh=>absurd hh (by omega)
 ·have hpos:q * i.size+j<n * i.size:=by
   have a1:(q+1) * i.size<=n * i.size:=Nat.mul_le_mul_right _ (by omega)
   have a2:(q+1) * i.size=q * i.size+i.size:=Nat.succ_mul _ _
   omega
  have h0:¬n * i.size=0:=by omega
  rw[Array.getElem?_map,Array.getElem?_range,if_pos hpos]
  simp only[Option.map_some,if_neg h0,hs]
  have:(q * i.size+j) % i.size=j:=by rw[Nat.mul_comm,Nat.mul_add_mod];exact Nat.mod_eq_of_lt hj
  rw[this]
  have hjl:j<z.cells.size:=by omega
  rw[getElem!_pos z.cells j hjl,Array.getElem?_eq_getElem hjl]
theorem eMkSl_ok {τ:TypeId->Option Ty}{o:Oper}{m:Mem}{ρ:Operand->SV}{k:Nat}{t:TypeId}{x y:Operand}{R:ERes}(he:o.op= .makeSlice t x y)(h:eMkSl P τ k t (ρ x) (ρ y)=some R):EffR P o m ρ k R:=by
 intro a w c hr hk hp K Q hK
 unfold eMkSl at h
 split at h
 rotate_left
 ·cases h
 rename_i n n' hx hy
 split at h
 rotate_left
 ·cases h
 rename_i e hel
 split at h
 rotate_left
 ·cases h
 rename_i ty zs i hty hzs hi
 split at h
 rotate_left
 ·cases h
 rename_i yv hdec
 generalize hck:(_&&_)=ck at h
 cases ck with
 |false=>cases h
 |true=>
 injection h with h
 subst h
 simp only[Bool.and_eq_true] at hck
 obtain⟨⟨⟨⟨⟨b0,b1⟩,b2⟩,b3⟩,b4⟩,b5⟩:=hck
 have b0:=beq_eq b0
 have b1:=beq_eq b1
 have b2:=Nat.le_of_ble_eq_true b2
 have b3:=Nat.le_of_ble_eq_true b3
 have b4:=Nat.le_of_ble_eq_true b4
 have b5:=beq_eq b5
 subst b0
 obtain⟨i1,hu,hi1,hs1⟩:=elemOf_spec hel
 rw[hi] at hi1
 injection hi1 with hi1
 subst hi1
 obtain⟨i2,z,hi2,hz,hzc,h1⟩:=zeroOf_spec hzs
 rw[hi] at hi2
 injection hi2 with hi2
 subst hi2
 have hsz:i.size=size ty:=hs1.trans b1
 have hzl:z.cells.size=i.size:=by rw[hsz,<-b5,<-hzc];simp
 have ex:a.eval x= .int .i64 (n:Int):=by
  have:=hr.op x
  rw[hx] at this
  exact srel_v this
 have ey:a.eval y= .int .i64 (n:Int):=by
  have:=hr.op y
  rw[hy] at this
  exact srel_v this
 obtain⟨arr,r1,r2,r3⟩:=run_mkSl (P:=P) hu hi hz b3 b4 hzl (by omega) w
 obtain⟨y1,y2⟩:=dec_rd hdec
 have hk':¬m.U k:=hk k (Nat.le_refl _) (by show k<k+1;omega)
 have hne:∀i,m.U i->i≠k:=λi hi e=>hk' (e ▸ hi)
 obtain⟨w',hw'⟩:∃w',w'=w.alloc (.cells arr e):=⟨_,rfl⟩
 have hkeep:∀b,b<w.heap.size->w'.heap[b]? =w.heap[b]? :=λb hb=>by rw[hw'];exact heap_alloc_old w _ hb
 obtain⟨v,hv⟩:∃v,v=Value.slice (some ⟨w.heap.size,0,none⟩) n n:=⟨_,rfl⟩
 have hrow:RowAt w' c.S v (·=w.heap.size) e ty (List.replicate n yv):=by
  refine⟨b2,.inr ⟨w.heap.size,n,arr,by rw[hv,List.length_replicate],λ_=>Iff.rfl,by rw[hw'];exact heap_alloc_new w _,by rw[List.length_replicate];exact Nat.le_refl _,by simp only[maxLen];omega,by rw[r2,hsz],λq x hq j d hd=> ?_⟩⟩
  rw[List.getElem?_replicate] at hq
  split at hq
  rotate_left
  ·cases hq
  rename_i hqn
  injection hq with hq
  subst hq
  have hjl:j<size ty:=enc_lt hd
  have hzj:j<zs.length:=by omega
  have e1:z.cells[j]? =some zs[j]:=by
   have:z.cells.toList[j]? =some zs[j]:=by rw[hzc];exact List.getElem?_eq_getElem hzj
   simpa using this
  refine⟨zs[j],?_,h1 _ (List.getElem_mem hzj),?_⟩
  ·rw[<-hsz,r3 q j hqn (by omega),e1]
  ·exact y2 j d (D.v zs[j]) hd (by rw[List.getElem?_map,List.getElem?_eq_getElem hzj];rfl) (.v _)
 obtain⟨q1,q2⟩:=hr.ox.upd (ob':=put m.ob k (some (.row e ty (List.replicate n yv)))) (U':=addU m.U k) (w':=w') (c':=⟨c.S,put c.H k v,put c.F k (·=w.heap.size),c.T⟩) k (.row e ty (List.replicate n yv)) (λi=>i≠k)
  (λ_ h=> .inl h) (.inr rfl) (put_same _ _ _) (λi y hi e=>by rw[put_ne _ _ e] at hi;exact⟨e,hi⟩) (λe=>e rfl) (λi hi=>⟨put_ne _ _ (hne i hi),put_ne _ _ (hne i hi)⟩) (λ_ _ h=>h) (λ_ _ h=> .inl h) (λb o' hb=>by rw[hw'];exact Nat.lt_of_lt_of_le (hr.ox.sb b o' hb) (by simp))
  rfl (by rw[hw'];rfl) (by rw[hw'];rfl) (by rw[hw'];rfl) (by rw[hw'];simp) (λb hb _=>hkeep b hb) (by
   show RowAt w' c.S (put c.H k v k) (put c.F k (·=w.heap.size) k) e ty _
   rw[put_same,put_same];exact hrow) trivial (λ_ b hb=>by
   have hb:put c.F k (·=w.heap.size) k b:=hb
   rw[put_same] at hb
   exact .inr (Nat.le_of_eq hb.symm)) (λ_ b hb=>by
   have hb:put c.F k (·=w.heap.size) k b:=hb
   rw[put_same] at hb
   subst hb
   rw[hw']
   exact⟨by simp,λo' ho=>by have:=hr.ox.sb _ _ ho;omega⟩)
 subst hw'
 refine wp_value (v:=v) (w':=w.alloc (.cells arr e)) (by rw[hv];simp only[execOp,he,ex,ey,Sem.run_bind,r1,Result.andThen_ok];rfl) (hK _ ⟨c.S,put c.H k v,put c.F k (·=w.heap.size),c.T⟩ _ ?_ ?_ ?_ (.inr ⟨Nat.le_refl _,by show k<k+1;omega⟩) trivial)
 ·show OX (ovr m.ob [_]) (addN m.U k 1) _ _ _
  rw[ovr_cons,ovr_nil,addN_one];exact q1
 ·show Tr _ _ _ _ (ovr m.ob [_]) (addN m.U k 1) _ _
  rw[ovr_cons,ovr_nil,addN_one];exact q2
 ·have:=SRel.os (c:=⟨c.S,put c.H k v,put c.F k (·=w.heap.size),c.T⟩) (w:=w.alloc (.cells arr e)) k
  dsimp only at this
  rw[put_same] at this
  exact this
def eRange (P:Program)(k:Nat)(t:TypeId):SV->Option ERes
 | .d (.v (.string s))=>bif isStrT P t then some ⟨[],[],.bx k 0,[(k,some (.it s 0))],1⟩ else none
 |_=>none
theorem eRange_ok {o:Oper}{m:Mem}{ρ:Operand->SV}{k:Nat}{t:TypeId}{x:Operand}{R:ERes}(he:o.op= .range t x)(h:eRange P k t (ρ x)=some R):EffR P o m ρ k R:=by
 intro a w c hr hk hp K Q hK
 unfold eRange at h
 split at h
 rotate_left
 ·cases h
 rename_i s hx
 cases hs:isStrT P t with
 |false=>rw[hs] at h;cases h
 |true=>
 rw[hs] at h
 injection h with h
 subst h
 have hu:=isStrT_spec hs
 have ex:a.eval x= .string s:=by
  have:=hr.op x
  rw[hx] at this
  exact srel_v this
 have hk':¬m.U k:=hk k (Nat.le_refl _) (by show k<k+1;omega)
 have hne:∀i,m.U i->i≠k:=λi hi e=>hk' (e ▸ hi)
 obtain⟨w',hw'⟩:∃w',w'=w.alloc (.stringIter s 0):=⟨_,rfl⟩
 have hkeep:∀b,b<w.heap.size->w'.heap[b]? =w.heap[b]? :=λb hb=>by rw[hw'];exact heap_alloc_old w _ hb
 obtain⟨v,hv⟩:∃v,v=Value.pointer (some ⟨w.heap.size,0,none⟩):=⟨_,rfl⟩
 obtain⟨q1,q2⟩:=hr.ox.upd (ob':=put m.ob k (some (.it s 0))) (U':=addU m.U k) (w':=w') (c':=⟨c.S,put c.H k v,put c.F k (·=w.heap.size),c.T⟩) k (.it s 0) (λi=>i≠k)
  (λ_ h=> .inl h) (.inr rfl) (put_same _ _ _) (λi y hi e=>by rw[put_ne _ _ e] at hi;exact⟨e,hi⟩) (λe=>e rfl) (λi hi=>⟨put_ne _ _ (hne i hi),put_ne _ _ (hne i hi)⟩) (λ_ _ h=>h) (λ_ _ h=> .inl h) (λb o' hb=>by rw[hw'];exact Nat.lt_of_lt_of_le (hr.ox.sb b o' hb) (by simp))
  rfl (by rw[hw'];rfl) (by rw[hw'];rfl) (by rw[hw'];rfl) (by rw[hw'];simp) (λb hb _=>hkeep b hb) (by
   show ItAt w' (put c.H k v k) (put c.F k (·=w.heap.size) k) s 0
   rw[put_same,put_same]
   exact⟨_,hv,λ_=>Iff.rfl,by rw[hw'];exact heap_alloc_new w _⟩) trivial (λ_ b hb=>by
   have hb:put c.F k (·=w.heap.size) k b:=hb
   rw[put_same] at hb
   exact .inr (Nat.le_of_eq hb.symm)) (λ_ b hb=>by
   have hb:put c.F k (·=w.heap.size) k b:=hb
   rw[put_same] at hb
   subst hb
   rw[hw']
   exact⟨by simp,λo' ho=>by have:=hr.ox.sb _ _ ho;omega⟩)
 subst hw'
 have hrun:(newObj (.stringIter s 0)).run P w= .ok w.heap.size (w.alloc (.stringIter s 0)):=rfl
 refine wp_value (v:=v) (w':=w.alloc (.stringIter s 0)) (by rw[hv];simp[execOp,he,ex,Instr.range,run_underlying hu]) (hK _ ⟨c.S,put c.H k v,put c.F k (·=w.heap.size),c.T⟩ _ ?_ ?_ ?_ (.inr ⟨Nat.le_refl _,by show k<k+1;omega⟩) trivial)
 ·show OX (ovr m.ob [_]) (addN m.U k 1) _ _ _
  rw[ovr_cons,ovr_nil,addN_one];exact q1
 ·show Tr _ _ _ _ (ovr m.ob [_]) (addN m.U k 1) _ _
  rw[ovr_cons,ovr_nil,addN_one];exact q2
 ·subst hv
  exact .bx k 0 _ (put_same _ _ _)
theorem OX.itPut {ob:Obs}{U:Nat->Prop}{tp:Bool}{w:World}{c:Cx}(h:OX ob U tp w c){id b:Nat}{s s':ByteArray}{p p':Nat}(hid:ob id=some (.it s p))(hb:c.H id= .pointer (some ⟨b,0,none⟩)):
 OX (put ob id (some (.it s' p'))) U tp {w with heap:=w.heap.setIfInBounds b (.stringIter s' p')} c/\Tr ob U w c (put ob id (some (.it s' p'))) U {w with heap:=w.heap.setIfInBounds b (.stringIter s' p')} c:=by
 obtain⟨hUid,_,b',e1,hF,hh⟩:=h.objs id _ hid
 rw[hb] at e1
 injection e1 with e1
 injection e1 with e1
 injection e1 with e1
 subst e1
 have hf:=h.fb id _ hid rfl b ((hF b).2 rfl)
 obtain⟨w',hwo⟩:∃w',w'=({w with heap:=w.heap.setIfInBounds b (.stringIter s' p')}:World):=⟨_,rfl⟩
 have hblk:∀k,k≠b->w'.heap[k]? =w.heap[k]? :=λk hk=>by rw[hwo];exact Array.getElem?_setIfInBounds_ne (Ne.symm hk)
 have hnew:w'.heap[b]? =some (.stringIter s' p'):=by
  rw[hwo]
  have:b<w.heap.size:=hf.1
  simp[this]
 have hsz':w'.heap.size=w.heap.size:=by rw[hwo];simp
 rw[<-hwo]
 exact h.upd id (.it s' p') (λi=>i≠id) (λ_ h=>h) hUid (put_same _ _ _) (λi y hi e=>⟨e,by rw[put_ne _ _ e] at hi;exact hi⟩) (λe=>e rfl) (λ_ _=>⟨rfl,rfl⟩) (λ_ _ h=>h) (λ_ _ h=> .inl h) (λb' o hb'=>by rw[hsz'];exact h.sb b' o hb') rfl (by rw[hwo]) (by rw[hwo]) (by rw[hwo]) (by rw[hsz'];exact Nat.le_refl _)
  (λk hk hn=>hblk k (λe=>hn id _ hid rfl (λe=>e rfl) (by rw[e];exact (hF b).2 rfl))) ⟨b,hb,hF,hnew⟩ trivial (λ_ k hk=> .inl ⟨id,_,hid,rfl,λe=>e rfl,hk⟩) (λ_ k hk=>by rw[hsz'];exact⟨(h.fb id _ hid rfl k hk).1,(h.fb id _ hid rfl k hk).2.1⟩)
def eNext (m:Mem):SV->Option ERes
 | .bx id 0=>match m.ob id with
  |some (.it s p)=>bif Nat.blt p s.size then some ⟨[],[],.tup [.d (.v (.bool true)),.d (.v (.int .i64 (p:Int))),.d (.v (.int .i32 (Utf8.decode s p).1))],[(id,some (.it s (p+(Utf8.decode s p).2)))],0⟩ else some ⟨[],[],.tup [.d (.v (.bool false))],[],0⟩
  |_=>none
 |_=>none
theorem eNext_ok {o:Oper}{m:Mem}{ρ:Operand->SV}{k:Nat}{x:Operand}{R:ERes}(he:o.op= .next x true)(h:eNext m (ρ x)=some R):EffR P o m ρ k R:=by
 intro a w c hr hk hp K Q hK
 unfold eNext at h
 split at h
 rotate_left
 ·cases h
 rename_i id hx
 split at h
 rotate_left
 ·cases h
 rename_i s p hob
 obtain⟨hU,_,b,g1,g2,g3⟩:=hr.ox.objs id _ hob
 have ex:a.eval x= .pointer (some ⟨b,0,none⟩):=by
  have:=hr.op x
  rw[hx] at this
  obtain⟨b',h1,h2⟩:=srel_bx this
  rw[g1] at h1
  injection h1 with h1
  injection h1 with h1
  injection h1 with h1
  subst h1
  exact h2
 have hget:(getObj b).run P w= .ok (.stringIter s p) w:=by simp[getObj,Sem.run,g3]
 have hset:∀ob',(setObj b ob').run P w= .ok () {w with heap:=w.heap.setIfInBounds b ob'}:=λob'=>by simp[setObj,Sem.run,g3]
 cases hb:Nat.blt p s.size with
 |true=>
  rw[hb] at h
  injection h with h
  subst h
  have hlt:p<s.size:=Nat.le_of_ble_eq_true hb
  obtain⟨r1,r2⟩:=hr.ox.itPut (s':=s) (p':=p+(Utf8.decode s p).2) hob g1
  refine wp_value (v:= .tuple #[.bool true,.int .i64 (p:Int),.int .i32 (Utf8.decode s p).1]) (w':={w with heap:=w.heap.setIfInBounds b (.stringIter s (p+(Utf8.decode s p).2))}) (by simp[execOp,he,ex,Instr.next,hget,hset,hlt,goInt]) (hK _ c _ ?_ ?_ ?_ ⟨trivial,trivial,trivial,trivial⟩ trivial)
  ·show OX (ovr m.ob [_]) (addN m.U k 0) _ _ _
   rw[fin0 (U:=m.U),addN_zero];exact r1
  ·show Tr _ _ _ _ (ovr m.ob [_]) (addN m.U k 0) _ _
   rw[fin0 (U:=m.U),addN_zero];exact r2
  ·refine .tup _ [.bool true,.int .i64 (p:Int),.int .i32 (Utf8.decode s p).1] rfl λi s' u' h1 h2=> ?_
   match i,h1,h2 with
   |0,h1,h2=>cases h1;cases h2;exact v_srel _
   |1,h1,h2=>cases h1;cases h2;exact v_srel _
   |2,h1,h2=>cases h1;cases h2;exact v_srel _
   |i+3,h1,h2=>cases h1
 |false=>
  rw[hb] at h
  injection h with h
  subst h
  have hlt:¬p<s.size:=λh=>by
   have:Nat.blt p s.size=true:=Nat.ble_eq_true_of_le h
   rw[hb] at this;cases this
  refine wp_value (v:= .tuple #[.bool false]) (w':=w) (by simp[execOp,he,ex,Instr.next,hget,hlt]) (hK _ c _ ?_ ?_ ?_ ⟨trivial,trivial⟩ trivial)
  ·show OX (ovr m.ob []) (addN m.U k 0) _ _ _
   rw[addN_zero];exact hr.ox
  ·show Tr _ _ _ _ (ovr m.ob []) (addN m.U k 0) _ _
   rw[addN_zero];exact .refl
  ·refine .tup _ [.bool false] rfl λi s' u' h1 h2=> ?_
   match i,h1,h2 with
   |0,h1,h2=>cases h1;cases h2;exact v_srel _
   |i+1,h1,h2=>cases h1
def eqSt (a b:ByteArray):Bool:=decide (a.data.toList=b.data.toList)
theorem eqSt_eq (a b:ByteArray):(a.toList==b.toList)=eqSt a b:=by
 unfold eqSt
 rw[ByteArray.toList_eq,ByteArray.toList_eq,Bool.eq_iff_iff]
 simp
def eStr (P:Program)(t:TypeId)(op:BinOp):SV->SV->Option SV
 | .d (.v (.string a)),.d (.v (.string b))=>bif P.eqGuardType P.depth t then none else match op with
  | .eql=>some (.d (.v (.bool (eqSt a b))))
  | .neq=>some (.d (.v (.bool (!(eqSt a b)))))
  |_=>none
 |_,_=>none
theorem eStr_ok {o:Oper}{m:Mem}{ρ:Operand->SV}{k:Nat}{op:BinOp}{t ty:TypeId}{x y:Operand}{r:SV}(he:o.op= .binOp op t x y ty)(h:eStr P t op (ρ x) (ρ y)=some r):EffR P o m ρ k ⟨[],[],r,[],0⟩:=by
 refine pure_ok (R':=⟨[],[],r⟩) rfl λa w c hr _=> ?_
 unfold eStr at h
 split at h
 rotate_left
 ·cases h
 rename_i s1 s2 hx hy
 have ex:a.eval x= .string s1:=by
  have:=hr.op x
  rw[hx] at this
  exact srel_v this
 have ey:a.eval y= .string s2:=by
  have:=hr.op y
  rw[hy] at this
  exact srel_v this
 cases hg:P.eqGuardType P.depth t with
 |true=>rw[hg] at h;cases h
 |false=>
 rw[hg] at h
 simp only[cond_false] at h
 split at h
 ·injection h with h
  subst h
  exact⟨.bool (eqSt s1 s2),by simp[execOp,he,ex,ey,eqGuard,binOp,Op.stringOp,eqSt_eq],v_srel _,trivial,trivial⟩
 ·injection h with h
  subst h
  exact⟨.bool (!(eqSt s1 s2)),by simp[execOp,he,ex,ey,eqGuard,binOp,Op.stringOp,eqSt_eq],v_srel _,trivial,trivial⟩
 ·cases h
def eMin (ρ:Operand->SV)(args:Array Operand):Option SV:=match args.toList with
 |[x,y]=>match ρ x,ρ y with
  | .d (.v (.int k a)),.d (.v (.int k' b))=>bif decide (k=k') then some (.d (.v (.int k (bif decide (b<a) then b else a)))) else none
  |_,_=>none
 |_=>none
theorem eMin_ok {o:Oper}{m:Mem}{ρ:Operand->SV}{k:Nat}{args:Array Operand}{tys:Array TypeId}{r:SV}(he:o.op= .call ⟨.builtin .min,args,tys⟩)(h:eMin ρ args=some r):EffR P o m ρ k ⟨[],[],r,[],0⟩:=by
 refine pure_ok (R':=⟨[],[],r⟩) rfl λa w c hr _=> ?_
 unfold eMin at h
 split at h
 rotate_left
 ·cases h
 rename_i x y ha
 split at h
 rotate_left
 ·cases h
 rename_i k1 z1 k2 z2 hx hy
 have ex:a.eval x= .int k1 z1:=by
  have:=hr.op x
  rw[hx] at this
  exact srel_v this
 have ey:a.eval y= .int k2 z2:=by
  have:=hr.op y
  rw[hy] at this
  exact srel_v this
 cases hk:decide (k1=k2) with
 |false=>rw[hk] at h;cases h
 |true=>
 rw[hk] at h
 injection h with h
 subst h
 have hk:=of_decide_eq_true hk
 subst hk
 have ha:=arr1 ha
 subst ha
 refine⟨.int k1 (bif decide (z2<z1) then z2 else z1),?_,v_srel _,trivial,trivial⟩
 by_cases hlt:z2<z1
 ·simp[execOp,he,ex,ey,resolve,invoke,builtin,Builtin.min_,Builtin.min2,hlt]
 ·simp[execOp,he,ex,ey,resolve,invoke,builtin,Builtin.min_,Builtin.min2,hlt]
def Cnd.b:Cnd->Bool
 | .pp _=>false
 | .inb n z=>decide (0<=z)&&decide (z<(n:Int))
 | .in2 z m y n=>(decide (0<=z)&&decide (z<m))&&(decide (0<=y)&&decide (y<(n:Int)))
 | .nn b=>decide (0<=b)
 | .ne b=>decide (b≠0)
 | .sub a b n=>decide (0<=a)&&(decide (a<=b)&&decide (b<=n))
 | .sx a lo hi n=>decide (a=0)&&(decide (0<=lo)&&(decide (lo<=hi)&&decide (hi<=(n:Int))))
 | .s3 lo hi mx n=>decide (0<=lo)&&(decide (lo<=hi)&&(decide (hi<=mx)&&decide (mx<=(n:Int))))
 | .fr a b a'=>decide (a=0)&&decide (b<=a')
 | .ap bs n m=>Nat.ble ((n+m) * bs) 140737488355328
theorem Cnd.b_ok:∀{c:Cnd},c.b=true->c.pr:=by
 intro c h
 cases c with
 |pp p=>cases h
 |ap bs n m=>exact Nat.le_of_ble_eq_true h
 |_=>simpa [Cnd.b,Cnd.pr] using h
theorem allB_ok:∀{l:List Cnd},l.all Cnd.b=true->allC l
 |[],_=>trivial
 |c::r,h=>by
  simp only[List.all_cons,Bool.and_eq_true] at h
  exact⟨Cnd.b_ok h.1,allB_ok h.2⟩
def eExtra (P:Program)(τ:TypeId->Option Ty)(m:Mem)(ρ:Operand->SV)(k:Nat)(o:Oper):Option ERes:=match o.op with
 | .makeMap _ none=>some (eMwMake k)
 | .lookup t x y false=>eMwLook P m t (ρ x) (ρ y)
 | .mapEntry t x y=>eMwEnt P m t (ρ x) (ρ y)
 | .entryStore _ x y z=>eMwES m (ρ x) (ρ y) (ρ z)
 | .mapUpdate t x y z=>eMwUpd P m t (ρ x) (ρ y) (ρ z)
 | .makeSlice t x y=>eMkSl P τ k t (ρ x) (ρ y)
 | .range t x=>eRange P k t (ρ x)
 | .next x true=>eNext m (ρ x)
 | .binOp op t x y _=>match eStr P t op (ρ x) (ρ y) with
  |some r=>some ⟨[],[],r,[],0⟩
  |none=>none
 | .call ⟨.builtin .min,args,_⟩=>match eMin ρ args with
  |some r=>some ⟨[],[],r,[],0⟩
  |none=>none
 |_=>none
theorem eExtra_ok {τ:TypeId->Option Ty}{m:Mem}{ρ:Operand->SV}{k:Nat}{o:Oper}{R:ERes}(h:eExtra P τ m ρ k o=some R):EffR P o m ρ k R:=by
 unfold eExtra at h
 split at h
 ·rename_i he;injection h with h;subst h;exact eMwMake_ok he
 ·rename_i he;exact eMwLook_ok he h
 ·rename_i he;exact eMwEnt_ok he h
 ·rename_i he;exact eMwES_ok he h
 ·rename_i he;exact eMwUpd_ok he h
 ·rename_i he;exact eMkSl_ok he h
 ·rename_i he;exact eRange_ok he h
 ·rename_i he;exact eNext_ok he h
 ·rename_i he
  split at h
  ·rename_i r hr;injection h with h;subst h;exact eStr_ok he hr
  ·cases h
 ·rename_i he
  split at h
  ·rename_i r hr;injection h with h;subst h;exact eMin_ok he hr
  ·cases h
 ·cases h
def eopC (P:Program)(τ:TypeId->Option Ty)(m:Mem)(ρ:Operand->SV)(k:Nat)(o:Oper):Option ERes:=match eExtra P τ m ρ k o with
 |some R=>some R
 |none=>eop P τ m ρ k o
theorem eopC_ok {τ:TypeId->Option Ty}{m:Mem}{ρ:Operand->SV}{k:Nat}{o:Oper}{R:ERes}(h:eopC P τ m ρ k o=some R):EffR P o m ρ k R:=by
 unfold eopC at h
 split at h
 ·rename_i R' hR
  injection h with h
  subst h
  exact eExtra_ok hR
 ·exact eop_ok h
abbrev Exts:=FuncId->Option (ByteArray->Int->Int)
def ExOK (P:Program)(ex:Exts):Prop:=∀f g,ex f=some g->∀(s:ByteArray)(c:Int)(w:World),(callFunc f #[.string s,.int .u8 c]).run P w= .ok (.value (.int .i64 (g s c))) w
def extT (ex:Exts)(ρ:Operand->SV)(op:Op):Option SV:=match callT ρ op with
 |some (f,[.d (.v (.string s)),.d (.v (.int .u8 c))])=>match ex f with
  |some g=>some (.d (.v (.int .i64 (g s c))))
  |none=>none
 |_=>none
theorem callT_runG {m:Mem}{ρ:Operand->SV}{o:Oper}{f:FuncId}{ss:List SV}(h:callT ρ o.op=some (f,ss)){a:Act}{w:World}{c:Cx}(hop:∀x,SRel c w (ρ x) (a.eval x))(hiu:∀x,(ρ x).inU m.U):
 ∃us:List Value,(execOp a.eval o).run P w=(callFunc f us.toArray).run P w/\us.length=ss.length/\∀(i:Nat)(s:SV)(u:Value),ss[i]? =some s->us[i]? =some u->SRel c w s u/\s.inU m.U:=by
 unfold callT at h
 split at h
 ·rename_i x args tys he
  split at h
  ·rename_i f' cs hfn
   injection h with h
   injection h with h1 h2
   subst h1 h2
   obtain⟨us,hu,hl,hr⟩:=fnOf_rel hfn (hop x) (hiu x)
   refine⟨args.toList.map a.eval++us,?_,by simp[hl],λi s u hs hv=> ?_⟩
   ·have e1:(args.toList.map a.eval++us).toArray=args.map a.eval++us.toArray:=by
     apply Array.ext';simp
    rw[e1]
    simp[execOp,he,resolve,hu,Deferred.ofValue,invoke]
   ·by_cases hi:i<args.toList.length
    ·rw[List.getElem?_append_left (by simpa using hi)] at hs hv
     rw[List.getElem?_map,Option.map_eq_some_iff] at hs hv
     obtain⟨y,hy,rfl⟩:=hs
     obtain⟨y',hy',rfl⟩:=hv
     rw[hy] at hy'
     injection hy' with hy'
     subst hy'
     exact⟨hop y,hiu y⟩
    ·rw[List.getElem?_append_right (by simpa using hi)] at hs hv
     simp only[List.length_map] at hs hv
     exact hr _ s u hs hv
  ·cases h
 ·cases h
theorem extT_run {m:Mem}{ex:Exts}(hex:ExOK P ex){ρ:Operand->SV}{o:Oper}{r:SV}(h:extT ex ρ o.op=some r){a:Act}{w:World}{c:Cx}(hop:∀x,SRel c w (ρ x) (a.eval x))(hiu:∀x,(ρ x).inU m.U):
 ∃v,r= .d (.v v)/\(execOp a.eval o).run P w= .ok (.value v) w:=by
 unfold extT at h
 split at h
 ·rename_i f s c' hc
  split at h
  ·rename_i g hg
   injection h with h
   subst h
   obtain⟨us,h1,h2,h3⟩:=callT_runG (P:=P) (m:=m) (w:=w) (c:=c) hc hop hiu
   match us,h2 with
   |[u,v],_=>
    have e1:=srel_v (h3 0 _ u rfl rfl).1
    have e2:=srel_v (h3 1 _ v rfl rfl).1
    subst e1 e2
    exact⟨_,rfl,h1.trans (hex f g hg s c' w)⟩
  ·cases h
 ·cases h
def aopB (P:Program)(τ:TypeId->Option Ty)(ex:Exts)(cp:CP)(o:Oper)(st:St)(K:St->Prop):Prop:=match pickC P st o with
 |some r=>bif dstOK st o.dst then fSt (st.set o.dst r st.ms) K else False
 |none=>match extT ex st.ev o.op with
 |some r=>bif dstOK st o.dst then fSt (st.set o.dst r st.ms) K else False
 |none=>match callT st.ev o.op with
  |some (f,ss)=>bif callable P f&&dstOK st o.dst then cp f (ss.map noC) st.ms (λr m=>fSt (st.set o.dst r m) K) else False
  |none=>match eopC P τ st.ms.mem st.ev st.ms.nx o with
   |some R=>bif dstOK st o.dst&&R.ps.all Cnd.b then fSt (st.set o.dst R.r (st.ms.upd R)) K else False
   |none=>False
theorem aopB_ok {τ:TypeId->Option Ty}{ex:Exts}(hex:ExOK P ex){cp:CP}(hcp:CallOK P cp){o:Oper}{st:St}{K:St->Prop}(h:aopB P τ ex cp o st K):OpS P o st K:=by
 unfold aopB at h
 split at h
 ·rename_i r hp
  cases hd:dstOK st o.dst with
  |false=>rw[hd] at h;exact h.elim
  |true=>
   rw[hd] at h
   simp only[cond_true] at h
   rw[fSt_eq] at h
   intro a w c hr KK Qx hQ
   obtain⟨v,k1,k2,k3⟩:=pickC_ok (P:=P) hp hr
   unfold Oper.wp
   rw[k3]
   exact hQ _ _ _ c ⟨hr.set .refl hr.ox hd k1 k2,.refl,defers_put _ _ _,.set (.refl _)⟩ h
 ·intro a w c hr KK Qx hQ
  split at h
  ·rename_i r hx
   cases hd:dstOK st o.dst with
   |false=>rw[hd] at h;exact h.elim
   |true=>
    rw[hd] at h
    simp only[cond_true] at h
    rw[fSt_eq] at h
    obtain⟨v,rfl,h2⟩:=extT_run (m:=st.ms.mem) hex hx hr.ev hr.evU
    unfold Oper.wp
    rw[h2]
    exact hQ _ _ _ c ⟨hr.set .refl hr.ox hd (v_srel v) trivial,.refl,defers_put _ _ _,.set (.refl _)⟩ h
  split at h
  ·rename_i f ss hc
   cases hb:(callable P f&&dstOK st o.dst) with
   |false=>rw[hb] at h;exact h.elim
   |true=>
    rw[hb] at h
    simp only[cond_true] at h
    obtain⟨b1,b2⟩:=Bool.and_eq_true_iff.1 hb
    obtain⟨us,hrun,hl,hrel⟩:=callT_run (m:=st.ms.mem) hc b1 hr.ev hr.evU
    unfold Oper.wp
    rw[hrun]
    show Calls _ _ _ _ _
    refine (hcp f _ st.ms _ h us w c hr.ox (by simpa using hl) (noC_args hrel)).mono ?_
    rintro e w' ⟨v,r,m',c',rfl,hk,hf,hox,htr,hs,hu⟩
    rw[fSt_eq] at hk
    exact hQ _ _ _ c' ⟨hr.set htr hox b2 hs hu,htr,defers_put _ _ _,.set hf⟩ hk
  ·split at h
   ·rename_i R hR
    cases hb:(dstOK st o.dst&&R.ps.all Cnd.b) with
    |false=>rw[hb] at h;exact h.elim
    |true=>
     rw[hb] at h
     simp only[cond_true] at h
     rw[fSt_eq] at h
     obtain⟨b1,b2⟩:=Bool.and_eq_true_iff.1 hb
     refine eopC_ok (P:=P) hR a w c hr.rels (λi hi _ hu=>by have hu:i<st.ms.nx:=hu;omega) (allB_ok b2) KK Qx λv c' w' hox htr hs hu hf=> ?_
     have e1:=upd_obs st.ms R
     have e2:=upd_U st.ms R
     have htr':TrM st.ms w c (st.ms.upd R) w' c':=by show Tr _ _ _ _ (st.ms.upd R).obs (st.ms.upd R).U _ _;rw[e1,e2];exact htr
     have hox':OXM (st.ms.upd R) w' c':=by show OX (st.ms.upd R).obs (st.ms.upd R).U _ _ _;rw[e1,e2];exact hox
     exact hQ _ _ _ c' ⟨hr.set htr' hox' b1 hs (by rw[e2];exact hu),htr',defers_put _ _ _,.set (.upd _ _)⟩ h
   ·exact h.elim
def fstepB (P:Program)(pr:List Nat)(o:Oper)(st:St):Option (Bool×((St->Prop)->Prop)):=match pickC P st o with
 |some r=>bif dstOK st o.dst then some (false,λK=>fSt (st.set o.dst r st.ms) K) else none
 |none=>match popS P st.ms.mem st.ev o,flK P st.ms.mem pr st.ev o with
  |some R,some (ps,lk)=>bif dstOK st o.dst&&ps.all Cnd.b&&R.ps.all Cnd.b then some (lk,λK=>fSt (st.set o.dst R.r st.ms) K) else none
  |_,_=>none
theorem fstepB_ok {pr:List Nat}{all:Array Oper}{o:Oper}{st:St}{lk:Bool}{T:(St->Prop)->Prop}(h:fstepB P pr o st=some (lk,T)){K:St->Prop}(hT:T K){a:Act}{w:World}{c:Cx}(hr:RX st a w c)(hw:Region.wanted o (yielded all a.tmps)=true):
 ∃v st',YieldsIf P all (λw'=>lk=true->Looks c st.ms.obs pr w w') o v a/\RX st' (a.put o.dst v) w c/\st'.ms=st.ms/\Fr st st'/\K st':=by
 unfold fstepB at h
 split at h
 ·rename_i r hp
  cases hd:dstOK st o.dst with
  |false=>rw[hd] at h;cases h
  |true=>
   rw[hd] at h
   simp only[cond_true,Option.some.injEq,Prod.mk.injEq] at h
   obtain⟨rfl,rfl⟩:=h
   have hT:fSt (st.set o.dst r st.ms) K:=hT
   rw[fSt_eq] at hT
   obtain⟨v,k1,k2,k3⟩:=pickC_ok (P:=P) hp hr
   exact⟨v,_,.inl ⟨hw,λw' _=>k3 w'⟩,hr.set .refl hr.ox hd k1 k2,by cases o.dst<;>rfl,.set (.refl _),hT⟩
 ·split at h
  ·rename_i R ps lk' hp hf
   cases hb:(dstOK st o.dst&&ps.all Cnd.b&&R.ps.all Cnd.b) with
   |false=>rw[hb] at h;cases h
   |true=>
    rw[hb] at h
    simp only[cond_true,Option.some.injEq,Prod.mk.injEq] at h
    obtain⟨rfl,rfl⟩:=h
    have hT:fSt (st.set o.dst R.r st.ms) K:=hT
    rw[fSt_eq] at hT
    simp only[Bool.and_eq_true] at hb
    obtain⟨⟨b1,b2⟩,b3⟩:=hb
    obtain⟨v,k1,k2,k3,k4⟩:=flK_ok hf hp hr.rels (allB_ok b2) (allB_ok b3)
    exact⟨v,_,.inl ⟨hw,k4⟩,hr.set .refl hr.ox b1 k1 k2,by cases o.dst<;>rfl,.set (.refl _),hT⟩
  ·cases h
def guB (all:Array Oper)(o:Oper)(st:St):Option Bool:=match o.guard with
 |none=>some true
 |some (j,want)=>match (all[j]?).bind (·.dst) with
  |some q=>bif Nat.blt q st.n then (match look st.sl q with
   | .d (.v (.tuple ⟨[]⟩))=>some false
   |s=>guardG want s) else none
  |none=>none
theorem guB_ok {all:Array Oper}{o:Oper}{st:St}{b:Bool}(h:guB all o st=some b){a:Act}{w:World}{c:Cx}(hr:RX st a w c):Region.wanted o (yielded all a.tmps)=b:=by
 unfold guB at h
 split at h
 ·rename_i hg
  injection h with h
  subst h
  simp[Region.wanted,hg]
 ·rename_i j want hg
  split at h
  ·rename_i q hq
   cases hb:Nat.blt q st.n with
   |false=>rw[hb] at h;cases h
   |true=>
    rw[hb] at h
    have hlt:q<st.n:=Nat.le_of_ble_eq_true hb
    simp only[cond_true] at h
    split at h
    ·rename_i hl
     injection h with h
     subst h
     have hdl:q<a.tmps.size:=by rw[hr.sz];exact hlt
     have hv:=hr.sl q _ (Array.getElem?_eq_getElem hdl)
     rw[hl] at hv
     have hv:=srel_v hv
     unfold Region.wanted yielded
     simp only[hg,hq,Option.bind_some,Array.getElem?_eq_getElem hdl,hv]
     rfl
    ·exact wanted_of hg hq hlt hr h
  ·cases h
def aopGB (P:Program)(τ:TypeId->Option Ty)(ex:Exts)(cp:CP)(all:Array Oper)(o:Oper)(st:St)(K:St->Prop):Prop:=match guB all o st with
 |some true=>aopB P τ ex cp o st K
 |some false=>bif dstOK st o.dst then fSt (st.set o.dst (.d (.v undef)) st.ms) K else False
 |none=>False
theorem aopGB_core {τ:TypeId->Option Ty}{ex:Exts}(hex:ExOK P ex){cp:CP}(hcp:CallOK P cp){all:Array Oper}{o:Oper}{st:St}{K:St->Prop}(h:aopGB P τ ex cp all o st K){a:Act}{w:World}{c:Cx}(hr:RX st a w c){KK:Act->World->Prop}{Qx:Exit->Act->World->Prop}
 (hQ:∀st' a' w' c',Step st a w c st' a' w' c'->K st'->KK a' w'):if Region.wanted o (yielded all a.tmps)=true then o.wp P a w KK Qx else KK (a.put o.dst undef) w:=by
 unfold aopGB at h
 split at h
 ·rename_i hG
  rw[guB_ok hG hr,if_pos rfl]
  exact aopB_ok hex hcp h a w c hr KK Qx hQ
 ·rename_i hG
  rw[guB_ok hG hr,if_neg (by decide)]
  cases hd:dstOK st o.dst with
  |false=>rw[hd] at h;exact h.elim
  |true=>
   rw[hd] at h
   simp only[cond_true] at h
   rw[fSt_eq] at h
   exact hQ _ _ _ c ⟨hr.set .refl hr.ox hd (v_srel _) trivial,.refl,defers_put _ _ _,.set (.refl _)⟩ h
 ·exact h.elim
def aopsB (P:Program)(τ:TypeId->Option Ty)(ex:Exts)(cp:CP)(all:Array Oper):List Oper->St->(St->Prop)->Prop
 |[],st,K=>K st.endR
 |o::r,st,K=>aopGB P τ ex cp all o st λst'=>aopsB P τ ex cp all r st' K
theorem aopsB_ok {τ:TypeId->Option Ty}{ex:Exts}(hex:ExOK P ex){cp:CP}(hcp:CallOK P cp){all:Array Oper}:∀(ops:List Oper)(st:St)(K:St->Prop),aopsB P τ ex cp all ops st K->
 ∀a w c,RX st a w c->∀Qx:Exit->Act->World->Prop,(∀st' a' w' c',Step st a w c st' a' w' c'->K st'->Qx .normal a' w')->wpList P all Qx ops a w
 |[],st,K,h,a,w,c,hr,Qx,hQ=>hQ _ a w c hr.endR h
 |o::r,st,K,h,a,w,c,hr,Qx,hQ=>by
  refine wpList_step λKK hK=> ?_
  exact aopGB_core hex hcp (show aopGB P τ ex cp all o st _ from h) hr λst' a' w' c' hs hq=>hK _ _ (aopsB_ok hex hcp r st' K hq a' w' c' hs.rx Qx λst2 a2 w2 c2 hs2 k=>hQ _ _ _ _ (hs.trans hs2) k)
def fstepGB (P:Program)(pr:List Nat)(all:Array Oper)(o:Oper)(st:St):Option (Bool×((St->Prop)->Prop)):=match guB all o st with
 |some true=>fstepB P pr o st
 |some false=>bif dstOK st o.dst then some (false,λK=>fSt (st.set o.dst (.d (.v undef)) st.ms) K) else none
 |none=>none
theorem fstepGB_ok {pr:List Nat}{all:Array Oper}:FSOK P all (λ_=>pr) (λ_=>fstepGB P pr all):=by
 intro i0 o st lk T h K hT a w c hr
 have h:fstepGB P pr all o st=some (lk,T):=h
 unfold fstepGB at h
 split at h
 ·rename_i hG
  exact fstepB_ok h hT hr (guB_ok hG hr)
 ·rename_i hG
  cases hd:dstOK st o.dst with
  |false=>rw[hd] at h;cases h
  |true=>
   rw[hd] at h
   simp only[cond_true,Option.some.injEq,Prod.mk.injEq] at h
   obtain⟨rfl,rfl⟩:=h
   have hT:fSt (st.set o.dst (.d (.v undef)) st.ms) K:=hT
   rw[fSt_eq] at hT
   exact⟨undef,_,.inr ⟨guB_ok hG hr,rfl⟩,hr.set .refl hr.ox hd (v_srel _) trivial,by cases o.dst<;>rfl,.set (.refl _),hT⟩
 ·cases h
def drawB (P:Program)(τ:TypeId->Option Ty)(ex:Exts)(cp:CP)(ops:Array Oper)(st:St)(K:St->Prop):Prop:=
 bif P.follows .mixedOrders&&Region.noSelect ops then deval (λi=>fstepGB P (prOf (scanQ P st.ms st.n ops.toList 0 st.sl) i) ops) (λ_ o=>aopGB P τ ex cp ops o) ops (prOf (scanQ P st.ms st.n ops.toList 0 st.sl)) ops.size (Array.replicate ops.size false) true st K else False
theorem drawB_ok {τ:TypeId->Option Ty}{ex:Exts}(hex:ExOK P ex){cp:CP}(hcp:CallOK P cp){id:Nat}{ops:Array Oper}{st:St}{K:St->Prop}(h:drawB P τ ex cp ops st K):AC P (.region id ops true) st λe st'=>e= .normal/\K st':=by
 intro a w c hr
 unfold drawB at h
 cases hb:(P.follows .mixedOrders&&Region.noSelect ops) with
 |false=>rw[hb] at h;exact h.elim
 |true=>
  rw[hb] at h
  obtain⟨b1,b2⟩:=Bool.and_eq_true_iff.1 hb
  obtain⟨hr1,t1⟩:=hr.drew
  let Qx:Exit->Act->World->Prop:=λe a' w'=>e= .normal/\∃st' c',Step st a w c st' a' w' c'/\K st'
  refine wp_mono (Q:=Qx) ?_ (λe a' w' ⟨he,st',c',k1,k2⟩=>⟨st',c',k1,he,k2⟩)
  refine wp_region_any b1 (wpAny_of_T _ _ _ _ (deval_ok (fs:=λi=>fstepGB P (prOf (scanQ P st.ms st.n ops.toList 0 st.sl) i) ops) (ao:=λ_ o=>aopGB P τ ex cp ops o) (prL:=prOf (scanQ P st.ms st.n ops.toList 0 st.sl)) (λ{i} {o} {st} {lk} {T} h {K} hT {a} {w} {c} hr=>fstepGB_ok (pr:=prOf (scanQ P _ _ ops.toList 0 _) i) (i:=0) h hT hr) (λho _ _ h _ _ _ hr _ _ hQ=>wpOp_step ho λK' hK=>aopGB_core hex hcp h hr λst' a' w' c' hs hq=>hK _ _ (hQ _ _ _ _ hs hq)) b2 hr1 _ _ _ _ _ .start h _ _ _ hr1 (λ_=>⟨rfl,rfl,rfl⟩) .refl Qx (λch a w hh=>by cases hh.1) λst' a' w' c' hs hk=>⟨rfl,st',c',Step.trans ⟨hr1,t1,rfl,.refl _⟩ hs,hk⟩))
def regB (P:Program)(τ:TypeId->Option Ty)(ex:Exts)(cp:CP):RG:=λid ops d st K=>bif d then drawB P τ ex cp ops st K else aopsB P τ ex cp ops ops.toList st K
theorem regB_ok {τ:TypeId->Option Ty}{ex:Exts}(hex:ExOK P ex){cp:CP}(hcp:CallOK P cp):RegOK P (regB P τ ex cp):=by
 intro id ops d st K h
 cases d with
 |true=>exact drawB_ok hex hcp h
 |false=>
  have h:aopsB P τ ex cp ops ops.toList st K:=h
  intro a w c hr
  exact wp_region_list (aopsB_ok hex hcp ops.toList st K h a w c hr _ λst' a' w' c' hs hk=>⟨st',c',hs,rfl,hk⟩)
def callB (P:Program)(τ:TypeId->Option Ty)(ex:Exts)(rs:List Rule)(N:Nat):Nat->CP
 |0=>λ_ _ _ _=>False
 |n+1=>λf ss m k=>match findR rs f with
  |some r=>r.cp ss m k
  |none=>cinline P (regB P τ ex (callB P τ ex rs N n)) N f ss m k
theorem callB_ok {τ:TypeId->Option Ty}{ex:Exts}(hex:ExOK P ex){rs:List Rule}{N:Nat}(hR:RulesOK P rs):∀n,CallOK P (callB P τ ex rs N n)
 |0=>λf ss m k h=>h.elim
 |n+1=>by
  intro f ss m k h us w c hox hl hr
  unfold callB at h
  split at h
  ·rename_i r hr'
   obtain⟨h1,h2⟩:=findR_ok hR hr'
   subst h2
   exact h1 _ _ _ h us w c hox hl hr
  ·exact cinline_ok (regB_ok hex (callB_ok hex hR n)) f ss m k h us w c hox hl hr
theorem SpecOK.of_B {τ:TypeId->Option Ty}{ex:Exts}(hex:ExOK P ex){rs:List Rule}(hR:RulesOK P rs){N n:Nat}{s:Spec}(h:∀x post,s.pt x post->HoldW (walkG (callB P τ ex rs N n) s.f s.tp (tvs s.ts x) s.rs post)):SpecOK P s:=
 SpecOK.of_walkG (callB_ok hex hR n) λx post hp=>(h x post hp).h
theorem SpecCOK.of_B {τ:TypeId->Option Ty}{ex:Exts}(hex:ExOK P ex){rs:List Rule}(hR:RulesOK P rs){N n:Nat}{s:Spec}{g:FuncId}(h:∀x post,s.pt x post->HoldW (walkG (callB P τ ex rs N n) s.f s.tp (tvs s.ts x++[.v (clo g)]) s.rs post)):SpecCOK P s [clo g]:=by
 intro x post hp w S T us h1 h2 h3 h4
 have e:tpArg T us++[clo g]=tpArg T (us++[clo g]):=by
  unfold tpArg
  split<;>simp
 rw[e]
 refine walkG_ok (callB_ok hex hR n) (h x post hp).h h1 h2 (by simp[h3,tvs_len]) λi d u hd hu=> ?_
 by_cases hi:i<us.length
 ·rw[List.getElem?_append_left hi] at hu
  rw[List.getElem?_append_left (by rw[tvs_len];omega)] at hd
  exact h4 i d u hd hu
 ·have hi':(tvs s.ts x).length<=i:=by rw[tvs_len];omega
  rw[List.getElem?_append_right hi'] at hd
  rw[List.getElem?_append_right (by omega)] at hu
  have e2:i-(tvs s.ts x).length=i-us.length:=by rw[tvs_len,h3]
  rw[e2] at hd
  match hq:i-us.length,hd,hu with
  |0,hd,hu=>
   simp at hd hu
   subst hd hu
   exact .v _
  |k+1,hd,hu=>simp at hd
end RE
end Go.Proofs.YtjcjdgmojkkioaaGreatDoor
namespace Go.Proofs
open Go.Shelf
def Tryz.growPt_ren:Go.Shelf.Ren:=⟨λ|4=>235|n=>n,λ|22=>103|25=>144|3=>3|4=>4|9=>9|20=>20|0=>0|2=>3|n=>n,λ|n=>n⟩
theorem Tryz.growPt:Go.Proofs.Lays8.n4 Tryz.prog Tryz.growPt_ren:={
 mixed:=by kernel_rfl
 f4:=⟨Tryz.f235.name,by decide,Tryz.func235.trans (congrArg some (by kernel_rfl))⟩
 t0:=Tryz.underlying0
 a0:=Tryz.isAgg0
 z0:=Tryz.sizeOf0
 v0:=Tryz.zeroValue0
 t3:=Tryz.underlying3
 a3:=Tryz.isAgg3
 z3:=Tryz.sizeOf3
 v3:=Tryz.zeroValue3
 t4:=Tryz.underlying4
 a4:=Tryz.isAgg4
 z4:=Tryz.sizeOf4
 v4:=Tryz.zeroValue4
 t9:=Tryz.underlying9
 a9:=Tryz.isAgg9
 z9:=Tryz.sizeOf9
 v9:=Tryz.zeroValue9
 t20:=Tryz.underlying20
 a20:=Tryz.isAgg20
 z20:=Tryz.sizeOf20
 v20:=Tryz.zeroValue20
 t22:=Tryz.underlying103
 a22:=Tryz.isAgg103
 z22:=Tryz.sizeOf103
 v22:=Tryz.zeroValue103}
end Go.Proofs
namespace Go.Proofs.YtjcjdgmojkkioaaGreatDoor
namespace RE
set_option maxRecDepth 100000
open Go.RowKit
open Go.Sort
open Go.Lib
open Go.Shelf
open PL
def growB (ss:List SV)(m:MS)(k:SV->MS->Prop):Prop:=match ss with
 |[.d (.v (.slice none 0 0)),.d (.v (.int .i64 n))]=>bif decide (0<=n)&&decide (n<=1000000) then k (.os m.nx) ⟨(m.nx,some (.row 237 (.st .region_Span) []))::m.ob,m.nx+1,m.tp⟩ else False
 |_=>False
def pgrowB_rule:Rule:=⟨302,growB⟩
theorem pgrowB_rule_ok:RuleOK Tryz.prog pgrowB_rule:=by
 intro ss m k hk us w c hox hl hr
 have hk2:growB ss m k:=hk
 clear hk
 unfold growB at hk2
 split at hk2
 ·rename_i n
  cases hb0:(decide (0<=n)&&decide (n<=1000000)) with
  |false=>rw[hb0] at hk2;exact hk2.elim
  |true=>
  rw[hb0] at hk2
  simp only[cond_true] at hk2
  simp only[Bool.and_eq_true,decide_eq_true_eq] at hb0
  obtain⟨p1,p2⟩:=hb0
  match us,hl with
  |[a,b],_=>
  have ha:a= .slice none 0 0:=srel_v (hr 0 _ a rfl rfl).1
  have hb:b= .int .i64 n:=srel_v (hr 1 _ b rfl rfl).1
  subst ha hb
  obtain⟨q,rfl⟩:∃q:Nat,n=q:=⟨n.toNat,by omega⟩
  refine (growRun q (by omega) w c.S).mono ?_
  rintro e w' ⟨v,F,rfl,g1,g2,g3,g4,g5,g6,g7⟩
  obtain⟨c',k1,k2,k3⟩:=newRow hox g1 g2 g3 g4 g5 g6 g7
  exact⟨v,_,_,c',rfl,hk2,⟨⟨[(m.nx,some (.row 237 (.st .region_Span) []))],rfl⟩,id⟩,k1,k2,by rw[<-k3];exact .os _,Nat.lt_succ_self _⟩
 ·exact hk2.elim
def growBP (ss:List SV)(m:MS)(k:SV->MS->Prop):Prop:=match ss with
 |[.d (.v (.slice none 0 0)),.d (.v (.int .i64 n))]=>bif decide (0<=n)&&decide (n<=1000000) then k (.os m.nx) ⟨(m.nx,some (.row 144 (.st .api_Point) []))::m.ob,m.nx+1,m.tp⟩ else False
 |_=>False
def pgrowBP_rule:Rule:=⟨235,growBP⟩
noncomputable def infoP1:TypeInfo:=(Tryz.prog.info? 144).get!
noncomputable def zeroP1:Value:=infoP1.zero.get!
theorem infoP1_eq:Tryz.prog.info? 144=some infoP1:=by kernel_rfl
theorem zeroP1_eq:infoP1.zero=some zeroP1:=by kernel_rfl
theorem sizeP1:infoP1.size=2:=by kernel_rfl
theorem bytesP1:infoP1.bytes=16:=by kernel_rfl
theorem cellsP1:zeroP1.cells.size=2:=by kernel_rfl
theorem growRunP (n:Nat)(hn:n<=1000000)(w:World)(S:Cells):Calls Tryz.prog 235 #[.slice none 0 0,.int .i64 n] w λe w'=>∃v F,e= .returned v/\w'.os=w.os/\w'.tape=w.tape/\w'.output=w.output/\w.heap.size<=w'.heap.size/\(∀b,b<w.heap.size->w'.heap[b]? =w.heap[b]?)/\(∀b,F b->w.heap.size<=b/\b<w'.heap.size)/\RowAt w' S v F 144 (.st .api_Point) []:=by
 by_cases h0:n=0
 ·subst h0
  refine (Any8.slices_Grow_room Tryz.growPt none 0 0 0 w (by omega) (by omega) (by omega) (by omega)).mono ?_
  rintro e w' ⟨rfl,rfl⟩
  exact⟨_,λ_=>False,rfl,rfl,rfl,rfl,Nat.le_refl _,λ_ _=>rfl,λb h=>h.elim,by decide,.inl ⟨rfl,⟨none,rfl⟩,λb h=>h⟩⟩
 ·refine (Any8.slices_Grow_grow Tryz.growPt infoP1 zeroP1 infoP1_eq zeroP1_eq (by rw[sizeP1];omega) none 0 0 n [] w (by omega) (by omega) ?_ (by omega) rfl (λ_=>rfl) (λa h=>by cases h)).mono ?_
  ·rw[bytesP1]
   omega
  rintro e w' ⟨rfl,rfl⟩
  have hge:=grownCap_ge w (0+n) 0 144
  refine⟨_,λb=>b=w.heap.size,rfl,rfl,rfl,rfl,by simp,λb hb=>heap_alloc_old w.drew _ hb,λb h=>⟨by omega,by simp[h]⟩,by decide,.inr ⟨w.heap.size,_,_,rfl,λb=>Iff.rfl,heap_alloc_new w.drew _,Nat.zero_le _,grownCap_le_maxLen w (0+n) 0 144 (by simp only[maxLen];omega),?_,λi x hx=>by simp at hx⟩⟩
  show _=_ * 2
  simp only[Array.size_append,List.size_toArray,List.length_nil,size_zeroCells,cellsP1,Nat.zero_add,show Tryz.growPt_ren.t 25=144 from rfl] at hge ⊢
  omega
theorem pgrowBP_rule_ok:RuleOK Tryz.prog pgrowBP_rule:=by
 intro ss m k hk us w c hox hl hr
 have hk2:growBP ss m k:=hk
 clear hk
 unfold growBP at hk2
 split at hk2
 ·rename_i n
  cases hb0:(decide (0<=n)&&decide (n<=1000000)) with
  |false=>rw[hb0] at hk2;exact hk2.elim
  |true=>
  rw[hb0] at hk2
  simp only[cond_true] at hk2
  simp only[Bool.and_eq_true,decide_eq_true_eq] at hb0
  obtain⟨p1,p2⟩:=hb0
  match us,hl with
  |[a,b],_=>
  have ha:a= .slice none 0 0:=srel_v (hr 0 _ a rfl rfl).1
  have hb:b= .int .i64 n:=srel_v (hr 1 _ b rfl rfl).1
  subst ha hb
  obtain⟨q,rfl⟩:∃q:Nat,n=q:=⟨n.toNat,by omega⟩
  refine (growRunP q (by omega) w c.S).mono ?_
  rintro e w' ⟨v,F,rfl,g1,g2,g3,g4,g5,g6,g7⟩
  obtain⟨c',k1,k2,k3⟩:=newRow hox g1 g2 g3 g4 g5 g6 g7
  exact⟨v,_,_,c',rfl,hk2,⟨⟨[(m.nx,some (.row 144 (.st .api_Point) []))],rfl⟩,id⟩,k1,k2,by rw[<-k3];exact .os _,Nat.lt_succ_self _⟩
 ·exact hk2.elim
def exI:Exts:=λf=>bif Nat.beq f 314 then some (λs c=>Lib.indexByte s.data.toList c.toNat.toUInt8) else bif Nat.beq f 180 then some (λs c=>Lib.countByte s.data.toList c.toNat.toUInt8) else none
theorem exI_ok:ExOK Tryz.prog exI:=by
 intro f g h s c w
 unfold exI at h
 cases h1:Nat.beq f 314 with
 |true=>
  rw[h1] at h
  injection h with h
  subst h
  rw[beq_eq h1,run_callFunc_extern (e:=Extern.BytealgIndexByte.indexByte) Tryz.func314 (by kernel_rfl) (by kernel_rfl) (by kernel_rfl) (by kernel_rfl),Lib.run_indexByteString]
  rfl
 |false=>
  rw[h1] at h
  cases h2:Nat.beq f 180 with
  |false=>rw[h2] at h;cases h
  |true=>
   rw[h2] at h
   injection h with h
   subst h
   rw[beq_eq h2,run_callFunc_extern (e:=Extern.BytealgCount.count) Tryz.func180 (by kernel_rfl) (by kernel_rfl) (by kernel_rfl) (by kernel_rfl),Lib.run_countString]
   rfl
def rsG:List Rule:=[pgrowB_rule,pgrowBP_rule]
theorem rsG_ok:RulesOK Tryz.prog rsG:= .cons pgrowB_rule_ok (.cons pgrowBP_rule_ok .nil)
def sq10:List api_Rect:=[⟨0,0,10,10⟩]
def isSq (l:List api_Rect):Bool:=decide (l=sq10)
theorem isSq_eq {l:List api_Rect}(h:isSq l=true):l=sq10:=of_decide_eq_true h
def can_sp:Spec:=⟨93,false,true,[.sl (.st .api_Rect)],.dat (.sl (.st .api_Rect)),λx post=>bif isSq x.1 then post (sq10,()) else False⟩
theorem can_w (post:dens (shT can_sp.rs [])->Prop):walkG (callB Tryz.prog tau exI rsG 500 20) 93 false [tv (.sl (.st .api_Rect)) sq10] can_sp.rs post=((post (sq10,())/\post (sq10,()))/\post (sq10,())):=by kernel_rfl
theorem bifT {b:Bool}{p:Prop}(h:bif b then p else False):b=true/\p:=by
 cases b with
 |true=>exact⟨rfl,h⟩
 |false=>exact h.elim
theorem can_ok:SpecOK Tryz.prog can_sp:=SpecOK.of_B (τ:=tau) exI_ok rsG_ok (N:=500) (n:=20) λx post hp=>by
 obtain⟨h1,h2⟩:=bifT hp
 have h1:x=(sq10,()):=by
  obtain⟨l,u⟩:=x
  have h1:l=sq10:=isSq_eq h1
  rw[h1]
  rfl
 subst h1
 exact HoldW.of (can_w post).symm ⟨⟨h2,h2⟩,h2⟩
def rsH:List Rule:=[rule1 can_sp,pgrowB_rule,pgrowBP_rule]
theorem rsH_ok:RulesOK Tryz.prog rsH:= .cons (rule1_ok can_ok) rsG_ok
def eg (a b c d:Int):outline_edge:=⟨⟨a,b⟩,⟨c,d⟩⟩
def u10:List api_Rect:=[⟨0,0,10,1⟩]
def chF (a b:List api_Rect):Option (List api_Rect):=bif decide (a=u10)&&decide (b=[]) then some u10 else bif decide (a=[])&&decide (b=u10) then some [] else none
theorem chF_spec {a b y:List api_Rect}(h:chF a b=some y):(a=u10/\b=[]/\y=u10)\/(a=[]/\b=u10/\y=[]):=by
 unfold chF at h
 cases h1:(decide (a=u10)&&decide (b=[])) with
 |true=>
  rw[h1] at h
  simp only[Bool.and_eq_true,decide_eq_true_eq] at h1
  injection h with h
  exact .inl ⟨h1.1,h1.2,h.symm⟩
 |false=>
  rw[h1] at h
  simp only[cond_false] at h
  cases h2:(decide (a=[])&&decide (b=u10)) with
  |true=>
   rw[h2] at h
   simp only[Bool.and_eq_true,decide_eq_true_eq] at h2
   injection h with h
   exact .inr ⟨h2.1,h2.2,h.symm⟩
  |false=>rw[h2] at h;cases h
def optP {α:Type}(o:Option α)(post:α->Prop):Prop:=match o with
 |some y=>post y
 |none=>False
theorem optP_spec {α:Type}{o:Option α}{post:α->Prop}(h:optP o post):∃y,o=some y/\post y:=by
 cases o with
 |none=>exact h.elim
 |some y=>exact⟨y,rfl,h⟩
def ch_sp:Spec:=⟨75,false,true,[.sl (.st .api_Rect),.sl (.st .api_Rect)],.dat (.sl (.st .api_Rect)),λx post=>optP (chF x.1 x.2.1) λy=>post (y,())⟩
theorem ch_w1 (post:dens (shT ch_sp.rs [])->Prop):walkG (callB Tryz.prog tau exI rsH 500 20) ch_sp.f ch_sp.tp (tvs ch_sp.ts ((u10,([]:List api_Rect),()):dens ch_sp.ts)++[.v (clo 232)]) ch_sp.rs post=((post (u10,())/\post (u10,()))/\post (u10,())):=by kernel_rfl
theorem ch_w2 (post:dens (shT ch_sp.rs [])->Prop):walkG (callB Tryz.prog tau exI rsH 500 20) ch_sp.f ch_sp.tp (tvs ch_sp.ts ((([]:List api_Rect),u10,()):dens ch_sp.ts)++[.v (clo 232)]) ch_sp.rs post=((post (([]:List api_Rect),())/\post (([]:List api_Rect),()))/\post (([]:List api_Rect),())):=by kernel_rfl
theorem ch_x {x:dens ch_sp.ts}{a b:List api_Rect}(h1:(x.1:List api_Rect)=a)(h2:(x.2.1:List api_Rect)=b):x=(a,b,()):=by
 obtain⟨p,q,u⟩:=x
 subst h1 h2
 rfl
theorem ch_ok:SpecCOK Tryz.prog ch_sp [clo 232]:=SpecCOK.of_B (τ:=tau) exI_ok rsH_ok (N:=500) (n:=20) λx post hp=>by
 obtain⟨y,h1,h2⟩:=optP_spec hp
 rcases chF_spec h1 with⟨e1,e2,e3⟩|⟨e1,e2,e3⟩
 ·have e:=ch_x e1 e2
  subst e e3
  exact HoldW.of (ch_w1 post).symm ⟨⟨h2,h2⟩,h2⟩
 ·have e:=ch_x e1 e2
  subst e e3
  exact HoldW.of (ch_w2 post).symm ⟨⟨h2,h2⟩,h2⟩
def rsL:List Rule:=ruleC ch_sp 232::rsH
theorem rsL_ok:RulesOK Tryz.prog rsL:= .cons (ruleC_ok ch_ok) rsH_ok
def eds10:List outline_edge:=[eg 0 0 10 0,eg 0 10 0 0,eg 10 0 10 10,eg 10 10 0 10]
def isRg (a:api_Region):Bool:=isSq a.1
theorem isRg_eq {a:api_Region}(h:isRg a=true):a=⟨sq10⟩:=by
 obtain⟨l⟩:=a
 rw[isSq_eq (l:=l) h]
def eds_sp:Spec:=⟨59,false,true,[.st .api_Region],.dat (.sl (.st .outline_edge)),λx post=>bif isRg x.1 then post (eds10,()) else False⟩
theorem eds_w (post:dens (shT eds_sp.rs [])->Prop):walkG (callB Tryz.prog tau exI rsL 500 20) eds_sp.f eds_sp.tp (tvs eds_sp.ts (((⟨sq10⟩:api_Region),()):dens eds_sp.ts)) eds_sp.rs post=post (eds10,()):=by kernel_rfl
theorem rg_x {x:dens [Ty.st .api_Region]}(h:isRg x.1=true):x=((⟨sq10⟩:api_Region),()):=by
 obtain⟨p,u⟩:=x
 have h:(p:api_Region)=⟨sq10⟩:=isRg_eq h
 subst h
 rfl
theorem eds_ok:SpecOK Tryz.prog eds_sp:=SpecOK.of_B (τ:=tau) exI_ok rsL_ok (N:=500) (n:=20) λx post hp=>by
 obtain⟨h1,h2⟩:=bifT hp
 have e:=rg_x h1
 subst e
 exact HoldW.of (eds_w post).symm h2
def cor10:List api_Point:=[⟨10,0⟩,⟨10,10⟩,⟨0,10⟩,⟨0,0⟩]
def ring10:List api_Point:=[⟨0,0⟩,⟨10,0⟩,⟨10,10⟩,⟨0,10⟩]
def isCor (l:List api_Point):Bool:=decide (l=cor10)
theorem isCor_eq {l:List api_Point}(h:isCor l=true):l=cor10:=of_decide_eq_true h
def bg_sp:Spec:=⟨61,false,true,[.sl (.st .api_Point)],.dat (.sl (.st .api_Point)),λx post=>bif isCor x.1 then post (ring10,()) else False⟩
theorem bg_w (post:dens (shT bg_sp.rs [])->Prop):walkG (callB Tryz.prog tau exI rsG 500 20) bg_sp.f bg_sp.tp (tvs bg_sp.ts ((cor10,()):dens bg_sp.ts)) bg_sp.rs post=post (ring10,()):=by kernel_rfl
theorem cor_x {x:dens [Ty.sl (.st .api_Point)]}(h:isCor x.1=true):x=(cor10,()):=by
 obtain⟨p,u⟩:=x
 have h:p=cor10:=isCor_eq h
 subst h
 rfl
theorem bg_ok:SpecOK Tryz.prog bg_sp:=SpecOK.of_B (τ:=tau) exI_ok rsG_ok (N:=500) (n:=20) λx post hp=>by
 obtain⟨h1,h2⟩:=bifT hp
 have e:=cor_x h1
 subst e
 exact HoldW.of (bg_w post).symm h2
def rsE:List Rule:=rule1 bg_sp::rule1 eds_sp::rsH
theorem rsE_ok:RulesOK Tryz.prog rsE:= .cons (rule1_ok bg_ok) (.cons (rule1_ok eds_ok) rsH_ok)
def rings_sp:Spec:=⟨18,false,true,[.st .api_Region],.tup [.dat (.sl (.sl (.st .api_Point))),.dat (.int .i64)],λx post=>bif isRg x.1 then post ([ring10],(0:Int),()) else False⟩
theorem rings_w (post:dens (shT rings_sp.rs [])->Prop):walkG (callB Tryz.prog tau exI rsE 500 20) rings_sp.f rings_sp.tp (tvs rings_sp.ts (((⟨sq10⟩:api_Region),()):dens rings_sp.ts)) rings_sp.rs post=post ([ring10],(0:Int),()):=by kernel_rfl
theorem rings_ok:SpecOK Tryz.prog rings_sp:=SpecOK.of_B (τ:=tau) exI_ok rsE_ok (N:=500) (n:=20) λx post hp=>by
 obtain⟨h1,h2⟩:=bifT hp
 have e:=rg_x h1
 subst e
 exact HoldW.of (rings_w post).symm h2
def isSh (z:Int)(l:List Int):Bool:=decide (z=3)&&decide (l=[1,2])
theorem isSh_eq {z:Int}{l:List Int}(h:isSh z l=true):z=3/\l=[1,2]:=by
 unfold isSh at h
 simpa using h
def shares_sp:Spec:=⟨33,false,true,[.int .i64,.sl (.int .i64)],.tup [.dat (.sl (.int .i64)),.dat (.int .i64)],λx post=>bif isSh x.1 x.2.1 then post (([1,2]:List Int),(0:Int),()) else False⟩
theorem shares_w (post:dens (shT shares_sp.rs [])->Prop):walkG (callB Tryz.prog tau exI [] 500 20) shares_sp.f shares_sp.tp (tvs shares_sp.ts (((3:Int),([1,2]:List Int),()):dens shares_sp.ts)) shares_sp.rs post=post (([1,2]:List Int),(0:Int),()):=by kernel_rfl
theorem sh_x {x:dens [Ty.int .i64,Ty.sl (.int .i64)]}(h:isSh x.1 x.2.1=true):x=((3:Int),([1,2]:List Int),()):=by
 obtain⟨p,q,u⟩:=x
 obtain⟨h1,h2⟩:=isSh_eq h
 have h1:p=(3:Int):=h1
 have h2:q=([1,2]:List Int):=h2
 subst h1 h2
 rfl
theorem shares_ok:SpecOK Tryz.prog shares_sp:=SpecOK.of_B (τ:=tau) exI_ok .nil (N:=500) (n:=20) λx post hp=>by
 obtain⟨h1,h2⟩:=bifT hp
 have e:=sh_x h1
 subst e
 exact HoldW.of (shares_w post).symm h2
def bs (l:List UInt8):ByteArray:=⟨⟨l⟩⟩
def tAB:ByteArray:=bs [97,32,98,10]
def tA:ByteArray:=bs [97,32,98]
def tN:ByteArray:=bs [10]
def tH:ByteArray:=bs [35]
def tS:ByteArray:=bs [32]
def wAB:List ByteArray:=[bs [97],bs [98]]
abbrev cX:=callB Tryz.prog tau exI [] 500 20
def eq1 {ts:List Ty}{rs:Sh}(x0:dens ts)(y0:dens (shT rs [])):dens ts->(dens (shT rs [])->Prop)->Prop:=λx post=>x=x0/\post y0
def cnt_sp:Spec:=⟨96,false,true,[.str,.str],.dat (.int .i64),eq1 (ts:=[.str,.str]) (rs:= .dat (.int .i64)) (tAB,tN,()) ((1:Int),())⟩
theorem cnt_w (post:dens (shT cnt_sp.rs [])->Prop):walkG cX cnt_sp.f cnt_sp.tp (tvs cnt_sp.ts ((tAB,tN,()):dens cnt_sp.ts)) cnt_sp.rs post=post ((1:Int),()):=by kernel_rfl
theorem cnt_ok:SpecOK Tryz.prog cnt_sp:=SpecOK.of_B (τ:=tau) exI_ok .nil (N:=500) (n:=20) λx post ⟨hx,hp⟩=>by
 subst hx
 exact HoldW.of (cnt_w post).symm hp
def hsf_sp:Spec:=⟨97,false,true,[.str,.str],.dat .bool,eq1 (ts:=[.str,.str]) (rs:= .dat .bool) (tAB,tN,()) (true,())⟩
theorem hsf_w (post:dens (shT hsf_sp.rs [])->Prop):walkG cX hsf_sp.f hsf_sp.tp (tvs hsf_sp.ts ((tAB,tN,()):dens hsf_sp.ts)) hsf_sp.rs post=post (true,()):=by kernel_rfl
theorem hsf_ok:SpecOK Tryz.prog hsf_sp:=SpecOK.of_B (τ:=tau) exI_ok .nil (N:=500) (n:=20) λx post ⟨hx,hp⟩=>by
 subst hx
 exact HoldW.of (hsf_w post).symm hp
def cfn_sp:Spec:=⟨98,false,true,[.str],.dat .bool,eq1 (ts:=[.str]) (rs:= .dat .bool) (tAB,()) (false,())⟩
theorem cfn_w (post:dens (shT cfn_sp.rs [])->Prop):walkG cX cfn_sp.f cfn_sp.tp (tvs cfn_sp.ts ((tAB,()):dens cfn_sp.ts)++[.v (clo 99)]) cfn_sp.rs post=post (false,()):=by kernel_rfl
theorem cfn_ok:SpecCOK Tryz.prog cfn_sp [clo 99]:=SpecCOK.of_B (τ:=tau) exI_ok .nil (N:=500) (n:=20) λx post ⟨hx,hp⟩=>by
 subst hx
 exact HoldW.of (cfn_w post).symm hp
def trm_sp:Spec:=⟨103,false,true,[.str,.str],.dat .str,eq1 (ts:=[.str,.str]) (rs:= .dat .str) (tAB,tN,()) (tA,())⟩
theorem trm_w (post:dens (shT trm_sp.rs [])->Prop):walkG cX trm_sp.f trm_sp.tp (tvs trm_sp.ts ((tAB,tN,()):dens trm_sp.ts)) trm_sp.rs post=post (tA,()):=by kernel_rfl
theorem trm_ok:SpecOK Tryz.prog trm_sp:=SpecOK.of_B (τ:=tau) exI_ok .nil (N:=500) (n:=20) λx post ⟨hx,hp⟩=>by
 subst hx
 exact HoldW.of (trm_w post).symm hp
def cut_sp:Spec:=⟨102,false,true,[.str,.str],.tup [.dat .str,.dat .str,.dat .bool],eq1 (ts:=[.str,.str]) (rs:= .tup [.dat .str,.dat .str,.dat .bool]) (tA,tH,()) (tA,bs [],false,())⟩
theorem cut_w (post:dens (shT cut_sp.rs [])->Prop):walkG cX cut_sp.f cut_sp.tp (tvs cut_sp.ts ((tA,tH,()):dens cut_sp.ts)) cut_sp.rs post=post (tA,bs [],false,()):=by kernel_rfl
theorem cut_ok:SpecOK Tryz.prog cut_sp:=SpecOK.of_B (τ:=tau) exI_ok .nil (N:=500) (n:=20) λx post ⟨hx,hp⟩=>by
 subst hx
 exact HoldW.of (cut_w post).symm hp
def spl_sp:Spec:=⟨105,false,true,[.str,.str],.dat (.sl .str),eq1 (ts:=[.str,.str]) (rs:= .dat (.sl .str)) (tA,tS,()) (wAB,())⟩
theorem spl_w (post:dens (shT spl_sp.rs [])->Prop):walkG cX spl_sp.f spl_sp.tp (tvs spl_sp.ts ((tA,tS,()):dens spl_sp.ts)) spl_sp.rs post=post (wAB,()):=by kernel_rfl
theorem spl_ok:SpecOK Tryz.prog spl_sp:=SpecOK.of_B (τ:=tau) exI_ok .nil (N:=500) (n:=20) λx post ⟨hx,hp⟩=>by
 subst hx
 exact HoldW.of (spl_w post).symm hp
def del_sp:Spec:=⟨104,false,true,[.sl .str],.dat (.sl .str),eq1 (ts:=[.sl .str]) (rs:= .dat (.sl .str)) (wAB,()) (wAB,())⟩
theorem del_w (post:dens (shT del_sp.rs [])->Prop):walkG cX del_sp.f del_sp.tp (tvs del_sp.ts ((wAB,()):dens del_sp.ts)++[.v (clo 106)]) del_sp.rs post=post (wAB,()):=by kernel_rfl
theorem del_ok:SpecCOK Tryz.prog del_sp [clo 106]:=SpecCOK.of_B (τ:=tau) exI_ok .nil (N:=500) (n:=20) λx post ⟨hx,hp⟩=>by
 subst hx
 exact HoldW.of (del_w post).symm hp
def idx_sp:Spec:=⟨185,false,true,[.str,.int .u8],.dat (.int .i64),eq1 (ts:=[.str,.int .u8]) (rs:= .dat (.int .i64)) (tAB,(10:Int),()) ((3:Int),())⟩
theorem idx_w (post:dens (shT idx_sp.rs [])->Prop):walkG cX idx_sp.f idx_sp.tp (tvs idx_sp.ts ((tAB,(10:Int),()):dens idx_sp.ts)) idx_sp.rs post=post ((3:Int),()):=by kernel_rfl
theorem idx_ok:SpecOK Tryz.prog idx_sp:=SpecOK.of_B (τ:=tau) exI_ok .nil (N:=500) (n:=20) λx post ⟨hx,hp⟩=>by
 subst hx
 exact HoldW.of (idx_w post).symm hp
def Left1 (S:Cells)(w:World)(sv:SV)(ex:Ending)(w':World):Prop:=∃(v:Value)(c':Cx),ex= .returned v/\SRel c' w' sv v/\(∀b o,S b o->c'.S b o)/\(∀b o,c'.S b o->(S b o\/w.heap.size<=b)/\b<w'.heap.size)/\Below w.heap.size w w'
theorem SpecOK.atG {P:Program}{f:FuncId}{al:Bool}{ts:List Ty}{rs:Sh}{pt:dens ts->(dens (shT rs [])->Prop)->Prop}(h:SpecOK P ⟨f,false,al,ts,rs,pt⟩){x:dens ts}{y:dens (shT rs [])}(hp:pt x λz=>z=y)(hrows:(instS rs [] y 0).2.1=[]){w:World}{S:Cells}{us:List Value}(hS:∀b o,S b o->b<w.heap.size)(hl:us.length=ts.length)
 (hr:∀(i:Nat)(d:D)(u:Value),(tvs ts x)[i]? =some d->us[i]? =some u->Rd S w d u):Calls P f us.toArray w (Left1 S w (instS rs [] y 0).1):=by
 refine (h x (λz=>z=y) hp w S none us hS rfl hl hr).mono ?_
 rintro ex w' ⟨v,y',c',rfl,rfl,hox,htr,hsr⟩
 have hadd:MS.add ⟨[],0,false⟩ (instS rs [] y' 0).2.1=⟨[],0,false⟩:=by rw[hrows];rfl
 refine⟨v,c',rfl,hsr,htr.sS,λb o hb=>⟨?_,hox.sb b o hb⟩,⟨htr.os,htr.tape,htr.output,htr.sz,λk hk=>htr.blk k hk (λ⟨_,_,hx,_⟩=>(by cases hx)) (λh=>by cases h)⟩⟩
 rcases htr.sN b o hb with h|⟨_,_,hx,_⟩|h
 ·exact .inl h
 ·cases hx
 ·exact .inr h
theorem SpecCOK.atG {P:Program}{f:FuncId}{al:Bool}{ts:List Ty}{rs:Sh}{pt:dens ts->(dens (shT rs [])->Prop)->Prop}{cl:List Value}(h:SpecCOK P ⟨f,false,al,ts,rs,pt⟩ cl){x:dens ts}{y:dens (shT rs [])}(hp:pt x λz=>z=y){w:World}{S:Cells}{us:List Value}(hS:∀b o,S b o->b<w.heap.size)(hl:us.length=ts.length)
 (hr:∀(i:Nat)(d:D)(u:Value),(tvs ts x)[i]? =some d->us[i]? =some u->Rd S w d u):Calls P f (us++cl).toArray w (Left1 S w (instS rs [] y 0).1):=by
 refine (h x (λz=>z=y) hp w S none us hS rfl hl hr).mono ?_
 rintro ex w' ⟨v,y',c',rfl,rfl,hox,htr,hsr⟩
 refine⟨v,c',rfl,hsr,htr.sS,λb o hb=>⟨?_,hox.sb b o hb⟩,⟨htr.os,htr.tape,htr.output,htr.sz,λk hk=>htr.blk k hk (λ⟨_,_,hx,_⟩=>(by cases hx)) (λh=>by cases h)⟩⟩
 rcases htr.sN b o hb with h|⟨_,_,hx,_⟩|h
 ·exact .inl h
 ·cases hx
 ·exact .inr h
def noS:Cells:=λ_ _=>False
theorem str2 {a b:ByteArray}{w:World}:∀(i:Nat)(d:D)(u:Value),(tvs [.str,.str] ((a,b,()):dens [.str,.str]))[i]? =some d->[Value.string a,.string b][i]? =some u->Rd noS w d u:=λi d u h1 h2=>by
 match i,h1,h2 with
 |0,h1,h2=>cases h1;cases h2;exact .v _
 |1,h1,h2=>cases h1;cases h2;exact .v _
 |i+2,h1,h2=>cases h1
def Plain1 (w:World)(u:Value)(ex:Ending)(w':World):Prop:=ex= .returned u/\Below w.heap.size w w'
theorem Left1.plain {S:Cells}{w w':World}{u:Value}{ex:Ending}(h:Left1 S w (.d (.v u)) ex w'):Plain1 w u ex w':=by
 obtain⟨v,c',rfl,h1,_,_,h2⟩:=h
 rw[srel_v h1]
 exact⟨rfl,h2⟩
theorem cnt_at (w:World):Calls Tryz.prog 96 #[.string tAB,.string tN] w (Plain1 w (.int .i64 1)):=
 (cnt_ok.atG (x:=(tAB,tN,())) ⟨rfl,rfl⟩ rfl (S:=noS) (us:=[.string tAB,.string tN]) (λ_ _ h=>h.elim) rfl str2).mono λex w' h=>Left1.plain h
theorem hsf_at (w:World):Calls Tryz.prog 97 #[.string tAB,.string tN] w (Plain1 w (.bool true)):=
 (hsf_ok.atG (x:=(tAB,tN,())) ⟨rfl,rfl⟩ rfl (S:=noS) (us:=[.string tAB,.string tN]) (λ_ _ h=>h.elim) rfl str2).mono λex w' h=>Left1.plain h
theorem cfn_at (w:World):Calls Tryz.prog 98 #[.string tAB,.func (.func 99) #[] #[]] w (Plain1 w (.bool false)):=
 (cfn_ok.atG (x:=(tAB,())) ⟨rfl,rfl⟩ (S:=noS) (us:=[.string tAB]) (λ_ _ h=>h.elim) rfl (λi d u h1 h2=>by
  match i,h1,h2 with
  |0,h1,h2=>cases h1;cases h2;exact .v _
  |i+1,h1,h2=>cases h1)).mono λex w' h=>Left1.plain h
theorem trm_at (w:World):Calls Tryz.prog 103 #[.string tAB,.string tN] w (Plain1 w (.string tA)):=
 (trm_ok.atG (x:=(tAB,tN,())) ⟨rfl,rfl⟩ rfl (S:=noS) (us:=[.string tAB,.string tN]) (λ_ _ h=>h.elim) rfl str2).mono λex w' h=>Left1.plain h
theorem idx_at (w:World):Calls Tryz.prog 185 #[.string tAB,.int .u8 10] w (Plain1 w (.int .i64 3)):=
 (idx_ok.atG (x:=(tAB,(10:Int),())) ⟨rfl,rfl⟩ rfl (S:=noS) (us:=[.string tAB,.int .u8 10]) (λ_ _ h=>h.elim) rfl (λi d u h1 h2=>by
  match i,h1,h2 with
  |0,h1,h2=>cases h1;cases h2;exact .v _
  |1,h1,h2=>cases h1;cases h2;exact .v _
  |i+2,h1,h2=>cases h1)).mono λex w' h=>Left1.plain h
theorem cut_at (w:World):Calls Tryz.prog 102 #[.string tA,.string tH] w (Plain1 w (.tuple #[.string tA,.string (bs []),.bool false])):=
 (cut_ok.atG (x:=(tA,tH,())) ⟨rfl,rfl⟩ rfl (S:=noS) (us:=[.string tA,.string tH]) (λ_ _ h=>h.elim) rfl str2).mono λex w' h=>by
  obtain⟨v,c',rfl,h1,_,_,h2⟩:=h
  have h1:SRel c' w' (.tup [.d (.v (.string tA)),.d (.v (.string (bs []))),.d (.v (.bool false))]) v:=h1
  cases h1 with
  |tup _ us hl h3=>
   match us,hl with
   |[a,b,c],_=>
    have e1:=srel_v (h3 0 _ a rfl rfl)
    have e2:=srel_v (h3 1 _ b rfl rfl)
    have e3:=srel_v (h3 2 _ c rfl rfl)
    subst e1 e2 e3
    exact⟨rfl,h2⟩
theorem spl_at (w:World):Calls Tryz.prog 105 #[.string tA,.string tS] w λex w'=>∃(v:Value)(S':Cells),ex= .returned v/\Rd S' w' (.sl .str wAB) v/\(∀b o,S' b o->w.heap.size<=b/\b<w'.heap.size)/\Below w.heap.size w w':=
 (spl_ok.atG (x:=(tA,tS,())) ⟨rfl,rfl⟩ rfl (S:=noS) (us:=[.string tA,.string tS]) (λ_ _ h=>h.elim) rfl str2).mono λex w' h=>by
  obtain⟨v,c',rfl,h1,_,h3,h2⟩:=h
  exact⟨v,c'.S,rfl,srel_d h1,λb o hb=>⟨(h3 b o hb).1.elim (λh=>h.elim) id,(h3 b o hb).2⟩,h2⟩
theorem del_at (w:World)(S:Cells)(v0:Value)(hS:∀b o,S b o->b<w.heap.size)(hv:Rd S w (.sl .str wAB) v0):Calls Tryz.prog 104 #[v0,.func (.func 106) #[] #[]] w λex w'=>∃(v:Value)(S':Cells),ex= .returned v/\Rd S' w' (.sl .str wAB) v/\(∀b o,S' b o->(S b o\/w.heap.size<=b)/\b<w'.heap.size)/\Below w.heap.size w w':=
 (del_ok.atG (x:=(wAB,())) ⟨rfl,rfl⟩ (S:=S) (us:=[v0]) hS rfl (λi d u h1 h2=>by
  match i,h1,h2 with
  |0,h1,h2=>cases h1;cases h2;exact hv
  |i+1,h1,h2=>cases h1)).mono λex w' h=>by
  obtain⟨v,c',rfl,h1,_,h3,h2⟩:=h
  exact⟨v,c'.S,rfl,srel_d h1,h3,h2⟩
end RE
end Go.Proofs.YtjcjdgmojkkioaaGreatDoor
namespace Go.Proofs.YtjcjdgmojkkioaaGreatDoor
open Go.RowKit Go.Shelf
set_option linter.unusedVariables false
set_option maxRecDepth 100000
attribute [local go_sem] Oper.semAt_some
namespace RE
set_option maxHeartbeats 1000000 in
theorem lines_in (n:Nat)(hn:2<=n)(l Bs:Nat)(W:World)(hb:Boxed W Bs 9 (.string tAB))(Q:World->Prop)
 (hy:∀W1,W.grownBy W1 (some Bs)->Boxed W1 Bs 9 (.string (bs []))->YieldAt Fence.wide (n-1) Tryz.prog l #[.string tAB] W1 λe W2=>e= .returned (.bool true)/\Q W2/\Boxed W2 Bs 9 (.string (bs []))):
 CallsIn Fence.wide n Tryz.prog 184 #[.func (.yield l) #[] #[],.pointer (some ⟨Bs,0,none⟩)] W λe W'=>(∃v,e= .returned v)/\Q W':=by
 refine callsIn_of_wp Tryz.func184 rfl trivial ?_ rfl
 simp only[Tryz.ntmps184,List.size_toArray,List.length_cons,List.length_nil,Nat.reduceAdd,Nat.reduceSub,Array.replicate_succ,Array.replicate_zero,List.push_toArray,List.append_toArray,List.nil_append,List.cons_append]
 have hc:=hb.cell
 have hf:=hb.frozen
 refine wpIn_block ?_
 refine wpIn_loop_rounds 2 ?_
 unfold Code.roundsIn
 gi_wp2
 refine⟨trivial,λ_=>by omega,(callsIn_wide.2 (idx_at W)).mono ?_⟩
 rintro e w1 ⟨rfl,hB1⟩
 have hlt:=hb.lt
 have hb1:Boxed w1 Bs 9 (.string tAB):=(hB1.block Bs hlt).trans hb
 have hc1:=hb1.cell
 have hf1:=hb1.frozen
 clear hc hf
 gi_wp2
 have e4:tAB.extract 0 4=tAB:=by decide
 have e0:tAB.extract 4 tAB.size=bs []:=by decide
 obtain⟨K0,hK0⟩:∃K0:Act->World->Prop,K0=λa' w'=>(∃t,a'={tmps:= #[.func (.yield l) #[] #[],.pointer (some ⟨Bs,0,none⟩),undef,.string tAB,.int .i64 3,.string tAB,.int .i64 (tAB.size:Int),.bool true,.string tAB,.int .i64 3,.int .i64 3,.bool true,.string tAB,.int .i64 3,.int .i64 4,.string tAB,.string tAB,.int .i64 3,.int .i64 4,t,undef,undef,undef,undef,undef],defers:=[]})/\w'=(w1.setCell ⟨Bs,0,none⟩ (.string (bs []))).drew:=⟨_,rfl⟩
 refine wpIn_mono (Q:=Exit.then K0 (λ_ _ _=>False)) ?_ ?_
 ·gi_region
  all_goals (show K0 _ _;rw[hK0];exact⟨⟨_,rfl⟩,rfl⟩)
 intro e a' w' hq
 have he:e= .normal:=by
  cases e with
  |normal=>rfl
  |_=>exact hq.elim
 subst he
 have hq:K0 a' w':=hq
 rw[hK0] at hq
 obtain⟨⟨t,rfl⟩,rfl⟩:=hq
 obtain⟨w2,hw2⟩:∃w2,w2=(w1.setCell ⟨Bs,0,none⟩ (.string (bs []))).drew:=⟨_,rfl⟩
 rw[<-hw2]
 have hb2:Boxed w2 Bs 9 (.string (bs [])):=by rw[hw2];exact hb1.set _
 have hg2:W.grownBy w2 (some Bs):=by
  refine⟨?_,?_,?_,?_,λk hk hne=> ?_⟩
  ·rw[hw2];exact hB1.os
  ·rw[hw2];exact hB1.tape
  ·rw[hw2];exact hB1.output
  ·rw[hw2];simpa using hB1.size
  ·rw[hw2]
   exact (Below.heap_setCell w1 ⟨Bs,0,none⟩ _ k (λe=>hne (by rw[e]))).trans (hB1.block k hk)
 obtain⟨fn,tmps,assign,body,hyl,hR⟩:=hy w2 hg2 hb2
 clear hw2 hc1 hf1
 gi_wp2
 refine⟨λ_=>by omega,hR.mono ?_⟩
 rintro e w3 ⟨rfl,hQ3,hb3⟩
 have hc3:=hb3.cell
 have hf3:=hb3.frozen
 gi_wp2
 unfold Code.roundsIn
 have hz:(bs []).size=0:=rfl
 gi_wp2
 trace_state
 first|go_end0|go_ret
 exact⟨⟨_,rfl⟩,hQ3⟩
end RE
end Go.Proofs.YtjcjdgmojkkioaaGreatDoor
namespace Go.Proofs.YtjcjdgmojkkioaaGreatDoor
open Go.RowKit Go.Shelf
set_option linter.unusedVariables false
set_option maxRecDepth 100000
attribute [local go_sem] Oper.semAt_some
namespace RE
structure Kp2 (w W:World)(b c:Nat):Prop where
 os:W.os=w.os
 tape:W.tape=w.tape
 output:W.output=w.output
 size:w.heap.size<=W.heap.size
 block:∀k,k<w.heap.size->k≠b->k≠c->W.heap[k]? =w.heap[k]?
theorem Kp2.put {w W:World}{b c l:Nat}(h:Kp2 w W b c)(hl:w.heap.size<=l)(o:Obj):Kp2 w (W.putObj l o) b c:=
 ⟨h.os,h.tape,h.output,by simpa [World.putObj] using h.size,λk hk h1 h2=>(World.putObj_heap_other (by omega)).trans (h.block k hk h1 h2)⟩
theorem range_one {assign body:Code}{Q:Exit->Act->World->Prop}{a:Act}{w:World}{n Bs B4:Nat}{g:Operand}(hn:4<=n)(hg:a.eval g= .func (.func 184) #[] #[.pointer (some ⟨Bs,0,none⟩)])(hb:Boxed w Bs 9 (.string tAB))(hB:B4<w.heap.size)(hne:B4≠Bs)
 (J:World->Prop) (hJ:∀(X:World)(l:Nat)(o o':Obj),w.heap.size<=l->X.heap[l]? =some o->o.isCells=false->J X->J (X.putObj l o'))
 (hround:∀(l:Nat)(W1:World),w.grownBy W1 (some Bs)->w.heap.size<=l->l<W1.heap.size->
  assign.wpIn (Fence.wide.inRound l) (n-1-1) Tryz.prog (Exit.then (λa₁ w₁=>w₁=W1/\∀W2:World,W1.grownBy W2 (some l)->body.wpIn (Fence.wide.inRound l) (n-1-1) Tryz.prog (λe _ W3=>e= .normal/\W2.grownBy W3 (some B4)/\J W3) a₁ W2) (λ_ _ _=>False))
   {tmps:=a.tmps.setIfInBounds 27 (.string tAB),defers:=[]} W1)
 (hdone:∀(D:Nat)(W:World),w.heap.size<=D->Kp2 w W Bs B4->J W->W.heap[D]? =some (.deferred (some []))->Q .normal {a with defers:={target:= .collected D,args:= #[]}::a.defers} W):
 (Code.rangeFunc g #[27] assign body).wpIn Fence.wide n Tryz.prog Q a w:=by
 refine wpIn_rangeFunc ?_
 intro fn hfn
 obtain⟨rec,hrec⟩:∃rec:LoopState->Option Code->Loop,rec=λst pe=>{state:=st,pending:=pe,fn,tmps:=a.tmps,params:= #[27],assign,body,defers:=w.heap.size}:=⟨_,rfl⟩
 obtain⟨W1,hW1⟩:∃W1,(w.alloc (.deferred (some []))).alloc (.loop (rec .ready none))=W1:=⟨_,rfl⟩
 have hlt:=hb.lt
 have hs1:W1.heap.size=w.heap.size+2:=by rw[<-hW1];simp
 have hold:∀k,k<w.heap.size->W1.heap[k]? =w.heap[k]? :=λk hk=>by
  rw[<-hW1];exact (Below.heap_alloc _ _ k (by simp;omega)).trans (Below.heap_alloc _ _ k hk)
 have hL1:W1.heap[w.heap.size+1]? =some (.loop (rec .ready none)):=by
  rw[<-hW1];have:=World.alloc_heap_new (w.alloc (.deferred (some []))) (.loop (rec .ready none));rwa [World.size_alloc] at this
 have hK1:W1.heap[w.heap.size]? =some (.deferred (some [])):=by
  rw[<-hW1];exact (Below.heap_alloc _ _ _ (by simp)).trans (World.alloc_heap_new w _)
 have ho1:W1.os=w.os/\W1.tape=w.tape/\W1.output=w.output:=by rw[<-hW1];exact⟨rfl,rfl,rfl⟩
 have hb1:Boxed W1 Bs 9 (.string tAB):=(hold Bs hlt).trans hb
 refine⟨w.heap.size+1,[{target:= .collected w.heap.size,args:= #[]}],W1,{target:= .fn (.func 184) #[.pointer (some ⟨Bs,0,none⟩)],args:= #[.func (.yield (w.heap.size+1)) #[] #[]]},W1,184,
  #[.func (.yield (w.heap.size+1)) #[] #[]]++ #[.pointer (some ⟨Bs,0,none⟩)],W1,?_,?_,?_,?_,λ_=>by omega,?_⟩
 ·rw[<-hW1,hrec];exact run_enterLoop_outer _ _ _ _ _
 ·simp only[resolve,hg]
  simp[go_sem]
 ·intro f' hf';trivial
 ·have eg:=enters_of Tryz.func184 (by kernel_rfl) rfl
  simp[invoke,go_sem]
 ·refine (lines_in (n-1) (by omega) (w.heap.size+1) Bs W1 hb1 (λW=>Kp2 w W Bs B4/\W.heap[w.heap.size+1]? =some (.loop (rec .ready none))/\W.heap[w.heap.size]? =some (.deferred (some []))/\J W) ?_).mono ?_
  ·intro Wy hgy hby
   have hLy:Wy.heap[w.heap.size+1]? =some (.loop (rec .ready none)):=(hgy.block _ (by omega) (by simp;omega)).trans hL1
   have hKy:Wy.heap[w.heap.size]? =some (.deferred (some [])):=(hgy.block _ (by omega) (by simp;omega)).trans hK1
   have hly:w.heap.size+1<Wy.heap.size:=(Array.getElem?_eq_some_iff.1 hLy).1
   have hgw:w.grownBy Wy (some Bs):=⟨hgy.os.trans ho1.1,hgy.tape.trans ho1.2.1,hgy.output.trans ho1.2.2,by have:=hgy.size;omega,λk hk hne=>(hgy.block k (by omega) hne).trans (hold k hk)⟩
   have hyl:=run_yield (P:=Tryz.prog) (args:= #[.string tAB]) hLy (by rw[hrec];rfl)
   rw[hrec] at hyl
   refine⟨fn,_,assign,body,hyl,roundIn_of_wpIn hfn ?_⟩
   have hr:=hround (w.heap.size+1) Wy hgw (by omega) hly
   have hr:=hr
   refine wpIn_mono (by simpa using hr) ?_
   intro e a1 w1 hq
   cases e with
   |normal=>
    obtain⟨rfl,hbody⟩:=hq
    have hbr:=run_beginRound (P:=Tryz.prog) hLy (by rw[hrec])
    obtain⟨W2,hW2⟩:∃W2,w1.putObj (w.heap.size+1) (.loop {rec .ready none with state:= .busy})=W2:=⟨_,rfl⟩
    rw[hW2] at hbr
    have hg2:w1.grownBy W2 (some (w.heap.size+1)):=by rw[<-hW2];exact grownBy_putObj' _ _ _
    have hL2:W2.heap[w.heap.size+1]? =some (.loop {rec .ready none with state:= .busy}):=by rw[<-hW2];exact World.putObj_heap_same hly
    have hK2:W2.heap[w.heap.size]? =some (.deferred (some [])):=(hg2.block _ (by omega) (by simp)).trans hKy
    have hb2:Boxed W2 Bs 9 (.string (bs [])):=(hg2.block Bs (by omega) (by simp;omega)).trans hby
    refine⟨W2,hbr,wpIn_mono (hbody W2 hg2) ?_⟩
    rintro e a3 W3 ⟨rfl,hg3,hJ3⟩
    have hs2:=hg2.size
    have hs3:=hg3.size
    have hL3:W3.heap[w.heap.size+1]? =some (.loop {rec .ready none with state:= .busy}):=(hg3.block _ (by omega) (by simp;omega)).trans hL2
    have hK3:W3.heap[w.heap.size]? =some (.deferred (some [])):=(hg3.block _ (by omega) (by simp;omega)).trans hK2
    have hb3:Boxed W3 Bs 9 (.string (bs [])):=(hg3.block Bs (by omega) (by simp;omega)).trans hb2
    have hl3:=(Array.getElem?_eq_some_iff.1 hL3).1
    have her:=run_endRound (P:=Tryz.prog) none hL3
    refine⟨_,_,her,rfl,⟨Kp2.put ⟨hg3.os.trans (hg2.os.trans hgw.os),hg3.tape.trans (hg2.tape.trans hgw.tape),hg3.output.trans (hg2.output.trans hgw.output),by have:=hgw.size;omega,λk hk h1 h2=> ?_⟩ (by omega) _,?_,(World.putObj_heap_other (by omega)).trans hK3,hJ _ _ _ _ (by omega) hL3 rfl hJ3⟩,(World.putObj_heap_other (by omega)).trans hb3⟩
    ·have:=hgw.size
     exact (hg3.block k (by omega) (by simp;omega)).trans ((hg2.block k (by omega) (by simp;omega)).trans (hgw.block k hk (by simp;omega)))
    ·rw[World.putObj_heap_same hl3]
     simp[hrec]
   |_=>exact hq.elim
  ·rintro e W3 ⟨⟨v,rfl⟩,hk,hL,hK,hJ3⟩
   have hend:=run_endLoop (P:=Tryz.prog) hL (by rw[hrec];simp)
   have hend':(Instr.endLoop (w.heap.size+1)).run Tryz.prog W3= .ok none (W3.putObj (w.heap.size+1) (.loop {rec .ready none with state:= .exhausted})):=by rw[hend];simp[hrec]
   refine⟨none,_,hend',?_⟩
   exact hdone w.heap.size _ (Nat.le_refl _) (hk.put (by omega) _) (hJ _ _ _ _ (by omega) hL rfl hJ3) ((World.putObj_heap_other (by omega)).trans hK)
end RE
end Go.Proofs.YtjcjdgmojkkioaaGreatDoor
namespace Go.Proofs.YtjcjdgmojkkioaaGreatDoor
open Go.RowKit Go.Shelf
set_option linter.unusedVariables false
set_option maxRecDepth 100000
attribute [local go_sem] Oper.semAt_some
namespace RE
theorem tAB_ne:tAB.toList.isEmpty=false:=by simp[tAB,bs,ByteArray.toList,ByteArray.toList.loop,ByteArray.size]
theorem lines_at (w:World):Calls Tryz.prog 101 #[.string tAB] w λe w'=>e= .returned (.func (.func 184) #[] #[.pointer (some ⟨w.heap.size,0,none⟩)])/\w'=w.alloc (.cells #[.string tAB] 9):=by
 refine (callsIn_wide (n:=3)).1 ?_
 refine callsIn_of_wp Tryz.func101 rfl trivial ?_ rfl
 simp only[Tryz.ntmps101,List.size_toArray,List.length_cons,List.length_nil,Nat.reduceAdd,Nat.reduceSub,Array.replicate_succ,Array.replicate_zero,List.push_toArray,List.append_toArray,List.nil_append,List.cons_append]
 gi_wp2
 first|go_end0|go_ret
 exact⟨rfl,rfl⟩
theorem infoS:∃i,Tryz.prog.info? 175=some i/\i.zero=some (.slice none 0 0)/\i.size=1/\i.bytes=24:=info_parts (by kernel_rfl)
theorem sl_form {S:Cells}{w:World}{t:Ty}{l:List (den t)}{u:Value}(h:Rd S w (.sl t l) u):∃a c,u= .slice a l.length c:=by
 cases h with
 |sl _ _ ad cap b off f hc hm ha hx h=>exact⟨ad,cap,rfl⟩
def NewR (B:Nat)(W:World)(d:D)(u:Value):Prop:=∃S':Cells,(∀b o,S' b o->B<=b/\b<W.heap.size/\(W.cell? ⟨b,o,none⟩).isSome=true)/\Rd S' W d u
theorem rd_some0 {S:Cells}{W:World}{d:D}{u:Value}(h:Rd S W d u):Rd (λb o=>S b o/\(W.cell? ⟨b,o,none⟩).isSome=true) W d u:=by
 induction h with
 |v x=>exact .v x
 |fn f cs us hl h ih=>exact .fn f cs us hl ih
 |agg cs us hl h1 h ih=>exact .agg cs us hl h1 ih
 |tup cs us hl h ih=>exact .tup cs us hl ih
 |sl t l ad cap b off f hc hm ha hx h ih=>
  refine .sl t l ad cap b off f hc hm ha (λi hi j hj=> ?_) ih
  obtain⟨h1,h2,h3⟩:=hx i hi j hj
  exact⟨⟨h1,by rw[h2];rfl⟩,h2,h3⟩
 |p cs b off f hx h ih=>
  refine .p cs b off f (λj hj=> ?_) ih
  obtain⟨h1,h2,h3⟩:=hx j hj
  exact⟨⟨h1,by rw[h2];rfl⟩,h2,h3⟩
theorem NewR.keep {B:Nat}{W W':World}{d:D}{u:Value}(h:NewR B W d u)(hs:W.heap.size<=W'.heap.size)(hk:∀b,b<W.heap.size->B<=b->(∃o,(W.cell? ⟨b,o,none⟩).isSome=true)->W'.heap[b]? =W.heap[b]?):NewR B W' d u:=by
 obtain⟨S',h1,h2⟩:=h
 have e:∀b o,S' b o->W'.cell? ⟨b,o,none⟩=W.cell? ⟨b,o,none⟩:=λb o hb=>World.cell?_of_block (hk b (h1 b o hb).2.1 (h1 b o hb).1 ⟨o,(h1 b o hb).2.2⟩)
 exact⟨S',λb o hb=>⟨(h1 b o hb).1,Nat.lt_of_lt_of_le (h1 b o hb).2.1 hs,by rw[e b o hb];exact (h1 b o hb).2.2⟩,h2.mono (λ_ _ h=>h) e⟩
theorem some_cells0 {W:World}{b:Nat}(h:∃o,(W.cell? ⟨b,o,none⟩).isSome=true){o:Obj}(ho:W.heap[b]? =some o):o.isCells=true:=by
 obtain⟨k,hk⟩:=h
 cases hc:o.isCells with
 |true=>rfl
 |false=>
  exfalso
  cases o<;>simp[World.cell?,ho,Obj.isCells] at hk hc
def HasAB (B4:Nat)(W:World):Prop:=∃u,Boxed W B4 99 u/\NewR (B4+1) W (.sl (.sl .str) [wAB]) u
theorem HasAB.put {B4 l:Nat}{X:World}{o o':Obj}(h:HasAB B4 X)(ho:X.heap[l]? =some o)(hc:o.isCells=false):HasAB B4 (X.putObj l o'):=by
 obtain⟨u,h1,h2⟩:=h
 have hne:B4≠l:=λe=>by
  subst e
  rw[show X.heap[B4]? =_ from h1] at ho;injection ho with ho;subst ho;cases hc
 refine⟨u,(World.putObj_heap_other hne).trans h1,h2.keep (by simp[World.putObj]) λb hb _ hs=>World.putObj_heap_other λe=> ?_⟩
 subst e
 rw[some_cells0 hs ho] at hc;cases hc
theorem new_ab {B g7 c7:Nat}{W:World}{a6:Option Addr}{c6:Nat}{S6:Cells}(hown:W.ownsRow B 175 1 (.slice (some ⟨g7,0,none⟩) (0+1) c7) (0+1) ([]++[.slice a6 wAB.length c6]))(hrd:Rd S6 W (.sl .str wAB) (.slice a6 wAB.length c6))(hS:∀b o,S6 b o->B<=b/\b<W.heap.size):NewR B W (.sl (.sl .str) [wAB]) (.slice (some ⟨g7,0,none⟩) 1 c7):=by
 have hcell:=hown.cellAt 0 (by omega)
 obtain⟨_,h|⟨g,cap,cur,h1,h2,h3,h4,h5,h6,h7⟩⟩:=hown
 ·cases h.1
 injection h1 with h1 _ hcap
 injection h1 with h1
 injection h1 with h1
 subst h1 hcap
 have hlt:=(Array.getElem?_eq_some_iff.1 h3).1
 refine⟨_,λb o hb=> ?_,rd_some0 (S:=λb o=>S6 b o\/(b=g7/\o=0)) ?_⟩
 ·rcases hb.1 with h|⟨rfl,rfl⟩
  ·exact⟨(hS b o h).1,(hS b o h).2,hb.2⟩
  ·exact⟨h2,hlt,hb.2⟩
 ·refine Rd.sl (.sl .str) [wAB] (some ⟨g7,0,none⟩) c7 g7 0 (λ_ _=> .slice a6 wAB.length c6) h4 h5 (.inr rfl) (λi hi j hj=> ?_) λi x j c hx hc=> ?_
  ·have hi:i=0:=by have:i<1:=hi;omega
   have hj:j=0:=by have:j<1:=hj;omega
   subst hi hj
   exact⟨.inr ⟨rfl,rfl⟩,hcell,rfl⟩
  ·match i,hx with
   |0,hx=>
    cases hx
    match j,hc with
    |0,hc=>cases hc;exact hrd.mono (λ_ _ h=> .inl h) λ_ _ _=>rfl
    |j+1,hc=>cases hc
   |i+1,hx=>cases hx
theorem step_app {F:Fence}{n:Nat}{P:Program}{ops:Array Oper}{Q:Exit->Act->World->Prop}{a:Act}{w:World}{o:Oper}{K:Act->World->Prop}{X:Prop}(hg:o.guard=none)(s x:Operand)(t:TypeId)(hop:o.op=Op.call {callee:=Callee.builtin Builtin.append,args:= #[s,x],argTypes:= #[t,t]})
 {v v2 v':Value} {w':World} (hs:a.eval s=v) (hx:a.eval x=v2) (hrun:(Builtin.append_ #[t,t] o.type #[v,v2]).run P w= .ok v' w') (hK:K (a.put o.dst v') w'):if Region.wanted o (yielded ops a.tmps)=true then Oper.wpIn F n P o a w K Q else X:=by
 have hw:Region.wanted o (yielded ops a.tmps)=true:=by unfold Region.wanted;rw[hg]
 rw[if_pos hw]
 unfold Oper.wpIn
 refine⟨?_,?_⟩
 ·simp[Oper.about,hop,resolve,Target.leads,Sem.run_pure]
 ·rw[Oper.semAt_plain F _ _ (by rw[hop];intro c hc';cases hc')]
  simp[execOp,hop,resolve,invoke,builtin,hs,hx,hrun,Result.andThen]
  exact hK
set_option maxHeartbeats 4000000 in
theorem split_any (w:World):Calls Tryz.prog 32 #[.string tAB] w λe w'=>∃u,e= .returned (.tuple #[u,.int .i64 0])/\NewR w.heap.size w' (.sl (.sl .str) [wAB]) u/\Below w.heap.size w w':=by
 refine (callsIn_wide (n:=6)).1 ?_
 refine callsIn_of_wp_marks Tryz.func32 rfl trivial ?_ rfl
 simp only[Tryz.ntmps32,List.size_toArray,List.length_cons,List.length_nil,Nat.reduceAdd,Nat.reduceSub,Array.replicate_succ,Array.replicate_zero,List.push_toArray,List.append_toArray,List.nil_append,List.cons_append]
 have hz:tAB.size=4:=rfl
 have hl:tAB.toList.isEmpty=false:=tAB_ne
 have hn:¬tAB.toList=[]:=λe=>by rw[e] at hl;cases hl
 gi_wp2
 refine⟨trivial,(callsIn_wide.2 (cnt_at w)).mono ?_⟩
 rintro e w1 ⟨rfl,hB1⟩
 gi_wp2
 refine⟨trivial,(callsIn_wide.2 (hsf_at w1)).mono ?_⟩
 rintro e w2 ⟨rfl,hB2⟩
 gi_wp2
 refine⟨trivial,(callsIn_wide.2 (cfn_at w2)).mono ?_⟩
 rintro e w3 ⟨rfl,hB3⟩
 gi_wp2
 refine⟨trivial,(callsIn_wide.2 (lines_at _)).mono ?_⟩
 rintro e w4 ⟨rfl,rfl⟩
 gi_wp2
 obtain⟨w5,hw5⟩:∃w5,(w3.alloc (Obj.cells #[Value.slice none 0 0] 99)).alloc (Obj.cells #[Value.string tAB] 9)=w5:=⟨_,rfl⟩
 have hB3':Below w.heap.size w w3:=hB1.trans ((hB2.mono hB1.size).trans (hB3.mono (Nat.le_trans hB1.size hB2.size)))
 have hB5:Below w.heap.size w w5:=by
  rw[<-hw5];exact (hB3'.alloc hB3'.size _).alloc (by simp;exact Nat.le_succ_of_le hB3'.size) _
 have bS:Boxed w5 (w3.heap.size+1) 9 (.string tAB):=by
  rw[<-hw5];have:=Boxed.new (w3.alloc (Obj.cells #[Value.slice none 0 0] 99)) 9 (.string tAB);rwa [World.size_alloc] at this
 have b4:Boxed w5 w3.heap.size 99 (.slice none 0 0):=by
  rw[<-hw5];exact (Boxed.new w3 99 (.slice none 0 0)).alloc _
 have hs5:w5.heap.size=w3.heap.size+2:=by rw[<-hw5];simp
 rw[hw5]
 clear hw5
 refine range_one (B4:=w3.heap.size) (Bs:=w3.heap.size+1) (by omega) rfl bS (by omega) (by omega) (HasAB w3.heap.size) (λX l o o' _ ho hc h=>h.put ho hc) ?_ ?_
 ·intro l W1 hg1 hl1 hl2
  have bW:Boxed W1 w3.heap.size 99 (.slice none 0 0):=(hg1.block _ (by omega) (by simp)).trans b4
  gi_wp2
  refine⟨trivial,λW2 hg2=> ?_⟩
  have bW2:Boxed W2 w3.heap.size 99 (.slice none 0 0):=(hg2.block _ (by omega) (by simp;omega)).trans bW
  gi_wp2
  refine⟨trivial,(CallsIn.inRound l (callsIn_wide.2 (trm_at W2))).mono ?_⟩
  rintro e W3 ⟨rfl,k3⟩
  gi_wp2
  refine⟨trivial,(CallsIn.inRound l (callsIn_wide.2 (cut_at W3))).mono ?_⟩
  rintro e W4 ⟨rfl,k4⟩
  gi_wp2
  have hs2:=hg2.size
  have hs1:=hg1.size
  have k3s:=k3.size
  have k4s:=k4.size
  have hg4:W2.grownBy W4 (some w3.heap.size):=⟨k4.os.trans k3.os,k4.tape.trans k3.tape,k4.output.trans k3.output,by omega,λk hk _=>(k4.block k (by omega)).trans (k3.block k hk)⟩
  have bW4:Boxed W4 w3.heap.size 99 (.slice none 0 0):=(k4.block _ (by omega)).trans ((k3.block _ (by omega)).trans bW2)
  have hlt4:=bW4.lt
  have hc4:=bW4.cell
  have hf4:=bW4.frozen
  obtain⟨i0,hi,hz0,hz1,hz2⟩:=infoS
  obtain⟨K0,hK0⟩:∃K0:Act->World->Prop,K0=λa' w'=>a'.defers=[]/\W2.grownBy w' (some w3.heap.size)/\HasAB w3.heap.size w':=⟨_,rfl⟩
  refine wpIn_mono (Q:=Exit.then K0 (λ_ _ _=>False)) ?_ ?_
  ·have hd:1<=6-1-1:=by omega
   have h105:Fence.wide.fn 105:=trivial
   have h104:Fence.wide.fn 104:=trivial
   have hmx:Tryz.prog.follows .mixedOrders=true:=by kernel_rfl
   refine wpIn_region_any hmx ?_
   change wpAnyIn _ _ _ _ _ _ _ _ _ (World.drew _)
   have hcd:W4.drew.cell? ⟨w3.heap.size,0,none⟩=some (.slice none 0 0):=hc4
   have hR:∀(a:Act)(W7:World),W2.grownBy W7 (some w3.heap.size)->HasAB w3.heap.size W7->a.defers=[]->(Exit.then K0 λx x_1 x_2=>False) .normal a W7:=λa W7 h1 h2 h3=>by
    show K0 a W7
    rw[hK0];exact⟨h3,h1,h2⟩
   repeat' (first
    |(refine wpAnyIn_ready (rs:=[0,1]) (by decide+kernel) (by simp) (AllReadyIn.cons rfl (λK hK=> ?_) (AllReadyIn.cons rfl (λK hK=> ?_) AllReadyIn.nil)))
    |(refine wpAnyIn_ready (rs:=[0,2]) (by decide+kernel) (by simp) (AllReadyIn.cons rfl (λK hK=> ?_) (AllReadyIn.cons rfl (λK hK=> ?_) AllReadyIn.nil)))
    |(refine wpAnyIn_ready (rs:=[0,3]) (by decide+kernel) (by simp) (AllReadyIn.cons rfl (λK hK=> ?_) (AllReadyIn.cons rfl (λK hK=> ?_) AllReadyIn.nil)))
    |(refine wpAnyIn_ready (rs:=[0,4]) (by decide+kernel) (by simp) (AllReadyIn.cons rfl (λK hK=> ?_) (AllReadyIn.cons rfl (λK hK=> ?_) AllReadyIn.nil)))
    |(refine wpAnyIn_ready (rs:=[1]) (by decide+kernel) (by simp) (AllReadyIn.cons rfl (λK hK=> ?_) AllReadyIn.nil))
    |(refine wpAnyIn_ready (rs:=[2]) (by decide+kernel) (by simp) (AllReadyIn.cons rfl (λK hK=> ?_) AllReadyIn.nil))
    |(refine wpAnyIn_ready (rs:=[3]) (by decide+kernel) (by simp) (AllReadyIn.cons rfl (λK hK=> ?_) AllReadyIn.nil))
    |(refine wpAnyIn_ready (rs:=[4]) (by decide+kernel) (by simp) (AllReadyIn.cons rfl (λK hK=> ?_) AllReadyIn.nil))
    |(refine wpAnyIn_ready (rs:=[0]) (by decide+kernel) (by simp) (AllReadyIn.cons rfl (λK hK=> ?_) AllReadyIn.nil))
    |(go_simp;refine hK _ _ ?_;clear hK K)
    |(go_simp;gi_at_call 105;refine (CallsIn.inRound l (callsIn_wide.2 (spl_at _))).mono ?_;rintro e W5 ⟨v5,S5,rfl,rd5,hS5,k5⟩;have k5s:=k5.size;have bW5:Boxed W5 w3.heap.size 99 (.slice none 0 0):=(k5.block w3.heap.size hlt4).trans bW4;have hc5:=bW5.cell;have hf5:=bW5.frozen;refine hK _ _ ?_;clear hK K)
    |(go_simp;gi_at_call 104;refine (CallsIn.inRound l (callsIn_wide.2 (del_at _ S5 _ (λb o h=>(hS5 b o h).2) rd5))).mono ?_;rintro e W6 ⟨v6,S6,rfl,rd6,hS6,k6⟩;obtain⟨a6,c6,rfl⟩:=sl_form rd6;have k6s:=k6.size;have bW6:Boxed W6 w3.heap.size 99 (.slice none 0 0):=(k6.block _ bW5.lt).trans bW5;have hc6:=bW6.cell;have hf6:=bW6.frozen;have h6lt:=bW6.lt;have h6ne:¬w3.heap.size=W6.heap.size:=Nat.ne_of_lt h6lt;have hc6a:(W6.alloc (.cells #[.slice a6 wAB.length c6] 175)).cell? ⟨w3.heap.size,0,none⟩=some (.slice none 0 0):=(bW6.alloc _).cell;refine hK _ _ ?_;clear hK K))
   all_goals (
    refine wpAnyIn_ready (rs:=[5]) (by decide+kernel) (by simp) (AllReadyIn.cons rfl (λK hK=> ?_) AllReadyIn.nil)
    have h6s:W4.heap.size<=W5.heap.size:=k5s
    have hs6:(W6.alloc (.cells #[.slice a6 wAB.length c6] 175)).heap.size=W6.heap.size+1:=by simp
    obtain⟨v7,W7,hrun,hown7,hgrow7,_⟩:=run_append_own (P:=Tryz.prog) (W6.alloc (.cells #[.slice a6 wAB.length c6] 175)) (w3.heap.size+1) 99 99 175 i0 (.slice none 0 0) 1 24 Tryz.underlying99 hi hz0 hz1 hz2 rfl (by decide) (.slice none 0 0) 0 [] (World.ownsRow_nil _ _ _ _) ⟨W6.heap.size,0,none⟩ 1 1 [.slice a6 wAB.length c6] rfl (cell_one_new _ _ _) (by simp[Value.oneCell']) (by decide) (by decide) (by omega)
    refine step_app rfl _ _ 99 rfl rfl rfl hrun ?_
    refine hK _ _ ?_
    clear hK K
    obtain⟨g7,c7,rfl⟩:=ownsRow_succ hown7
    have hb7:∀k,k<W6.heap.size->W7.heap[k]? =W6.heap[k]? :=λk hk=>(hgrow7.block k (by omega) (by simp[Value.ownBlock])).trans (Below.heap_alloc W6 _ _ hk)
    have hs7:=hgrow7.size
    have bW7:Boxed W7 w3.heap.size 99 (.slice none 0 0):=(hb7 _ h6lt).trans bW6
    have hc7:=bW7.cell
    have hf7:=bW7.frozen
    refine wpAnyIn_ready (rs:=[6]) (by decide+kernel) (by simp) (AllReadyIn.cons rfl (λK hK=> ?_) AllReadyIn.nil)
    go_simp
    refine hK _ _ ?_
    clear hK K
    refine wpAnyIn_done (by decide+kernel) ?_ _
    refine hR _ _ ?_ ?_ rfl
    ·refine⟨?_,?_,?_,?_,λk hk hne=> ?_⟩
     ·exact hgrow7.os.trans (k6.os.trans (k5.os.trans hg4.os))
     ·exact hgrow7.tape.trans (k6.tape.trans (k5.tape.trans hg4.tape))
     ·exact hgrow7.output.trans (k6.output.trans (k5.output.trans hg4.output))
     ·have:=hg4.size
      simp;omega
     ·have:=hg4.size
      rw[Below.heap_setCell W7 ⟨w3.heap.size,0,none⟩ _ k (λe=>hne (by rw[e])),hb7 k (by omega)]
      exact (k6.block k (by omega)).trans ((k5.block k (by show k<W4.heap.size;omega)).trans (hg4.block k hk hne))
    ·refine⟨_,bW7.set _,?_⟩
     have hab:NewR (w3.heap.size+1) W7 (.sl (.sl .str) [wAB]) (.slice (some ⟨g7,0,none⟩) 1 c7):=
      new_ab hown7 (rd6.mono (λ_ _ h=>h) λb o hb=>World.cell?_of_block (hb7 b (hS6 b o hb).2)) λb o hb=>by
       have hb':=hS6 b o hb
       have h5:S5 b o->W4.heap.size<=b:=λh=>(hS5 b o h).1
       rcases hb'.1 with h|h
       ·have:=h5 h;omega
       ·omega
     refine hab.keep (by simp) λb hb hB _=>Below.heap_setCell W7 ⟨w3.heap.size,0,none⟩ _ b (λe=>by have:b=w3.heap.size:=e;omega))
  ·intro e a' w' hq
   have he:e= .normal:=by
    cases e with
    |normal=>rfl
    |_=>exact hq.elim
   subst he
   have hq:K0 a' w':=hq
   rw[hK0] at hq
   exact⟨rfl,hq.2.1,hq.2.2⟩
 ·intro D W hD hk hab hK
  obtain⟨u,bu,hnew⟩:=hab
  obtain⟨a7,c7,rfl⟩:∃a7 c7,u= .slice a7 1 c7:=by
   obtain⟨S',_,h⟩:=hnew
   exact sl_form h
  have hcu:=bu.cell
  have hfu:=bu.frozen
  have hk':=Lib.hid hk
  have hnew':=Lib.hid hnew
  clear hz hl hn hk hnew
  gi_wp2
  refine⟨by simp,.inl ⟨_,_,rfl,run_takeDeferred hK,?_⟩⟩
  have hlt:=(Array.getElem?_eq_some_iff.1 hK).1
  have hks:=hk'.out.size
  have h3s:=hB3'.size
  refine⟨.tuple #[.slice a7 1 c7,.int .i64 0],by simp[results,Tryz.f32,go_sem],.slice a7 1 c7,rfl,?_,?_⟩
  ·obtain⟨S',k1,k2⟩:=hnew'.out
   have h0:NewR w.heap.size W (.sl (.sl .str) [wAB]) (.slice a7 1 c7):=⟨S',λb o hb=>⟨by have:=(k1 b o hb).1;omega,(k1 b o hb).2⟩,k2⟩
   refine h0.keep (by simp[World.putObj]) λb hb _ ho=>World.putObj_heap_other λe=> ?_
   subst e
   have:=some_cells0 ho hK
   cases this
  ·have hb:=hk'.out
   refine⟨hb.os.trans hB5.os,hb.tape.trans hB5.tape,hb.output.trans hB5.output,by simp[World.putObj];omega,λk hk=> ?_⟩
   rw[World.putObj_heap_other (by omega)]
   exact (hb.block k (by omega) (by omega) (by omega)).trans (hB5.block k hk)
end RE
end Go.Proofs.YtjcjdgmojkkioaaGreatDoor
namespace Go.Proofs.YtjcjdgmojkkioaaGreatDoor
namespace RE
open Go.RowKit
open Go.Shelf
set_option maxRecDepth 100000
def split_sp:Spec:=⟨32,false,true,[.str],.tup [.dat (.sl (.sl .str)),.dat (.int .i64)],eq1 (ts:=[.str]) (rs:= .tup [.dat (.sl (.sl .str)),.dat (.int .i64)]) (tAB,()) ([wAB],(0:Int),())⟩
theorem split_ok:SpecOK Tryz.prog split_sp:=by
 intro x post hp w S T us hS hT hl hr
 obtain⟨rfl,hp⟩:=hp
 have hT:T=none:=hT
 subst hT
 have hus:us=[.string tAB]:=by
  match us,hl with
  |[u],_=>
   have h:=hr 0 (.v (.string tAB)) u rfl rfl
   cases h;rfl
 subst hus
 refine (split_any w).mono ?_
 rintro e w' ⟨u,rfl,⟨S',k1,k2⟩,hb⟩
 refine⟨_,([wAB],(0:Int),()),cx0 (λb o=>S b o\/S' b o) none,rfl,hp,?_,?_,?_⟩
 ·exact⟨λb o h=>h.elim (λh=>Nat.lt_of_lt_of_le (hS b o h) hb.size) (λh=>(k1 b o h).2.1),λid x hx=>(by cases hx),λid x hx=>(by cases hx),λi j x y hx=>(by cases hx),λT hT'=>(by cases hT'),λh=>(by cases h),λ_=>rfl⟩
 ·exact⟨hb.os,hb.tape,hb.output,hb.size,λ_ h=>h,λ_ h=> .inl h,λ_ h=>h,λ_ _=>⟨rfl,rfl⟩,λ_ _ h=> .inl h,λb o h=>h.elim .inl (λh=> .inr (.inr (k1 b o h).1)),λk hk _ _=>hb.block k hk,λ_ h=> .inl h⟩
 ·refine .tup [.d (.sl (.sl .str) [wAB]),.d (.v (.int .i64 0))] [u,.int .i64 0] rfl λi s v hs hv=> ?_
  match i,hs,hv with
  |0,hs,hv=>
   cases hs;cases hv
   exact .d _ _ (k2.mono (λ_ _ h=> .inr h) λ_ _ _=>rfl)
  |1,hs,hv=>cases hs;cases hv;exact v_srel _
  |i+2,hs,hv=>cases hs
def isT (l:ByteArray):Bool:=decide (l.data.toList=[97,32,98,10])
theorem isT_eq {l:ByteArray}(h:isT l=true):l=tAB:=by
 have h:l.data.toList=[97,32,98,10]:=of_decide_eq_true h
 obtain⟨⟨d⟩⟩:=l
 have h:d=[97,32,98,10]:=h
 subst h
 rfl
def split2_sp:Spec:=⟨32,false,true,[.str],.tup [.dat (.sl (.sl .str)),.dat (.int .i64)],λx post=>bif isT x.1 then post ([wAB],(0:Int),()) else False⟩
theorem split2_ok:SpecOK Tryz.prog split2_sp:=by
 intro x post hp
 obtain⟨h1,h2⟩:=bifT hp
 have h1:x=(tAB,()):=by
  obtain⟨l,u⟩:=x
  have h1:l=tAB:=isT_eq h1
  rw[h1]
  rfl
 subst h1
 exact split_ok _ post ⟨rfl,h2⟩
def rsA:List Rule:=[rule1 can_sp,rule1 rings_sp,rule1 shares_sp,rule1 split2_sp,pgrowB_rule,pgrowBP_rule]
theorem rsA_ok:RulesOK Tryz.prog rsA:= .cons (rule1_ok can_ok) (.cons (rule1_ok rings_ok) (.cons (rule1_ok shares_ok) (.cons (rule1_ok split2_ok) rsG_ok)))
def awake_sp:Spec:=⟨8,false,true,[],.dat .bool,λ_ post=>post (true,())⟩
theorem awake_w (post:dens (shT awake_sp.rs [])->Prop):walkG (callB Tryz.prog tau exI rsA 500 20) awake_sp.f awake_sp.tp (tvs awake_sp.ts (():dens awake_sp.ts)) awake_sp.rs post=post (true,()):=by kernel_rfl
theorem awake_ok:SpecOK Tryz.prog awake_sp:=SpecOK.of_B (τ:=tau) exI_ok rsA_ok (N:=500) (n:=20) λx post hp=>by
 have e:x=():=rfl
 subst e
 exact HoldW.of (awake_w post).symm hp
open PL
def lCorr_C:CtxR:=⟨tau,[ruleN 6,rule1 krange_sp,rule1 pknown_sp,rule1 prunA_sp,rule1 pon_sp,rule1 peqr_sp,rule1 awake_sp],lookJ [(0,1000017,⟨[(4,.dat .bool)],[],(List.range' 118 47),[],[]⟩),(0,9,⟨[(7,.dat (.int .i64)),(6,.own 80 (.st .api_Edit))],[],(List.range' 28 23),[],[]⟩)]⟩
abbrev lCorr_a0 (which:Int)(v6:Int)(v7:Int):={Day:=(5:Int),Known:=(30:Int),Kind:=(2:Int),Parcels:=[IntKind.i64.wrap ((IntKind.i64.wrap which).tmod (3:Int)+(1:Int))],Regions:=[{Rects:=[{Left:=IntKind.i64.wrap ((10:Int) * (IntKind.i64.wrap which).tmod (3:Int)),Low:=(0:Int),Right:=IntKind.i64.wrap (IntKind.i64.wrap ((10:Int) * (IntKind.i64.wrap which).tmod (3:Int))+v6),High:=v7:api_Rect}]:api_Region}]:api_Edit}
abbrev lCorr_a1 (v10:Int)(v13:Int)(v17:Int)(v21:Int)(v23:Bool)(v25:Bool)(v27:Bool)(y30:Bool):=(decide (v10=(0:Int))&&decide (v13=(0:Int))&&decide (v17=(0:Int))&&decide (v21=(0:Int))&&v23&&v25&&v27&&y30)
abbrev lCorr_a2 (which:Int):=(IntKind.i64.wrap ((IntKind.i64.wrap which).tmod (3:Int)+(1:Int)))
abbrev lCorr_a3 (z2:Int)(v4:Int)(v5:Int):={Day:=z2,Known:=z2,Kind:=(1:Int),Parcels:=[],Regions:=[{Rects:=[{Left:=IntKind.i64.wrap ((10:Int) * z2),Low:=(0:Int),Right:=IntKind.i64.wrap (IntKind.i64.wrap ((10:Int) * z2)+v4),High:=v5:api_Rect}]:api_Region}]:api_Edit}
def lCorr_W (l:List (Int))(which:Int)(post:Bool->Prop):Prop:=LOOP [Ty.int IntKind.i64,(Ty.st Sn.api_Edit).sl] (λ(rec1:Int->List api_Edit->Prop) (z2:Int) (z3:List api_Edit)=>IFB (decide (z2<3)) ((Int.NonNeg 1099511627778/\Int.NonNeg 1099511627774/\Int.NonNeg 1099511627785/\(9:Int)<=1099511627776)/\∀(v4:Int),2<=v4->v4<=9\/v4=2->(Int.NonNeg 1099511627778/\Int.NonNeg 1099511627774/\Int.NonNeg 1099511627785/\(9:Int)<=1099511627776)/\∀(v5:Int),2<=v5->v5<=9\/v5=2->(z3.length+[(lCorr_a3 z2 v4 v5)].length) * (72:Nat)<=140737488355328/\rec1 (IntKind.i64.wrap (z2+1)) (z3++[(lCorr_a3 z2 v4 v5)])) (((3:Int)=0->False)/\(Int.NonNeg 1099511627777/\Int.NonNeg 1099511627775/\Int.NonNeg 1099511627785/\(9:Int)<=1099511627776)/\∀(v6:Int),1<=v6->v6<=9\/v6=1->(Int.NonNeg 1099511627777/\Int.NonNeg 1099511627775/\Int.NonNeg 1099511627785/\(9:Int)<=1099511627776)/\∀(v7:Int),1<=v7->v7<=9\/v7=1->(z3.length+[(lCorr_a0 which v6 v7)].length) * (72:Nat)<=140737488355328/\((z3++[(lCorr_a0 which v6 v7)]).length<=19/\∀(v8:api_Edit),v8∈z3++[(lCorr_a0 which v6 v7)]->szE v8)/\∀(v9:List api_Edit)(v10:Int),v9=(knownS (z3++[(lCorr_a0 which v6 v7)]) 29).1/\v10=(knownS (z3++[(lCorr_a0 which v6 v7)]) 29).2->((z3++[(lCorr_a0 which v6 v7)]).length<=19/\∀(v11:api_Edit),v11∈z3++[(lCorr_a0 which v6 v7)]->szE v11)/\∀(v12:List api_Edit)(v13:Int),v12=(knownS (z3++[(lCorr_a0 which v6 v7)]) 30).1/\v13=(knownS (z3++[(lCorr_a0 which v6 v7)]) 30).2->(v9.length<=1000000/\∀(v14:api_Edit),v14∈v9->szE v14)/\∀(v15:List api_Parcel)(v16 v17:Int),szL v15/\runS v9=(v15,v16,v17)->(v12.length<=1000000/\∀(v18:api_Edit),v18∈v12->szE v18)/\∀(v19:List api_Parcel)(v20 v21:Int),szL v19/\runS v12=(v19,v20,v21)->szL v15/\∀(v22:List api_Rect)(v23:Bool),v22=(onS v15 (lCorr_a2 which) 9).1/\(v23=true↔onP v15 (lCorr_a2 which) 9)->szL v19/\∀(v24:List api_Rect)(v25:Bool),v24=(onS v19 (lCorr_a2 which) 9).1/\(v25=true↔onP v19 (lCorr_a2 which) 9)->szL v19/\∀(v26:List api_Rect)(v27:Bool),v26=(onS v19 (lCorr_a2 which) 4).1/\(v27=true↔onP v19 (lCorr_a2 which) 4)->JOIN [Ty.bool] (λ(y28:Bool)=>post y28) λ(J29:Bool->Prop)=>JOIN [Ty.bool] (λ(y30:Bool)=>(gx true (lCorr_a1 v10 v13 v17 v21 v23 v25 v27 y30)=true->0<=(IntKind.i64.wrap which).tmod 3/\(IntKind.i64.wrap which).tmod 3<(↑(z3++[(lCorr_a0 which v6 v7)]).length:Int))/\((gx true (lCorr_a1 v10 v13 v17 v21 v23 v25 v27 y30)=true->Int.NonNeg 0/\0<(↑(ix (z3++[(lCorr_a0 which v6 v7)]) ((IntKind.i64.wrap which).tmod 3)).5.length:Int))/\JOIN [Ty.bool] (λ(y31:Bool)=>(JOIN [Ty.bool] (λ(y32:Bool)=>JOIN [Ty.bool] (λ(y33:Bool)=>J29 (decide (v10=0)&&decide (v13=0)&&decide (v17=0)&&decide (v21=0)&&v23&&v25&&v27&&y30&&y31&&y32&&y33)) λ(J34:Bool->Prop)=>IFB (gx true (decide (v10=0)&&decide (v13=0)&&decide (v17=0)&&decide (v21=0)&&v23&&v25&&v27&&y30&&y31&&y32)) (J34 true) (J34 false)) λ(J35:Bool->Prop)=>IFB (gx true (decide (v10=0)&&decide (v13=0)&&decide (v17=0)&&decide (v21=0)&&v23&&v25&&v27&&y30&&y31)) (v26.length<=1000000000/\∀(v36:Bool),(v36=true↔v26=v22)->J35 v36) (J35 false))/\JOIN [Ty.bool] (λ(y37:Bool)=>JOIN [Ty.bool] (λ(y38:Bool)=>J29 (decide (v10=0)&&decide (v13=0)&&decide (v17=0)&&decide (v21=0)&&v23&&v25&&v27&&y30&&y31&&y37&&y38)) λ(J39:Bool->Prop)=>IFB (gx true (decide (v10=0)&&decide (v13=0)&&decide (v17=0)&&decide (v21=0)&&v23&&v25&&v27&&y30&&y31&&y37)) (J39 true) (J39 false)) λ(J40:Bool->Prop)=>IFB (gx true (decide (v10=0)&&decide (v13=0)&&decide (v17=0)&&decide (v21=0)&&v23&&v25&&v27&&y30&&y31)) (v26.length<=1000000000/\∀(v41:Bool),(v41=true↔v26=v22)->J40 v41) (J40 false)) λ(J42:Bool->Prop)=>IFB (gx true (lCorr_a1 v10 v13 v17 v21 v23 v25 v27 y30)) (v22.length<=1000000000/\∀(v43:Bool),(v43=true↔v22=(ix (ix (z3++[(lCorr_a0 which v6 v7)]) ((IntKind.i64.wrap which).tmod 3)).5 0).1)->J42 v43) (J42 false))/\(gx true (lCorr_a1 v10 v13 v17 v21 v23 v25 v27 y30)=true->Int.NonNeg 0/\0<(↑(ix (z3++[(lCorr_a0 which v6 v7)]) ((IntKind.i64.wrap which).tmod 3)).5.length:Int))/\(JOIN [Ty.bool] (λ(y44:Bool)=>(JOIN [Ty.bool] (λ(y45:Bool)=>JOIN [Ty.bool] (λ(y46:Bool)=>J29 (decide (v10=0)&&decide (v13=0)&&decide (v17=0)&&decide (v21=0)&&v23&&v25&&v27&&y30&&y44&&y45&&y46)) λ(J47:Bool->Prop)=>IFB (gx true (decide (v10=0)&&decide (v13=0)&&decide (v17=0)&&decide (v21=0)&&v23&&v25&&v27&&y30&&y44&&y45)) (J47 true) (J47 false)) λ(J48:Bool->Prop)=>IFB (gx true (decide (v10=0)&&decide (v13=0)&&decide (v17=0)&&decide (v21=0)&&v23&&v25&&v27&&y30&&y44)) (v26.length<=1000000000/\∀(v49:Bool),(v49=true↔v26=v22)->J48 v49) (J48 false))/\JOIN [Ty.bool] (λ(y50:Bool)=>JOIN [Ty.bool] (λ(y51:Bool)=>J29 (decide (v10=0)&&decide (v13=0)&&decide (v17=0)&&decide (v21=0)&&v23&&v25&&v27&&y30&&y44&&y50&&y51)) λ(J52:Bool->Prop)=>IFB (gx true (decide (v10=0)&&decide (v13=0)&&decide (v17=0)&&decide (v21=0)&&v23&&v25&&v27&&y30&&y44&&y50)) (J52 true) (J52 false)) λ(J53:Bool->Prop)=>IFB (gx true (decide (v10=0)&&decide (v13=0)&&decide (v17=0)&&decide (v21=0)&&v23&&v25&&v27&&y30&&y44)) (v26.length<=1000000000/\∀(v54:Bool),(v54=true↔v26=v22)->J53 v54) (J53 false)) λ(J55:Bool->Prop)=>IFB (gx true (lCorr_a1 v10 v13 v17 v21 v23 v25 v27 y30)) (v22.length<=1000000000/\∀(v56:Bool),(v56=true↔v22=(ix (ix (z3++[(lCorr_a0 which v6 v7)]) ((IntKind.i64.wrap which).tmod 3)).5 0).1)->J55 v56) (J55 false))/\JOIN [Ty.bool] (λ(y57:Bool)=>(JOIN [Ty.bool] (λ(y58:Bool)=>JOIN [Ty.bool] (λ(y59:Bool)=>J29 (decide (v10=0)&&decide (v13=0)&&decide (v17=0)&&decide (v21=0)&&v23&&v25&&v27&&y30&&y57&&y58&&y59)) λ(J60:Bool->Prop)=>IFB (gx true (decide (v10=0)&&decide (v13=0)&&decide (v17=0)&&decide (v21=0)&&v23&&v25&&v27&&y30&&y57&&y58)) (J60 true) (J60 false)) λ(J61:Bool->Prop)=>IFB (gx true (decide (v10=0)&&decide (v13=0)&&decide (v17=0)&&decide (v21=0)&&v23&&v25&&v27&&y30&&y57)) (v26.length<=1000000000/\∀(v62:Bool),(v62=true↔v26=v22)->J61 v62) (J61 false))/\JOIN [Ty.bool] (λ(y63:Bool)=>JOIN [Ty.bool] (λ(y64:Bool)=>J29 (decide (v10=0)&&decide (v13=0)&&decide (v17=0)&&decide (v21=0)&&v23&&v25&&v27&&y30&&y57&&y63&&y64)) λ(J65:Bool->Prop)=>IFB (gx true (decide (v10=0)&&decide (v13=0)&&decide (v17=0)&&decide (v21=0)&&v23&&v25&&v27&&y30&&y57&&y63)) (J65 true) (J65 false)) λ(J66:Bool->Prop)=>IFB (gx true (decide (v10=0)&&decide (v13=0)&&decide (v17=0)&&decide (v21=0)&&v23&&v25&&v27&&y30&&y57)) (v26.length<=1000000000/\∀(v67:Bool),(v67=true↔v26=v22)->J66 v67) (J66 false)) λ(J68:Bool->Prop)=>IFB (gx true (lCorr_a1 v10 v13 v17 v21 v23 v25 v27 y30)) (v22.length<=1000000000/\∀(v69:Bool),(v69=true↔v22=(ix (ix (z3++[(lCorr_a0 which v6 v7)]) ((IntKind.i64.wrap which).tmod 3)).5 0).1)->J68 v69) (J68 false)) λ(J70:Bool->Prop)=>IFB (gx true (decide (v10=0)&&decide (v13=0)&&decide (v17=0)&&decide (v21=0)&&v23&&v25&&v27)) (v24.length<=1000000000/\∀(v71:Bool),(v71=true↔v24=[(⟨IntKind.i64.wrap ((10:Int) * (IntKind.i64.wrap which).tmod 3),(0:Int),IntKind.i64.wrap (IntKind.i64.wrap ((10:Int) * (IntKind.i64.wrap which).tmod 3)+v6),v7⟩:api_Rect)])->J70 v71) (J70 false))) ((0:Int),[],PUnit.unit)
theorem lCorr_w (l:List (Int))(which:Int)(post:Bool->Prop):lCorr_W l which post=lawG (callR Tryz.prog lCorr_C (drawF Tryz.prog tau) 12 0) 5 [tv (.sl (.int .i64)) l,tv (.int .u8) which] post:=by kernel_rfl
theorem lCorr_calls (l:List (Int))(which:Int)(h:lCorr_W l which λb=>b=true){w:World}{S:Cells}{us:List Value}(h1:∀b o,S b o->b<w.heap.size)(h3:us.length=2)(h4:∀(i:Nat)(d:D)(u:Value),[tv (.sl (.int .i64)) l,tv (.int .u8) which][i]? =some d->us[i]? =some u->Rd S w d u):Calls Tryz.prog 5 us.toArray w λe w'=>(∃b,e= .returned (.bool b)/\b=true)/\Below w.heap.size w w':=lawG_okH (cp:=callR Tryz.prog lCorr_C (drawF Tryz.prog tau) 12 0) (callR_ok (C:=lCorr_C) (dr:=drawF Tryz.prog tau) (.cons (ruleN_ok knew_ok) (.cons (rule1_ok krange_ok) (.cons (rule1_ok pknown_ok) (.cons (rule1_ok prunA_ok) (.cons (rule1_ok pon_ok) (.cons (rule1_ok peqr_ok) (.cons (rule1_ok awake_ok) .nil))))))) (drawF_ok tau) 12 0) (HoldW.of (lCorr_w l which λb=>b=true) h) h1 h3 h4
theorem wf_u8c {a:Int}(h:(Lit.int .u8 a).wf=true):0<=a/\a<=255:=by
 simp[Lit.wf,IntKind.min,IntKind.max,IntKind.bits,IntKind.signed] at h;omega
namespace PL
def loopC (z:Int)(L:List Ed):Prop:=(z=0/\L=[])\/(z=1/\∃a,colC 0 a/\L=[edC 0 a])\/(z=2/\∃a b,colC 0 a/\colC 1 b/\L=[edC 0 a,edC 1 b])\/(z=3/\∃a b c,colC 0 a/\colC 1 b/\colC 2 c/\L=edsC a b c)
end PL
theorem loopC_next {z w h:Int}{L:List Ed}(hI:loopC z L)(hz:z<3)(h1:1<=w/\w<=9)(h2:1<=h/\h<=9):loopC (z+1) (L++[edC z (rcC z w h)]):=by
 have hc:∀k,colC k (rcC k w h):=λk=>⟨w,h,h1.1,h1.2,h2.1,h2.2,rfl⟩
 rcases hI with⟨rfl,rfl⟩|⟨rfl,a,ha,rfl⟩|⟨rfl,a,b,ha,hb,rfl⟩|⟨rfl,_⟩
 ·exact .inr (.inl ⟨rfl,_,hc 0,rfl⟩)
 ·exact .inr (.inr (.inl ⟨rfl,a,_,ha,hc 1,rfl⟩))
 ·exact .inr (.inr (.inr ⟨rfl,a,b,_,ha,hb,hc 2,rfl⟩))
 ·omega
theorem loopC_z {z:Int}{L:List Ed}(hI:loopC z L):0<=z/\z<=3/\(L.length:Int)=z:=by
 rcases hI with⟨rfl,rfl⟩|⟨rfl,a,ha,rfl⟩|⟨rfl,a,b,ha,hb,rfl⟩|⟨rfl,a,b,c,_,_,_,rfl⟩
 ·exact⟨by omega,by omega,rfl⟩
 ·exact⟨by omega,by omega,rfl⟩
 ·exact⟨by omega,by omega,rfl⟩
 ·exact⟨by omega,by omega,rfl⟩
theorem colC_len {k:Int}{a:Rn}(h:colC k a):a.Rects.length=1:=by
 obtain⟨_,_,_,_,_,_,rfl⟩:=h
 rfl
theorem sz_edC {k:Int}{a:Rn}{j:Int}(h:colC j a):szE (edC k a):=⟨by show 0<=1000000;omega,by show 1<=1000000;omega,λb hb=>by rw[List.mem_singleton.1 hb,colC_len h];omega⟩
theorem sz_edD {k:Int}{a:Rn}{j:Int}(h:colC j a):szE (edD k a):=⟨by show 1<=1000000;omega,by show 1<=1000000;omega,λb hb=>by rw[List.mem_singleton.1 hb,colC_len h];omega⟩
set_option maxHeartbeats 2000000 in
theorem lCorr_h (l:List Int)(which:Int)(w1:(Lit.int .u8 which).wf=true):lCorr_W l which λb=>b=true:=by
 obtain⟨b1,b2⟩:=wf_u8c w1
 obtain⟨n,en,hn⟩:∃n:Nat,(IntKind.i64.wrap which).tmod (3:Int)=(n:Int)/\n<3:=by
  refine⟨(which % 3).toNat,?_,by omega⟩
  rw[wrap_in (z:=which) (by omega) (by omega),Int.tmod_eq_emod_of_nonneg b1]
  omega
 have e10:IntKind.i64.wrap ((10:Int) * (n:Int))=10 * (n:Int):=wrap_in (by omega) (by omega)
 have e11:IntKind.i64.wrap ((n:Int)+(1:Int))=(n:Int)+1:=wrap_in (by omega) (by omega)
 unfold lCorr_W lCorr_a3 lCorr_a2 lCorr_a1 lCorr_a0
 simp only[en,e10,e11]
 refine LOOP.fuel2 (t1:= .int .i64) (t2:= .sl (.st .api_Edit)) (λ(z:Int) (L:List Ed)=>loopC z L) (λ(z:Int) (L:List Ed)=>3-Int.toNat z) (.inl ⟨rfl,rfl⟩) ?_
 intro rec (z:Int) (L:List Ed) hI hrec
 have hI:loopC z L:=hI
 obtain⟨z0,z3,hlen⟩:=loopC_z hI
 refine IFB.mk (λhb=> ?_) (λhb=> ?_)
 ·have hb:z<3:=of_decide_eq_true hb
  refine⟨⟨.mk _,.mk _,.mk _,by omega⟩,λv4 p1 p2=>⟨⟨.mk _,.mk _,.mk _,by omega⟩,λv5 p3 p4=> ?_⟩⟩
  have e12:IntKind.i64.wrap ((10:Int) * z)=10 * z:=wrap_in (by omega) (by omega)
  have e13:IntKind.i64.wrap (10 * z+v4)=10 * z+v4:=wrap_in (by omega) (by omega)
  have e14:IntKind.i64.wrap (z+(1:Int))=z+1:=wrap_in (by omega) (by omega)
  rw[e12,e13,e14]
  refine⟨by rw[List.length_singleton];omega,hrec (z+1) _ (loopC_next hI hb ⟨by omega,by omega⟩ ⟨by omega,by omega⟩) (by show 3-(z+1).toNat<3-z.toNat;omega)⟩
 ·have hb:¬z<3:=of_decide_eq_false hb
  obtain⟨a,b,c,ha,hbb,hc,rfl⟩:∃a b c,colC 0 a/\colC 1 b/\colC 2 c/\L=edsC a b c:=by
   rcases hI with⟨rfl,rfl⟩|⟨rfl,a,ha,rfl⟩|⟨rfl,a,b,ha,hb,rfl⟩|⟨rfl,h⟩
   ·omega
   ·omega
   ·omega
   ·exact h
  refine⟨λh=>by omega,⟨.mk _,.mk _,.mk _,by omega⟩,λv6 p1 p2=>⟨⟨.mk _,.mk _,.mk _,by omega⟩,λv7 p3 p4=> ?_⟩⟩
  have e13:IntKind.i64.wrap (10 * (n:Int)+v6)=10 * (n:Int)+v6:=wrap_in (by omega) (by omega)
  rw[e13]
  have hr:colC (n:Int) (rcC (n:Int) v6 v7):=⟨v6,v7,by omega,by omega,by omega,by omega,rfl⟩
  obtain⟨x,y,r1,r2,⟨o1,o2⟩,⟨o3,o4⟩,o5,o6⟩:=corr_main hn ha hbb hc hr
  obtain⟨k1,k2⟩:=known_29 (a:=a) (b:=b) (c:=c) (r:=rcC (n:Int) v6 v7) (n:=(n:Int)+1)
  have s3:∀e∈edsC a b c,szE e:=λe he=>by
   unfold edsC at he
   simp only[List.mem_cons,List.not_mem_nil,or_false] at he
   rcases he with rfl|rfl|rfl
   ·exact sz_edC ha
   ·exact sz_edC hbb
   ·exact sz_edC hc
  have s4:∀e∈edsC a b c++[edD ((n:Int)+1) (rcC (n:Int) v6 v7)],szE e:=λe he=>by
   rcases List.mem_append.1 he with he|he
   ·exact s3 e he
   ·rw[List.mem_singleton.1 he];exact sz_edD hr
  refine⟨by show (3+1) * 72<=140737488355328;omega,⟨by show 4<=19;omega,s4⟩,λv9 v10 hk1=>⟨⟨by show 4<=19;omega,s4⟩,λv12 v13 hk2=> ?_⟩⟩
  have hk1:=hk1
  have hk2:=hk2
  obtain⟨q1,q2⟩:=hk1
  obtain⟨q3,q4⟩:=hk2
  have q1:v9=edsC a b c:=q1.trans (congrArg Prod.fst k1)
  have q2:v10=0:=q2.trans (congrArg Prod.snd k1)
  have q3:v12=edsC a b c++[edD ((n:Int)+1) (rcC (n:Int) v6 v7)]:=q3.trans (congrArg Prod.fst k2)
  have q4:v13=0:=q4.trans (congrArg Prod.snd k2)
  subst q1 q2 q3 q4
  refine⟨⟨by show 3<=1000000;omega,s3⟩,λv15 v16 v17 hr1=>⟨⟨by show 4<=1000000;omega,s4⟩,λv19 v20 v21 hr2=> ?_⟩⟩
  obtain⟨g1,g2⟩:=hr1
  obtain⟨g3,g4⟩:=hr2
  rw[r1] at g2
  rw[r2] at g4
  injection g2 with g5 g6
  injection g6 with g6 g7
  injection g4 with g8 g9
  injection g9 with g9 g10
  subst g5 g6 g7 g8 g9 g10
  refine⟨g1,λv22 v23 ho1=>⟨g3,λv24 v25 ho2=>⟨g3,λv26 v27 ho3=> ?_⟩⟩⟩
  obtain⟨h1,h2⟩:=ho1
  obtain⟨h3,h4⟩:=ho2
  obtain⟨h5,h6⟩:=ho3
  have h2:v23=true:=h2.2 o1
  have h4:v25=true:=h4.2 o3
  have h6:v27=true:=h6.2 o5
  have h1:v22=(ix (ix (edsC a b c++[edD ((n:Int)+1) (rcC (n:Int) v6 v7)]) (n:Int)).Regions 0).Rects:=h1.trans (congrArg api_Region.Rects o2)
  have h3:v24=(rcC (n:Int) v6 v7).Rects:=h3.trans (congrArg api_Region.Rects o4)
  have h5:v26=v22:=(h5.trans (congrArg api_Region.Rects o6)).trans h1.symm
  have hl22:v22.length=1:=by
   rw[h1]
   match n,hn with
   |0,_=>exact colC_len ha
   |1,_=>exact colC_len hbb
   |2,_=>exact colC_len hc
  have hix:((n:Int):Int)<((edsC a b c++[edD ((n:Int)+1) (rcC (n:Int) v6 v7)]).length:Int):=by show (n:Int)<4;omega
  have hin:(0:Int)<((ix (edsC a b c++[edD ((n:Int)+1) (rcC (n:Int) v6 v7)]) (n:Int)).Regions.length:Int):=by
   match n,hn with
   |0,_=>show (0:Int)<1;omega
   |1,_=>show (0:Int)<1;omega
   |2,_=>show (0:Int)<1;omega
  subst h2 h4 h6
  have hl24:v24.length=1:=by rw[h3];rfl
  have hl26:v26.length=1:=by rw[h5];exact hl22
  clear r1 r2 o1 o2 o3 o4 o5 o6 k1 k2 s3 s4 q1 q2 q3 q4 hk1 hk2 hrec
  repeat' (first
   |exact rfl
   |(refine IFB.yes rfl ?_)
   |(refine JOIN.mk ?_;dsimp only)
   |(refine And.intro ?_ ?_)
   |(intro (v:Bool) hv;obtain rfl:v=true:=hv.2 (by first|exact h3|exact h5|exact h1))
   |omega
   |(intro _;exact⟨by omega,hix⟩)
   |(intro _;exact⟨.mk _,hin⟩))
end RE
end Go.Proofs.YtjcjdgmojkkioaaGreatDoor
