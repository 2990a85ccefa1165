/-
  Texts of the proof of ParcelPast, part GF.
-/
import Derived.Test.YtpeggkeenboacaaGreatPGE
import Derived.Test.YtpeggkeenboacaaGreatPGD
import Derived.Test.YtpeggkeenboacaaGreatPGW
set_option linter.unusedVariables false
noncomputable section
namespace Go.Proofs.YtpeggkeenboacaaGreat
namespace RE
set_option maxRecDepth 100000
open Go.RowKit
open PL
def rcopD_P (l:List (api_Parcel))(post:List (api_Parcel)->Prop):Prop:=szL l/\post l
def rcopD_sp:Spec:=⟨63,false,true,[.sl (.st .api_Parcel)],.own 1000050 (.st .api_Parcel),λx post=>rcopD_P (x.1:List (api_Parcel)) (λy0=>post (y0,()))⟩
def rcopD_C:CtxR:=⟨tauD,[],lookJ [(0,7,⟨[(8,.dat (.int .i64)),(3,.own 1000050 (.st .api_Parcel))],[],(List.range' 9 23++[5]),[],[]⟩),(0,1000005,⟨[],[(1,[.dat (.int .i64),.dat (.int .i64),.dat (.int .i64),.own 3 (.int .i64),.own 3 (.int .i64),.own 29 (.st .api_Region)])],(List.range' 12 15),[],[]⟩)]⟩
abbrev rcopD_a0 (l:List (api_Parcel))(z2:Int)(J10:Int->Int->Int->List Int->List Int->List api_Region->Prop):=((((0:Nat)+(ix l z2).4.length) * (8:Nat)<=(140737488355328:Nat)/\(((0:Nat)+(ix l z2).5.length) * (8:Nat)<=(140737488355328:Nat)/\((0:Nat)+(ix l z2).6.length) * (24:Nat)<=(140737488355328:Nat)/\J10 (ix l z2).1 (ix l z2).2 (ix l z2).3 ([]++(ix l z2).4) ([]++(ix l z2).5) ([]++(ix l z2).6))/\((0:Nat)+(ix l z2).5.length) * (8:Nat)<=(140737488355328:Nat)/\((0:Nat)+(ix l z2).6.length) * (24:Nat)<=(140737488355328:Nat)/\J10 (ix l z2).1 (ix l z2).2 (ix l z2).3 ([]++(ix l z2).4) ([]++(ix l z2).5) ([]++(ix l z2).6))/\((0:Nat)+(ix l z2).4.length) * (8:Nat)<=(140737488355328:Nat)/\((0:Nat)+(ix l z2).5.length) * (8:Nat)<=(140737488355328:Nat)/\((0:Nat)+(ix l z2).6.length) * (24:Nat)<=(140737488355328:Nat)/\J10 (ix l z2).1 (ix l z2).2 (ix l z2).3 ([]++(ix l z2).4) ([]++(ix l z2).5) ([]++(ix l z2).6))
abbrev rcopD_a1 (l:List (api_Parcel))(z2:Int)(J10:Int->Int->Int->List Int->List Int->List api_Region->Prop):=(((0:Nat)+(ix l z2).4.length) * (8:Nat)<=(140737488355328:Nat)/\((0:Nat)+(ix l z2).5.length) * (8:Nat)<=(140737488355328:Nat)/\((0:Nat)+(ix l z2).6.length) * (24:Nat)<=(140737488355328:Nat)/\J10 (ix l z2).1 (ix l z2).2 (ix l z2).3 ([]++(ix l z2).4) ([]++(ix l z2).5) ([]++(ix l z2).6))
def rcopD_W (l:List (api_Parcel))(post:List (api_Parcel)->Prop):Prop:=(↑l.length:Int)<=9223372036854775807->LOOP [Ty.int IntKind.i64,(Ty.st Sn.api_Parcel).sl] (λ(rec1:Int->List api_Parcel->Prop) (z2:Int) (z3:List api_Parcel)=>IFB (decide (z2<(↑l.length:Int))) (((0:Int)<=z2/\z2<(↑l.length:Int))/\JOIN [Ty.int IntKind.i64,Ty.int IntKind.i64,Ty.int IntKind.i64,(Ty.int IntKind.i64).sl,(Ty.int IntKind.i64).sl,(Ty.st Sn.api_Region).sl] (λ(y4 y5 y6:Int) (y7 y8:List Int) (y9:List api_Region)=>(z3.length+[(⟨y4,y5,y6,y7,y8,y9⟩:api_Parcel)].length) * (96:Nat)<=140737488355328/\rec1 (IntKind.i64.wrap (z2+1)) (z3++[(⟨y4,y5,y6,y7,y8,y9⟩:api_Parcel)])) λ(J10:Int->Int->Int->List Int->List Int->List api_Region->Prop)=>((((0:Nat)+(ix l z2).4.length) * (8:Nat)<=140737488355328/\((((0:Nat)+(ix l z2).5.length) * (8:Nat)<=140737488355328/\((0:Nat)+(ix l z2).6.length) * (24:Nat)<=140737488355328/\J10 (ix l z2).1 (ix l z2).2 (ix l z2).3 ([]++(ix l z2).4) ([]++(ix l z2).5) ([]++(ix l z2).6))/\((0:Nat)+(ix l z2).5.length) * (8:Nat)<=140737488355328/\((0:Nat)+(ix l z2).6.length) * (24:Nat)<=140737488355328/\J10 (ix l z2).1 (ix l z2).2 (ix l z2).3 ([]++(ix l z2).4) ([]++(ix l z2).5) ([]++(ix l z2).6))/\((0:Nat)+(ix l z2).5.length) * (8:Nat)<=140737488355328/\((0:Nat)+(ix l z2).6.length) * (24:Nat)<=140737488355328/\J10 (ix l z2).1 (ix l z2).2 (ix l z2).3 ([]++(ix l z2).4) ([]++(ix l z2).5) ([]++(ix l z2).6))/\(rcopD_a0 l z2 J10)/\(rcopD_a1 l z2 J10)/\((0:Nat)+(ix l z2).4.length) * (8:Nat)<=140737488355328/\((0:Nat)+(ix l z2).5.length) * (8:Nat)<=140737488355328/\((0:Nat)+(ix l z2).6.length) * (24:Nat)<=140737488355328/\J10 (ix l z2).1 (ix l z2).2 (ix l z2).3 ([]++(ix l z2).4) ([]++(ix l z2).5) ([]++(ix l z2).6))/\((rcopD_a0 l z2 J10)/\((0:Nat)+(ix l z2).4.length) * (8:Nat)<=140737488355328/\((0:Nat)+(ix l z2).5.length) * (8:Nat)<=140737488355328/\((0:Nat)+(ix l z2).6.length) * (24:Nat)<=140737488355328/\J10 (ix l z2).1 (ix l z2).2 (ix l z2).3 ([]++(ix l z2).4) ([]++(ix l z2).5) ([]++(ix l z2).6))/\((rcopD_a1 l z2 J10)/\((0:Nat)+(ix l z2).4.length) * (8:Nat)<=140737488355328/\((0:Nat)+(ix l z2).5.length) * (8:Nat)<=140737488355328/\((0:Nat)+(ix l z2).6.length) * (24:Nat)<=140737488355328/\J10 (ix l z2).1 (ix l z2).2 (ix l z2).3 ([]++(ix l z2).4) ([]++(ix l z2).5) ([]++(ix l z2).6))/\((0:Nat)+(ix l z2).4.length) * (8:Nat)<=140737488355328/\((0:Nat)+(ix l z2).5.length) * (8:Nat)<=140737488355328/\((0:Nat)+(ix l z2).6.length) * (24:Nat)<=140737488355328/\J10 (ix l z2).1 (ix l z2).2 (ix l z2).3 ([]++(ix l z2).4) ([]++(ix l z2).5) ([]++(ix l z2).6)) (post z3)) ((0:Int),[],PUnit.unit)
theorem rcopD_w (l:List (api_Parcel))(post:dens (shT rcopD_sp.rs [])->Prop):rcopD_W l (λy0=>post (y0,()))=walkG (callR Tryz.prog rcopD_C (drawF Tryz.prog tauD) 8 0) 63 false [tv (.sl (.st .api_Parcel)) l] rcopD_sp.rs post:=by kernel_rfl
theorem rcopD_of (h:∀l post,rcopD_P l post->rcopD_W l post):SpecOK Tryz.prog rcopD_sp:=SpecOK.of_rules (C:=rcopD_C) (dr:=drawF Tryz.prog tauD) (n:=8) (fk:=0) .nil (drawF_ok tauD) λx post hp=>HoldW.of (rcopD_w x.1 post) (h x.1 (λy0=>post (y0,())) hp)
theorem rcopD_ok:SpecOK Tryz.prog rcopD_sp:=rcopD_of λl post hp=>by
 obtain⟨hsz,hp⟩:=hp
 have hl:=hsz.len
 unfold rcopD_W rcopD_a1 rcopD_a0
 refine λ_=>LOOP.fuel2 (λ(z:Int) (b:List Pc)=>∃k:Nat,z=(k:Int)/\k<=l.length/\b=l.take k) (λz _=>l.length-Int.toNat z) ⟨0,rfl,Nat.zero_le _,rfl⟩ ?_
 rintro rec (z:Int) (b:List Pc) ⟨k,i1,i2,i3⟩ hrec
 subst i1
 refine IFB.mk (λhb=> ?_) (λhb=> ?_)
 ·have hb:(k:Int)<l.length:=of_decide_eq_true hb
  have hk:k<l.length:=by omega
  have hx:=hsz.all _ (ix_mem (l:=l) (i:=(k:Int)) (by omega) (by omega))
  have x1:=hx.days
  have x2:=hx.regs
  have x3:=hx.pars
  refine⟨by omega,JOIN.opq λ(J:Int->Int->Int->List Int->List Int->List api_Region->Prop) hJ=> ?_⟩
  have c1:(0+(ix l (k:Int)).4.length) * 8<=140737488355328:=by omega
  have c2:(0+(ix l (k:Int)).5.length) * 8<=140737488355328:=by omega
  have c3:(0+(ix l (k:Int)).6.length) * 24<=140737488355328:=by omega
  have cJ:J (ix l (k:Int)).1 (ix l (k:Int)).2 (ix l (k:Int)).3 ([]++(ix l (k:Int)).4) ([]++(ix l (k:Int)).5) ([]++(ix l (k:Int)).6):=by
   rw[hJ]
   have hbl:b.length<=1000000:=by rw[i3,List.length_take];omega
   refine⟨by simp only[List.length_cons,List.length_nil];omega,?_⟩
   rw[wrapS (by omega)]
   refine hrec ((k+1:Nat):Int) _ ⟨k+1,rfl,hk,?_⟩ (by show l.length-((k+1:Nat):Int).toNat<l.length-(k:Int).toNat;omega)
   show b++[ix l (k:Int)]=_
   rw[i3,List.take_succ_eq_append_getElem hk,ix_lt hk]
  repeat' first
   |exact c1
   |exact c2
   |exact c3
   |exact cJ
   |refine And.intro ?_ ?_
 ·have hb:¬(k:Int)<l.length:=of_decide_eq_false hb
  have hk:k=l.length:=by omega
  have e:b=l:=by rw[i3,hk,List.take_length]
  show post b
  rw[e];exact hp
def rapp2_P (l:List (api_Parcel))(e:api_Edit)(post:List (api_Parcel)->Int->Prop):Prop:=(szL l/\szE e/\e.Kind=2)/\post (applyS l e).1 (applyS l e).2
def rapp2_sp:Spec:=⟨21,false,true,[.sl (.st .api_Parcel),.st .api_Edit],.tup [.dat (.sl (.st .api_Parcel)),.dat (.int .i64)],λx post=>rapp2_P (x.1:List (api_Parcel)) (x.2.1:api_Edit) (λy0 y1=>post (y0,y1,()))⟩
def rapp2_C:CtxR:=⟨tauD,[rule1 rcopD_sp,rule1 rchke_sp,rule1 rmeet10_sp,ruleNo 37,ruleNo 80,ruleNo 81],lookJ [(0,105,⟨[(211,.dat (.int .i64)),(8,.dat (.sl (.st .api_Parcel)))],[],(List.range' 212 22++[25]),[],[]⟩),(0,1000054,⟨[(8,.dat (.sl (.st .api_Parcel)))],[],(List.range' 215 18),[],[]⟩),(0,95,⟨[(197,.dat (.int .i64)),(8,.dat (.sl (.st .api_Parcel)))],[],(List.range' 198 11++[23]),[2],[]⟩),(0,88,⟨[(9,.dat (.sl (.st .api_Region)))],[],(List.range' 37 10++List.range' 161 22++[19,21,48,49,50,51,121,122,184,185,186]),[],[]⟩),(0,75,⟨[(166,.dat (.int .i64)),(19,.dat (.sl (.st .api_Rect)))],[],(List.range' 167 13++[21]),[],[]⟩)]⟩
abbrev rapp2_a0 (l:List (api_Parcel))(ps:List (Int))(day:Int)(rs:List (api_Region)):=(l.set (IntKind.i64.wrap (ix ps (0:Int)-(1:Int))).toNat {Number:=(ix l (IntKind.i64.wrap (ix ps (0:Int)-(1:Int)))).1,From:=(ix l (IntKind.i64.wrap (ix ps (0:Int)-(1:Int)))).2,Until:=(ix l (IntKind.i64.wrap (ix ps (0:Int)-(1:Int)))).3,Parents:=(ix l (IntKind.i64.wrap (ix ps (0:Int)-(1:Int)))).4,Days:=(ix l (IntKind.i64.wrap (ix ps (0:Int)-(1:Int)))).5++[day],Regions:=(ix l (IntKind.i64.wrap (ix ps (0:Int)-(1:Int)))).6++[{Rects:=(ix rs (0:Int)).1:api_Region}]:api_Parcel})
abbrev rapp2_a1 (l:List (api_Parcel))(ps:List (Int))(rs:List (api_Region)):=((ix l (IntKind.i64.wrap (ix ps (0:Int)-(1:Int)))).6.length+[{Rects:=(ix rs (0:Int)).1:api_Region}].length)
abbrev rapp2_a2 (ps:List (Int))(l:List (api_Parcel))(day:Int)(rs:List (api_Region))(post:List (api_Parcel)->Int->Prop):=(IntKind.i64.wrap (ix ps (0:Int)-(1:Int))=IntKind.i64.wrap (ix ps (0:Int)-(1:Int))/\(((ix l (IntKind.i64.wrap (ix ps (0:Int)-(1:Int)))).5.length+[day].length) * (8:Nat)<=(140737488355328:Nat)/\(rapp2_a1 l ps rs) * (24:Nat)<=(140737488355328:Nat)/\IntKind.i64.wrap (ix ps (0:Int)-(1:Int))=IntKind.i64.wrap (ix ps (0:Int)-(1:Int))/\IntKind.i64.wrap (ix ps (0:Int)-(1:Int))=IntKind.i64.wrap (ix ps (0:Int)-(1:Int))/\post (rapp2_a0 l ps day rs) (0:Int))/\((ix l (IntKind.i64.wrap (ix ps (0:Int)-(1:Int)))).5.length+[day].length) * (8:Nat)<=(140737488355328:Nat)/\(rapp2_a1 l ps rs) * (24:Nat)<=(140737488355328:Nat)/\IntKind.i64.wrap (ix ps (0:Int)-(1:Int))=IntKind.i64.wrap (ix ps (0:Int)-(1:Int))/\IntKind.i64.wrap (ix ps (0:Int)-(1:Int))=IntKind.i64.wrap (ix ps (0:Int)-(1:Int))/\post (rapp2_a0 l ps day rs) (0:Int))
abbrev rapp2_a3 (l:List (api_Parcel))(ps:List (Int))(day:Int)(rs:List (api_Region))(post:List (api_Parcel)->Int->Prop):=(((ix l (IntKind.i64.wrap (ix ps (0:Int)-(1:Int)))).5.length+[day].length) * (8:Nat)<=(140737488355328:Nat)/\IntKind.i64.wrap (ix ps (0:Int)-(1:Int))=IntKind.i64.wrap (ix ps (0:Int)-(1:Int))/\(rapp2_a1 l ps rs) * (24:Nat)<=(140737488355328:Nat)/\IntKind.i64.wrap (ix ps (0:Int)-(1:Int))=IntKind.i64.wrap (ix ps (0:Int)-(1:Int))/\IntKind.i64.wrap (ix ps (0:Int)-(1:Int))=IntKind.i64.wrap (ix ps (0:Int)-(1:Int))/\post (rapp2_a0 l ps day rs) (0:Int))
abbrev rapp2_a4 (l:List (api_Parcel))(ps:List (Int)):=(ix l (IntKind.i64.wrap (ix ps (0:Int)-(1:Int))))
abbrev rapp2_a5 (ps:List (Int))(l:List (api_Parcel))(day:Int)(rs:List (api_Region))(post:List (api_Parcel)->Int->Prop):=(IntKind.i64.wrap (ix ps (0:Int)-(1:Int))=IntKind.i64.wrap (ix ps (0:Int)-(1:Int))/\((((rapp2_a4 l ps).5.length+[day].length) * (8:Nat)<=(140737488355328:Nat)/\(rapp2_a1 l ps rs) * (24:Nat)<=(140737488355328:Nat)/\IntKind.i64.wrap (ix ps (0:Int)-(1:Int))=IntKind.i64.wrap (ix ps (0:Int)-(1:Int))/\IntKind.i64.wrap (ix ps (0:Int)-(1:Int))=IntKind.i64.wrap (ix ps (0:Int)-(1:Int))/\post (rapp2_a0 l ps day rs) (0:Int))/\((rapp2_a4 l ps).5.length+[day].length) * (8:Nat)<=(140737488355328:Nat)/\(rapp2_a1 l ps rs) * (24:Nat)<=(140737488355328:Nat)/\IntKind.i64.wrap (ix ps (0:Int)-(1:Int))=IntKind.i64.wrap (ix ps (0:Int)-(1:Int))/\IntKind.i64.wrap (ix ps (0:Int)-(1:Int))=IntKind.i64.wrap (ix ps (0:Int)-(1:Int))/\post (rapp2_a0 l ps day rs) (0:Int))/\((rapp2_a4 l ps).5.length+[day].length) * (8:Nat)<=(140737488355328:Nat)/\(rapp2_a1 l ps rs) * (24:Nat)<=(140737488355328:Nat)/\IntKind.i64.wrap (ix ps (0:Int)-(1:Int))=IntKind.i64.wrap (ix ps (0:Int)-(1:Int))/\IntKind.i64.wrap (ix ps (0:Int)-(1:Int))=IntKind.i64.wrap (ix ps (0:Int)-(1:Int))/\post (rapp2_a0 l ps day rs) (0:Int))
abbrev rapp2_a6 (l:List (api_Parcel))(ps:List (Int))(day:Int)(rs:List (api_Region))(post:List (api_Parcel)->Int->Prop):=(((rapp2_a4 l ps).5.length+[day].length) * (8:Nat)<=(140737488355328:Nat)/\(IntKind.i64.wrap (ix ps (0:Int)-(1:Int))=IntKind.i64.wrap (ix ps (0:Int)-(1:Int))/\(rapp2_a1 l ps rs) * (24:Nat)<=(140737488355328:Nat)/\IntKind.i64.wrap (ix ps (0:Int)-(1:Int))=IntKind.i64.wrap (ix ps (0:Int)-(1:Int))/\IntKind.i64.wrap (ix ps (0:Int)-(1:Int))=IntKind.i64.wrap (ix ps (0:Int)-(1:Int))/\post (rapp2_a0 l ps day rs) (0:Int))/\IntKind.i64.wrap (ix ps (0:Int)-(1:Int))=IntKind.i64.wrap (ix ps (0:Int)-(1:Int))/\(rapp2_a1 l ps rs) * (24:Nat)<=(140737488355328:Nat)/\IntKind.i64.wrap (ix ps (0:Int)-(1:Int))=IntKind.i64.wrap (ix ps (0:Int)-(1:Int))/\IntKind.i64.wrap (ix ps (0:Int)-(1:Int))=IntKind.i64.wrap (ix ps (0:Int)-(1:Int))/\post (rapp2_a0 l ps day rs) (0:Int))
abbrev rapp2_a7 (ps:List (Int))(l:List (api_Parcel))(day:Int)(rs:List (api_Region))(post:List (api_Parcel)->Int->Prop):=(IntKind.i64.wrap (ix ps (0:Int)-(1:Int))=IntKind.i64.wrap (ix ps (0:Int)-(1:Int))/\(rapp2_a3 l ps day rs post)/\IntKind.i64.wrap (ix ps (0:Int)-(1:Int))=IntKind.i64.wrap (ix ps (0:Int)-(1:Int))/\((rapp2_a4 l ps).5.length+[day].length) * (8:Nat)<=(140737488355328:Nat)/\(rapp2_a1 l ps rs) * (24:Nat)<=(140737488355328:Nat)/\IntKind.i64.wrap (ix ps (0:Int)-(1:Int))=IntKind.i64.wrap (ix ps (0:Int)-(1:Int))/\IntKind.i64.wrap (ix ps (0:Int)-(1:Int))=IntKind.i64.wrap (ix ps (0:Int)-(1:Int))/\post (rapp2_a0 l ps day rs) (0:Int))
abbrev rapp2_a8 (l:List (api_Parcel))(ps:List (Int))(day:Int)(rs:List (api_Region))(post:List (api_Parcel)->Int->Prop):=((rapp2_a3 l ps day rs post)/\IntKind.i64.wrap (ix ps (0:Int)-(1:Int))=IntKind.i64.wrap (ix ps (0:Int)-(1:Int))/\((rapp2_a4 l ps).5.length+[day].length) * (8:Nat)<=(140737488355328:Nat)/\(rapp2_a1 l ps rs) * (24:Nat)<=(140737488355328:Nat)/\IntKind.i64.wrap (ix ps (0:Int)-(1:Int))=IntKind.i64.wrap (ix ps (0:Int)-(1:Int))/\IntKind.i64.wrap (ix ps (0:Int)-(1:Int))=IntKind.i64.wrap (ix ps (0:Int)-(1:Int))/\post (rapp2_a0 l ps day rs) (0:Int))
abbrev rapp2_a9 (ps:List (Int))(l:List (api_Parcel))(day:Int)(rs:List (api_Region))(post:List (api_Parcel)->Int->Prop):=(IntKind.i64.wrap (ix ps (0:Int)-(1:Int))=IntKind.i64.wrap (ix ps (0:Int)-(1:Int))/\((rapp2_a4 l ps).5.length+[day].length) * (8:Nat)<=(140737488355328:Nat)/\(rapp2_a1 l ps rs) * (24:Nat)<=(140737488355328:Nat)/\IntKind.i64.wrap (ix ps (0:Int)-(1:Int))=IntKind.i64.wrap (ix ps (0:Int)-(1:Int))/\IntKind.i64.wrap (ix ps (0:Int)-(1:Int))=IntKind.i64.wrap (ix ps (0:Int)-(1:Int))/\post (rapp2_a0 l ps day rs) (0:Int))
def rapp2_W (l:List (api_Parcel))(day:Int)(known:Int)(ps:List (Int))(rs:List (api_Region))(post:List (api_Parcel)->Int->Prop):Prop:=szL l/\(szL l/\szE (⟨day,known,(2:Int),ps,rs⟩:api_Edit))/\IFB (!decide (editS l (⟨day,known,(2:Int),ps,rs⟩:api_Edit)=0)) (post l (editS l (⟨day,known,(2:Int),ps,rs⟩:api_Edit))) (szL l/\JOIN [(Ty.st Sn.api_Region).sl] (λ(y1:List api_Region)=>(↑l.length:Int)<=9223372036854775807->(↑y1.length:Int)<=9223372036854775807->IFB (decide ((60:Int)<IntKind.i64.wrap ((↑l.length:Int)+(↑y1.length:Int)))) (post l 1) ((↑ps.length:Int)<=9223372036854775807->False)) λ(J2:List api_Region->Prop)=>IFB (decide ((2:Int)=1)) ((Int.NonNeg 0/\0<(↑rs.length:Int))/\(szL l/\∀(v3:api_Parcel),v3∈l->0<v3.6.length)/\∀(v4:Bool),(v4=true↔hitP l {Rects:=(ix rs 0).1:api_Region} 0)->IFB v4 (post l 11) (J2 rs)) (IFB (decide ((2:Int)=2)) ((Int.NonNeg 0/\0<(↑rs.length:Int))/\(Int.NonNeg 0/\0<(↑ps.length:Int))/\(szL l/\∀(v5:api_Parcel),v5∈l->0<v5.6.length)/\∀(v6:Bool),(v6=true↔hitP l {Rects:=(ix rs 0).1:api_Region} (ix ps 0))->IFB v6 (post l 11) ((Int.NonNeg 0/\0<(↑ps.length:Int))/\((0:Int)<=IntKind.i64.wrap (ix ps 0-1)/\IntKind.i64.wrap (ix ps 0-1)<(↑l.length:Int))/\IntKind.i64.wrap (ix ps 0-1)=IntKind.i64.wrap (ix ps 0-1)/\((↑(rapp2_a4 l ps).5.length:Int)<=9223372036854775807->IntKind.i64.wrap (ix ps 0-1)=IntKind.i64.wrap (ix ps 0-1)/\((0:Int)<=IntKind.i64.wrap ((↑(rapp2_a4 l ps).5.length:Int)-1)/\IntKind.i64.wrap ((↑(rapp2_a4 l ps).5.length:Int)-1)<(↑(rapp2_a4 l ps).5.length:Int))/\IFB (decide (ix (rapp2_a4 l ps).5 (IntKind.i64.wrap ((↑(rapp2_a4 l ps).5.length:Int)-1))=day)) ((Int.NonNeg 0/\0<(↑rs.length:Int))/\IntKind.i64.wrap (ix ps 0-1)=IntKind.i64.wrap (ix ps 0-1)/\((0:Int)<=IntKind.i64.wrap ((↑(rapp2_a4 l ps).5.length:Int)-1)/\IntKind.i64.wrap ((↑(rapp2_a4 l ps).5.length:Int)-1)<(↑(rapp2_a4 l ps).6.length:Int))/\post (l.set (IntKind.i64.wrap (ix ps 0-1)).toNat {Number:=(rapp2_a4 l ps).1,From:=(rapp2_a4 l ps).2,Until:=(rapp2_a4 l ps).3,Parents:=(rapp2_a4 l ps).4,Days:=(rapp2_a4 l ps).5,Regions:=(rapp2_a4 l ps).6.set (IntKind.i64.wrap ((↑(rapp2_a4 l ps).5.length:Int)-1)).toNat {Rects:=(ix rs 0).1:api_Region}:api_Parcel}) 0) ((Int.NonNeg 0/\0<(↑rs.length:Int))/\(IntKind.i64.wrap (ix ps 0-1)=IntKind.i64.wrap (ix ps 0-1)/\((rapp2_a6 l ps day rs post)/\(rapp2_a2 ps l day rs post)/\(rapp2_a3 l ps day rs post)/\IntKind.i64.wrap (ix ps 0-1)=IntKind.i64.wrap (ix ps 0-1)/\((rapp2_a4 l ps).5.length+[day].length) * (8:Nat)<=140737488355328/\(rapp2_a1 l ps rs) * (24:Nat)<=140737488355328/\IntKind.i64.wrap (ix ps 0-1)=IntKind.i64.wrap (ix ps 0-1)/\IntKind.i64.wrap (ix ps 0-1)=IntKind.i64.wrap (ix ps 0-1)/\post (rapp2_a0 l ps day rs) 0)/\(rapp2_a5 ps l day rs post)/\(rapp2_a8 l ps day rs post)/\IntKind.i64.wrap (ix ps 0-1)=IntKind.i64.wrap (ix ps 0-1)/\((rapp2_a4 l ps).5.length+[day].length) * (8:Nat)<=140737488355328/\(rapp2_a1 l ps rs) * (24:Nat)<=140737488355328/\IntKind.i64.wrap (ix ps 0-1)=IntKind.i64.wrap (ix ps 0-1)/\IntKind.i64.wrap (ix ps 0-1)=IntKind.i64.wrap (ix ps 0-1)/\post (rapp2_a0 l ps day rs) 0)/\((IntKind.i64.wrap (ix ps 0-1)=IntKind.i64.wrap (ix ps 0-1)/\(rapp2_a6 l ps day rs post)/\(rapp2_a2 ps l day rs post)/\(rapp2_a3 l ps day rs post)/\IntKind.i64.wrap (ix ps 0-1)=IntKind.i64.wrap (ix ps 0-1)/\((rapp2_a4 l ps).5.length+[day].length) * (8:Nat)<=140737488355328/\(rapp2_a1 l ps rs) * (24:Nat)<=140737488355328/\IntKind.i64.wrap (ix ps 0-1)=IntKind.i64.wrap (ix ps 0-1)/\IntKind.i64.wrap (ix ps 0-1)=IntKind.i64.wrap (ix ps 0-1)/\post (rapp2_a0 l ps day rs) 0)/\(IntKind.i64.wrap (ix ps 0-1)=IntKind.i64.wrap (ix ps 0-1)/\(rapp2_a2 ps l day rs post)/\IntKind.i64.wrap (ix ps 0-1)=IntKind.i64.wrap (ix ps 0-1)/\((rapp2_a4 l ps).5.length+[day].length) * (8:Nat)<=140737488355328/\(rapp2_a1 l ps rs) * (24:Nat)<=140737488355328/\IntKind.i64.wrap (ix ps 0-1)=IntKind.i64.wrap (ix ps 0-1)/\IntKind.i64.wrap (ix ps 0-1)=IntKind.i64.wrap (ix ps 0-1)/\post (rapp2_a0 l ps day rs) 0)/\(rapp2_a7 ps l day rs post)/\IntKind.i64.wrap (ix ps 0-1)=IntKind.i64.wrap (ix ps 0-1)/\IntKind.i64.wrap (ix ps 0-1)=IntKind.i64.wrap (ix ps 0-1)/\((rapp2_a4 l ps).5.length+[day].length) * (8:Nat)<=140737488355328/\(rapp2_a1 l ps rs) * (24:Nat)<=140737488355328/\IntKind.i64.wrap (ix ps 0-1)=IntKind.i64.wrap (ix ps 0-1)/\IntKind.i64.wrap (ix ps 0-1)=IntKind.i64.wrap (ix ps 0-1)/\post (rapp2_a0 l ps day rs) 0)/\(IntKind.i64.wrap (ix ps 0-1)=IntKind.i64.wrap (ix ps 0-1)/\(rapp2_a5 ps l day rs post)/\((rapp2_a2 ps l day rs post)/\IntKind.i64.wrap (ix ps 0-1)=IntKind.i64.wrap (ix ps 0-1)/\((rapp2_a4 l ps).5.length+[day].length) * (8:Nat)<=140737488355328/\(rapp2_a1 l ps rs) * (24:Nat)<=140737488355328/\IntKind.i64.wrap (ix ps 0-1)=IntKind.i64.wrap (ix ps 0-1)/\IntKind.i64.wrap (ix ps 0-1)=IntKind.i64.wrap (ix ps 0-1)/\post (rapp2_a0 l ps day rs) 0)/\(rapp2_a9 ps l day rs post)/\IntKind.i64.wrap (ix ps 0-1)=IntKind.i64.wrap (ix ps 0-1)/\((rapp2_a4 l ps).5.length+[day].length) * (8:Nat)<=140737488355328/\(rapp2_a1 l ps rs) * (24:Nat)<=140737488355328/\IntKind.i64.wrap (ix ps 0-1)=IntKind.i64.wrap (ix ps 0-1)/\IntKind.i64.wrap (ix ps 0-1)=IntKind.i64.wrap (ix ps 0-1)/\post (rapp2_a0 l ps day rs) 0)/\(IntKind.i64.wrap (ix ps 0-1)=IntKind.i64.wrap (ix ps 0-1)/\(rapp2_a8 l ps day rs post)/\IntKind.i64.wrap (ix ps 0-1)=IntKind.i64.wrap (ix ps 0-1)/\((rapp2_a4 l ps).5.length+[day].length) * (8:Nat)<=140737488355328/\(rapp2_a1 l ps rs) * (24:Nat)<=140737488355328/\IntKind.i64.wrap (ix ps 0-1)=IntKind.i64.wrap (ix ps 0-1)/\IntKind.i64.wrap (ix ps 0-1)=IntKind.i64.wrap (ix ps 0-1)/\post (rapp2_a0 l ps day rs) 0)/\((rapp2_a7 ps l day rs post)/\IntKind.i64.wrap (ix ps 0-1)=IntKind.i64.wrap (ix ps 0-1)/\IntKind.i64.wrap (ix ps 0-1)=IntKind.i64.wrap (ix ps 0-1)/\((rapp2_a4 l ps).5.length+[day].length) * (8:Nat)<=140737488355328/\(rapp2_a1 l ps rs) * (24:Nat)<=140737488355328/\IntKind.i64.wrap (ix ps 0-1)=IntKind.i64.wrap (ix ps 0-1)/\IntKind.i64.wrap (ix ps 0-1)=IntKind.i64.wrap (ix ps 0-1)/\post (rapp2_a0 l ps day rs) 0)/\IntKind.i64.wrap (ix ps 0-1)=IntKind.i64.wrap (ix ps 0-1)/\(rapp2_a9 ps l day rs post)/\IntKind.i64.wrap (ix ps 0-1)=IntKind.i64.wrap (ix ps 0-1)/\((rapp2_a4 l ps).5.length+[day].length) * (8:Nat)<=140737488355328/\(rapp2_a1 l ps rs) * (24:Nat)<=140737488355328/\IntKind.i64.wrap (ix ps 0-1)=IntKind.i64.wrap (ix ps 0-1)/\IntKind.i64.wrap (ix ps 0-1)=IntKind.i64.wrap (ix ps 0-1)/\post (rapp2_a0 l ps day rs) 0)))) (IFB (decide ((2:Int)=3)) False (IFB (decide ((2:Int)=4)) ((↑ps.length:Int)<=9223372036854775807->LOOP [Ty.int IntKind.i64,(Ty.st Sn.api_Rect).sl] (λ(rec7:Int->List api_Rect->Prop) (z8:Int) (z9:List api_Rect)=>IFB (decide (z8<(↑ps.length:Int))) (((0:Int)<=z8/\z8<(↑ps.length:Int))/\((0:Int)<=IntKind.i64.wrap (ix ps z8-1)/\IntKind.i64.wrap (ix ps z8-1)<(↑l.length:Int))/\((↑(ix l (IntKind.i64.wrap (ix ps z8-1))).6.length:Int)<=9223372036854775807->((0:Int)<=IntKind.i64.wrap ((↑(ix l (IntKind.i64.wrap (ix ps z8-1))).6.length:Int)-1)/\IntKind.i64.wrap ((↑(ix l (IntKind.i64.wrap (ix ps z8-1))).6.length:Int)-1)<(↑(ix l (IntKind.i64.wrap (ix ps z8-1))).6.length:Int))/\False)) ((↑z9.length:Int)<=9223372036854775807->IFB (decide ((120:Int)<(↑z9.length:Int))) (post l 1) (J2 [(⟨z9⟩:api_Region)]))) ((0:Int),[],PUnit.unit)) (J2 [])))))
theorem rapp2_w (l:List (api_Parcel))(day:Int)(known:Int)(ps:List (Int))(rs:List (api_Region))(post:dens (shT rapp2_sp.rs [])->Prop):rapp2_W l day known ps rs (λy0 y1=>post (y0,y1,()))=walkG (stlCP (callR Tryz.prog rapp2_C (drawF Tryz.prog tauD) 12 0)) 21 false [tv (.sl (.st .api_Parcel)) (l),tv (.st .api_Edit) (⟨day,known,2,ps,rs⟩)] rapp2_sp.rs post:=by kernel_rfl
theorem rapp2_of (h:∀x (post:dens (shT rapp2_sp.rs [])->Prop),rapp2_sp.pt x post->HoldW (walkG (stlCP (callR Tryz.prog rapp2_C (drawF Tryz.prog tauD) 12 0)) rapp2_sp.f rapp2_sp.tp (tvs rapp2_sp.ts x) rapp2_sp.rs post)):SpecOK Tryz.prog rapp2_sp:=SpecOK.of_rulesS (C:=rapp2_C) (dr:=drawF Tryz.prog tauD) (n:=12) (fk:=0) (.cons (rule1_ok rcopD_ok) (.cons (rule1_ok rchke_ok) (.cons (rule1_ok rmeet10_ok) (.cons (ruleNo_ok 37) (.cons (ruleNo_ok 80) (.cons (ruleNo_ok 81) .nil)))))) (drawF_ok tauD) h
set_option maxHeartbeats 4000000 in
theorem rapp2_h (l:List api_Parcel)(day known:Int)(ps:List Int)(rs:List api_Region)(post:List api_Parcel->Int->Prop)(hsz:szL l)(hse:szE ⟨day,known,2,ps,rs⟩)(hp:post (applyS l ⟨day,known,2,ps,rs⟩).1 (applyS l ⟨day,known,2,ps,rs⟩).2):rapp2_W l day known ps rs post:=by
 unfold rapp2_W rapp2_a9 rapp2_a8 rapp2_a7 rapp2_a6 rapp2_a5 rapp2_a4 rapp2_a3 rapp2_a2 rapp2_a1 rapp2_a0
 refine⟨hsz,⟨hsz,hse⟩,IFB.mk (λhb=> ?_) (λhb=> ?_)⟩
 ·have hne:editS l ⟨day,known,2,ps,rs⟩≠0:=by simpa using hb
  rw[applyS_err hne] at hp
  exact hp
 have h0:editS l ⟨day,known,2,ps,rs⟩=0:=by simpa using hb
 obtain⟨e1,e2,e3,⟨e4,e5⟩,e6,e7⟩:=editS_0.1 h0
 have hps:ps.length=1/\rs.length=1:=by
  unfold fitsP at e4
  dsimp only at e4
  omega
 obtain⟨p,rfl⟩:∃p,ps=[p]:=List.length_eq_one_iff.1 hps.1
 obtain⟨a,rfl⟩:∃a,rs=[a]:=List.length_eq_one_iff.1 hps.2
 obtain⟨h60,hreg⟩:=checkS_0.1 e1
 have hl:=hsz.len
 obtain⟨o1,o2,o3⟩:=e6 p (by simp)
 have hm:ix l (p-1)∈l:=ix_mem (by omega) (by omega)
 obtain⟨d1,d2⟩:=regP_days hreg _ hm
 have hx:=hsz.all _ hm
 have x1:=hx.days
 have x2:=hx.regs
 have ha:a.1.length<=4000000:=by have:=hse.rect a (by simp);omega
 have k1:ix ([a]:List api_Region) (0:Int)=a:=rfl
 have k2:ix ([p]:List Int) (0:Int)=p:=rfl
 have w1:IntKind.i64.wrap (p-1)=p-1:=wrap_in (by omega) (by omega)
 have w2:IntKind.i64.wrap (((ix l (p-1)).5.length:Int)-1)=((ix l (p-1)).5.length:Int)-1:=wrap_in (by omega) (by omega)
 simp only[k1,k2,w1,w2]
 have hA:¬hitP l a p->ix (ix l (p-1)).5 (((ix l (p-1)).5.length:Int)-1)=day->post (l.set (p-1).toNat ⟨(ix l (p-1)).1,(ix l (p-1)).2,(ix l (p-1)).3,(ix l (p-1)).4,(ix l (p-1)).5,(ix l (p-1)).6.set (((ix l (p-1)).5.length:Int)-1).toNat ⟨a.1⟩⟩) 0:=λhh hd=>by
  rcases applyS_2 h0 with⟨h,_⟩|⟨_,h⟩
  ·exact absurd h hh
  ·rw[h] at hp
   have e:drawnP (ix l (p-1)) day a=⟨(ix l (p-1)).1,(ix l (p-1)).2,(ix l (p-1)).3,(ix l (p-1)).4,(ix l (p-1)).5,(ix l (p-1)).6.set (((ix l (p-1)).5.length:Int)-1).toNat ⟨a.1⟩⟩:=by
    unfold drawnP
    rw[if_pos hd,show (((ix l (p-1)).5.length:Int)-1).toNat=(ix l (p-1)).5.length-1 by omega]
   rw[e] at hp
   exact hp
 have hB:¬hitP l a p->ix (ix l (p-1)).5 (((ix l (p-1)).5.length:Int)-1)≠day->post (l.set (p-1).toNat ⟨(ix l (p-1)).1,(ix l (p-1)).2,(ix l (p-1)).3,(ix l (p-1)).4,(ix l (p-1)).5++[day],(ix l (p-1)).6++[⟨a.1⟩]⟩) 0:=λhh hd=>by
  rcases applyS_2 h0 with⟨h,_⟩|⟨_,h⟩
  ·exact absurd h hh
  ·rw[h] at hp
   have e:drawnP (ix l (p-1)) day a=⟨(ix l (p-1)).1,(ix l (p-1)).2,(ix l (p-1)).3,(ix l (p-1)).4,(ix l (p-1)).5++[day],(ix l (p-1)).6++[⟨a.1⟩]⟩:=by
    unfold drawnP
    rw[if_neg hd]
   rw[e] at hp
   exact hp
 have hz:Int.NonNeg (0:Int):=Int.NonNeg.mk 0
 have z1:(0:Int)<(([a]:List api_Region).length:Int):=by simp
 have z2:(0:Int)<(([p]:List Int).length:Int):=by simp
 have z3:(0:Int)<=p-1:=by omega
 have z4:p-1<(l.length:Int):=by omega
 have z5:(0:Int)<=((ix l (p-1)).5.length:Int)-1:=by omega
 have z6:((ix l (p-1)).5.length:Int)-1<((ix l (p-1)).5.length:Int):=by omega
 have z7:((ix l (p-1)).5.length:Int)-1<((ix l (p-1)).6.length:Int):=by omega
 have z8:((ix l (p-1)).5.length+[day].length) * 8<=140737488355328:=by simp only[List.length_cons,List.length_nil];omega
 have z9:((ix l (p-1)).6.length+[(⟨a.1⟩:api_Region)].length) * 24<=140737488355328:=by simp only[List.length_cons,List.length_nil];omega
 refine⟨hsz,JOIN.opq λ(J:List api_Region->Prop) hJ=>IFB.no rfl (IFB.yes rfl ⟨⟨hz,z1⟩,⟨hz,z2⟩,⟨hsz,λp hp=>by have:=regP_days hreg p hp;omega⟩,λv hv=>IFB.mk (λhc=> ?_) (λhc=> ?_)⟩)⟩
 ·rcases applyS_2 h0 with⟨_,h⟩|⟨h,_⟩
  ·rw[h] at hp;exact hp
  ·exact absurd (hv.1 hc) h
 have hn:¬hitP l a p:=λh=>by rw[hv.2 h] at hc;cases hc
 clear hJ
 refine⟨⟨hz,z2⟩,⟨z3,z4⟩,trivial,λ_=>⟨trivial,⟨z5,z6⟩,IFB.mk (λhd=> ?_) (λhd=> ?_)⟩⟩
 ·have hA':=hA hn (of_decide_eq_true hd)
  repeat' (first|with_reducible assumption|exact True.intro|exact hA'|with_reducible apply And.intro)
 ·have hB':=hB hn (of_decide_eq_false hd)
  repeat' (first|with_reducible assumption|exact True.intro|exact hB'|with_reducible apply And.intro)
theorem rapp2_ok:SpecOK Tryz.prog rapp2_sp:=rapp2_of λx post hp=>by
 obtain⟨l,e,u⟩:=x
 obtain⟨day,known,kind,ps,rs⟩:=e
 obtain⟨⟨hsz,hse,hk⟩,hp⟩:=hp
 have hk:kind=2:=hk
 subst hk
 exact HoldW.of (rapp2_w l day known ps rs post) (rapp2_h l day known ps rs (λy0 y1=>post (y0,y1,())) hsz hse hp)
def rappA_P (l:List (api_Parcel))(e:api_Edit)(post:List (api_Parcel)->Int->Prop):Prop:=(szL l/\szE e/\(e.Kind≠2->combK l e))/\post (applyS l e).1 (applyS l e).2
def rappA_sp:Spec:=⟨21,false,true,[.sl (.st .api_Parcel),.st .api_Edit],.tup [.dat (.sl (.st .api_Parcel)),.dat (.int .i64)],λx post=>rappA_P (x.1:List (api_Parcel)) (x.2.1:api_Edit) (λy0 y1=>post (y0,y1,()))⟩
theorem rappA_ok:SpecOK Tryz.prog rappA_sp:=λx post hp=>by
 obtain⟨l,e,u⟩:=x
 have hp:(szL l/\szE e/\(e.Kind≠2->combK l e))/\post ((applyS l e).1,(applyS l e).2,()):=hp
 obtain⟨⟨hsz,hse,hcb⟩,hp⟩:=hp
 by_cases h:e.Kind=2
 ·exact rapp2_ok (l,e,()) post ⟨⟨hsz,hse,h⟩,hp⟩
 ·exact rappX_ok (l,e,()) post ⟨⟨hsz,hse,h,hcb h⟩,hp⟩
def prunA_P (l:List (api_Edit))(post:List (api_Parcel)->Int->Int->Prop):Prop:=(l.length<=1000000/\∀e∈l,szE e)/\∀(x:List Pc)(n g:Int),(szL x/\runS l=(x,n,g))->post x n g
def prunA_sp:Spec:=⟨33,false,true,[.sl (.st .api_Edit)],.tup [.dat (.sl (.st .api_Parcel)),.dat (.int .i64),.dat (.int .i64)],λx post=>prunA_P (x.1:List (api_Edit)) (λy0 y1 y2=>post (y0,y1,y2,()))⟩
def prunA_C:CtxR:=⟨tau,[rule1 pappA_sp],lookJ [(0,11,⟨[(15,.dat (.int .i64)),(5,.dat (.sl (.st .api_Parcel)))],[],(List.range' 16 12++[6,7,8,9,31,32]),[],[]⟩)]⟩
def prunA_W (l:List (api_Edit))(post:List (api_Parcel)->Int->Int->Prop):Prop:=(↑l.length:Int)<=9223372036854775807->IFB (decide ((120:Int)<(↑l.length:Int))) (post [] (0:Int) 1) ((↑l.length:Int)<=9223372036854775807->LOOP [Ty.int IntKind.i64,(Ty.st Sn.api_Parcel).sl] (λ(rec1:Int->List api_Parcel->Prop) (z2:Int) (z3:List api_Parcel)=>IFB (decide (z2<(↑l.length:Int))) (((0:Int)<=z2/\z2<(↑l.length:Int))/\(szL z3/\szE {Day:=(ix l z2).1,Known:=(ix l z2).2,Kind:=(ix l z2).3,Parcels:=(ix l z2).4,Regions:=(ix l z2).5:api_Edit})/\IFB (!decide ((applyS z3 {Day:=(ix l z2).1,Known:=(ix l z2).2,Kind:=(ix l z2).3,Parcels:=(ix l z2).4,Regions:=(ix l z2).5:api_Edit}).2=0)) (post z3 z2 (applyS z3 {Day:=(ix l z2).1,Known:=(ix l z2).2,Kind:=(ix l z2).3,Parcels:=(ix l z2).4,Regions:=(ix l z2).5:api_Edit}).2) (rec1 (IntKind.i64.wrap (z2+1)) (applyS z3 {Day:=(ix l z2).1,Known:=(ix l z2).2,Kind:=(ix l z2).3,Parcels:=(ix l z2).4,Regions:=(ix l z2).5:api_Edit}).1)) ((↑l.length:Int)<=9223372036854775807->post z3 (↑l.length:Int) 0)) ((0:Int),[],PUnit.unit))
theorem prunA_w (l:List (api_Edit))(post:dens (shT prunA_sp.rs [])->Prop):prunA_W l (λy0 y1 y2=>post (y0,y1,y2,()))=walkG (callR Tryz.prog prunA_C (drawF Tryz.prog tau) 10 0) 33 false [tv (.sl (.st .api_Edit)) l] prunA_sp.rs post:=by kernel_rfl
theorem prunA_of (h:∀l post,prunA_P l post->prunA_W l post):SpecOK Tryz.prog prunA_sp:=SpecOK.of_rules (C:=prunA_C) (dr:=drawF Tryz.prog tau) (n:=10) (fk:=0) (.cons (rule1_ok pappA_ok) .nil) (drawF_ok tau) λx post hp=>HoldW.of (prunA_w x.1 post) (h x.1 (λy0 y1 y2=>post (y0,y1,y2,())) hp)
theorem prunA_ok:SpecOK Tryz.prog prunA_sp:=prunA_of λl post hp=>by
 obtain⟨⟨hl,he⟩,hp⟩:=hp
 unfold prunA_W
 replace hp:post (runS l).1 (runS l).2.1 (runS l).2.2:=hp _ _ _ ⟨run_sz he,rfl⟩
 unfold runS at hp
 intro _
 refine IFB.mk (λhb=> ?_) (λhb _=> ?_)
 ·have hb:(120:Int)<(l.length:Int):=of_decide_eq_true hb
  rw[if_pos (by omega)] at hp;exact hp
 have hb:¬(120:Int)<(l.length:Int):=of_decide_eq_false hb
 rw[if_neg (by omega)] at hp
 refine LOOP.fuel2 (λ(z:Int) (x:List Pc)=>∃k:Nat,z=(k:Int)/\k<=l.length/\(szL x)/\post (runG x (k:Int) (l.drop k)).1 (runG x (k:Int) (l.drop k)).2.1 (runG x (k:Int) (l.drop k)).2.2) (λz _=>l.length-Int.toNat z) ⟨0,rfl,Nat.zero_le _,szL_nil,hp⟩ ?_
 rintro rec (z:Int) (x:List Pc) ⟨k,i1,i2,i3,i4⟩ hrec
 subst i1
 have h4:=runG_ok i2 i4
 refine IFB.mk (λhb=> ?_) (λhb=> ?_)
 ·have hb:(k:Int)<l.length:=of_decide_eq_true hb
  have hk:k<l.length:=by omega
  have hm:=he _ (ix_mem (l:=l) (i:=(k:Int)) (by omega) (by omega))
  have h4:=h4.2 hk
  refine⟨by omega,⟨i3,hm⟩,IFB.mk (λhc=> ?_) (λhc=> ?_)⟩
  ·rw[if_pos (by simpa using hc)] at h4;exact h4
  ·rw[if_neg (by simpa using hc)] at h4
   rw[wrapS (by omega)]
   exact hrec ((k+1:Nat):Int) _ ⟨k+1,rfl,hk,applyS_sz i3 hm,h4⟩ (by show l.length-((k+1:Nat):Int).toNat<l.length-(k:Int).toNat;omega)
 ·have hb:¬(k:Int)<l.length:=of_decide_eq_false hb
  exact λ_=>h4.1 (by omega)
end RE
end Go.Proofs.YtpeggkeenboacaaGreat
set_option linter.unusedVariables false
namespace Go.Proofs.YtpeggkeenboacaaGreat
open Go.RowKit
namespace RE
open PL
namespace PL
end PL
end RE
end Go.Proofs.YtpeggkeenboacaaGreat
namespace Go.Proofs.YtpeggkeenboacaaGreat
namespace RE
open Go.RowKit
open PL
def routl_P (p:api_Parcel)(d:Int)(post:api_Region->Prop):Prop:=(0<p.Regions.length/\p.Days.length=p.Regions.length/\p.Days.length<=1000000)/\post (outlS p d)
def routl_sp:Spec:=⟨106,false,true,[.st .api_Parcel,.int .i64],.dat (.st .api_Region),λx post=>routl_P (x.1:api_Parcel) (x.2.1:Int) (λy0=>post (y0,()))⟩
def routl_C:CtxR:=⟨tau,[],lookJ [(0,7,⟨[(14,.dat (.int .i64))],[(2,[.dat (.sl (.st .api_Rect))])],(List.range' 15 15++[6]),[],[]⟩),(0,14,⟨[],[(2,[.dat (.sl (.st .api_Rect))])],(List.range' 16 13++[6]),[],[]⟩)]⟩
def routl_W (p:api_Parcel)(d:Int)(post:api_Region->Prop):Prop:=(Int.NonNeg 0/\0<(↑p.6.length:Int))/\((↑p.5.length:Int)<=9223372036854775807->LOOP [Ty.int IntKind.i64,(Ty.st Sn.api_Rect).sl] (λ(rec1:Int->List api_Rect->Prop) (z2:Int) (z3:List api_Rect)=>IFB (decide (z2<(↑p.5.length:Int))) (JOIN [(Ty.st Sn.api_Rect).sl] (λ(y4:List api_Rect)=>rec1 (IntKind.i64.wrap (z2+1)) y4) λ(J5:List api_Rect->Prop)=>((0:Int)<=z2/\z2<(↑p.5.length:Int))/\IFB (decide (ix p.5 z2<=d)) (((0:Int)<=z2/\z2<(↑p.6.length:Int))/\J5 (ix p.6 z2).1) (J5 z3)) (post (⟨z3⟩:api_Region))) ((0:Int),(ix p.6 0).1,PUnit.unit))
theorem routl_w (p:api_Parcel)(d:Int)(post:dens (shT routl_sp.rs [])->Prop):routl_W p d (λy0=>post (y0,()))=walkG (callR Tryz.prog routl_C (drawF Tryz.prog tau) 8 0) 106 false [tv (.st .api_Parcel) p,tv (.int .i64) d] routl_sp.rs post:=by kernel_rfl
theorem routl_of (h:∀p d post,routl_P p d post->routl_W p d post):SpecOK Tryz.prog routl_sp:=SpecOK.of_rules (C:=routl_C) (dr:=drawF Tryz.prog tau) (n:=8) (fk:=0) .nil (drawF_ok tau) λx post hp=>HoldW.of (routl_w x.1 x.2.1 post) (h x.1 x.2.1 (λy0=>post (y0,())) hp)
theorem routl_ok:SpecOK Tryz.prog routl_sp:=routl_of λp d post hp=>by
 obtain⟨⟨h1,h2,h3⟩,hp⟩:=hp
 unfold routl_W
 refine⟨⟨Int.NonNeg.mk 0,by omega⟩,λ_=> ?_⟩
 refine LOOP.fuel2 (λ(z:Int) (b:List Rc)=>∃k:Nat,z=(k:Int)/\k<=p.Days.length/\b=(outlF p d k).Rects) (λz _=>p.Days.length-Int.toNat z) ⟨0,rfl,Nat.zero_le _,rfl⟩ ?_
 rintro rec (z:Int) (b:List Rc) ⟨k,i1,i2,i3⟩ hrec
 subst i1
 refine IFB.mk (λhb=> ?_) (λhb=> ?_)
 ·have hb:(k:Int)<p.Days.length:=of_decide_eq_true hb
  refine JOIN.opq λ(J:List Rc->Prop) hJ=>⟨by omega,?_⟩
  have fin:∀y:List Rc,y=(outlF p d (k+1)).Rects->J y:=λy hy=>by
   rw[hJ]
   show rec (IntKind.i64.wrap ((k:Int)+1)) y
   rw[wrapS (by omega)]
   exact hrec ((k+1:Nat):Int) y ⟨k+1,rfl,by omega,hy⟩ (by show p.Days.length-((k+1:Nat):Int).toNat<p.Days.length-(k:Int).toNat;omega)
  refine IFB.mk (λhc=>⟨by omega,fin _ ?_⟩) (λhc=>fin _ ?_)
  ·have hc:ix p.Days (k:Int)<=d:=of_decide_eq_true hc
   rw[outlF_succ,if_pos hc]
  ·have hc:¬ix p.Days (k:Int)<=d:=of_decide_eq_false hc
   rw[outlF_succ,if_neg hc];exact i3
 ·have hb:¬(k:Int)<p.Days.length:=of_decide_eq_false hb
  have hk:k=p.Days.length:=by omega
  rw[i3,hk];exact hp
def ropen_P (l:List (api_Parcel))(d:Int)(post:List (Int)->Prop):Prop:=szL l/\post (openS l d)
def ropen_sp:Spec:=⟨40,false,true,[.sl (.st .api_Parcel),.int .i64],.dat (.sl (.int .i64)),λx post=>ropen_P (x.1:List (api_Parcel)) (x.2.1:Int) (λy0=>post (y0,()))⟩
def ropen_C:CtxR:=⟨tau,[rule1 rchk_sp],lookJ [(0,11,⟨[(13,.dat (.int .i64)),(5,.own 3 (.int .i64))],[],(List.range' 14 12++[7]),[],[]⟩),(0,18,⟨[(5,.own 3 (.int .i64))],[],(List.range' 15 10++[7]),[0],[]⟩)]⟩
def ropen_W (l:List (api_Parcel))(d:Int)(post:List (Int)->Prop):Prop:=szL l/\IFB (!decide (checkS l=0)) (post []) ((↑l.length:Int)<=9223372036854775807->LOOP [Ty.int IntKind.i64,(Ty.int IntKind.i64).sl] (λ(rec1:Int->List Int->Prop) (z2:Int) (z3:List Int)=>IFB (decide (z2<(↑l.length:Int))) (JOIN [(Ty.int IntKind.i64).sl] (λ(y4:List Int)=>rec1 (IntKind.i64.wrap (z2+1)) y4) λ(J5:List Int->Prop)=>((0:Int)<=z2/\z2<(↑l.length:Int))/\IFB (decide ((ix l z2).2<=d)&&decide (d<(ix l z2).3)) ((z3.length+[(ix l z2).1].length) * (8:Nat)<=140737488355328/\J5 (z3++[(ix l z2).1])) (J5 z3)) (post z3)) ((0:Int),[],PUnit.unit))
theorem ropen_w (l:List (api_Parcel))(d:Int)(post:dens (shT ropen_sp.rs [])->Prop):ropen_W l d (λy0=>post (y0,()))=walkG (callR Tryz.prog ropen_C (drawF Tryz.prog tau) 8 0) 40 false [tv (.sl (.st .api_Parcel)) l,tv (.int .i64) d] ropen_sp.rs post:=by kernel_rfl
theorem ropen_of (h:∀l d post,ropen_P l d post->ropen_W l d post):SpecOK Tryz.prog ropen_sp:=SpecOK.of_rules (C:=ropen_C) (dr:=drawF Tryz.prog tau) (n:=8) (fk:=0) (.cons (rule1_ok rchk_ok) .nil) (drawF_ok tau) λx post hp=>HoldW.of (ropen_w x.1 x.2.1 post) (h x.1 x.2.1 (λy0=>post (y0,())) hp)
theorem ropen_ok:SpecOK Tryz.prog ropen_sp:=ropen_of λl d post hp=>by
 obtain⟨hsz,hp⟩:=hp
 have hl:=hsz.len
 unfold ropen_W
 unfold openS at hp
 refine⟨hsz,IFB.mk (λhb=> ?_) (λhb _=> ?_)⟩
 ·have hb:¬checkS l=0:=by simpa using hb
  rw[if_neg hb] at hp;exact hp
 have hb:checkS l=0:=by simpa using hb
 rw[if_pos hb] at hp
 refine LOOP.fuel2 (λ(z:Int) (b:List Int)=>∃k:Nat,z=(k:Int)/\k<=l.length/\b=openL (l.take k) d) (λz _=>l.length-Int.toNat z) ⟨0,rfl,Nat.zero_le _,rfl⟩ ?_
 rintro rec (z:Int) (b:List Int) ⟨k,i1,i2,i3⟩ hrec
 subst i1
 refine IFB.mk (λhb=> ?_) (λhb=> ?_)
 ·have hb:(k:Int)<l.length:=of_decide_eq_true hb
  have hk:k<l.length:=by omega
  have hbl:b.length<=1000000:=by
   have:=openL_len (l:=l.take k) (d:=d)
   rw[<-i3,List.length_take] at this;omega
  refine JOIN.opq λ(J:List Int->Prop) hJ=>⟨by omega,?_⟩
  have fin:∀y:List Int,y=openL (l.take (k+1)) d->J y:=λy hy=>by
   rw[hJ]
   show rec (IntKind.i64.wrap ((k:Int)+1)) y
   rw[wrapS (by omega)]
   exact hrec ((k+1:Nat):Int) y ⟨k+1,rfl,hk,hy⟩ (by show l.length-((k+1:Nat):Int).toNat<l.length-(k:Int).toNat;omega)
  refine IFB.mk (λhc=>⟨by simp only[List.length_cons,List.length_nil];omega,fin _ ?_⟩) (λhc=>fin _ ?_)
  ·rw[Bool.and_eq_true,decide_eq_true_eq,decide_eq_true_eq] at hc
   rw[openL_take hk,if_pos (show thereP (ix l (k:Int)) d from hc),<-i3]
  ·rw[Bool.and_eq_false_iff,decide_eq_false_iff_not,decide_eq_false_iff_not] at hc
   rw[openL_take hk,if_neg (λh=>by unfold thereP at h;rcases hc with hc|hc;exact hc h.1;exact hc h.2),<-i3]
 ·have hb:¬(k:Int)<l.length:=of_decide_eq_false hb
  have hk:k=l.length:=by omega
  rw[hk,List.take_length] at i3
  show post b
  rw[i3];exact hp
def ron_P (l:List (api_Parcel))(n:Int)(d:Int)(post:List (api_Rect)->Bool->Prop):Prop:=szL l/\∀(r:List api_Rect)(q:Bool),(r=(onS l n d).Rects/\(q=true↔onP l n d))->post r q
def ron_sp:Spec:=⟨41,false,true,[.sl (.st .api_Parcel),.int .i64,.int .i64],.tup [.agg [.dat (.sl (.st .api_Rect))],.dat (.bool)],λx post=>ron_P (x.1:List (api_Parcel)) (x.2.1:Int) (x.2.2.1:Int) (λy0 y1=>post (y0,y1,()))⟩
def ron_C:CtxR:=⟨tau,[rule1 rchk_sp,rule1 routl_sp],lookJ []⟩
def ron_W (l:List (api_Parcel))(n:Int)(d:Int)(post:List (api_Rect)->Bool->Prop):Prop:=szL l/\((gx false (!decide (checkS l=0)||decide (n<1))=true->(↑l.length:Int)<=9223372036854775807)->(gx false (!decide (checkS l=0)||decide (n<1)||decide ((↑l.length:Int)<n))=true->0<=IntKind.i64.wrap (n-1)/\IntKind.i64.wrap (n-1)<(↑l.length:Int))/\JOIN [Ty.bool] (λ(y1:Bool)=>IFB (!decide (checkS l=0)||decide (n<1)||decide ((↑l.length:Int)<n)|| !y1) (post [] false) (((0:Int)<=IntKind.i64.wrap (n-1)/\IntKind.i64.wrap (n-1)<(↑l.length:Int))/\((0:Nat)<(ix l (IntKind.i64.wrap (n-1))).6.length/\(ix l (IntKind.i64.wrap (n-1))).5.length=(ix l (IntKind.i64.wrap (n-1))).6.length/\(ix l (IntKind.i64.wrap (n-1))).5.length<=1000000)/\post (outlS {Number:=(ix l (IntKind.i64.wrap (n-1))).1,From:=(ix l (IntKind.i64.wrap (n-1))).2,Until:=(ix l (IntKind.i64.wrap (n-1))).3,Parents:=(ix l (IntKind.i64.wrap (n-1))).4,Days:=(ix l (IntKind.i64.wrap (n-1))).5,Regions:=(ix l (IntKind.i64.wrap (n-1))).6:api_Parcel} d).1 true)) λ(J2:Bool->Prop)=>IFB (gx false (!decide (checkS l=0)||decide (n<1)||decide ((↑l.length:Int)<n))) (J2 (decide ((ix l (IntKind.i64.wrap (n-1))).2<=d)&&decide (d<(ix l (IntKind.i64.wrap (n-1))).3))) (J2 false))
theorem ron_w (l:List (api_Parcel))(n:Int)(d:Int)(post:dens (shT ron_sp.rs [])->Prop):ron_W l n d (λy0 y1=>post (y0,y1,()))=walkG (callR Tryz.prog ron_C (drawF Tryz.prog tau) 8 0) 41 false [tv (.sl (.st .api_Parcel)) l,tv (.int .i64) n,tv (.int .i64) d] ron_sp.rs post:=by kernel_rfl
theorem ron_of (h:∀l n d post,ron_P l n d post->ron_W l n d post):SpecOK Tryz.prog ron_sp:=SpecOK.of_rules (C:=ron_C) (dr:=drawF Tryz.prog tau) (n:=8) (fk:=0) (.cons (rule1_ok rchk_ok) (.cons (rule1_ok routl_ok) .nil)) (drawF_ok tau) λx post hp=>HoldW.of (ron_w x.1 x.2.1 x.2.2.1 post) (h x.1 x.2.1 x.2.2.1 (λy0 y1=>post (y0,y1,())) hp)
theorem ron_ok:SpecOK Tryz.prog ron_sp:=ron_of λl n d post hp=>by
 obtain⟨hsz,hp⟩:=hp
 have hl:=hsz.len
 unfold ron_W
 have hw:1<=n->n<=(l.length:Int)->IntKind.i64.wrap (n-1)=n-1:=λh1 h2=>wrap_in (by omega) (by omega)
 refine⟨hsz,λ_=>⟨λh=> ?_,JOIN.opq λ(J2:Bool->Prop) hJ2=> ?_⟩⟩
 ·rw[gx_f,Bool.not_eq_true',Bool.or_eq_false_iff,Bool.or_eq_false_iff,decide_eq_false_iff_not,decide_eq_false_iff_not] at h
  rw[hw (by omega) (by omega)];omega
 have k2:∀c:Bool,(1<=n->n<=(l.length:Int)->checkS l=0->(c=true↔thereP (ix l (n-1)) d))->J2 c:=λc hc=>by
  rw[hJ2]
  refine IFB.mk (λh=> ?_) (λh=> ?_)
  ·have hn:¬onP l n d:=by
    rintro ⟨o1,o2,o3,o4⟩
    rw[(hc o1 o2 o3).2 o4,o3] at h
    simp at h
    omega
   refine hp [] false ⟨?_,λh=>(by cases h),λh=>absurd h hn⟩
   unfold onS;rw[if_neg hn]
  ·simp only[Bool.or_eq_false_iff,Bool.not_eq_false',decide_eq_true_eq,decide_eq_false_iff_not] at h
   obtain⟨⟨⟨b3,b1⟩,b2⟩,b4⟩:=h
   obtain⟨m1,m2,m3,m4,m5⟩:=reg_days hsz b3 (n:=n) (by omega) (by omega)
   have hon:onP l n d:=⟨by omega,by omega,b3,(hc (by omega) (by omega) b3).1 b4⟩
   have he:onS l n d=outlS (ix l (n-1)) d:=by unfold onS;rw[if_pos hon]
   rw[m5]
   exact⟨by omega,⟨m3,m2,by omega⟩,hp _ true ⟨by rw[he],λ_=>hon,λ_=>rfl⟩⟩
 refine IFB.mk (λhg=>k2 _ λh1 h2 h3=> ?_) (λhg=>k2 _ λh1 h2 h3=> ?_)
 ·rw[hw h1 h2,Bool.and_eq_true,decide_eq_true_eq,decide_eq_true_eq]
  exact Iff.rfl
 ·rw[gx_f,h3] at hg
  simp at hg
  omega
def kedit_P (l:List (api_Parcel))(day:Int)(post:api_Edit->Prop):Prop:=(szL l/\l.length<=15)/\∀e:api_Edit,edQ l day e->post e
def kedit_sp:Spec:=⟨17,true,true,[.sl (.st .api_Parcel),.int .i64],.dat (.st .api_Edit),λx post=>kedit_P (x.1:List (api_Parcel)) (x.2.1:Int) (λy0=>post (y0,()))⟩
def kedit_C:CtxR:=⟨tau,[rule1 ropen_sp,rule1 ron_sp,rule1 rwou_sp,rule1 knext_sp,rule1 krange_sp,rule1 kone_sp,rule1 krect_sp],lookJ [(0,62,⟨[],[(1,[.dat (.int .i64),.dat (.int .i64),.dat (.int .i64),.own 3 (.int .i64),.dat (.sl (.st .api_Region))])],(List.range' 14 5++List.range' 86 87++[20]),[3],[]⟩),(0,53,⟨[(155,.dat (.int .i64))],[(1,[.dat (.int .i64),.dat (.int .i64),.dat (.int .i64),.own 3 (.int .i64),.dat (.sl (.st .api_Region))])],(List.range' 156 17++[20]),[3],[]⟩),(0,60,⟨[],[(1,[.dat (.int .i64),.dat (.int .i64),.dat (.int .i64),.own 3 (.int .i64),.dat (.sl (.st .api_Region))])],(List.range' 157 15++[20]),[4],[]⟩),(0,36,⟨[],[(4,[.dat (.int .i64),.dat (.int .i64),.dat (.int .i64),.dat (.int .i64)])],(List.range' 94 16),[],[]⟩),(0,16,⟨[],[(2,[.dat (.int .i64),.dat (.int .i64),.dat (.int .i64),.dat (.int .i64)])],[58,59,60,61],[],[]⟩)]⟩
abbrev kedit_a0 (v12:List api_Rect)(v28:Int):={Left:=(ix v12 (0:Int)).1,Low:=(ix v12 (0:Int)).2,Right:=IntKind.i64.wrap (IntKind.i64.wrap ((ix v12 (0:Int)).1+(1:Int))+v28),High:=(ix v12 (0:Int)).4:api_Rect}
def kedit_W (l:List (api_Parcel))(day:Int)(post:api_Edit->Prop):Prop:=szL l/\(Int.NonNeg 1099511627777/\Int.NonNeg 1099511627775/\Int.NonNeg 1099511627781/\(5:Int)<=1099511627776)/\∀(v1:Int),1<=v1->v1<=5\/v1=1->(↑(openS l day).length:Int)<=9223372036854775807->IFB (decide ((↑(openS l day).length:Int)=0)||decide (v1=1)) ((↑l.length:Int)<=9223372036854775807->((4:Int)=0->False)/\((4:Int)=0->False)/\((4:Int)=0->False)/\(Int.NonNeg 1099511627778/\Int.NonNeg 1099511627774/\Int.NonNeg 1099511627785/\(9:Int)<=1099511627776)/\∀(v2:Int),2<=v2->v2<=9\/v2=2->((4:Int)=0->False)/\(Int.NonNeg 1099511627778/\Int.NonNeg 1099511627774/\Int.NonNeg 1099511627785/\(9:Int)<=1099511627776)/\∀(v3:Int),2<=v3->v3<=9\/v3=2->JOIN [Ty.int IntKind.i64,Ty.int IntKind.i64,Ty.int IntKind.i64,Ty.int IntKind.i64] (λ(y4 y5 y6 y7:Int)=>post (⟨day,day,(1:Int),[],[(⟨[(⟨y4,y5,y6,y7⟩:api_Rect)]⟩:api_Region)]⟩:api_Edit)) λ(J8:Int->Int->Int->Int->Prop)=>Int.NonNeg 1099511627771/\∀(v9:Bool),IFB v9 ((Int.NonNeg 11/\(12:Int)<=16384)/\∀(v10:api_Rect),proper v10/\v10.3<=12/\v10.4<=12->J8 v10.1 v10.2 v10.3 v10.4) (J8 (IntKind.i64.wrap ((10:Int) * (↑l.length:Int).tmod 4)) (IntKind.i64.wrap ((10:Int) * IntKind.i64.wrap ((↑l.length:Int).tdiv 4))) (IntKind.i64.wrap (IntKind.i64.wrap ((10:Int) * (↑l.length:Int).tmod 4)+v2)) (IntKind.i64.wrap (IntKind.i64.wrap ((10:Int) * IntKind.i64.wrap ((↑l.length:Int).tdiv 4))+v3)))) ((↑(openS l day).length:Int)<=9223372036854775807->(↑(openS l day).length:Int)<=9223372036854775807/\∀(v11:Int),0<=v11->v11<(↑(openS l day).length:Int)\/v11=0->((0:Int)<=v11/\v11<(↑(openS l day).length:Int))/\szL l/\∀(v12:List api_Rect)(v13:Bool),v12=(onS l (ix (openS l day) v11) day).1/\(v13=true↔onP l (ix (openS l day) v11) day)->JOIN [Ty.int IntKind.i64,Ty.int IntKind.i64,Ty.int IntKind.i64,(Ty.int IntKind.i64).sl,(Ty.st Sn.api_Region).sl] (λ(y14 y15 y16:Int) (y17:List Int) (y18:List api_Region)=>post (⟨y14,y15,y16,y17,y18⟩:api_Edit)) λ(J19:Int->Int->Int->List Int->List api_Region->Prop)=>IFB (decide (v1=2)) ((Int.NonNeg 0/\0<(↑v12.length:Int))/\JOIN [Ty.int IntKind.i64,Ty.int IntKind.i64,Ty.int IntKind.i64,Ty.int IntKind.i64] (λ(y20 y21 y22 y23:Int)=>J19 day day v1 [ix (openS l day) v11] [(⟨[(⟨y20,y21,y22,y23⟩:api_Rect)]⟩:api_Region)]) λ(J24:Int->Int->Int->Int->Prop)=>Int.NonNeg 1099511627774/\∀(v25:Bool),IFB v25 (Int.NonNeg 9223372036854775798/\∀(v26:Int),0<=v26->v26<9\/v26=0->J24 (ix v12 0).1 (ix v12 0).2 (IntKind.i64.wrap (IntKind.i64.wrap ((ix v12 0).1+1)+v26)) (ix v12 0).4) (Int.NonNeg 9223372036854775798/\∀(v27:Int),0<=v27->v27<9\/v27=0->J24 (ix v12 0).1 (ix v12 0).2 (ix v12 0).3 (IntKind.i64.wrap (IntKind.i64.wrap ((ix v12 0).2+1)+v27)))) (IFB (decide (v1=3)) ((Int.NonNeg 0/\0<(↑v12.length:Int))/\(IntKind.i64.wrap ((ix v12 0).3-(ix v12 0).1)<=9223372036854775807/\∀(v28:Int),0<=v28->v28<IntKind.i64.wrap ((ix v12 0).3-(ix v12 0).1)\/v28=0->(((True/\J19 day day v1 [ix (openS l day) v11] [(⟨[(kedit_a0 v12 v28)]⟩:api_Region),{Rects:=(wouS v12 [(kedit_a0 v12 v28)]).1:api_Region}])/\True/\J19 day day v1 [ix (openS l day) v11] [(⟨[(kedit_a0 v12 v28)]⟩:api_Region),{Rects:=(wouS v12 [(kedit_a0 v12 v28)]).1:api_Region}])/\True/\J19 day day v1 [ix (openS l day) v11] [(⟨[(kedit_a0 v12 v28)]⟩:api_Region),{Rects:=(wouS v12 [(kedit_a0 v12 v28)]).1:api_Region}])/\True/\J19 day day v1 [ix (openS l day) v11] [(⟨[(kedit_a0 v12 v28)]⟩:api_Region),{Rects:=(wouS v12 [(kedit_a0 v12 v28)]).1:api_Region}])/\IntKind.i64.wrap ((ix v12 0).3-(ix v12 0).1)<=9223372036854775807/\∀(v29:Int),0<=v29->v29<IntKind.i64.wrap ((ix v12 0).3-(ix v12 0).1)\/v29=0->True/\J19 day day v1 [ix (openS l day) v11] [(⟨[(⟨(ix v12 0).1,(ix v12 0).2,IntKind.i64.wrap (IntKind.i64.wrap ((ix v12 0).1+1)+v29),(ix v12 0).4⟩:api_Rect)]⟩:api_Region),{Rects:=(wouS v12 [(⟨(ix v12 0).1,(ix v12 0).2,IntKind.i64.wrap (IntKind.i64.wrap ((ix v12 0).1+1)+v29),(ix v12 0).4⟩:api_Rect)]).1:api_Region}]) (IFB (decide (v1=4)) ((↑(openS l day).length:Int)<=9223372036854775807->LOOP [Ty.int IntKind.i64,Ty.int IntKind.i64,Ty.int IntKind.i64,Ty.int IntKind.i64,(Ty.int IntKind.i64).sl,(Ty.st Sn.api_Region).sl] (λ(rec30:Int->Int->Int->Int->List Int->List api_Region->Prop) (z31 z32 z33 z34:Int) (z35:List Int) (z36:List api_Region)=>IFB (decide (z31<(↑(openS l day).length:Int))) (JOIN [Ty.int IntKind.i64,Ty.int IntKind.i64,Ty.int IntKind.i64,(Ty.int IntKind.i64).sl,(Ty.st Sn.api_Region).sl] (λ(y37 y38 y39:Int) (y40:List Int) (y41:List api_Region)=>rec30 (IntKind.i64.wrap (z31+1)) y37 y38 y39 y40 y41) λ(J42:Int->Int->Int->List Int->List api_Region->Prop)=>((0:Int)<=z31/\z31<(↑(openS l day).length:Int))/\JOIN [Ty.bool] (λ(y43:Bool)=>IFB (decide (ix (openS l day) v11<ix (openS l day) z31)&&y43) ((z35.length+[ix (openS l day) z31].length) * (8:Nat)<=140737488355328/\J42 z32 z33 z34 (z35++[ix (openS l day) z31]) z36) (J42 z32 z33 z34 z35 z36)) λ(J44:Bool->Prop)=>IFB (gx true (decide (ix (openS l day) v11<ix (openS l day) z31))) (Int.NonNeg 1099511627774/\∀(v45:Bool),J44 v45) (J44 false)) (J19 z32 z33 z34 z35 z36)) ((0:Int),day,day,v1,[ix (openS l day) v11],[],PUnit.unit)) (J19 day day v1 [ix (openS l day) v11] []))))
theorem kedit_w (l:List (api_Parcel))(day:Int)(post:dens (shT kedit_sp.rs [])->Prop):kedit_W l day (λy0=>post (y0,()))=walkG (callR Tryz.prog kedit_C (drawF Tryz.prog tau) 8 0) 17 true [tv (.sl (.st .api_Parcel)) l,tv (.int .i64) day] kedit_sp.rs post:=by kernel_rfl
theorem kedit_of (h:∀l day post,kedit_P l day post->kedit_W l day post):SpecOK Tryz.prog kedit_sp:=SpecOK.of_rules (C:=kedit_C) (dr:=drawF Tryz.prog tau) (n:=8) (fk:=0) (.cons (rule1_ok ropen_ok) (.cons (rule1_ok ron_ok) (.cons (rule1_ok rwou_ok) (.cons (rule1_ok knext_ok) (.cons (rule1_ok krange_ok) (.cons (rule1_ok kone_ok) (.cons (rule1_ok krect_ok) .nil))))))) (drawF_ok tau) λx post hp=>HoldW.of (kedit_w x.1 x.2.1 post) (h x.1 x.2.1 (λy0=>post (y0,())) hp)
set_option maxHeartbeats 4000000 in
theorem kedit_ok:SpecOK Tryz.prog kedit_sp:=kedit_of λl day post hp=>by
 obtain⟨⟨hsz,hlen⟩,hp⟩:=hp
 unfold kedit_W kedit_a0
 have hol:(openS l day).length<=l.length:=openS_len
 refine⟨hsz,⟨.mk _,.mk _,.mk _,by omega⟩,λk hk1 hk2 _=>IFB.mk (λhc _=> ?_) (λhc _=> ?_)⟩
 ·have t1:(l.length:Int).tmod 4=(l.length:Int) % 4:=Int.tmod_eq_emod_of_nonneg (by omega)
  have t2:(l.length:Int).tdiv 4=(l.length:Int)/4:=Int.tdiv_eq_ediv_of_nonneg (by omega)
  have w1:IntKind.i64.wrap (10 * ((l.length:Int) % 4))=10 * ((l.length:Int) % 4):=wrap_in (by omega) (by omega)
  have w2:IntKind.i64.wrap ((l.length:Int)/4)=(l.length:Int)/4:=wrap_in (by omega) (by omega)
  have w3:IntKind.i64.wrap (10 * ((l.length:Int)/4))=10 * ((l.length:Int)/4):=wrap_in (by omega) (by omega)
  refine⟨by omega,by omega,by omega,⟨.mk _,.mk _,.mk _,by omega⟩,λw h1 h2=>⟨by omega,⟨.mk _,.mk _,.mk _,by omega⟩,λv g1 g2=>JOIN.opq λ(J:Int->Int->Int->Int->Prop) hJ=>⟨.mk _,λb=>IFB.mk (λ_=>⟨⟨.mk _,by omega⟩,λr hr=> ?_⟩) (λ_=> ?_)⟩⟩⟩
  ·rw[hJ]
   refine hp _ (edQ_rect ⟨by omega,by omega⟩ (by simp) (λ_=>⟨hr.1,?_,?_⟩) λN n1 n2 n3=>⟨hr.1,?_,?_⟩)
   ·show r.3<=39;omega
   ·show r.4<=39;omega
   ·show r.3<=N+8;omega
   ·show r.4<=N+8;omega
  ·have w4:IntKind.i64.wrap (10 * ((l.length:Int) % 4)+w)=10 * ((l.length:Int) % 4)+w:=wrap_in (by omega) (by omega)
   have w5:IntKind.i64.wrap (10 * ((l.length:Int)/4)+v)=10 * ((l.length:Int)/4)+v:=wrap_in (by omega) (by omega)
   rw[t1,t2,w1,w2,w3,w4,w5,hJ]
   refine hp _ (edQ_rect ⟨by omega,by omega⟩ (by simp) (λ_=>⟨⟨?_,?_,?_,?_,?_,?_⟩,?_,?_⟩) λN n1 n2 n3=>⟨⟨?_,?_,?_,?_,?_,?_⟩,?_,?_⟩)<;>dsimp only<;>omega
 ·rw[Bool.or_eq_false_iff] at hc
  have hc1:¬((openS l day).length:Int)=0:=of_decide_eq_false hc.1
  have hc2:¬k=1:=of_decide_eq_false hc.2
  refine⟨by omega,λv h1 h2=> ?_⟩
  have hv:0<=v/\v<((openS l day).length:Int):=by omega
  have hn:ix (openS l day) v∈openS l day:=ix_mem hv.1 hv.2
  obtain⟨hon,hreg⟩:=open_on hn
  obtain⟨hm1,hm2⟩:=on_mem hon hreg
  have hpr:=reg_prop hreg hm2 hm1
  obtain⟨n,hnn⟩:∃n,ix (openS l day) v=n:=⟨_,rfl⟩
  rw[hnn] at hon hm1 hm2 hpr ⊢
  refine⟨hv,hsz,λv12 v13 h=>JOIN.opq λ(J:Int->Int->Int->List Int->List api_Region->Prop) hJ=> ?_⟩
  obtain⟨h12,_⟩:=h
  have hv12:(onS l n day).Rects=v12:=h12.symm
  have hln:l≠[]:=λh=>by subst h;cases hm2
  have hval:validP v12:=by rw[<-hv12];exact hpr.2
  have hne:0<v12.length:=by
   rw[<-hv12]
   exact List.length_pos_iff.2 hpr.1
  have hr0:ix v12 (0:Int)∈v12:=ix_mem (by omega) (by omega)
  obtain⟨q1,q2,q3,q4,q5,q6⟩:=hval.2.1 _ hr0
  have hbx:∀N:Int,bxL N l->∀q∈v12,q.Right<=N/\q.High<=N:=λN hN q hq=>hN _ hm2 _ hm1 q (by rw[hv12];exact hq)
  refine IFB.mk (λhd=> ?_) (λhd=>IFB.mk (λhd2=> ?_) (λhd2=>IFB.mk (λhd3=> ?_) (λhd3=> ?_)))
  ·have hd:=of_decide_eq_true hd
   have w0:∀z:Int,0<=z->z<=20000->∀v:Int,0<=v->v<=9->IntKind.i64.wrap (IntKind.i64.wrap (z+1)+v)=z+1+v:=λz z1 z2 v v1 v2=>by
    rw[wrap_in (z:=z+1) (by omega) (by omega)]
    exact wrap_in (by omega) (by omega)
   refine⟨⟨.mk _,by omega⟩,JOIN.opq λ(J24:Int->Int->Int->Int->Prop) hJ24=>⟨.mk _,λb=>IFB.mk (λ_=>⟨.mk _,λu u1 u2=> ?_⟩) (λ_=>⟨.mk _,λu u1 u2=> ?_⟩)⟩⟩
   ·rw[w0 _ q1 (by omega) u u1 (by omega),hJ24,hJ]
    refine hp _ (edQ_rect ⟨by omega,by omega⟩ (by simp) (λh=>absurd h hln) λN n1 n2 n3=> ?_)
    obtain⟨b1,b2⟩:=hbx N n3 _ hr0
    refine⟨⟨?_,?_,?_,?_,?_,?_⟩,?_,?_⟩<;>dsimp only<;>omega
   ·rw[w0 _ q4 (by omega) u u1 (by omega),hJ24,hJ]
    refine hp _ (edQ_rect ⟨by omega,by omega⟩ (by simp) (λh=>absurd h hln) λN n1 n2 n3=> ?_)
    obtain⟨b1,b2⟩:=hbx N n3 _ hr0
    refine⟨⟨?_,?_,?_,?_,?_,?_⟩,?_,?_⟩<;>dsimp only<;>omega
  ·have hd2:=of_decide_eq_true hd2
   subst hd2
   have w1:IntKind.i64.wrap ((ix v12 0).3-(ix v12 0).1)=(ix v12 0).3-(ix v12 0).1:=wrap_in (by omega) (by omega)
   rw[w1]
   have leaf:∀u:Int,0<=u->(u<(ix v12 0).3-(ix v12 0).1\/u=0)->J day day 3 [n] [{Rects:=[{Left:=(ix v12 0).1,Low:=(ix v12 0).2,Right:=IntKind.i64.wrap (IntKind.i64.wrap ((ix v12 0).1+1)+u),High:=(ix v12 0).4:api_Rect}]:api_Region},{Rects:=(wouS v12 [{Left:=(ix v12 0).1,Low:=(ix v12 0).2,Right:=IntKind.i64.wrap (IntKind.i64.wrap ((ix v12 0).1+1)+u),High:=(ix v12 0).4:api_Rect}]).1:api_Region}]:=λu u1 u2=>by
    rw[wrap_in (z:=(ix v12 0).1+1) (by omega) (by omega),wrap_in (z:=(ix v12 0).1+1+u) (by omega) (by omega),hJ]
    refine hp _ (edQ_split (by simp) hln hval λN n1 n2 n3=>⟨?_,hbx N n3⟩)
    obtain⟨b1,b2⟩:=hbx N n3 _ hr0
    refine⟨⟨?_,?_,?_,?_,?_,?_⟩,?_,?_⟩<;>dsimp only<;>omega
   have b1:(ix v12 0).3-(ix v12 0).1<=9223372036854775807:=by omega
   refine⟨⟨.mk _,by omega⟩,⟨b1,λu u1 u2=> ?_⟩,b1,λu u1 u2=>⟨trivial,leaf u u1 u2⟩⟩
   have lf:=leaf u u1 u2
   repeat' (first|exact lf|exact True.intro|with_reducible apply And.intro)
  ·have hd3:=of_decide_eq_true hd3
   intro _
   refine LOOP.fuel (λu=>∃j:Nat,u.1=(j:Int)/\j<=(openS l day).length/\u.2.1=day/\u.2.2.1=day/\u.2.2.2.1=k/\List.length (u.2.2.2.2.1:List Int)<=1+j/\(u.2.2.2.2.2.1:List api_Region)=[]) (λu=>(openS l day).length-Int.toNat u.1) ⟨0,rfl,Nat.zero_le _,rfl,rfl,rfl,by simp,rfl⟩ ?_
   rintro rec ⟨(z1:Int),(z2:Int),(z3:Int),(z4:Int),(z5:List Int),(z6:List api_Region),⟨⟩⟩ ⟨j,f1,e2,f3,f4,f5,f6,f7⟩ hrec
   have e1:z1=(j:Int):=f1
   have e3:z2=day:=f3
   have e4:z3=day:=f4
   have e5:z4=k:=f5
   have e6:z5.length<=1+j:=f6
   have e7:z6=[]:=f7
   clear f1 f3 f4 f5 f6 f7
   subst e1 e3 e4 e5 e7
   refine IFB.mk (λhb=> ?_) (λhb=> ?_)
   ·have hb:(j:Int)<((openS l z3).length:Int):=of_decide_eq_true hb
    refine JOIN.opq λ(J42:Int->Int->Int->List Int->List api_Region->Prop) hJ42=>⟨⟨by omega,hb⟩,?_⟩
    have cont:∀z:List Int,z.length<=1+(j+1)->J42 z3 z3 z4 z []:=λz hz=>by
     rw[hJ42,wrapS (by omega)]
     exact hrec (((j+1:Nat):Int),z3,z3,z4,z,[],()) ⟨j+1,rfl,by omega,rfl,rfl,rfl,hz,rfl⟩ (by show (openS l z3).length-((j+1:Nat):Int).toNat<(openS l z3).length-(j:Int).toNat;omega)
    have body:∀y:Bool,IFB (decide (n<ix (openS l z3) (j:Int))&&y) ((z5.length+[ix (openS l z3) (j:Int)].length) * 8<=140737488355328/\J42 z3 z3 z4 (z5++[ix (openS l z3) (j:Int)]) []) (J42 z3 z3 z4 z5 []):=λy=>
     IFB.mk (λ_=>⟨by simp only[List.length_cons,List.length_nil];omega,cont _ (by rw[List.length_append];simp;omega)⟩) (λ_=>cont _ (by omega))
    refine JOIN.opq λ(J44:Bool->Prop) hJ44=>IFB.mk (λ_=>⟨.mk _,λy=> ?_⟩) (λ_=> ?_)
    ·rw[hJ44];exact body y
    ·rw[hJ44];exact body false
   ·have hb:¬(j:Int)<((openS l z3).length:Int):=of_decide_eq_false hb
    show J z3 z3 z4 z5 []
    rw[hJ]
    exact hp _ (edQ_none ⟨by omega,by omega⟩ (by omega))
  ·rw[hJ]
   exact hp _ (edQ_none ⟨by omega,by omega⟩ (by simp))
def kedits_P (most:Int)(step:Int)(post:List (api_Edit)->List (api_Parcel)->Prop):Prop:=(0<=most/\most<=8/\0<=step/\step<=10)/\∀(es:List Ed)(x:List Pc),Hist most.toNat es x->post es x
def kedits_sp:Spec:=⟨23,true,true,[.int .i64,.int .i64],.tup [.dat (.sl (.st .api_Edit)),.dat (.sl (.st .api_Parcel))],λx post=>kedits_P (x.1:Int) (x.2.1:Int) (λy0 y1=>post (y0,y1,()))⟩
def kedits_C:CtxR:=⟨tau,[rule1 knext_sp,rule1 kedit_sp,rule1 rappA_sp],lookJ [(0,11,⟨[(11,.dat (.int .i64)),(8,.own 25 (.st .api_Edit)),(9,.dat (.sl (.st .api_Parcel))),(10,.dat (.int .i64))],[],(List.range' 21 27++[12,13,14]),[],[]⟩),(0,12,⟨[(8,.own 25 (.st .api_Edit)),(9,.dat (.sl (.st .api_Parcel))),(10,.dat (.int .i64))],[],(List.range' 25 23++[12,13,14]),[0],[]⟩)]⟩
abbrev kedits_a0 (v13:api_Edit):={Day:=v13.1,Known:=v13.2,Kind:=v13.3,Parcels:=v13.4,Regions:=v13.5:api_Edit}
def kedits_W (most:Int)(step:Int)(post:List (api_Edit)->List (api_Parcel)->Prop):Prop:=Int.NonNeg 9223372036854775802/\∀(v1:Int),0<=v1->v1<5\/v1=0->IntKind.i64.wrap (most+1)<=9223372036854775807/\∀(v2:Int),0<=v2->v2<IntKind.i64.wrap (most+1)\/v2=0->LOOP [Ty.int IntKind.i64,(Ty.st Sn.api_Edit).sl,(Ty.st Sn.api_Parcel).sl,Ty.int IntKind.i64] (λ(rec3:Int->List api_Edit->List api_Parcel->Int->Prop) (z4:Int) (z5:List api_Edit) (z6:List api_Parcel) (z7:Int)=>IFB (decide ((0:Int)<z4)) (JOIN [(Ty.st Sn.api_Edit).sl,(Ty.st Sn.api_Parcel).sl,Ty.int IntKind.i64] (λ(y8:List api_Edit) (y9:List api_Parcel) (y10:Int)=>rec3 (IntKind.i64.wrap (z4-1)) y8 y9 y10) λ(J11:List api_Edit->List api_Parcel->Int->Prop)=>IntKind.i64.wrap (step+1)<=9223372036854775807/\∀(v12:Int),0<=v12->v12<IntKind.i64.wrap (step+1)\/v12=0->(szL z6/\z6.length<=15)/\∀(v13:api_Edit),edQ z6 (IntKind.i64.wrap (z7+v12)) v13->(szL z6/\szE (kedits_a0 v13)/\((v13.3=2->False)->editS z6 (kedits_a0 v13)=0->(∀(v14:Nat),v14<=v13.5.length->(canonF (cov (partsR (List.take v14 v13.5)))).length<=10000)/\∀(v15:Nat),v15<=v13.4.length->(canonF (cov (outsL z6 (List.take v15 v13.4)))).length<=10000))/\IFB (decide ((applyS z6 (kedits_a0 v13)).2=0)) ((z5.length+[(kedits_a0 v13)].length) * (72:Nat)<=140737488355328/\J11 (z5++[(kedits_a0 v13)]) (applyS z6 (kedits_a0 v13)).1 (IntKind.i64.wrap (z7+v12))) (J11 z5 z6 (IntKind.i64.wrap (z7+v12)))) (post z5 z6)) (v2,[],[],v1,PUnit.unit)
theorem kedits_w (most:Int)(step:Int)(post:dens (shT kedits_sp.rs [])->Prop):kedits_W most step (λy0 y1=>post (y0,y1,()))=walkG (callR Tryz.prog kedits_C (drawF Tryz.prog tau) 8 0) 23 true [tv (.int .i64) most,tv (.int .i64) step] kedits_sp.rs post:=by kernel_rfl
theorem kedits_of (h:∀most step post,kedits_P most step post->kedits_W most step post):SpecOK Tryz.prog kedits_sp:=SpecOK.of_rules (C:=kedits_C) (dr:=drawF Tryz.prog tau) (n:=8) (fk:=0) (.cons (rule1_ok knext_ok) (.cons (rule1_ok kedit_ok) (.cons (rule1_ok rappA_ok) .nil))) (drawF_ok tau) λx post hp=>HoldW.of (kedits_w x.1 x.2.1 post) (h x.1 x.2.1 (λy0 y1=>post (y0,y1,())) hp)
theorem kedits_ok:SpecOK Tryz.prog kedits_sp:=kedits_of λmost step post hp=>by
 obtain⟨⟨m0,m1,s0,s1⟩,hp⟩:=hp
 unfold kedits_W kedits_a0
 have w1:IntKind.i64.wrap (most+1)=most+1:=wrap_in (by omega) (by omega)
 have w2:IntKind.i64.wrap (step+1)=step+1:=wrap_in (by omega) (by omega)
 rw[w1,w2]
 refine⟨.mk _,λd hd0 hd1=>⟨by omega,λn hn0 hn1=> ?_⟩⟩
 refine LOOP.fuel (λu=>∃i:Nat,u.1=n-(i:Int)/\(i:Int)<=n/\Hist i u.2.1 u.2.2.1/\ @LE.le Int _ 0 u.2.2.2.1/\ @LE.le Int _ u.2.2.2.1 (4+10 * (i:Int))) (λu=>Int.toNat u.1) ⟨0,by show n=n-((0:Nat):Int);omega,by omega,hist_nil,hd0,by show d<=_;omega⟩ ?_
 rintro rec ⟨(z4:Int),(z5:List Ed),(z6:List Pc),(z7:Int),⟨⟩⟩ ⟨i,f1,i2,f3,f4,f5⟩ hrec
 have e1:z4=n-(i:Int):=f1
 have hh:Hist i z5 z6:=f3
 have d0:0<=z7:=f4
 have d1:z7<=4+10 * (i:Int):=f5
 clear f1 f3 f4 f5
 subst e1
 refine IFB.mk (λhb=> ?_) (λhb=> ?_)
 ·have hb:0<n-(i:Int):=of_decide_eq_true hb
  have hi:i<=7:=by omega
  have hlen:=hh.len
  have hxl:=hh.xl
  have hx15:z6.length<=15:=by omega
  have hz5:(z5.length+1) * 72<=140737488355328:=by omega
  refine JOIN.opq λ(J:List api_Edit->List api_Parcel->Int->Prop) hJ=>⟨by omega,λv v0 v1=>⟨⟨hh.sz,hx15⟩,λe he=> ?_⟩⟩
  have w3:IntKind.i64.wrap (z7+v)=z7+v:=wrap_in (by omega) (by omega)
  rw[w3] at he ⊢
  have w4:IntKind.i64.wrap (n-(i:Int)-1)=n-((i+1:Nat):Int):=by rw[wrap_in (by omega) (by omega)];omega
  obtain⟨r1,r2⟩:=hh.reach hi he
  have hc:=combK_of (e:=e) (N:=39+8 * (z5.length:Int)) (by omega) (by omega) r1 r2
  have next:∀(a:List Ed)(b:List Pc),Hist (i+1) a b->J a b (z7+v):=λa b hab=>by
   rw[hJ,w4]
   exact hrec (n-((i+1:Nat):Int),a,b,z7+v,()) ⟨i+1,rfl,by omega,hab,by show 0<=z7+v;omega,by show z7+v<=4+10 * ((i+1:Nat):Int);omega⟩ (by show (n-((i+1:Nat):Int)).toNat<(n-(i:Int)).toNat;omega)
  refine⟨⟨hh.sz,he.1,λ_=>hc⟩,IFB.mk (λhq=> ?_) (λhq=>next _ _ (hh.mono (by omega)))⟩
  have hq:(applyS z6 e).2=0:=of_decide_eq_true hq
  exact⟨hz5,next _ _ (hh.step hi ⟨by omega,by omega⟩ he hq)⟩
 ·have hb:¬0<n-(i:Int):=of_decide_eq_false hb
  exact hp _ _ (hh.mono (by omega))
def pawake_P (post:Bool->Prop):Prop:=post true
def pawake_sp:Spec:=⟨11,false,false,[],.dat (.bool),λx post=>pawake_P (λy0=>post (y0,()))⟩
def pawake_C:CtxR:=⟨tau,[rule1 prunV_sp,rule1 pheirsV_sp,rule1 pshareV_sp,rule1 rints_sp],lookJ []⟩
abbrev pawake_a0:={Day:=(5:Int),Known:=(0:Int),Kind:=(3:Int),Parcels:=[(1:Int)],Regions:=[{Rects:=[{Left:=(0:Int),Low:=(0:Int),Right:=(1:Int),High:=(1:Int):api_Rect}]:api_Region},{Rects:=[{Left:=(1:Int),Low:=(0:Int),Right:=(4:Int),High:=(1:Int):api_Rect}]:api_Region}]:api_Edit}
abbrev pawake_a1:={Day:=(0:Int),Known:=(0:Int),Kind:=(1:Int),Parcels:=[],Regions:=[{Rects:=[{Left:=(0:Int),Low:=(0:Int),Right:=(4:Int),High:=(1:Int):api_Rect}]:api_Region}]:api_Edit}
def pawake_W (post:Bool->Prop):Prop:=(Nat.le ((2:Nat)) ((1000000:Nat))/\∀(v1:api_Edit),v1∈[(pawake_a1),(pawake_a0)]->szE v1/\(v1.3=2->False))/\∀(v2:List api_Parcel)(v3 v4:Int),szL v2/\runS [(pawake_a1),(pawake_a0)]=(v2,v3,v4)->szL v2/\∀(v5:List Int)(v6:Int),v5=heirsS v2 (1:Int) 9/\v6=heirE v2 (1:Int) 9->szL v2/\∀(v7:List arr2_i64)(v8:Int),v7=shareS v2 (1:Int) 5/\v8=heirE v2 (1:Int) 5->IFB (gx true (decide (v4=0)&&decide (v3=2)&&decide (v6=0))) (JOIN [Ty.bool] (λ(y9:Bool)=>(gx true (decide (v4=0)&&decide (v3=2)&&decide (v6=0)&&y9&&decide (v8=0))=true->(↑v7.length:Int)<=9223372036854775807)->(gx true (decide (v4=0)&&decide (v3=2)&&decide (v6=0)&&y9&&decide (v8=0)&&decide ((↑v7.length:Int)=2))=true->Int.NonNeg 1/\1<(↑v7.length:Int))/\post (decide (v4=0)&&decide (v3=2)&&decide (v6=0)&&y9&&decide (v8=0)&&decide ((↑v7.length:Int)=2)&&(decide ((ix v7 1).1=3)&&(decide ((ix v7 1).2=3)&&true)))) λ(J10:Bool->Prop)=>IFB (gx true (decide (v4=0)&&decide (v3=2)&&decide (v6=0))) (∀(v11:Bool),(v11=true↔v5=[(2:Int),(3:Int)])->J10 v11) (J10 false)) (JOIN [Ty.bool] (λ(y12:Bool)=>(gx true (decide (v4=0)&&decide (v3=2)&&decide (v6=0)&&y12&&decide (v8=0))=true->(↑v7.length:Int)<=9223372036854775807)->(gx true (decide (v4=0)&&decide (v3=2)&&decide (v6=0)&&y12&&decide (v8=0)&&decide ((↑v7.length:Int)=2))=true->Int.NonNeg 1/\1<(↑v7.length:Int))/\post (decide (v4=0)&&decide (v3=2)&&decide (v6=0)&&y12&&decide (v8=0)&&decide ((↑v7.length:Int)=2)&&(decide ((ix v7 1).1=3)&&(decide ((ix v7 1).2=3)&&true)))) λ(J13:Bool->Prop)=>IFB (gx true (decide (v4=0)&&decide (v3=2)&&decide (v6=0))) False (J13 false))
theorem pawake_w (post:dens (shT pawake_sp.rs [])->Prop):pawake_W (λy0=>post (y0,()))=walkG (callR Tryz.prog pawake_C (drawF Tryz.prog tau) 10 0) 11 false [] pawake_sp.rs post:=by kernel_rfl
theorem pawake_of (h:∀post,pawake_P post->pawake_W post):SpecOK Tryz.prog pawake_sp:=SpecOK.of_rules (C:=pawake_C) (dr:=drawF Tryz.prog tau) (n:=10) (fk:=0) (.cons (rule1_ok prunV_ok) (.cons (rule1_ok pheirsV_ok) (.cons (rule1_ok pshareV_ok) (.cons (rule1_ok rints_ok) .nil)))) (drawF_ok tau) λx post hp=>HoldW.of (pawake_w post) (h (λy0=>post (y0,())) hp)
theorem heirs_go {l:List Pc}{n d:Int}(h:regP l)(h2:l.length<=60)(h3:0<=d)(h4:d<=36864)(h5:1<=n)(h6:n<=(l.length:Int))(h7:(ix l (n-1)).From<=d):heirE l n d=0/\heirsS l n d=heirsL l n d/\shareS l n d=shareL l n d (heirsL l n d):=by
 have e:heirE l n d=0:=heirE_0.2 ⟨check_reg h h2,h3,h4,h5,h6,h7⟩
 refine⟨e,?_,?_⟩
 ·unfold heirsS;rw[if_pos e]
 ·unfold shareS;rw[if_pos e]
theorem hs_yes {d n s u:Int}{ps f r:List Int}{a:Rn}(h:∃k∈ps,k∈f):hStep d (f,r) (pcl n s u ps a)=(f++[n],if s<=d/\d<u then r++[n] else r):=by
 unfold hStep
 rw[if_pos (show ∃k∈(pcl n s u ps a).Parents,k∈(f,r).1 from h)]
 dsimp only
 have hn:n∈f++[n]:=by simp
 by_cases h1:s<=d/\d<u
 ·rw[if_pos (show thereP (pcl n s u ps a) d/\(pcl n s u ps a).Number∈f++[(pcl n s u ps a).Number] from ⟨h1,hn⟩),if_pos h1];rfl
 ·rw[if_neg (show ¬(thereP (pcl n s u ps a) d/\(pcl n s u ps a).Number∈f++[(pcl n s u ps a).Number]) from λh=>h1 h.1),if_neg h1];rfl
theorem hs_no {d n s u:Int}{ps f r:List Int}{a:Rn}(h:¬∃k∈ps,k∈f)(h2:¬(s<=d/\d<u)):hStep d (f,r) (pcl n s u ps a)=(f,r):=by
 unfold hStep
 rw[if_neg (show ¬∃k∈(pcl n s u ps a).Parents,k∈(f,r).1 from h)]
 dsimp only
 rw[if_neg (λh=>h2 h.1)]
theorem heirs_L2 {a b c:Rn}{d e:Int}(h0:0<=d)(h1:d<=e)(h2:e<36865):heirsL (L2 d 36865 a b c) 1 e=[2,3]:=by
 have q:heirsL (L2 d 36865 a b c) 1 e=(hStep e (hStep e (hStep e ([1],[]) (pcl 1 0 d [] a)) (pcl 2 d 36865 [1] b)) (pcl 3 d 36865 [1] c)).2:=rfl
 rw[q,hs_no (d:=e) (n:=1) (s:=0) (u:=d) (ps:=[]) (f:=[1]) (r:=[]) (by simp) (by omega),hs_yes (f:=[1]) ⟨1,by simp,by simp⟩,if_pos ⟨h1,h2⟩,hs_yes (f:=[1]++[2]) ⟨1,by simp,by simp⟩,if_pos ⟨h1,h2⟩]
 rfl
namespace PL
def exA:Rn:=⟨[⟨0,0,4,1⟩]⟩
def exB:Rn:=⟨[⟨0,0,1,1⟩]⟩
def exC:Rn:=⟨[⟨1,0,4,1⟩]⟩
end PL
theorem cov_one {r:Rc}{x y:Int}:cov [r] x y=true↔r.Left<=x/\x<r.Right/\r.Low<=y/\y<r.High:=by
 rw[cov_mem]
 constructor
 ·rintro ⟨q,hq,h⟩;rw[List.mem_singleton.1 hq] at h;exact hit_iff.1 h
 ·exact λh=>⟨r,by simp,hit_iff.2 h⟩
theorem prop_one {r:Rc}(h:proper r):propR ⟨[r]⟩:=⟨by simp,by simp,λq hq=>by
 have hq:q∈[r]:=hq
 rw[List.mem_singleton.1 hq];exact h,canon_one h⟩
theorem ex_parts:Parts exA exB exC where
 pa:=prop_one (by unfold proper;decide)
 pb:=prop_one (by unfold proper;decide)
 pc:=prop_one (by unfold proper;decide)
 dis:=λx y h=>by
  have h1:=cov_one.1 h.1
  have h2:=cov_one.1 h.2
  dsimp only at h1 h2
  omega
 all:=λx y=>by
  rw[Bool.eq_iff_iff,Bool.or_eq_true]
  unfold exA exB exC
  rw[cov_one,cov_one,cov_one]
  dsimp only
  omega
theorem ex_share:ix (shareL (L2 5 36865 exA exB exC) 1 5 [2,3]) 1=⟨3,3⟩:=by
 have e:ix (shareL (L2 5 36865 exA exB exC) 1 5 [2,3]) 1=⟨3,sizeS (canonF (comb (howS 2) exA.Rects exC.Rects))⟩:=rfl
 rw[e,canonF_eq (l:=exC.Rects) ex_parts.pc.2.2.2 λx y=>by
  show _=howS 2 (cov exA.Rects x y) (cov exC.Rects x y)
  rw[ex_parts.all]
  cases cov exB.Rects x y<;>cases cov exC.Rects x y<;>rfl]
 rfl
theorem pawake_ok:SpecOK Tryz.prog pawake_sp:=pawake_of λpost hp=>by
 unfold pawake_W pawake_a1 pawake_a0
 refine⟨⟨by show 2<=1000000;omega,λv h=> ?_⟩,λv2 v3 v4 ⟨hz,hr⟩=>⟨hz,λv5 v6 ⟨h5,h6⟩=>⟨hz,λv7 v8 ⟨h7,h8⟩=> ?_⟩⟩⟩
 ·simp only[List.mem_cons,List.not_mem_nil,or_false] at h
  rcases h with rfl|rfl
  ·exact⟨⟨by show 0<=1000000;omega,by show 1<=1000000;omega,λa ha=>by rw[List.mem_singleton.1 ha];show 1<=1000000;omega⟩,by show (1:Int)=2->False;decide⟩
  ·exact⟨⟨by show 1<=1000000;omega,by show 2<=1000000;omega,λa ha=>by
    simp only[List.mem_cons,List.not_mem_nil,or_false] at ha
    rcases ha with rfl|rfl
    ·show 1<=1000000;omega
    ·show 1<=1000000;omega⟩,by show (3:Int)=2->False;decide⟩
 ·have hr0:=run_2 (d:=5) ex_parts (by decide) (by decide)
  have hr:runS [⟨0,0,1,[],[exA]⟩,⟨5,0,3,[1],[exB,exC]⟩]=(v2,v3,v4):=hr
  rw[hr0] at hr
  injection hr with e2 e34
  injection e34 with e3 e4
  subst e2 e3 e4
  have hreg:=reg_L2 (d:=5) (u:=36865) ex_parts (by decide) (by decide) (by decide) (by decide)
  have hl3:(L2 5 36865 exA exB exC).length=3:=rfl
  obtain⟨g1,g2,_⟩:=heirs_go (n:=1) (d:=9) hreg (by omega) (by decide) (by decide) (by decide) (by rw[hl3];decide) (by show (0:Int)<=9;decide)
  obtain⟨g4,_,g6⟩:=heirs_go (n:=1) (d:=5) hreg (by omega) (by decide) (by decide) (by decide) (by rw[hl3];decide) (by show (0:Int)<=5;decide)
  rw[heirs_L2 (by decide) (by decide) (by decide)] at g2
  rw[heirs_L2 (by decide) (by decide) (by decide)] at g6
  rw[g1] at h6
  rw[g2] at h5
  rw[g6] at h7
  rw[g4] at h8
  have hx:=ex_share
  subst h5 h6 h8
  rw[<-h7] at hx
  have hl7:v7.length=2:=by rw[h7];rfl
  clear h7 g6 g4 g1 g2 hr0 hreg hl3
  refine IFB.yes rfl ?_
  refine JOIN.opq λ(J:Bool->Prop) hJ=> ?_
  refine IFB.yes rfl λv11 h11=> ?_
  have h11:v11=true:=h11.2 rfl
  subst h11
  rw[hJ]
  dsimp only
  refine λ_=>⟨λ_=>⟨Int.NonNeg.mk 1,by omega⟩,?_⟩
  rw[hx,hl7]
  exact hp
def lPast_C:CtxR:=⟨tau,[ruleN 12,rule1 kedits_sp,rule1 prunA_sp,rule1 popen_sp,rule1 pon_sp,rule1 rints_sp,rule1 rsame_sp,rule1 pawake_sp],lookJ [(0,37,⟨[(88,.dat (.int .i64))],[],(List.range' 16 5++List.range' 89 22),[],[]⟩),(0,26,⟨[(14,.dat (.int .i64))],[],(List.range' 57 15),[],[]⟩),(0,18,⟨[(13,.dat (.int .i64))],[],[48,49,50,51,52,53,54,55],[],[]⟩)]⟩
abbrev lPast_a0 (v1:List api_Edit):=(IntKind.i64.wrap ((↑v1.length:Int)+(1:Int)))
def lPast_W (l:List (Int))(cut:Int)(day:Int)(post:Bool->Prop):Prop:=(Int.NonNeg 8/\Int.NonNeg 0/\Int.NonNeg 4/\(4:Int)<=10)/\∀(v1:List api_Edit)(v2:List api_Parcel),Hist ((8:Nat)) v1 v2->(↑v1.length:Int)<=9223372036854775807->(IntKind.i64.wrap ((↑v1.length:Int)+1)=0->False)/\(Int.NonNeg 0/\0<=(IntKind.i64.wrap cut).tmod (lPast_a0 v1)/\(IntKind.i64.wrap cut).tmod (lPast_a0 v1)<=(↑v1.length:Int))/\((sub v1 (0:Int) ((IntKind.i64.wrap cut).tmod (lPast_a0 v1))).length<=1000000/\∀(v3:api_Edit),v3∈sub v1 (0:Int) ((IntKind.i64.wrap cut).tmod (lPast_a0 v1))->szE v3)/\∀(v4:List api_Parcel)(v5 v6:Int),szL v4/\runS (sub v1 (0:Int) ((IntKind.i64.wrap cut).tmod (lPast_a0 v1)))=(v4,v5,v6)->IFB (!decide (v6=0)|| !decide (v5=(IntKind.i64.wrap cut).tmod (lPast_a0 v1))) (post false) (JOIN [Ty.int IntKind.i64] (λ(y7:Int)=>JOIN [Ty.int IntKind.i64] (λ(y8:Int)=>IFB (decide (y8<y7)) (post true) (szL v4/\szL v2/\∀(v9:Bool),(v9=true↔openS v4 y8=openS v2 y8)->IFB (!v9) (post false) (szL v4/\((↑(openS v4 y8).length:Int)<=9223372036854775807->LOOP [Ty.int IntKind.i64] (λ(rec10:Int->Prop) (z11:Int)=>IFB (decide (z11<(↑(openS v4 y8).length:Int))) (((0:Int)<=z11/\z11<(↑(openS v4 y8).length:Int))/\szL v4/\∀(v12:List api_Rect)(v13:Bool),v12=(onS v4 (ix (openS v4 y8) z11) y8).1/\(v13=true↔onP v4 (ix (openS v4 y8) z11) y8)->szL v2/\∀(v14:List api_Rect)(v15:Bool),v14=(onS v2 (ix (openS v4 y8) z11) y8).1/\(v15=true↔onP v2 (ix (openS v4 y8) z11) y8)->v12.length<=1000000000/\∀(v16:Bool),(v16=true↔(⟨v12⟩:api_Region)=(⟨v14⟩:api_Region))->IFB (!v16) (post false) (rec10 (IntKind.i64.wrap (z11+1)))) (post true)) ((0:Int),PUnit.unit))))) λ(J17:Int->Prop)=>(↑v1.length:Int)<=9223372036854775807->IFB (decide ((IntKind.i64.wrap cut).tmod (lPast_a0 v1)<(↑v1.length:Int))) (((0:Int)<=(IntKind.i64.wrap cut).tmod (lPast_a0 v1)/\(IntKind.i64.wrap cut).tmod (lPast_a0 v1)<(↑v1.length:Int))/\J17 (IntKind.i64.wrap ((ix v1 ((IntKind.i64.wrap cut).tmod (lPast_a0 v1))).1-1))) (((20:Int)=0->False)/\J17 (IntKind.i64.wrap (y7+(IntKind.i64.wrap day).tmod 20)))) λ(J18:Int->Prop)=>IFB (decide ((0:Int)<(IntKind.i64.wrap cut).tmod (lPast_a0 v1))) (((0:Int)<=IntKind.i64.wrap ((IntKind.i64.wrap cut).tmod (lPast_a0 v1)-1)/\IntKind.i64.wrap ((IntKind.i64.wrap cut).tmod (lPast_a0 v1)-1)<(↑v1.length:Int))/\J18 (ix v1 (IntKind.i64.wrap ((IntKind.i64.wrap cut).tmod (lPast_a0 v1)-1))).1) (J18 0))
theorem lPast_w (l:List (Int))(cut:Int)(day:Int)(post:Bool->Prop):lPast_W l cut day post=lawG (callR Tryz.prog lPast_C (drawF Tryz.prog tau) 12 0) 7 [tv (.sl (.int .i64)) l,tv (.int .u8) cut,tv (.int .u8) day] post:=by kernel_rfl
theorem lPast_calls (l:List (Int))(cut:Int)(day:Int)(h:lPast_W l cut day λb=>b=true){w:World}{S:Cells}{us:List Value}(h1:∀b o,S b o->b<w.heap.size)(h3:us.length=3)(h4:∀(i:Nat)(d:D)(u:Value),[tv (.sl (.int .i64)) l,tv (.int .u8) cut,tv (.int .u8) day][i]? =some d->us[i]? =some u->Rd S w d u):Calls Tryz.prog 7 us.toArray w λe w'=>(∃b,e= .returned (.bool b)/\b=true)/\Below w.heap.size w w':=lawG_okH (cp:=callR Tryz.prog lPast_C (drawF Tryz.prog tau) 12 0) (callR_ok (C:=lPast_C) (dr:=drawF Tryz.prog tau) (.cons (ruleN_ok knew_ok) (.cons (rule1_ok kedits_ok) (.cons (rule1_ok prunA_ok) (.cons (rule1_ok popen_ok) (.cons (rule1_ok pon_ok) (.cons (rule1_ok rints_ok) (.cons (rule1_ok rsame_ok) (.cons (rule1_ok pawake_ok) .nil)))))))) (drawF_ok tau) 12 0) (HoldW.of (lPast_w l cut day λb=>b=true) h) h1 h3 h4
theorem wf_u8p {a:Int}(h:(Lit.int .u8 a).wf=true):0<=a/\a<=255:=by
 simp[Lit.wf,IntKind.min,IntKind.max,IntKind.bits,IntKind.signed] at h;omega
theorem on_lenp {l:List Pc}(h:szL l){n d:Int}:(onS l n d).Rects.length<=1000000:=by
 by_cases hp:onP l n d
 ·obtain⟨h1,h2⟩:=on_mem hp (checkS_0.1 hp.2.2.1).2
  exact (h.all _ h2).rect _ h1
 ·unfold onS
  rw[if_neg hp]
  simp
set_option maxHeartbeats 2000000 in
theorem lPast_h (l:List Int)(cut day:Int)(w1:(Lit.int .u8 cut).wf=true)(w2:(Lit.int .u8 day).wf=true):lPast_W l cut day λb=>b=true:=by
 obtain⟨b1,b2⟩:=wf_u8p w1
 obtain⟨b3,b4⟩:=wf_u8p w2
 unfold lPast_W lPast_a0
 refine⟨⟨.mk _,.mk _,.mk _,by omega⟩,λes x hh _=> ?_⟩
 have hh:Hist 8 es x:=hh
 have hlen:=hh.len
 have e1:IntKind.i64.wrap ((es.length:Int)+1)=(es.length:Int)+1:=wrap_in (by omega) (by omega)
 obtain⟨k,ek,hk⟩:∃k:Nat,(IntKind.i64.wrap cut).tmod (IntKind.i64.wrap ((es.length:Int)+1))=(k:Int)/\k<=es.length:=by
  have q1:=Int.emod_nonneg cut (show (es.length:Int)+1≠0 by omega)
  have q2:=Int.emod_lt_of_pos cut (show 0<(es.length:Int)+1 by omega)
  refine⟨(cut % ((es.length:Int)+1)).toNat,?_,by omega⟩
  rw[e1,wrap_in (z:=cut) (by omega) (by omega),Int.tmod_eq_emod_of_nonneg b1]
  omega
 rw[ek,e1,sub_front]
 obtain⟨y,hr,c1,c2,heq,hpast⟩:=hh.cut hk
 have hz:∀e∈es.take k,szE e:=λe he=>(hh.ed e (List.mem_of_mem_take he)).1
 refine⟨λh=>by omega,⟨.mk _,by omega,by omega⟩,⟨by rw[List.length_take];omega,hz⟩,λy' n g hy=> ?_⟩
 obtain⟨hsy,hyr⟩:=hy
 have hrs:runS (es.take k)=(y,(k:Int),0):=by
  unfold runS
  rw[if_neg (by rw[List.length_take];omega)]
  exact hr
 rw[hrs] at hyr
 injection hyr with h1 h2
 injection h2 with h2 h3
 subst h1 h2 h3
 refine IFB.no (by simp) ?_
 refine JOIN.opq λ(J8:Int->Prop) hJ8=> ?_
 have main:∀last,J8 last:=λlast=>by
  rw[hJ8]
  refine JOIN.opq λ(J2:Int->Prop) hJ2=> ?_
  have fin:∀d,openS y d=openS x d->(∀n,onP y n d->onS y n d=onS x n d)->J2 d:=λd ho hon=>by
   rw[hJ2]
   refine IFB.mk (λ_=>rfl) (λ_=>⟨hsy,hh.sz,λv hv=> ?_⟩)
   have hv:v=true:=hv.2 ho
   subst hv
   have hol:(openS y d).length<=60:=by
    have:=openS_len (l:=y) (d:=d)
    have:=(checkS_0.1 c1).1
    omega
   refine IFB.no (by simp) ⟨hsy,λ_=>loopCmp (n:=(openS y d).length) (by omega) (p:=λ_=>True) (λrec i hi _ hrec=>⟨⟨by omega,by omega⟩,hsy,λa1 q1 hA=>⟨hh.sz,λa2 q2 hB=>⟨?_,λv hv=> ?_⟩⟩⟩) (λ_=>rfl)⟩
   ·rw[hA.1]
    exact Nat.le_trans (on_lenp hsy) (by omega)
   ·have hm:=(open_on (ix_mem (l:=openS y d) (i:=(i:Int)) (by omega) (by omega))).1
    have hv:v=true:=hv.2 (by rw[hA.1,hB.1,hon _ hm])
    subst hv
    exact IFB.no (by simp) (hrec trivial)
  clear hJ2
  refine λ_=>IFB.mk (λhc=> ?_) (λhc=>⟨λh=>by omega,?_⟩)
  ·have hc:(k:Int)<(es.length:Int):=of_decide_eq_true hc
   have hkl:k<es.length:=by omega
   have hp:=hpast hkl
   have hd:=hh.ed _ (ix_mem (l:=es) (i:=(k:Int)) (by omega) hc)
   refine⟨⟨by omega,hc⟩,?_⟩
   have d0:0<=(ix es (k:Int)).1:=hd.2.2.2.1
   have d1:(ix es (k:Int)).1<=100:=hd.2.2.2.2.1
   rw[wrap_in (z:=(ix es (k:Int)).1-1) (by omega) (by omega)]
   have hlt:(ix es (k:Int)).1-1<(ix es (k:Int)).Day:=by show (ix es (k:Int)).1-1<(ix es (k:Int)).1;omega
   refine fin _ ?_ λn hn=>(past_on hp hlt c1 c2 hn).symm
   unfold openS
   rw[if_pos c1,if_pos c2,past_open hp hlt]
  ·have hc:¬(k:Int)<(es.length:Int):=of_decide_eq_false hc
   have:=heq (by omega)
   subst this
   exact fin _ rfl λ_ _=>rfl
 refine IFB.mk (λhc=> ?_) (λ_=>main _)
 have hc:(0:Int)<(k:Int):=of_decide_eq_true hc
 rw[wrap_in (z:=(k:Int)-1) (by omega) (by omega)]
 exact⟨⟨by omega,by omega⟩,main _⟩
end RE
end Go.Proofs.YtpeggkeenboacaaGreat
