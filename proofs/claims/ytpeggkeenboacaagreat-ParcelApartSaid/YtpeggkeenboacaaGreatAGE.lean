/-
  Texts of the proof of ParcelApart, part GE.
-/
import Derived.Test.YtpeggkeenboacaaGreatAGD
import Derived.Test.YtpeggkeenboacaaGreatAGC
set_option linter.unusedVariables false
noncomputable section
namespace Go.Proofs.YtpeggkeenboacaaGreat
namespace RE
set_option maxRecDepth 100000
open Go.RowKit
open PL
def papp3_P (l:List (api_Parcel))(e:api_Edit)(post:List (api_Parcel)->Int->Prop):Prop:=(szL l/\szE e/\e.Kind=3)/\post (applyS l e).1 (applyS l e).2
def papp3_sp:Spec:=⟨20,false,true,[.sl (.st .api_Parcel),.st .api_Edit],.tup [.dat (.sl (.st .api_Parcel)),.dat (.int .i64)],λx post=>papp3_P (x.1:List (api_Parcel)) (x.2.1:api_Edit) (λy0 y1=>post (y0,y1,()))⟩
def papp3_C:CtxR:=⟨tau,[rule1 pedit_sp,rule1 pallO_sp,ruleMap 77 false Forms.es,rule1 pclI_sp,rule1 pcpy_sp,rule1 pmts_sp,rule1 parea_sp,ruleC pchoX_sp 193],lookJ [(0,1000005,⟨[(8,.dat (.int .i64))],[(2,[.own 50 (.st .api_Parcel)])],[21,22,23,24,25,26,27,28],[1],[]⟩),(5113,0,⟨[(0,.dat (.int .i64))],[(2,[.own 50 (.st .api_Parcel)])],[],[1],[]⟩),(5113,43,⟨[(87,.dat (.int .i64))],[(2,[.own 50 (.st .api_Parcel)])],(List.range' 88 15++[14,15,104]),[1],[]⟩),(5113,1000023,⟨[(15,.dat (.int .i64))],[(2,[.own 50 (.st .api_Parcel)])],(List.range' 91 10),[9],[]⟩),(5330024326,0,⟨[(0,.dat (.int .i64))],[(2,[.own 50 (.st .api_Parcel)])],[],[9],[]⟩),(5330024326,1000003,⟨[],[(2,[.own 50 (.st .api_Parcel)])],(List.range' 15 24),[9],[]⟩),(5113,9,⟨[(19,.dat (.int .i64)),(6,.dat (.int .i64)),(5,.own 65 (.st .api_Rect))],[],(List.range' 20 26++[7,8,10]),[],[]⟩),(5113,15,⟨[(29,.dat (.int .i64))],[],[30,31,32,10,33,34,35,36],[],[]⟩)]⟩
abbrev papp3_a0 (l:List (api_Parcel))(ps:List (Int)):=(ix (ix l (IntKind.i64.wrap (ix ps (0:Int)-(1:Int)))).6 (IntKind.i64.wrap ((↑(ix l (IntKind.i64.wrap (ix ps (0:Int)-(1:Int)))).6.length:Int)-(1:Int))))
abbrev papp3_a1 (z18:List api_Parcel)(day:Int)(ps:List (Int))(rs:List (api_Region))(z17:Int):={Number:=IntKind.i64.wrap ((↑z18.length:Int)+(1:Int)),From:=day,Until:=(36865:Int),Parents:=[ix ps (0:Int)],Days:=[day],Regions:=[{Rects:=(ix rs z17).1:api_Region}]:api_Parcel}
abbrev papp3_a2 (z31:List api_Parcel)(day:Int)(ps:List (Int))(rs:List (api_Region))(z30:Int):={Number:=IntKind.i64.wrap ((↑z31.length:Int)+(1:Int)),From:=day,Until:=(36865:Int),Parents:=[ix ps (0:Int)],Days:=[day],Regions:=[{Rects:=(ix rs z30).1:api_Region}]:api_Parcel}
abbrev papp3_a3 (l:List (api_Parcel))(ps:List (Int)):=(ix l (IntKind.i64.wrap (ix ps (0:Int)-(1:Int))))
abbrev papp3_a4 (ps:List (Int))(l:List (api_Parcel)):=((0:Int)<=IntKind.i64.wrap (ix ps (0:Int)-(1:Int))/\IntKind.i64.wrap (ix ps (0:Int)-(1:Int))<(↑l.length:Int))
abbrev papp3_a5 (l:List (api_Parcel))(ps:List (Int))(day:Int):=((0:Int),l.set (IntKind.i64.wrap (ix ps (0:Int)-(1:Int))).toNat {Number:=(papp3_a3 l ps).1,From:=(papp3_a3 l ps).2,Until:=day,Parents:=(papp3_a3 l ps).4,Days:=(papp3_a3 l ps).5,Regions:=(papp3_a3 l ps).6:api_Parcel},PUnit.unit)
abbrev papp3_a6 (ps:List (Int)):=(Int.NonNeg (0:Int)/\(0:Int)<(↑ps.length:Int))
def papp3_W (l:List (api_Parcel))(day:Int)(known:Int)(ps:List (Int))(rs:List (api_Region))(post:List (api_Parcel)->Int->Prop):Prop:=(szL l/\szE (⟨day,known,(3:Int),ps,rs⟩:api_Edit))/\IFB (!decide (editS l (⟨day,known,(3:Int),ps,rs⟩:api_Edit)=0)) (szL l/\post l (editS l (⟨day,known,(3:Int),ps,rs⟩:api_Edit))) (szL l/\JOIN [Ty.int IntKind.i64,(Ty.st Sn.api_Parcel).sl] (λ(y1:Int) (y2:List api_Parcel)=>IFB (!decide (y1=0)) (szL l/\post l y1) (post y2 0)) λ(J3:Int->List api_Parcel->Prop)=>JOIN [Ty.int IntKind.i64,(Ty.st Sn.api_Parcel).sl] (λ(y4:Int) (y5:List api_Parcel)=>J3 y4 y5) λ(J6:Int->List api_Parcel->Prop)=>(↑rs.length:Int)<=9223372036854775807->LOOP [Ty.int IntKind.i64,Ty.int IntKind.i64,(Ty.st Sn.api_Rect).sl] (λ(rec7:Int->Int->List api_Rect->Prop) (z8 z9:Int) (z10:List api_Rect)=>IFB (decide (z8<(↑rs.length:Int))) (((0:Int)<=z8/\z8<(↑rs.length:Int))/\(Int.NonNeg 0/\0<=z8/\z8<=(↑rs.length:Int))/\((↑(sub rs (0:Int) z8).length:Int)<=9223372036854775807->LOOP [Ty.int IntKind.i64] (λ(rec11:Int->Prop) (z12:Int)=>IFB (decide (z12<(↑(sub rs (0:Int) z8).length:Int))) (((0:Int)<=z12/\z12<(↑(sub rs (0:Int) z8).length:Int))/\∀(v13:Bool),(v13=true↔meetP (ix rs z8).1 (ix (sub rs (0:Int) z8) z12).1)->IFB v13 (J6 (11:Int) l) (rec11 (IntKind.i64.wrap (z12+1)))) ((z10.length+(ix rs z8).1.length) * (32:Nat)<=140737488355328/\True/\rec7 (IntKind.i64.wrap (z8+1)) (IntKind.i64.wrap (z9+areaS {Rects:=(ix rs z8).1:api_Region})) (z10++(ix rs z8).1))) ((0:Int),PUnit.unit))) ((papp3_a6 ps)/\(papp3_a4 ps l)/\((↑(papp3_a3 l ps).6.length:Int)<=9223372036854775807->((0:Int)<=IntKind.i64.wrap ((↑(papp3_a3 l ps).6.length:Int)-1)/\IntKind.i64.wrap ((↑(papp3_a3 l ps).6.length:Int)-1)<(↑(papp3_a3 l ps).6.length:Int))/\(((∀(v14:api_Rect),v14∈(papp3_a0 l ps).1->0<=v14.1/\v14.1<v14.3/\v14.3<=16384/\0<=v14.2/\v14.2<v14.4/\v14.4<=16384)/\(papp3_a0 l ps).1.length<=8000)/\(∀(v15:api_Rect),v15∈z10->0<=v15.1/\v15.1<v15.3/\v15.3<=16384/\0<=v15.2/\v15.2<v15.4/\v15.4<=16384)/\z10.length<=8000)/\True/\(((gx false !decide (z9=areaS {Rects:=(papp3_a0 l ps).1:api_Region}))=true->(↑(canonF λ(x y:Int)=>xorS (cov (papp3_a0 l ps).1 x y) (cov z10 x y)).length:Int)<=9223372036854775807)->IFB (!decide (z9=areaS {Rects:=(papp3_a0 l ps).1:api_Region})||decide ((0:Int)<(↑(canonF λ(x y:Int)=>xorS (cov (papp3_a0 l ps).1 x y) (cov z10 x y)).length:Int))) (J6 (12:Int) l) ((papp3_a6 ps)/\(papp3_a4 ps l)/\((↑rs.length:Int)<=9223372036854775807->LOOP [Ty.int IntKind.i64,(Ty.st Sn.api_Parcel).sl] (λ(rec16:Int->List api_Parcel->Prop) (z17:Int) (z18:List api_Parcel)=>IFB (decide (z17<(↑rs.length:Int))) (((0:Int)<=z17/\z17<(↑rs.length:Int))/\JOIN [Ty.int IntKind.i64,(Ty.st Sn.api_Parcel).sl] (λ(y19:Int) (y20:List api_Parcel)=>IFB (!decide (y19=0)) (J6 y19 y20) (rec16 (IntKind.i64.wrap (z17+1)) y20)) λ(J21:Int->List api_Parcel->Prop)=>(papp3_a6 ps)/\JOIN [Ty.int IntKind.i64,(Ty.st Sn.api_Parcel).sl] (λ(y22:Int) (y23:List api_Parcel)=>J21 y22 y23) λ(J24:Int->List api_Parcel->Prop)=>(↑z18.length:Int)<=9223372036854775807->IFB (decide ((↑z18.length:Int)=60)) (J24 (1:Int) z18) (JOIN [(Ty.st Sn.api_Parcel).sl] (λ(y25:List api_Parcel)=>J24 (0:Int) y25) λ(J26:List api_Parcel->Prop)=>(↑z18.length:Int)<=9223372036854775807->([ix ps (0:Int)].length<=4000000/\((ix rs z17).1.length<=4000000/\(z18.length+[(papp3_a1 z18 day ps rs z17)].length) * (96:Nat)<=140737488355328/\J26 (z18++[(papp3_a1 z18 day ps rs z17)]))/\(ix rs z17).1.length<=4000000/\((z18.length+[(papp3_a1 z18 day ps rs z17)].length) * (96:Nat)<=140737488355328/\J26 (z18++[(papp3_a1 z18 day ps rs z17)]))/\(z18.length+[(papp3_a1 z18 day ps rs z17)].length) * (96:Nat)<=140737488355328/\J26 (z18++[(papp3_a1 z18 day ps rs z17)]))/\[ix ps (0:Int)].length<=4000000/\(ix rs z17).1.length<=4000000/\(z18.length+[(papp3_a1 z18 day ps rs z17)].length) * (96:Nat)<=140737488355328/\J26 (z18++[(papp3_a1 z18 day ps rs z17)]))) (J6 (0:Int) z18)) (papp3_a5 l ps day)))))/\((↑(papp3_a3 l ps).6.length:Int)<=9223372036854775807->((0:Int)<=IntKind.i64.wrap ((↑(papp3_a3 l ps).6.length:Int)-1)/\IntKind.i64.wrap ((↑(papp3_a3 l ps).6.length:Int)-1)<(↑(papp3_a3 l ps).6.length:Int))/\(((∀(v27:api_Rect),v27∈(papp3_a0 l ps).1->0<=v27.1/\v27.1<v27.3/\v27.3<=16384/\0<=v27.2/\v27.2<v27.4/\v27.4<=16384)/\(papp3_a0 l ps).1.length<=8000)/\(∀(v28:api_Rect),v28∈z10->0<=v28.1/\v28.1<v28.3/\v28.3<=16384/\0<=v28.2/\v28.2<v28.4/\v28.4<=16384)/\z10.length<=8000)/\True/\(((gx false !decide (z9=areaS {Rects:=(papp3_a0 l ps).1:api_Region}))=true->(↑(canonF λ(x y:Int)=>xorS (cov (papp3_a0 l ps).1 x y) (cov z10 x y)).length:Int)<=9223372036854775807)->IFB (!decide (z9=areaS {Rects:=(papp3_a0 l ps).1:api_Region})||decide ((0:Int)<(↑(canonF λ(x y:Int)=>xorS (cov (papp3_a0 l ps).1 x y) (cov z10 x y)).length:Int))) (J6 (12:Int) l) ((papp3_a6 ps)/\(papp3_a4 ps l)/\((↑rs.length:Int)<=9223372036854775807->LOOP [Ty.int IntKind.i64,(Ty.st Sn.api_Parcel).sl] (λ(rec29:Int->List api_Parcel->Prop) (z30:Int) (z31:List api_Parcel)=>IFB (decide (z30<(↑rs.length:Int))) (((0:Int)<=z30/\z30<(↑rs.length:Int))/\JOIN [Ty.int IntKind.i64,(Ty.st Sn.api_Parcel).sl] (λ(y32:Int) (y33:List api_Parcel)=>IFB (!decide (y32=0)) (J6 y32 y33) (rec29 (IntKind.i64.wrap (z30+1)) y33)) λ(J34:Int->List api_Parcel->Prop)=>(papp3_a6 ps)/\JOIN [Ty.int IntKind.i64,(Ty.st Sn.api_Parcel).sl] (λ(y35:Int) (y36:List api_Parcel)=>J34 y35 y36) λ(J37:Int->List api_Parcel->Prop)=>(↑z31.length:Int)<=9223372036854775807->IFB (decide ((↑z31.length:Int)=60)) (J37 (1:Int) z31) (JOIN [(Ty.st Sn.api_Parcel).sl] (λ(y38:List api_Parcel)=>J37 (0:Int) y38) λ(J39:List api_Parcel->Prop)=>(↑z31.length:Int)<=9223372036854775807->([ix ps (0:Int)].length<=4000000/\((ix rs z30).1.length<=4000000/\(z31.length+[(papp3_a2 z31 day ps rs z30)].length) * (96:Nat)<=140737488355328/\J39 (z31++[(papp3_a2 z31 day ps rs z30)]))/\(ix rs z30).1.length<=4000000/\((z31.length+[(papp3_a2 z31 day ps rs z30)].length) * (96:Nat)<=140737488355328/\J39 (z31++[(papp3_a2 z31 day ps rs z30)]))/\(z31.length+[(papp3_a2 z31 day ps rs z30)].length) * (96:Nat)<=140737488355328/\J39 (z31++[(papp3_a2 z31 day ps rs z30)]))/\[ix ps (0:Int)].length<=4000000/\(ix rs z30).1.length<=4000000/\(z31.length+[(papp3_a2 z31 day ps rs z30)].length) * (96:Nat)<=140737488355328/\J39 (z31++[(papp3_a2 z31 day ps rs z30)]))) (J6 (0:Int) z31)) (papp3_a5 l ps day))))))) ((0:Int),(0:Int),[],PUnit.unit))
theorem papp3_w (l:List (api_Parcel))(day:Int)(known:Int)(ps:List (Int))(rs:List (api_Region))(post:dens (shT papp3_sp.rs [])->Prop):papp3_W l day known ps rs (λy0 y1=>post (y0,y1,()))=walkG (callR Tryz.prog papp3_C (drawF Tryz.prog tau) 12 0) 20 false [tv (.sl (.st .api_Parcel)) (l),tv (.st .api_Edit) (⟨day,known,3,ps,rs⟩)] papp3_sp.rs post:=by kernel_rfl
theorem papp3_of (h:∀x (post:dens (shT papp3_sp.rs [])->Prop),papp3_sp.pt x post->HoldW (walkG (callR Tryz.prog papp3_C (drawF Tryz.prog tau) 12 0) papp3_sp.f papp3_sp.tp (tvs papp3_sp.ts x) papp3_sp.rs post)):SpecOK Tryz.prog papp3_sp:=SpecOK.of_rules (C:=papp3_C) (dr:=drawF Tryz.prog tau) (n:=12) (fk:=0) (.cons (rule1_ok pedit_ok) (.cons (rule1_ok pallO_ok) (.cons (ruleMap_ok Forms.forms_mk) (.cons (rule1_ok pclI_ok) (.cons (rule1_ok pcpy_ok) (.cons (rule1_ok pmts_ok) (.cons (rule1_ok parea_ok) (.cons (ruleC_ok pchoX_ok) .nil)))))))) (drawF_ok tau) h
theorem regP_prop {l:List Pc}(h:regP l):∀p∈l,∀a∈p.Regions,propR a:=λp hp=>by
 obtain⟨i,hi,rfl⟩:=ix_ex hp
 exact (h.1 i hi).2.2.2.2.2.1.2.2.2.2.2
theorem now_mem {p:Pc}(h:0<p.Regions.length):nowR p∈p.Regions:=ix_mem (by omega) (by omega)
theorem xor_none {a b:List Rc}:¬((0:Int)<((canonF λ(x y:Int)=>xorS (cov a x y) (cov b x y)).length:Int))↔∀x y,cov b x y=cov a x y:=by
 obtain⟨h1,h2⟩:=comb_ok xorS_0 a b
 have h2:∀x y,cov (canonF λ(x y:Int)=>xorS (cov a x y) (cov b x y)) x y=xorS (cov a x y) (cov b x y):=h2
 have h1:Canon (canonF λ(x y:Int)=>xorS (cov a x y) (cov b x y)):=h1
 have hn:=canon_none h1
 generalize (canonF λ(x y:Int)=>xorS (cov a x y) (cov b x y))=c at h1 h2 hn
 constructor
 ·intro h x y
  have hc:c=[]:=List.eq_nil_of_length_eq_zero (by omega)
  have:=hn.1 hc x y
  rw[h2] at this
  unfold xorS at this
  simp only[Bool.not_eq_false',decide_eq_true_eq] at this
  exact this.symm
 ·intro h hl
  have hc:c=[]:=hn.2 λx y=>by rw[h2,h x y];unfold xorS;simp
  rw[hc] at hl
  exact absurd hl (by decide)
theorem partsR_take {l:List Rn}{k:Nat}(hk:k<l.length):partsR (l.take (k+1))=partsR (l.take k)++(ix l (k:Int)).Rects:=by
 unfold partsR
 rw[List.take_succ_eq_append_getElem hk,List.flatMap_append,ix_lt hk];simp
theorem sum_take {l:List Rn}{k:Nat}(hk:k<l.length):((l.take (k+1)).map areaS).sum=((l.take k).map areaS).sum+areaS (ix l (k:Int)):=by
 rw[List.take_succ_eq_append_getElem hk,List.map_append,List.sum_append,ix_lt hk];simp
theorem partsR_proper {l:List Rn}(h:∀a∈l,propR a):∀r∈partsR l,proper r:=λr hr=>by
 obtain⟨a,ha,hr⟩:=List.mem_flatMap.1 hr
 exact (h a ha).2.2.1 r hr
theorem addL_take {day:Int}{ps:List Int}{l:List Pc}{rs:List Rn}{k:Nat}(hk:k<rs.length):addL day ps l (rs.take (k+1))=addL day ps l (rs.take k)++[newP (((addL day ps l (rs.take k)).length:Int)+1) day ps (ix rs (k:Int))]:=by
 unfold addL
 rw[fold_take hk]
theorem addL_len {day:Int}{ps:List Int}:∀{rs:List Rn}{l:List Pc},(addL day ps l rs).length=l.length+rs.length
 |[],l=>rfl
 |a::rs,l=>by
  show (addL day ps (l++[_]) rs).length=_
  rw[addL_len,List.length_append,List.length_cons,List.length_cons,List.length_nil];omega
theorem endP_len {day:Int}{l:List Pc}{k:Int}:(endP day l k).length=l.length:=List.length_set
set_option maxHeartbeats 2000000 in
theorem papp3_h (l:List api_Parcel)(day known:Int)(ps:List Int)(rs:List api_Region)(post:List api_Parcel->Int->Prop)(hsz:szL l)(hse:szE ⟨day,known,3,ps,rs⟩)(hp:post (applyS l ⟨day,known,3,ps,rs⟩).1 (applyS l ⟨day,known,3,ps,rs⟩).2):papp3_W l day known ps rs post:=by
 unfold papp3_W papp3_a6 papp3_a5 papp3_a4 papp3_a3 papp3_a2 papp3_a1 papp3_a0
 refine⟨⟨hsz,hse⟩,IFB.mk (λhb=>⟨hsz,?_⟩) (λhb=>⟨hsz,?_⟩)⟩
 ·have hb:editS l ⟨day,known,3,ps,rs⟩≠0:=by simpa using hb
  unfold applyS at hp
  rw[if_pos hb] at hp;exact hp
 have hb:editS l ⟨day,known,3,ps,rs⟩=0:=by simpa using hb
 unfold applyS at hp
 rw[if_neg (λh=>h hb),if_neg (by decide:¬(3:Int)=1),if_neg (by decide:¬(3:Int)=2),if_pos rfl] at hp
 obtain⟨e1,e2,e3,⟨e4,e5⟩,e6,e7⟩:=editS_0.1 hb
 have e4:ps.length=1/\2<=rs.length/\rs.length<=8:=by
  unfold fitsP at e4
  dsimp only at e4
  omega
 have e7:∀a∈rs,propR a:=e7
 obtain⟨k,rfl⟩:∃k,ps=[k]:=List.length_eq_one_iff.1 e4.1
 obtain⟨h60,hreg⟩:=checkS_0.1 e1
 have hl:=hsz.len
 have ho:=e6 k (by simp)
 obtain⟨w1,w2,w3⟩:=open_ix hsz.len ho
 have hk0:ix [k] 0=k:=rfl
 have hz:Int.NonNeg (0:Int):=Int.NonNeg.mk 0
 have hq:=ix_mem (l:=l) (i:=k-1) w2 w3
 dsimp only at hp
 rw[hk0] at hp
 have hvr:∀a∈rs,validP a.Rects:=λa ha=>(e7 a ha).2
 have hlr:∀a∈rs,a.Rects.length<=120:=λa ha=>(hvr a ha).1
 have h01:Int.NonNeg (0:Int)/\(0:Int)<(([k]:List Int).length:Int):=⟨hz,by simp⟩
 have hend:endL day l [k]=endP day l k:=rfl
 rw[hend] at hp
 have hq0:0<(ix l (k-1)).6.length:=by have:=regP_days hreg _ hq;omega
 have hq1:(ix l (k-1)).6.length<=1000000:=(hsz.all _ hq).regs
 have hw:propR (nowR (ix l (k-1))):=regP_prop hreg _ hq _ (now_mem hq0)
 have hset:l.set (k-1).toNat {Number:=(ix l (k-1)).1,From:=(ix l (k-1)).2,Until:=day,Parents:=(ix l (k-1)).4,Days:=(ix l (k-1)).5,Regions:=(ix l (k-1)).6:api_Parcel}=endP day l k:=rfl
 have hww:IntKind.i64.wrap (((ix l (k-1)).6.length:Int)-1)=((ix l (k-1)).6.length:Int)-1:=wrap_in (by omega) (by omega)
 rw[hk0,w1,hww,hset]
 have hnow:(ix (ix l (k-1)).6 (((ix l (k-1)).6.length:Int)-1))=nowR (ix l (k-1)):=rfl
 rw[hnow]
 have hin:0<=((ix l (k-1)).6.length:Int)-1/\((ix l (k-1)).6.length:Int)-1<((ix l (k-1)).6.length:Int):=by omega
 generalize nowR (ix l (k-1))=w at hw hp ⊢
 refine JOIN.opq λ(J3:Int->List api_Parcel->Prop) hJ3=>JOIN.opq λ(J6:Int->List api_Parcel->Prop) hJ6 _=> ?_
 have bad:∀(c:Int)(z:List api_Parcel),c≠0->post l c->J6 c z:=λc z hc h=>by
  rw[hJ6,hJ3]
  exact IFB.yes (by simpa using hc) ⟨hsz,h⟩
 refine LOOP.fuel3 (λ(z s:Int) (b:List Rc)=>∃i:Nat,z=(i:Int)/\i<=rs.length/\s=((rs.take i).map areaS).sum/\b=partsR (rs.take i)/\0<=s/\s<=268435456 * (i:Int)/\b.length<=120 * i/\∀u v:Nat,v<u->u<i->¬meetP (ix rs (u:Int)).Rects (ix rs (v:Int)).Rects) (λz _ _=>rs.length-Int.toNat z) ⟨0,rfl,Nat.zero_le _,rfl,rfl,Int.le_refl _,Int.le_refl _,Nat.le_refl _,λu v h1 h2=>by omega⟩ ?_
 rintro rec (z:Int) (s:Int) (b:List Rc) ⟨i,i1,i2,i3,i4,i5,i6,i7,i8⟩ hrec
 subst i1
 refine IFB.mk (λhb=> ?_) (λhb=> ?_)
 ·have hb:(i:Int)<rs.length:=of_decide_eq_true hb
  have hi:i<rs.length:=by omega
  refine⟨by omega,⟨hz,by omega,by omega⟩,?_⟩
  rw[sub_front]
  have hil:(rs.take i).length=i:=by rw[List.length_take];omega
  rw[hil]
  have hir:=hlr _ (ix_mem (l:=rs) (i:=(i:Int)) (by omega) (by omega))
  have hia:=areaS_le (a:=ix rs (i:Int))
  refine λ_=>loopCmp (n:=i) (by omega) (p:=λj=>¬meetP (ix rs (i:Int)).Rects (ix rs (j:Int)).Rects) (λrec2 j hj _ hrec2=>⟨by omega,λv hv=>IFB.mk (λhm=> ?_) (λhm=>hrec2 λh=> ?_)⟩) λhall=>⟨by omega,trivial,?_⟩
  ·rw[take_ix hj (by omega)] at hv
   rw[if_pos (λh=>h i j hj hi (hv.1 hm))] at hp
   exact bad 11 l (by decide) hp
  ·rw[take_ix hj (by omega)] at hv
   rw[hv.2 h] at hm;cases hm
  ·rw[wrapS (by omega),wrap_in (z:=s+_) (by omega) (by omega)]
   refine hrec ((i+1:Nat):Int) _ _ ⟨i+1,rfl,hi,by rw[sum_take hi,<-i3],by rw[partsR_take hi,<-i4],by omega,by omega,?_,λu v h1 h2=> ?_⟩ (by show rs.length-((i+1:Nat):Int).toNat<rs.length-(i:Int).toNat;omega)
   ·show (b++(ix rs (i:Int)).Rects).length<=_
    rw[List.length_append];omega
   ·by_cases e:u=i
    ·subst e;exact hall v h1
    ·exact i8 u v h1 (by omega)
 ·have hb:¬(i:Int)<rs.length:=of_decide_eq_false hb
  have hi:i=rs.length:=by omega
  rw[hi,List.take_length] at i3 i4
  have hap:apartP rs:=λu v h1 h2=>i8 u v h1 (by omega)
  rw[if_neg (λh=>h hap)] at hp
  clear i8
  have hsum:s=cntS (cov (partsR rs)):=by rw[i3,cnt_parts hvr ((apart_pw hvr).1 hap)]
  have hcond:∀c:Bool,c=(!decide (s=areaS w)||decide ((0:Int)<((canonF λ(x y:Int)=>xorS (cov w.1 x y) (cov b x y)).length:Int)))->(c=false↔∀x y,cov (partsR rs) x y=cov w.Rects x y):=λc hc=>by
   rw[hc,i4,Bool.or_eq_false_iff,decide_eq_false_iff_not,xor_none,Bool.not_eq_false',decide_eq_true_eq]
   refine⟨λh=>h.2,λh=>⟨?_,h⟩⟩
   rw[hsum,areaS_valid hw.2]
   exact cntS_congr h
  have hpr:∀r∈b,proper r:=by rw[i4];exact partsR_proper e7
  have hlw:w.1.length<=8000:=by have:=hw.2.1;omega
  have hlb:b.length<=8000:=by omega
  refine⟨h01,⟨w2,w3⟩,?_⟩
  have key:IFB (!decide (s=areaS w)||decide ((0:Int)<((canonF λ(x y:Int)=>xorS (cov w.1 x y) (cov b x y)).length:Int))) (J6 12 l) ((Int.NonNeg (0:Int)/\(0:Int)<(([k]:List Int).length:Int))/\((0:Int)<=k-1/\k-1<(l.length:Int))/\((rs.length:Int)<=(9223372036854775807:Int)->LOOP [Ty.int IntKind.i64,(Ty.st Sn.api_Parcel).sl] (λ(rec16:Int->List api_Parcel->Prop) (z17:Int) (z18:List api_Parcel)=>IFB (decide (z17<(rs.length:Int))) (((0:Int)<=z17/\z17<(rs.length:Int))/\JOIN [Ty.int IntKind.i64,(Ty.st Sn.api_Parcel).sl] (λ(y19:Int) (y20:List api_Parcel)=>IFB (!decide (y19=(0:Int))) (J6 y19 y20) (rec16 (IntKind.i64.wrap (z17+(1:Int))) y20)) λ(J21:Int->List api_Parcel->Prop)=>(Int.NonNeg (0:Int)/\(0:Int)<(([k]:List Int).length:Int))/\JOIN [Ty.int IntKind.i64,(Ty.st Sn.api_Parcel).sl] (λ(y22:Int) (y23:List api_Parcel)=>J21 y22 y23) λ(J24:Int->List api_Parcel->Prop)=>(z18.length:Int)<=(9223372036854775807:Int)->IFB (decide ((z18.length:Int)=(60:Int))) (J24 (1:Int) z18) (JOIN [(Ty.st Sn.api_Parcel).sl] (λ(y25:List api_Parcel)=>J24 (0:Int) y25) λ(J26:List api_Parcel->Prop)=>(z18.length:Int)<=(9223372036854775807:Int)->([k].length<=(4000000:Nat)/\((ix rs z17).1.length<=(4000000:Nat)/\(z18.length+[{Number:=IntKind.i64.wrap ((z18.length:Int)+(1:Int)),From:=day,Until:=(36865:Int),Parents:=[k],Days:=[day],Regions:=[{Rects:=(ix rs z17).1:api_Region}]:api_Parcel}].length) * (96:Nat)<=(140737488355328:Nat)/\J26 (z18++[{Number:=IntKind.i64.wrap ((z18.length:Int)+(1:Int)),From:=day,Until:=(36865:Int),Parents:=[k],Days:=[day],Regions:=[{Rects:=(ix rs z17).1:api_Region}]:api_Parcel}]))/\(ix rs z17).1.length<=(4000000:Nat)/\((z18.length+[{Number:=IntKind.i64.wrap ((z18.length:Int)+(1:Int)),From:=day,Until:=(36865:Int),Parents:=[k],Days:=[day],Regions:=[{Rects:=(ix rs z17).1:api_Region}]:api_Parcel}].length) * (96:Nat)<=(140737488355328:Nat)/\J26 (z18++[{Number:=IntKind.i64.wrap ((z18.length:Int)+(1:Int)),From:=day,Until:=(36865:Int),Parents:=[k],Days:=[day],Regions:=[{Rects:=(ix rs z17).1:api_Region}]:api_Parcel}]))/\(z18.length+[{Number:=IntKind.i64.wrap ((z18.length:Int)+(1:Int)),From:=day,Until:=(36865:Int),Parents:=[k],Days:=[day],Regions:=[{Rects:=(ix rs z17).1:api_Region}]:api_Parcel}].length) * (96:Nat)<=(140737488355328:Nat)/\J26 (z18++[{Number:=IntKind.i64.wrap ((z18.length:Int)+(1:Int)),From:=day,Until:=(36865:Int),Parents:=[k],Days:=[day],Regions:=[{Rects:=(ix rs z17).1:api_Region}]:api_Parcel}]))/\[k].length<=(4000000:Nat)/\(ix rs z17).1.length<=(4000000:Nat)/\(z18.length+[{Number:=IntKind.i64.wrap ((z18.length:Int)+(1:Int)),From:=day,Until:=(36865:Int),Parents:=[k],Days:=[day],Regions:=[{Rects:=(ix rs z17).1:api_Region}]:api_Parcel}].length) * (96:Nat)<=(140737488355328:Nat)/\J26 (z18++[{Number:=IntKind.i64.wrap ((z18.length:Int)+(1:Int)),From:=day,Until:=(36865:Int),Parents:=[k],Days:=[day],Regions:=[{Rects:=(ix rs z17).1:api_Region}]:api_Parcel}]))) (J6 (0:Int) z18)) ((0:Int),endP day l k,PUnit.unit))):=by
   refine IFB.mk (λhc=> ?_) (λhc=>⟨h01,⟨w2,w3⟩,λ_=> ?_⟩)
   ·rw[if_pos (λh=>by have:=(hcond _ rfl).2 h;rw[hc] at this;cases this)] at hp
    exact bad 12 l (by decide) hp
   rw[if_neg (λh=>h ((hcond _ rfl).1 hc))] at hp
   refine LOOP.fuel2 (λ(z:Int) (b:List Pc)=>∃i:Nat,z=(i:Int)/\i<=rs.length/\b=addL day [k] (endP day l k) (rs.take i)/\l.length+i<=60) (λz _=>rs.length-Int.toNat z) ⟨0,rfl,Nat.zero_le _,rfl,h60⟩ ?_
   rintro rec2 (z2:Int) (c:List Pc) ⟨j,j1,j2,j3,j4⟩ hrec2
   subst j1
   have hcl:c.length=l.length+j:=by rw[j3,addL_len,endP_len,List.length_take];omega
   refine IFB.mk (λhb=> ?_) (λhb=> ?_)
   ·have hb:(j:Int)<rs.length:=of_decide_eq_true hb
    have hj:j<rs.length:=by omega
    have hjr:=hlr _ (ix_mem (l:=rs) (i:=(j:Int)) (by omega) (by omega))
    refine⟨by omega,JOIN.opq λ(J21:Int->List api_Parcel->Prop) hJ21=>⟨h01,JOIN.opq λ(J24:Int->List api_Parcel->Prop) hJ24 _=>IFB.mk (λhc=> ?_) (λhc=>JOIN.opq λ(J26:List api_Parcel->Prop) hJ26 _=> ?_)⟩⟩
    ·have hc:(c.length:Int)=60:=of_decide_eq_true hc
     rw[if_pos (by omega)] at hp
     rw[hJ24,hJ21]
     exact IFB.yes rfl (bad 1 c (by decide) hp)
    ·have hc:¬(c.length:Int)=60:=of_decide_eq_false hc
     have hwr:IntKind.i64.wrap ((c.length:Int)+1)=(c.length:Int)+1:=wrap_in (by omega) (by omega)
     rw[hwr]
     have hA:(ix rs (j:Int)).1.length<=4000000:=by omega
     have hA2:[k].length<=4000000:=by simp
     have hB:(c.length+[{Number:=(c.length:Int)+(1:Int),From:=day,Until:=(36865:Int),Parents:=[k],Days:=[day],Regions:=[{Rects:=(ix rs (j:Int)).1:api_Region}]:api_Parcel}].length) * 96<=140737488355328:=by
      simp only[List.length_cons,List.length_nil];omega
     have hJ:J26 (c++[{Number:=(c.length:Int)+(1:Int),From:=day,Until:=(36865:Int),Parents:=[k],Days:=[day],Regions:=[{Rects:=(ix rs (j:Int)).1:api_Region}]:api_Parcel}]):=by
      rw[hJ26,hJ24,hJ21]
      refine IFB.no rfl ?_
      rw[wrapS (by omega)]
      refine hrec2 ((j+1:Nat):Int) _ ⟨j+1,rfl,hj,?_,by omega⟩ (by show rs.length-((j+1:Nat):Int).toNat<rs.length-(j:Int).toNat;omega)
      rw[addL_take hj,<-j3];rfl
     repeat' (first|exact hA|exact hA2|exact hB|exact hJ|with_reducible apply And.intro)
   ·have hb:¬(j:Int)<rs.length:=of_decide_eq_false hb
    have hj:j=rs.length:=by omega
    rw[if_neg (by omega)] at hp
    rw[hJ6,hJ3]
    refine IFB.no rfl ?_
    rw[j3,hj,List.take_length]
    exact hp
  have hpw:∀r∈w.1,proper r:=hw.2.2.1
  repeat' (first|exact hin|exact hpw|exact hpr|exact hlw|exact hlb|exact trivial|exact key|with_reducible apply And.intro|intro _)
theorem papp3_ok:SpecOK Tryz.prog papp3_sp:=papp3_of λx post hp=>by
 obtain⟨l,e,u⟩:=x
 obtain⟨day,known,kind,ps,rs⟩:=e
 obtain⟨⟨hsz,hse,hk⟩,hp⟩:=hp
 have hk:kind=3:=hk
 subst hk
 exact HoldW.of (papp3_w l day known ps rs post) (papp3_h l day known ps rs (λy0 y1=>post (y0,y1,())) hsz hse hp)
def pnow_P (p:api_Parcel)(post:api_Region->Prop):Prop:=(0<p.Regions.length/\p.Regions.length<=1000000)/\post (nowR p)
def pnow_sp:Spec:=⟨192,false,true,[.st .api_Parcel],.dat (.st .api_Region),λx post=>pnow_P (x.1:api_Parcel) (λy0=>post (y0,()))⟩
def pnow_C:CtxR:=⟨tau,[],lookJ []⟩
def pnow_W (p:api_Parcel)(post:api_Region->Prop):Prop:=(↑p.6.length:Int)<=9223372036854775807->((0:Int)<=IntKind.i64.wrap ((↑p.6.length:Int)-1)/\IntKind.i64.wrap ((↑p.6.length:Int)-1)<(↑p.6.length:Int))/\post {Rects:=(ix p.6 (IntKind.i64.wrap ((↑p.6.length:Int)-1))).1:api_Region}
theorem pnow_w (p:api_Parcel)(post:dens (shT pnow_sp.rs [])->Prop):pnow_W p (λy0=>post (y0,()))=walkG (callR Tryz.prog pnow_C (drawR Tryz.prog tau) 8 0) 192 false [tv (.st .api_Parcel) p] pnow_sp.rs post:=by kernel_rfl
theorem pnow_of (h:∀p post,pnow_P p post->pnow_W p post):SpecOK Tryz.prog pnow_sp:=SpecOK.of_rules (C:=pnow_C) (dr:=drawR Tryz.prog tau) (n:=8) (fk:=0) .nil (drawR_ok tau) λx post hp=>HoldW.of (pnow_w x.1 post) (h x.1 (λy0=>post (y0,())) hp)
theorem pnow_ok:SpecOK Tryz.prog pnow_sp:=pnow_of λp post hp=>by
 obtain⟨⟨h1,h2⟩,hp⟩:=hp
 unfold pnow_W
 have hw:IntKind.i64.wrap ((p.6.length:Int)-1)=(p.6.length:Int)-1:=wrap_in (by omega) (by omega)
 rw[hw]
 exact λ_=>⟨by omega,hp⟩
def papp4_P (l:List (api_Parcel))(e:api_Edit)(post:List (api_Parcel)->Int->Prop):Prop:=(szL l/\szE e/\e.Kind=4)/\post (applyS l e).1 (applyS l e).2
def papp4_sp:Spec:=⟨20,false,true,[.sl (.st .api_Parcel),.st .api_Edit],.tup [.dat (.sl (.st .api_Parcel)),.dat (.int .i64)],λx post=>papp4_P (x.1:List (api_Parcel)) (x.2.1:api_Edit) (λy0 y1=>post (y0,y1,()))⟩
def papp4_C:CtxR:=⟨tau,[rule1 pedit_sp,rule1 pallO_sp,ruleMap 77 false Forms.es,rule1 pclI_sp,rule1 pcpy_sp,rule1 pjoin_sp,rule1 pnow_sp],lookJ [(0,1000005,⟨[(8,.dat (.int .i64))],[(2,[.own 50 (.st .api_Parcel)])],[21,22,23,24,25,26,27,28],[1],[]⟩),(5113,0,⟨[(0,.dat (.int .i64))],[(2,[.own 50 (.st .api_Parcel)])],[],[1],[]⟩),(5330016155,0,⟨[(0,.dat (.int .i64))],[(2,[.own 50 (.st .api_Parcel)])],[],[1],[]⟩),(5330016155,1000003,⟨[],[(2,[.own 50 (.st .api_Parcel)])],(List.range' 15 24),[1],[]⟩),(5113,23,⟨[(43,.dat (.int .i64))],[],(List.range' 44 14++[11]),[],[(1,50,(.st .api_Parcel))]⟩),(5113,7,⟨[(15,.dat (.int .i64)),(5,.own 65 (.st .api_Rect))],[],(List.range' 16 16++[7]),[],[]⟩)]⟩
abbrev papp4_a0 (z15:List api_Parcel)(day:Int)(ps:List (Int))(v11:List api_Rect):={Number:=IntKind.i64.wrap ((↑z15.length:Int)+(1:Int)),From:=day,Until:=(36865:Int),Parents:=ps,Days:=[day],Regions:=[{Rects:=v11:api_Region}]:api_Parcel}
abbrev papp4_a1 (l:List (api_Parcel))(ps:List (Int))(z8:Int):=(nowR {Number:=(ix l (IntKind.i64.wrap (ix ps z8-(1:Int)))).1,From:=(ix l (IntKind.i64.wrap (ix ps z8-(1:Int)))).2,Until:=(ix l (IntKind.i64.wrap (ix ps z8-(1:Int)))).3,Parents:=(ix l (IntKind.i64.wrap (ix ps z8-(1:Int)))).4,Days:=(ix l (IntKind.i64.wrap (ix ps z8-(1:Int)))).5,Regions:=(ix l (IntKind.i64.wrap (ix ps z8-(1:Int)))).6:api_Parcel})
def papp4_W (l:List (api_Parcel))(day:Int)(known:Int)(ps:List (Int))(rs:List (api_Region))(post:List (api_Parcel)->Int->Prop):Prop:=(szL l/\szE (⟨day,known,(4:Int),ps,rs⟩:api_Edit))/\IFB (!decide (editS l (⟨day,known,(4:Int),ps,rs⟩:api_Edit)=0)) (szL l/\post l (editS l (⟨day,known,(4:Int),ps,rs⟩:api_Edit))) (szL l/\JOIN [Ty.int IntKind.i64,(Ty.st Sn.api_Parcel).sl] (λ(y1:Int) (y2:List api_Parcel)=>IFB (!decide (y1=0)) (szL l/\post l y1) (post y2 0)) λ(J3:Int->List api_Parcel->Prop)=>JOIN [Ty.int IntKind.i64,(Ty.st Sn.api_Parcel).sl] (λ(y4:Int) (y5:List api_Parcel)=>J3 y4 y5) λ(J6:Int->List api_Parcel->Prop)=>(↑ps.length:Int)<=9223372036854775807->LOOP [Ty.int IntKind.i64,(Ty.st Sn.api_Rect).sl] (λ(rec7:Int->List api_Rect->Prop) (z8:Int) (z9:List api_Rect)=>IFB (decide (z8<(↑ps.length:Int))) (((0:Int)<=z8/\z8<(↑ps.length:Int))/\((0:Int)<=IntKind.i64.wrap (ix ps z8-1)/\IntKind.i64.wrap (ix ps z8-1)<(↑l.length:Int))/\((0:Nat)<(ix l (IntKind.i64.wrap (ix ps z8-1))).6.length/\(ix l (IntKind.i64.wrap (ix ps z8-1))).6.length<=1000000)/\(z9.length+(papp4_a1 l ps z8).1.length) * (32:Nat)<=140737488355328/\rec7 (IntKind.i64.wrap (z8+1)) (z9++(papp4_a1 l ps z8).1)) (((∀(v10:api_Rect),v10∈z9->0<=v10.1/\v10.1<v10.3/\v10.3<=16384/\0<=v10.2/\v10.2<v10.4/\v10.4<=16384)/\z9.length<=1000)/\∀(v11:List api_Rect)(v12:Int),joinP z9 v11 v12->IFB (!decide (v12=0)) (J6 v12 l) ((↑ps.length:Int)<=9223372036854775807->LOOP [Ty.int IntKind.i64,(Ty.st Sn.api_Parcel).sl] (λ(rec13:Int->List api_Parcel->Prop) (z14:Int) (z15:List api_Parcel)=>IFB (decide (z14<(↑ps.length:Int))) (((0:Int)<=z14/\z14<(↑ps.length:Int))/\((0:Int)<=IntKind.i64.wrap (ix ps z14-1)/\IntKind.i64.wrap (ix ps z14-1)<(↑z15.length:Int))/\rec13 (IntKind.i64.wrap (z14+1)) (z15.set (IntKind.i64.wrap (ix ps z14-1)).toNat (⟨(ix z15 (IntKind.i64.wrap (ix ps z14-1))).1,(ix z15 (IntKind.i64.wrap (ix ps z14-1))).2,day,(ix z15 (IntKind.i64.wrap (ix ps z14-1))).4,(ix z15 (IntKind.i64.wrap (ix ps z14-1))).5,(ix z15 (IntKind.i64.wrap (ix ps z14-1))).6⟩:api_Parcel))) (JOIN [Ty.int IntKind.i64,(Ty.st Sn.api_Parcel).sl] (λ(y16:Int) (y17:List api_Parcel)=>J6 y16 y17) λ(J18:Int->List api_Parcel->Prop)=>(↑z15.length:Int)<=9223372036854775807->IFB (decide ((↑z15.length:Int)=60)) (J18 (1:Int) z15) (JOIN [(Ty.st Sn.api_Parcel).sl] (λ(y19:List api_Parcel)=>J18 (0:Int) y19) λ(J20:List api_Parcel->Prop)=>(↑z15.length:Int)<=9223372036854775807->(ps.length<=4000000/\(v11.length<=4000000/\(z15.length+[(papp4_a0 z15 day ps v11)].length) * (96:Nat)<=140737488355328/\J20 (z15++[(papp4_a0 z15 day ps v11)]))/\v11.length<=4000000/\((z15.length+[(papp4_a0 z15 day ps v11)].length) * (96:Nat)<=140737488355328/\J20 (z15++[(papp4_a0 z15 day ps v11)]))/\(z15.length+[(papp4_a0 z15 day ps v11)].length) * (96:Nat)<=140737488355328/\J20 (z15++[(papp4_a0 z15 day ps v11)]))/\ps.length<=4000000/\v11.length<=4000000/\(z15.length+[(papp4_a0 z15 day ps v11)].length) * (96:Nat)<=140737488355328/\J20 (z15++[(papp4_a0 z15 day ps v11)])))) ((0:Int),l,PUnit.unit)))) ((0:Int),[],PUnit.unit))
theorem papp4_w (l:List (api_Parcel))(day:Int)(known:Int)(ps:List (Int))(rs:List (api_Region))(post:dens (shT papp4_sp.rs [])->Prop):papp4_W l day known ps rs (λy0 y1=>post (y0,y1,()))=walkG (callR Tryz.prog papp4_C (drawF Tryz.prog tau) 12 0) 20 false [tv (.sl (.st .api_Parcel)) (l),tv (.st .api_Edit) (⟨day,known,4,ps,rs⟩)] papp4_sp.rs post:=by kernel_rfl
theorem papp4_of (h:∀x (post:dens (shT papp4_sp.rs [])->Prop),papp4_sp.pt x post->HoldW (walkG (callR Tryz.prog papp4_C (drawF Tryz.prog tau) 12 0) papp4_sp.f papp4_sp.tp (tvs papp4_sp.ts x) papp4_sp.rs post)):SpecOK Tryz.prog papp4_sp:=SpecOK.of_rules (C:=papp4_C) (dr:=drawF Tryz.prog tau) (n:=12) (fk:=0) (.cons (rule1_ok pedit_ok) (.cons (rule1_ok pallO_ok) (.cons (ruleMap_ok Forms.forms_mk) (.cons (rule1_ok pclI_ok) (.cons (rule1_ok pcpy_ok) (.cons (rule1_ok pjoin_ok) (.cons (rule1_ok pnow_ok) .nil))))))) (drawF_ok tau) h
theorem endL_len {day:Int}:∀{ps:List Int}{l:List Pc},(endL day l ps).length=l.length
 |[],l=>rfl
 |k::ps,l=>by
  show (endL day (endP day l k) ps).length=_
  rw[endL_len,endP_len]
set_option maxHeartbeats 1000000 in
theorem papp4_h (l:List api_Parcel)(day known:Int)(ps:List Int)(rs:List api_Region)(post:List api_Parcel->Int->Prop)(hsz:szL l)(hse:szE ⟨day,known,4,ps,rs⟩)(hp:post (applyS l ⟨day,known,4,ps,rs⟩).1 (applyS l ⟨day,known,4,ps,rs⟩).2):papp4_W l day known ps rs post:=by
 unfold papp4_W papp4_a1 papp4_a0
 refine⟨⟨hsz,hse⟩,IFB.mk (λhb=>⟨hsz,?_⟩) (λhb=>⟨hsz,?_⟩)⟩
 ·have hb:editS l ⟨day,known,4,ps,rs⟩≠0:=by simpa using hb
  unfold applyS at hp
  rw[if_pos hb] at hp;exact hp
 have hb:editS l ⟨day,known,4,ps,rs⟩=0:=by simpa using hb
 unfold applyS at hp
 rw[if_neg (λh=>h hb),if_neg (by decide:¬(4:Int)=1),if_neg (by decide:¬(4:Int)=2),if_neg (by decide:¬(4:Int)=3),if_pos rfl] at hp
 obtain⟨e1,e2,e3,⟨e4,e5⟩,e6,e7⟩:=editS_0.1 hb
 have e4:2<=ps.length/\ps.length<=8:=by
  unfold fitsP at e4
  dsimp only at e4
  omega
 have e6:∀k∈ps,openP l k:=e6
 obtain⟨h60,hreg⟩:=checkS_0.1 e1
 have hl:=hsz.len
 dsimp only at hp
 have hz:Int.NonNeg (0:Int):=Int.NonNeg.mk 0
 refine JOIN.opq λ(J3:Int->List api_Parcel->Prop) hJ3=>JOIN.opq λ(J6:Int->List api_Parcel->Prop) hJ6 _=> ?_
 have bad:∀(c:Int)(z:List api_Parcel),c≠0->post l c->J6 c z:=λc z hc h=>by
  rw[hJ6,hJ3]
  exact IFB.yes (by simpa using hc) ⟨hsz,h⟩
 have hop:∀i:Nat,i<ps.length->IntKind.i64.wrap (ix ps (i:Int)-1)=ix ps (i:Int)-1/\0<=ix ps (i:Int)-1/\ix ps (i:Int)-1<(l.length:Int):=λi hi=>open_ix hl (e6 _ (ix_mem (l:=ps) (i:=(i:Int)) (by omega) (by omega)))
 have hnow:∀i:Nat,i<ps.length->0<(ix l (ix ps (i:Int)-1)).6.length/\(ix l (ix ps (i:Int)-1)).6.length<=1000000/\propR (nowR (ix l (ix ps (i:Int)-1))):=λi hi=>by
  obtain⟨_,w2,w3⟩:=hop i hi
  have hq:=ix_mem (l:=l) w2 w3
  have hq0:0<(ix l (ix ps (i:Int)-1)).6.length:=by have:=regP_days hreg _ hq;omega
  exact⟨hq0,(hsz.all _ hq).regs,regP_prop hreg _ hq _ (now_mem hq0)⟩
 let g:Int->Rn:=λk=>nowR (ix l (k-1))
 have hmap:∀i:Nat,i<ps.length->ix (ps.map g) (i:Int)=g (ix ps (i:Int)):=λi hi=>by
  rw[ix_lt (by simpa using hi),ix_lt hi,List.getElem_map]
 refine LOOP.fuel2 (λ(z:Int) (b:List Rc)=>∃i:Nat,z=(i:Int)/\i<=ps.length/\b=partsR ((ps.map g).take i)/\b.length<=120 * i) (λz _=>ps.length-Int.toNat z) ⟨0,rfl,Nat.zero_le _,rfl,Nat.le_refl _⟩ ?_
 rintro rec (z:Int) (b:List Rc) ⟨i,i1,i2,i3,i4⟩ hrec
 subst i1
 refine IFB.mk (λhb=> ?_) (λhb=> ?_)
 ·have hb:(i:Int)<ps.length:=of_decide_eq_true hb
  have hi:i<ps.length:=by omega
  obtain⟨w1,w2,w3⟩:=hop i hi
  obtain⟨n1,n2,n3⟩:=hnow i hi
  rw[w1]
  have hlen:(nowR (ix l (ix ps (i:Int)-1))).1.length<=120:=n3.2.1
  refine⟨by omega,⟨w2,w3⟩,⟨n1,n2⟩,?_,?_⟩
  ·show (b.length+(nowR (ix l (ix ps (i:Int)-1))).1.length) * 32<=_
   omega
  ·rw[wrapS (by omega)]
   refine hrec ((i+1:Nat):Int) _ ⟨i+1,rfl,hi,?_,?_⟩ (by show ps.length-((i+1:Nat):Int).toNat<ps.length-(i:Int).toNat;omega)
   ·rw[partsR_take (by simpa using hi),<-i3,hmap i hi]
   ·show (b++(nowR (ix l (ix ps (i:Int)-1))).1).length<=_
    rw[List.length_append];omega
 ·have hb:¬(i:Int)<ps.length:=of_decide_eq_false hb
  have hi:i=ps.length:=by omega
  have hbe:b=outsL l ps:=by rw[i3,hi,List.take_of_length_le (by simp)];rfl
  have hpr:∀r∈b,proper r:=by
   rw[hbe]
   refine partsR_proper λa ha=> ?_
   obtain⟨k,hk,rfl⟩:=List.mem_map.1 ha
   obtain⟨j,hj,rfl⟩:=ix_ex hk
   exact (hnow j hj).2.2
  refine⟨⟨hpr,by omega⟩,λr c hr=> ?_⟩
  rw[hbe] at hr
  rcases hr with⟨r1,r2,r3⟩|⟨r1,r2,r3⟩
  ·rw[if_pos r1] at hp
   subst r3
   exact IFB.yes rfl (bad 1 l (by decide) hp)
  rw[if_neg (by omega)] at hp
  rw[<-r2] at r1 hp
  subst r3
  refine IFB.no rfl λ_=> ?_
  refine LOOP.fuel2 (λ(z:Int) (c:List Pc)=>∃j:Nat,z=(j:Int)/\j<=ps.length/\c=endL day l (ps.take j)) (λz _=>ps.length-Int.toNat z) ⟨0,rfl,Nat.zero_le _,rfl⟩ ?_
  rintro rec2 (z2:Int) (c:List Pc) ⟨j,j1,j2,j3⟩ hrec2
  subst j1
  have hcl:c.length=l.length:=by rw[j3,endL_len]
  refine IFB.mk (λhb=> ?_) (λhb=> ?_)
  ·have hb:(j:Int)<ps.length:=of_decide_eq_true hb
   have hj:j<ps.length:=by omega
   obtain⟨w1,w2,w3⟩:=hop j hj
   rw[w1]
   refine⟨by omega,by omega,?_⟩
   rw[wrapS (by omega)]
   refine hrec2 ((j+1:Nat):Int) _ ⟨j+1,rfl,hj,?_⟩ (by show ps.length-((j+1:Nat):Int).toNat<ps.length-(j:Int).toNat;omega)
   show endP day c (ix ps (j:Int))=_
   unfold endL at j3 ⊢
   rw[fold_take hj,<-j3]
  ·have hb:¬(j:Int)<ps.length:=of_decide_eq_false hb
   have hj:j=ps.length:=by omega
   rw[hj,List.take_length] at j3
   refine JOIN.opq λ(J18:Int->List api_Parcel->Prop) hJ18 _=>IFB.mk (λhc=> ?_) (λhc=>JOIN.opq λ(J20:List api_Parcel->Prop) hJ20 _=> ?_)
   ·have hc:(c.length:Int)=60:=of_decide_eq_true hc
    rw[if_pos (by omega)] at hp
    rw[hJ18]
    exact bad 1 c (by decide) hp
   ·have hc:¬(c.length:Int)=60:=of_decide_eq_false hc
    rw[if_neg (by omega)] at hp
    have hwr:IntKind.i64.wrap ((c.length:Int)+1)=(c.length:Int)+1:=wrap_in (by omega) (by omega)
    rw[hwr]
    have hA:r.length<=4000000:=by omega
    have hA2:ps.length<=4000000:=by omega
    have hB:(c.length+[{Number:=(c.length:Int)+(1:Int),From:=day,Until:=(36865:Int),Parents:=ps,Days:=[day],Regions:=[{Rects:=r:api_Region}]:api_Parcel}].length) * 96<=140737488355328:=by
     simp only[List.length_cons,List.length_nil];omega
    have hJ:J20 (c++[{Number:=(c.length:Int)+(1:Int),From:=day,Until:=(36865:Int),Parents:=ps,Days:=[day],Regions:=[{Rects:=r:api_Region}]:api_Parcel}]):=by
     rw[hJ20,hJ18,hJ6,hJ3]
     refine IFB.no rfl ?_
     rw[j3]
     exact hp
    repeat' (first|exact hA|exact hA2|exact hB|exact hJ|with_reducible apply And.intro)
theorem papp4_ok:SpecOK Tryz.prog papp4_sp:=papp4_of λx post hp=>by
 obtain⟨l,e,u⟩:=x
 obtain⟨day,known,kind,ps,rs⟩:=e
 obtain⟨⟨hsz,hse,hk⟩,hp⟩:=hp
 have hk:kind=4:=hk
 subst hk
 exact HoldW.of (papp4_w l day known ps rs post) (papp4_h l day known ps rs (λy0 y1=>post (y0,y1,())) hsz hse hp)
def papp0_P (l:List (api_Parcel))(e:api_Edit)(post:List (api_Parcel)->Int->Prop):Prop:=(szL l/\szE e/\editS l e≠0)/\post l (editS l e)
def papp0_sp:Spec:=⟨20,false,true,[.sl (.st .api_Parcel),.st .api_Edit],.tup [.dat (.sl (.st .api_Parcel)),.dat (.int .i64)],λx post=>papp0_P (x.1:List (api_Parcel)) (x.2.1:api_Edit) (λy0 y1=>post (y0,y1,()))⟩
def papp0_C:CtxR:=⟨tau,[rule1 pedit_sp,rule1 pallO_sp,ruleNo 77],lookJ []⟩
def papp0_W (l:List (api_Parcel))(e:api_Edit)(post:List (api_Parcel)->Int->Prop):Prop:=(szL l/\szE {Day:=e.1,Known:=e.2,Kind:=e.3,Parcels:=e.4,Regions:=e.5:api_Edit})/\IFB (!decide (editS l {Day:=e.1,Known:=e.2,Kind:=e.3,Parcels:=e.4,Regions:=e.5:api_Edit}=0)) (szL l/\post l (editS l {Day:=e.1,Known:=e.2,Kind:=e.3,Parcels:=e.4,Regions:=e.5:api_Edit})) (szL l/\False)
theorem papp0_w (l:List (api_Parcel))(e:api_Edit)(post:dens (shT papp0_sp.rs [])->Prop):papp0_W l e (λy0 y1=>post (y0,y1,()))=walkG (callR Tryz.prog papp0_C (drawF Tryz.prog tau) 12 0) 20 false [tv (.sl (.st .api_Parcel)) l,tv (.st .api_Edit) e] papp0_sp.rs post:=by kernel_rfl
theorem papp0_of (h:∀l e post,papp0_P l e post->papp0_W l e post):SpecOK Tryz.prog papp0_sp:=SpecOK.of_rules (C:=papp0_C) (dr:=drawF Tryz.prog tau) (n:=12) (fk:=0) (.cons (rule1_ok pedit_ok) (.cons (rule1_ok pallO_ok) (.cons (ruleNo_ok 77) .nil))) (drawF_ok tau) λx post hp=>HoldW.of (papp0_w x.1 x.2.1 post) (h x.1 x.2.1 (λy0 y1=>post (y0,y1,())) hp)
theorem papp0_ok:SpecOK Tryz.prog papp0_sp:=papp0_of λl e post hp=>by
 obtain⟨⟨hsz,hse,hne⟩,hp⟩:=hp
 unfold papp0_W
 refine⟨⟨hsz,hse⟩,IFB.mk (λ_=>⟨hsz,hp⟩) (λhb=>absurd (by simpa using hb) hne)⟩
def pappN_P (l:List (api_Parcel))(e:api_Edit)(post:List (api_Parcel)->Int->Prop):Prop:=(szL l/\szE e/\e.Kind≠2)/\post (applyS l e).1 (applyS l e).2
def pappN_sp:Spec:=⟨20,false,true,[.sl (.st .api_Parcel),.st .api_Edit],.tup [.dat (.sl (.st .api_Parcel)),.dat (.int .i64)],λx post=>pappN_P (x.1:List (api_Parcel)) (x.2.1:api_Edit) (λy0 y1=>post (y0,y1,()))⟩
theorem applyS_err {l:List Pc}{e:Ed}(h:editS l e≠0):applyS l e=(l,editS l e):=by unfold applyS;rw[if_pos h]
theorem pappN_ok:SpecOK Tryz.prog pappN_sp:=λx post hp=>by
 obtain⟨l,e,u⟩:=x
 have hp:(szL l/\szE e/\e.Kind≠2)/\post ((applyS l e).1,(applyS l e).2,()):=hp
 obtain⟨⟨hsz,hse,hk⟩,hp⟩:=hp
 by_cases h:editS l e=0
 ·have hk2:=(editS_0.1 h).2.1
  have:e.Kind=1\/e.Kind=3\/e.Kind=4\/e.Kind=5:=by omega
  rcases this with h1|h1|h1|h1
  ·exact papp1_ok (l,e,()) post ⟨⟨hsz,hse,h1⟩,hp⟩
  ·exact papp3_ok (l,e,()) post ⟨⟨hsz,hse,h1⟩,hp⟩
  ·exact papp4_ok (l,e,()) post ⟨⟨hsz,hse,h1⟩,hp⟩
  ·exact papp5_ok (l,e,()) post ⟨⟨hsz,hse,h1⟩,hp⟩
 ·rw[applyS_err h] at hp
  exact papp0_ok (l,e,()) post ⟨⟨hsz,hse,h⟩,hp⟩
end RE
end Go.Proofs.YtpeggkeenboacaaGreat
set_option linter.unusedVariables false
namespace Go.Proofs.YtpeggkeenboacaaGreat
open Go.RowKit
namespace RE
open PL
namespace PL
def thereP (p:Pc)(d:Int):Prop:=p.From<=d/\d<p.Until
instance (p:Pc) (d:Int):Decidable (thereP p d):=by unfold thereP;infer_instance
def outlF (p:Pc)(d:Int)(n:Nat):Rn:=(List.range n).foldl (λ(r:Rn) (i:Nat)=>if ix p.Days (i:Int)<=d then ix p.Regions (i:Int) else r) (ix p.Regions 0)
def outlS (p:Pc)(d:Int):Rn:=outlF p d p.Days.length
def openL (l:List Pc)(d:Int):List Int:=(l.filter λp=>decide (thereP p d)).map (·.Number)
open Classical in
noncomputable def openS (l:List Pc) (d:Int):List Int:=if checkS l=0 then openL l d else []
def onP (l:List Pc)(n d:Int):Prop:=1<=n/\n<=(l.length:Int)/\checkS l=0/\thereP (ix l (n-1)) d
open Classical in
noncomputable def onS (l:List Pc) (n d:Int):Rn:=if onP l n d then outlS (ix l (n-1)) d else ⟨[]⟩
def hStep (d:Int)(s:List Int×List Int)(p:Pc):List Int×List Int:=
 let fam:=if ∃k∈p.Parents,k∈s.1 then s.1++[p.Number] else s.1
 (fam,if thereP p d/\p.Number∈fam then s.2++[p.Number] else s.2)
def heirsL (l:List Pc)(n d:Int):List Int:=((l.drop (n-1).toNat).foldl (hStep d) ([n],[])).2
open Classical in
noncomputable def heirE (l:List Pc) (n d:Int):Int:=if checkS l≠0 then checkS l else if d<0\/36864<d then 9 else if n<1\/(l.length:Int)<n\/d<(ix l (n-1)).From then 10 else 0
noncomputable def heirsS (l:List Pc) (n d:Int):List Int:=if heirE l n d=0 then heirsL l n d else []
noncomputable def shareL (l:List Pc) (n d:Int) (h:List Int):List arr2_i64:=h.map λk=>⟨k,sizeS (canonF (comb (howS 2) (outlS (ix l (n-1)) d).Rects (outlS (ix l (k-1)) d).Rects))⟩
noncomputable def shareS (l:List Pc) (n d:Int):List arr2_i64:=if heirE l n d=0 then shareL l n d (heirsL l n d) else []
noncomputable def runG (x:List Pc) (i:Int):List Ed->List Pc×Int×Int
 |[]=>(x,i,0)
 |e::r=>if (applyS x e).2≠0 then (x,i,(applyS x e).2) else runG (applyS x e).1 (i+1) r
noncomputable def runS (l:List Ed):List Pc×Int×Int:=if 120<l.length then ([],0,1) else runG [] 0 l
end PL
theorem outlF_succ {p:Pc}{d:Int}{n:Nat}:outlF p d (n+1)=if ix p.Days (n:Int)<=d then ix p.Regions (n:Int) else outlF p d n:=by
 unfold outlF;rw[List.range_succ,List.foldl_append];rfl
theorem outlF_mem {p:Pc}{d:Int}(h:0<p.Regions.length):∀{n:Nat},n<=p.Regions.length->outlF p d n∈p.Regions
 |0,_=>ix_mem (Int.le_refl 0) (by omega)
 |n+1,hn=>by
  rw[outlF_succ]
  split
  ·exact ix_mem (by omega) (by omega)
  ·exact outlF_mem h (by omega)
end RE
end Go.Proofs.YtpeggkeenboacaaGreat
namespace Go.Proofs.YtpeggkeenboacaaGreat
namespace RE
open Go.RowKit
open PL
def pthe_P (p:api_Parcel)(d:Int)(post:Bool->Prop):Prop:=∀q:Bool,(q=true↔thereP p d)->post q
def pthe_sp:Spec:=⟨87,false,false,[.st .api_Parcel,.int .i64],.dat (.bool),λx post=>pthe_P (x.1:api_Parcel) (x.2.1:Int) (λy0=>post (y0,()))⟩
def pthe_C:CtxR:=⟨tau,[],lookJ []⟩
def pthe_W (p:api_Parcel)(d:Int)(post:Bool->Prop):Prop:=post (decide (p.2<=d)&&decide (d<p.3))
theorem pthe_w (p:api_Parcel)(d:Int)(post:dens (shT pthe_sp.rs [])->Prop):pthe_W p d (λy0=>post (y0,()))=walkG (callR Tryz.prog pthe_C (drawR Tryz.prog tau) 8 0) 87 false [tv (.st .api_Parcel) p,tv (.int .i64) d] pthe_sp.rs post:=by kernel_rfl
theorem pthe_of (h:∀p d post,pthe_P p d post->pthe_W p d post):SpecOK Tryz.prog pthe_sp:=SpecOK.of_rules (C:=pthe_C) (dr:=drawR Tryz.prog tau) (n:=8) (fk:=0) .nil (drawR_ok tau) λx post hp=>HoldW.of (pthe_w x.1 x.2.1 post) (h x.1 x.2.1 (λy0=>post (y0,())) hp)
theorem pthe_ok:SpecOK Tryz.prog pthe_sp:=pthe_of λp d post hp=>hp _ (by
 unfold thereP
 rw[Bool.and_eq_true,decide_eq_true_iff,decide_eq_true_iff])
def pout_P (p:api_Parcel)(d:Int)(post:api_Region->Prop):Prop:=(p.Days.length=p.Regions.length/\0<p.Regions.length/\p.Regions.length<=1000000)/\post (outlS p d)
def pout_sp:Spec:=⟨88,false,true,[.st .api_Parcel,.int .i64],.dat (.st .api_Region),λx post=>pout_P (x.1:api_Parcel) (x.2.1:Int) (λy0=>post (y0,()))⟩
def pout_C:CtxR:=⟨tau,[],lookJ [(0,7,⟨[(15,.dat (.int .i64))],[(2,[.dat (.sl (.st .api_Rect))])],(List.range' 16 13++[6,7]),[],[]⟩),(0,14,⟨[],[(2,[.dat (.sl (.st .api_Rect))])],(List.range' 17 11++[6,7]),[],[]⟩)]⟩
def pout_W (p:api_Parcel)(d:Int)(post:api_Region->Prop):Prop:=(Int.NonNeg 0/\0<(↑p.6.length:Int))/\((↑p.5.length:Int)<=9223372036854775807->LOOP [Ty.int IntKind.i64,(Ty.st Sn.api_Rect).sl] (λ(rec1:Int->List api_Rect->Prop) (z2:Int) (z3:List api_Rect)=>IFB (decide (z2<(↑p.5.length:Int))) (JOIN [(Ty.st Sn.api_Rect).sl] (λ(y4:List api_Rect)=>rec1 (IntKind.i64.wrap (z2+1)) y4) λ(J5:List api_Rect->Prop)=>((0:Int)<=z2/\z2<(↑p.5.length:Int))/\IFB (decide (ix p.5 z2<=d)) (((0:Int)<=z2/\z2<(↑p.6.length:Int))/\J5 (ix p.6 z2).1) (J5 z3)) (post (⟨z3⟩:api_Region))) ((0:Int),(ix p.6 0).1,PUnit.unit))
theorem pout_w (p:api_Parcel)(d:Int)(post:dens (shT pout_sp.rs [])->Prop):pout_W p d (λy0=>post (y0,()))=walkG (callR Tryz.prog pout_C (drawR Tryz.prog tau) 8 0) 88 false [tv (.st .api_Parcel) p,tv (.int .i64) d] pout_sp.rs post:=by kernel_rfl
theorem pout_of (h:∀p d post,pout_P p d post->pout_W p d post):SpecOK Tryz.prog pout_sp:=SpecOK.of_rules (C:=pout_C) (dr:=drawR Tryz.prog tau) (n:=8) (fk:=0) .nil (drawR_ok tau) λx post hp=>HoldW.of (pout_w x.1 x.2.1 post) (h x.1 x.2.1 (λy0=>post (y0,())) hp)
theorem pout_ok:SpecOK Tryz.prog pout_sp:=pout_of λp d post hp=>by
 obtain⟨⟨h1,h2,h3⟩,hp⟩:=hp
 unfold pout_W
 have h1:p.5.length=p.6.length:=h1
 have h2:0<p.6.length:=h2
 have h3:p.6.length<=1000000:=h3
 refine⟨⟨Int.NonNeg.mk 0,by omega⟩,λ_=> ?_⟩
 refine LOOP.fuel2 (λ(z:Int) (b:List Rc)=>∃k:Nat,z=(k:Int)/\k<=p.5.length/\b=(outlF p d k).1) (λz _=>p.5.length-Int.toNat z) ⟨0,rfl,Nat.zero_le _,rfl⟩ ?_
 rintro rec (z:Int) (b:List Rc) ⟨k,i1,i2,i3⟩ hrec
 subst i1
 refine IFB.mk (λhb=> ?_) (λhb=> ?_)
 ·have hb:(k:Int)<p.5.length:=of_decide_eq_true hb
  have hk:k<p.5.length:=by omega
  refine JOIN.opq λ(J:List Rc->Prop) hJ=>⟨by omega,?_⟩
  have fin:∀y:List Rc,y=(outlF p d (k+1)).1->J y:=λy hy=>by
   rw[hJ]
   show rec (IntKind.i64.wrap ((k:Int)+1)) y
   rw[wrapS (by omega)]
   exact hrec ((k+1:Nat):Int) y ⟨k+1,rfl,hk,hy⟩ (by show p.5.length-((k+1:Nat):Int).toNat<p.5.length-(k:Int).toNat;omega)
  refine IFB.mk (λhc=>⟨by omega,fin _ ?_⟩) (λhc=>fin _ ?_)
  ·rw[outlF_succ,if_pos (of_decide_eq_true hc)]
  ·rw[outlF_succ,if_neg (of_decide_eq_false hc)];exact i3
 ·have hb:¬(k:Int)<p.5.length:=of_decide_eq_false hb
  have hk:k=p.5.length:=by omega
  rw[hk] at i3
  have e:({Rects:=b}:api_Region)=outlS p d:=by rw[i3];rfl
  show post {Rects:=b}
  rw[e];exact hp
def pon_P (l:List (api_Parcel))(n:Int)(d:Int)(post:List (api_Rect)->Bool->Prop):Prop:=szL l/\∀(r:List api_Rect)(q:Bool),(r=(onS l n d).Rects/\(q=true↔onP l n d))->post r q
def pon_sp:Spec:=⟨27,false,true,[.sl (.st .api_Parcel),.int .i64,.int .i64],.tup [.agg [.dat (.sl (.st .api_Rect))],.dat (.bool)],λx post=>pon_P (x.1:List (api_Parcel)) (x.2.1:Int) (x.2.2.1:Int) (λy0 y1=>post (y0,y1,()))⟩
def pon_C:CtxR:=⟨tau,[rule1 pchk_sp,rule1 pthe_sp,rule1 pout_sp,rule1 pcpy_sp],lookJ []⟩
abbrev pon_a0 (l:List (api_Parcel))(n:Int):={Number:=(ix l (IntKind.i64.wrap (n-(1:Int)))).1,From:=(ix l (IntKind.i64.wrap (n-(1:Int)))).2,Until:=(ix l (IntKind.i64.wrap (n-(1:Int)))).3,Parents:=(ix l (IntKind.i64.wrap (n-(1:Int)))).4,Days:=(ix l (IntKind.i64.wrap (n-(1:Int)))).5,Regions:=(ix l (IntKind.i64.wrap (n-(1:Int)))).6:api_Parcel}
def pon_W (l:List (api_Parcel))(n:Int)(d:Int)(post:List (api_Rect)->Bool->Prop):Prop:=(gx false (decide (n<1))=true->(↑l.length:Int)<=9223372036854775807)->JOIN [Ty.int IntKind.i64] (λ(y1:Int)=>(gx false (decide (n<1)||decide ((↑l.length:Int)<n)|| !decide (y1=0))=true->0<=IntKind.i64.wrap (n-1)/\IntKind.i64.wrap (n-1)<(↑l.length:Int))/\JOIN [Ty.bool] (λ(y2:Bool)=>IFB (decide (n<1)||decide ((↑l.length:Int)<n)|| !decide (y1=0)|| !y2) (post [] false) (((0:Int)<=IntKind.i64.wrap (n-1)/\IntKind.i64.wrap (n-1)<(↑l.length:Int))/\((ix l (IntKind.i64.wrap (n-1))).5.length=(ix l (IntKind.i64.wrap (n-1))).6.length/\0<(ix l (IntKind.i64.wrap (n-1))).6.length/\(ix l (IntKind.i64.wrap (n-1))).6.length<=1000000)/\(outlS (pon_a0 l n) d).1.length<=4000000/\post (outlS (pon_a0 l n) d).1 true)) λ(J3:Bool->Prop)=>IFB (gx false (decide (n<1)||decide ((↑l.length:Int)<n)|| !decide (y1=0))) (∀(v4:Bool),(v4=true↔thereP (pon_a0 l n) d)->J3 v4) (J3 false)) λ(J5:Int->Prop)=>IFB (gx false (decide (n<1)||decide ((↑l.length:Int)<n))) (szL l/\J5 (checkS l)) (J5 0)
theorem pon_w (l:List (api_Parcel))(n:Int)(d:Int)(post:dens (shT pon_sp.rs [])->Prop):pon_W l n d (λy0 y1=>post (y0,y1,()))=walkG (callR Tryz.prog pon_C (drawF Tryz.prog tau) 8 0) 27 false [tv (.sl (.st .api_Parcel)) l,tv (.int .i64) n,tv (.int .i64) d] pon_sp.rs post:=by kernel_rfl
theorem pon_of (h:∀l n d post,pon_P l n d post->pon_W l n d post):SpecOK Tryz.prog pon_sp:=SpecOK.of_rules (C:=pon_C) (dr:=drawF Tryz.prog tau) (n:=8) (fk:=0) (.cons (rule1_ok pchk_ok) (.cons (rule1_ok pthe_ok) (.cons (rule1_ok pout_ok) (.cons (rule1_ok pcpy_ok) .nil)))) (drawF_ok tau) λx post hp=>HoldW.of (pon_w x.1 x.2.1 x.2.2.1 post) (h x.1 x.2.1 x.2.2.1 (λy0 y1=>post (y0,y1,())) hp)
theorem reg_days {l:List Pc}(hsz:szL l)(h:checkS l=0){n:Int}(h1:1<=n)(h2:n<=(l.length:Int)):ix l (n-1)∈l/\(ix l (n-1)).5.length=(ix l (n-1)).6.length/\0<(ix l (n-1)).6.length/\(ix l (n-1)).6.length<=1000000/\IntKind.i64.wrap (n-1)=n-1:=by
 have hm:=ix_mem (l:=l) (i:=n-1) (by omega) (by omega)
 have hr:=regP_days (checkS_0.1 h).2 _ hm
 have:=hsz.len
 exact⟨hm,hr.2,by have:=hr.1;omega,(hsz.all _ hm).regs,wrap_in (by omega) (by omega)⟩
theorem pon_ok:SpecOK Tryz.prog pon_sp:=pon_of λl n d post hp=>by
 obtain⟨hsz,hp⟩:=hp
 have hl:=hsz.len
 unfold pon_W pon_a0
 refine λ_=>JOIN.opq λ(J:Int->Prop) hJ=> ?_
 have k1:∀y:Int,(1<=n/\n<=(l.length:Int)->y=checkS l)->J y:=λy hy=>by
  rw[hJ]
  refine⟨λh=> ?_,JOIN.opq λ(J2:Bool->Prop) hJ2=> ?_⟩
  ·simp only[Bool.or_eq_true,Bool.and_eq_true,Bool.not_eq_true',Bool.not_eq_false',Bool.or_eq_false_iff,Bool.and_eq_false_iff,decide_eq_true_eq,decide_eq_false_iff_not,gx_t,gx_f] at h
   rw[wrap_in (by omega) (by omega)];omega
  have k2:∀c:Bool,(1<=n/\n<=(l.length:Int)/\checkS l=0->(c=true↔thereP (ix l (n-1)) d))->J2 c:=λc hc=>by
   rw[hJ2]
   refine IFB.mk (λh=> ?_) (λh=> ?_)
   ·simp only[Bool.or_eq_true,Bool.and_eq_true,Bool.not_eq_true',Bool.not_eq_false',Bool.or_eq_false_iff,Bool.and_eq_false_iff,decide_eq_true_eq,decide_eq_false_iff_not,gx_t,gx_f] at h
    have hn:¬onP l n d:=by
     rintro ⟨o1,o2,o3,o4⟩
     rcases h with ((h|h)|h)|h
     ·omega
     ·omega
     ·exact h ((hy ⟨o1,o2⟩).trans o3)
     ·have:=(hc ⟨o1,o2,o3⟩).2 o4;rw[h] at this;cases this
    refine hp [] false ⟨?_,λh=>(by cases h),λh=>absurd h hn⟩
    unfold onS;rw[if_neg hn]
   ·simp only[Bool.or_eq_true,Bool.and_eq_true,Bool.not_eq_true',Bool.not_eq_false',Bool.or_eq_false_iff,Bool.and_eq_false_iff,decide_eq_true_eq,decide_eq_false_iff_not,gx_t,gx_f] at h
    obtain⟨⟨⟨b1,b2⟩,b3⟩,b4⟩:=h
    have hb:1<=n/\n<=(l.length:Int):=by omega
    have h0:checkS l=0:=(hy hb).symm.trans b3
    obtain⟨m1,m2,m3,m4,m5⟩:=reg_days hsz h0 hb.1 hb.2
    have hon:onP l n d:=⟨hb.1,hb.2,h0,(hc ⟨hb.1,hb.2,h0⟩).1 b4⟩
    rw[m5]
    have hr:(outlS (ix l (n-1)) d).Rects.length<=1000000:=(hsz.all _ m1).rect _ (outlF_mem m3 (by rw[<-m2];exact Nat.le_refl _))
    have he:onS l n d=outlS (ix l (n-1)) d:=by unfold onS;rw[if_pos hon]
    have hpost:post (outlS (ix l (n-1)) d).Rects true:=hp _ true ⟨by rw[he],λ_=>hon,λ_=>rfl⟩
    have hA:0<=n-1/\n-1<(l.length:Int):=by omega
    have hB:(ix l (n-1)).5.length=(ix l (n-1)).6.length/\0<(ix l (n-1)).6.length/\(ix l (n-1)).6.length<=1000000:=⟨m2,m3,m4⟩
    have hC:(outlS (ix l (n-1)) d).Rects.length<=4000000:=by omega
    repeat' (first|exact hA|exact hB|exact hC|exact hpost|with_reducible apply And.intro)
  refine IFB.mk (λhg=> ?_) (λhg=>k2 false λhc=> ?_)
  ·simp only[Bool.or_eq_true,Bool.and_eq_true,Bool.not_eq_true',Bool.not_eq_false',Bool.or_eq_false_iff,Bool.and_eq_false_iff,decide_eq_true_eq,decide_eq_false_iff_not,gx_t,gx_f] at hg
   rw[wrap_in (by omega) (by omega)]
   exact λv hv=>k2 v λ_=>hv
  ·simp only[Bool.or_eq_true,Bool.and_eq_true,Bool.not_eq_true',Bool.not_eq_false',Bool.or_eq_false_iff,Bool.and_eq_false_iff,decide_eq_true_eq,decide_eq_false_iff_not,gx_t,gx_f] at hg
   rcases hg with (hg|hg)|hg
   ·omega
   ·omega
   ·exact absurd ((hy ⟨hc.1,hc.2.1⟩).trans hc.2.2) hg
 refine IFB.mk (λhg=>⟨hsz,k1 _ λ_=>rfl⟩) (λhg=>k1 0 λh=> ?_)
 simp only[Bool.or_eq_true,Bool.and_eq_true,Bool.not_eq_true',Bool.not_eq_false',Bool.or_eq_false_iff,Bool.and_eq_false_iff,decide_eq_true_eq,decide_eq_false_iff_not,gx_t,gx_f] at hg
 omega
def popen_P (l:List (api_Parcel))(d:Int)(post:List (Int)->Prop):Prop:=(szL l)/\post (openS l d)
def popen_sp:Spec:=⟨35,false,true,[.sl (.st .api_Parcel),.int .i64],.dat (.sl (.int .i64)),λx post=>popen_P (x.1:List (api_Parcel)) (x.2.1:Int) (λy0=>post (y0,()))⟩
def popen_C:CtxR:=⟨tau,[rule1 pchk_sp,rule1 pthe_sp],lookJ [(0,11,⟨[(13,.dat (.int .i64)),(5,.own 3 (.int .i64))],[],(List.range' 14 12++[7]),[],[]⟩),(0,18,⟨[(5,.own 3 (.int .i64))],[],(List.range' 15 10++[7]),[0],[]⟩)]⟩
def popen_W (l:List (api_Parcel))(d:Int)(post:List (Int)->Prop):Prop:=szL l/\IFB (!decide (checkS l=0)) (post []) ((↑l.length:Int)<=9223372036854775807->LOOP [Ty.int IntKind.i64,(Ty.int IntKind.i64).sl] (λ(rec1:Int->List Int->Prop) (z2:Int) (z3:List Int)=>IFB (decide (z2<(↑l.length:Int))) (JOIN [(Ty.int IntKind.i64).sl] (λ(y4:List Int)=>rec1 (IntKind.i64.wrap (z2+1)) y4) λ(J5:List Int->Prop)=>((0:Int)<=z2/\z2<(↑l.length:Int))/\∀(v6:Bool),(v6=true↔thereP {Number:=(ix l z2).1,From:=(ix l z2).2,Until:=(ix l z2).3,Parents:=(ix l z2).4,Days:=(ix l z2).5,Regions:=(ix l z2).6:api_Parcel} d)->IFB v6 ((z3.length+[(ix l z2).1].length) * (8:Nat)<=140737488355328/\J5 (z3++[(ix l z2).1])) (J5 z3)) (post z3)) ((0:Int),[],PUnit.unit))
theorem popen_w (l:List (api_Parcel))(d:Int)(post:dens (shT popen_sp.rs [])->Prop):popen_W l d (λy0=>post (y0,()))=walkG (callR Tryz.prog popen_C (drawF Tryz.prog tau) 8 0) 35 false [tv (.sl (.st .api_Parcel)) l,tv (.int .i64) d] popen_sp.rs post:=by kernel_rfl
theorem popen_of (h:∀l d post,popen_P l d post->popen_W l d post):SpecOK Tryz.prog popen_sp:=SpecOK.of_rules (C:=popen_C) (dr:=drawF Tryz.prog tau) (n:=8) (fk:=0) (.cons (rule1_ok pchk_ok) (.cons (rule1_ok pthe_ok) .nil)) (drawF_ok tau) λx post hp=>HoldW.of (popen_w x.1 x.2.1 post) (h x.1 x.2.1 (λy0=>post (y0,())) hp)
theorem openL_take {l:List Pc}{d:Int}{k:Nat}(hk:k<l.length):openL (l.take (k+1)) d=if thereP (ix l (k:Int)) d then openL (l.take k) d++[(ix l (k:Int)).Number] else openL (l.take k) d:=by
 unfold openL
 rw[List.take_succ_eq_append_getElem hk,List.filter_append,List.map_append,<-ix_lt hk]
 by_cases h:thereP (ix l (k:Int)) d
 ·rw[if_pos h];simp[List.filter_cons,h]
 ·rw[if_neg h];simp[List.filter_cons,h]
theorem openL_len {l:List Pc}{d:Int}:(openL l d).length<=l.length:=by
 unfold openL;rw[List.length_map];exact List.length_filter_le _ _
theorem popen_ok:SpecOK Tryz.prog popen_sp:=popen_of λl d post hp=>by
 obtain⟨hsz,hp⟩:=hp
 have hl:=hsz.len
 unfold popen_W
 unfold openS at hp
 refine⟨hsz,IFB.mk (λhb=> ?_) (λhb _=> ?_)⟩
 ·have hb:¬checkS l=0:=by simpa using hb
  rw[if_neg hb] at hp;exact hp
 have hb:checkS l=0:=by simpa using hb
 rw[if_pos hb] at hp
 refine LOOP.fuel2 (λ(z:Int) (b:List Int)=>∃k:Nat,z=(k:Int)/\k<=l.length/\b=openL (l.take k) d) (λz _=>l.length-Int.toNat z) ⟨0,rfl,Nat.zero_le _,rfl⟩ ?_
 rintro rec (z:Int) (b:List Int) ⟨k,i1,i2,i3⟩ hrec
 subst i1
 refine IFB.mk (λhb=> ?_) (λhb=> ?_)
 ·have hb:(k:Int)<l.length:=of_decide_eq_true hb
  have hk:k<l.length:=by omega
  have hbl:b.length<=1000000:=by
   have:=openL_len (l:=l.take k) (d:=d)
   rw[<-i3,List.length_take] at this;omega
  refine JOIN.opq λ(J:List Int->Prop) hJ=>⟨by omega,λv hv=> ?_⟩
  have fin:∀y:List Int,y=openL (l.take (k+1)) d->J y:=λy hy=>by
   rw[hJ]
   show rec (IntKind.i64.wrap ((k:Int)+1)) y
   rw[wrapS (by omega)]
   exact hrec ((k+1:Nat):Int) y ⟨k+1,rfl,hk,hy⟩ (by show l.length-((k+1:Nat):Int).toNat<l.length-(k:Int).toNat;omega)
  refine IFB.mk (λhc=>⟨by simp only[List.length_cons,List.length_nil];omega,fin _ ?_⟩) (λhc=>fin _ ?_)
  ·rw[openL_take hk,if_pos (hv.1 hc),<-i3]
  ·rw[openL_take hk,if_neg (λh=>by have:=hv.2 h;rw[hc] at this;cases this),<-i3]
 ·have hb:¬(k:Int)<l.length:=of_decide_eq_false hb
  have hk:k=l.length:=by omega
  rw[hk,List.take_length] at i3
  show post b
  rw[i3];exact hp
def pheirs_P (l:List (api_Parcel))(n:Int)(d:Int)(post:List (Int)->Int->Prop):Prop:=(szL l)/\post (heirsS l n d) (heirE l n d)
def pheirs_sp:Spec:=⟨25,false,true,[.sl (.st .api_Parcel),.int .i64,.int .i64],.tup [.dat (.sl (.int .i64)),.dat (.int .i64)],λx post=>pheirs_P (x.1:List (api_Parcel)) (x.2.1:Int) (x.2.2.1:Int) (λy0 y1=>post (y0,y1,()))⟩
def pheirs_C:CtxR:=⟨tau,[rule1 pchk_sp,rule1 pthe_sp],lookJ [(0,23,⟨[(49,.dat (.int .i64)),(10,.own 3 (.int .i64))],[(1,[.own 3 (.int .i64)])],(List.range' 50 27++[12]),[0],[]⟩),(0,34,⟨[(10,.own 3 (.int .i64))],[(1,[.own 3 (.int .i64)])],(List.range' 51 25++[12]),[3,2],[]⟩),(15973324467,0,⟨[(0,.dat (.int .i64))],[],[],[],[]⟩),(15973324467,5,⟨[(8,.dat (.int .i64))],[],(List.range' 9 8++[5,18]),[],[]⟩),(0,30,⟨[],[(1,[.own 3 (.int .i64)])],[53,54,55,56,57,58,59,60,61],[3],[]⟩),(13840490181,0,⟨[(0,.dat (.int .i64))],[],[],[],[]⟩),(13840490181,5,⟨[(8,.dat (.int .i64))],[],(List.range' 9 8++[5,18]),[],[]⟩),(15678551037977451609264491799,0,⟨[(0,.dat (.int .i64))],[],[],[],[]⟩),(15678551037977451609264491799,5,⟨[(8,.dat (.int .i64))],[],(List.range' 9 8++[5,18]),[],[]⟩)]⟩
abbrev pheirs_a0 (l:List (api_Parcel))(n:Int):=(sub l (IntKind.i64.wrap (n-(1:Int))) (↑l.length:Int))
def pheirs_W (l:List (api_Parcel))(n:Int)(d:Int)(post:List (Int)->Int->Prop):Prop:=szL l/\IFB (!decide (checkS l=0)) (post [] (checkS l)) (IFB (decide (d<0)||decide ((36864:Int)<d)) (post [] 9) ((gx false (decide (n<1))=true->(↑l.length:Int)<=9223372036854775807)->(gx false (decide (n<1)||decide ((↑l.length:Int)<n))=true->0<=IntKind.i64.wrap (n-1)/\IntKind.i64.wrap (n-1)<(↑l.length:Int))/\IFB (decide (n<1)||decide ((↑l.length:Int)<n)||decide (d<(ix l (IntKind.i64.wrap (n-1))).2)) (post [] 10) (((0:Int)<=IntKind.i64.wrap (n-1)/\IntKind.i64.wrap (n-1)<=(↑l.length:Int)/\(↑l.length:Int)<=(↑l.length:Int))/\((↑(pheirs_a0 l n).length:Int)<=9223372036854775807->LOOP [Ty.int IntKind.i64,(Ty.int IntKind.i64).sl,(Ty.int IntKind.i64).sl] (λ(rec1:Int->List Int->List Int->Prop) (z2:Int) (z3 z4:List Int)=>IFB (decide (z2<(↑(pheirs_a0 l n).length:Int))) (JOIN [(Ty.int IntKind.i64).sl,(Ty.int IntKind.i64).sl] (λ(y5 y6:List Int)=>rec1 (IntKind.i64.wrap (z2+1)) y5 y6) λ(J7:List Int->List Int->Prop)=>((0:Int)<=z2/\z2<(↑(pheirs_a0 l n).length:Int))/\JOIN [(Ty.int IntKind.i64).sl] (λ(y8:List Int)=>∀(v9:Bool),(v9=true↔thereP {Number:=(ix (pheirs_a0 l n) z2).1,From:=(ix (pheirs_a0 l n) z2).2,Until:=(ix (pheirs_a0 l n) z2).3,Parents:=(ix (pheirs_a0 l n) z2).4,Days:=(ix (pheirs_a0 l n) z2).5,Regions:=(ix (pheirs_a0 l n) z2).6:api_Parcel} d)->JOIN [Ty.bool] (λ(y10:Bool)=>IFB (v9&&y10) ((z3.length+[(ix (pheirs_a0 l n) z2).1].length) * (8:Nat)<=140737488355328/\J7 (z3++[(ix (pheirs_a0 l n) z2).1]) y8) (J7 z3 y8)) λ(J11:Bool->Prop)=>IFB (gx true v9) (JOIN [Ty.int IntKind.i64] (λ(y12:Int)=>J11 (decide ((0:Int)<=y12))) λ(J13:Int->Prop)=>(↑y8.length:Int)<=9223372036854775807->LOOP [Ty.int IntKind.i64] (λ(rec14:Int->Prop) (z15:Int)=>IFB (decide (z15<(↑y8.length:Int))) (((0:Int)<=z15/\z15<(↑y8.length:Int))/\IFB (decide ((ix (pheirs_a0 l n) z2).1=ix y8 z15)) (J13 z15) (rec14 (IntKind.i64.wrap (z15+1)))) (J13 (-1:Int))) ((0:Int),PUnit.unit)) (J11 false)) λ(J16:List Int->Prop)=>JOIN [Ty.int IntKind.i64] (λ(y17:Int)=>IFB (decide ((0:Int)<=y17)) ((z4.length+[(ix (pheirs_a0 l n) z2).1].length) * (8:Nat)<=140737488355328/\J16 (z4++[(ix (pheirs_a0 l n) z2).1])) (J16 z4)) λ(J18:Int->Prop)=>(↑(ix (pheirs_a0 l n) z2).4.length:Int)<=9223372036854775807->LOOP [Ty.int IntKind.i64] (λ(rec19:Int->Prop) (z20:Int)=>IFB (decide (z20<(↑(ix (pheirs_a0 l n) z2).4.length:Int))) (((0:Int)<=z20/\z20<(↑(ix (pheirs_a0 l n) z2).4.length:Int))/\JOIN [Ty.int IntKind.i64] (λ(y21:Int)=>IFB (decide ((0:Int)<=y21)) (J18 z20) (rec19 (IntKind.i64.wrap (z20+1)))) λ(J22:Int->Prop)=>(↑z4.length:Int)<=9223372036854775807->LOOP [Ty.int IntKind.i64] (λ(rec23:Int->Prop) (z24:Int)=>IFB (decide (z24<(↑z4.length:Int))) (((0:Int)<=z24/\z24<(↑z4.length:Int))/\IFB (decide (ix (ix (pheirs_a0 l n) z2).4 z20=ix z4 z24)) (J22 z24) (rec23 (IntKind.i64.wrap (z24+1)))) (J22 (-1:Int))) ((0:Int),PUnit.unit)) (J18 (-1:Int))) ((0:Int),PUnit.unit)) (post z3 0)) ((0:Int),[],[n],PUnit.unit)))))
theorem pheirs_w (l:List (api_Parcel))(n:Int)(d:Int)(post:dens (shT pheirs_sp.rs [])->Prop):pheirs_W l n d (λy0 y1=>post (y0,y1,()))=walkG (callR Tryz.prog pheirs_C (drawF Tryz.prog tau) 10 0) 25 false [tv (.sl (.st .api_Parcel)) l,tv (.int .i64) n,tv (.int .i64) d] pheirs_sp.rs post:=by kernel_rfl
theorem pheirs_of (h:∀l n d post,pheirs_P l n d post->pheirs_W l n d post):SpecOK Tryz.prog pheirs_sp:=SpecOK.of_rules (C:=pheirs_C) (dr:=drawF Tryz.prog tau) (n:=10) (fk:=0) (.cons (rule1_ok pchk_ok) (.cons (rule1_ok pthe_ok) .nil)) (drawF_ok tau) λx post hp=>HoldW.of (pheirs_w x.1 x.2.1 x.2.2.1 post) (h x.1 x.2.1 x.2.2.1 (λy0 y1=>post (y0,y1,())) hp)
theorem find_in {A:List Int}{x:Int}(hl:A.length<=1000000000){J:Int->Prop}(hy:x∈A->∀z:Int,0<=z->J z)(hn:x ∉ A->J (-1)):
 LOOP [Ty.int IntKind.i64] (λ(rec14:Int->Prop) (z15:Int)=>IFB (decide (z15<(A.length:Int))) (((0:Int)<=z15/\z15<(A.length:Int))/\IFB (decide (x=ix A z15)) (J z15) (rec14 (IntKind.i64.wrap (z15+(1:Int))))) (J (-1:Int))) ((0:Int),PUnit.unit):=by
 refine loopCmp (n:=A.length) hl (p:=λi=>¬x=ix A (i:Int)) (λrec k hk _ hrec=>⟨by omega,IFB.mk (λhb=> ?_) (λhb=>hrec (of_decide_eq_false hb))⟩) λhall=>hn λhx=> ?_
 ·have hb:x=ix A (k:Int):=of_decide_eq_true hb
  exact hy (by rw[hb];exact ix_mem (by omega) (by omega)) _ (by omega)
 ·obtain⟨i,hi,e⟩:=ix_ex hx
  exact hall i hi e.symm
set_option maxHeartbeats 1000000 in
theorem pheirs_ok:SpecOK Tryz.prog pheirs_sp:=pheirs_of λl n d post hp=>by
 obtain⟨hsz,hp⟩:=hp
 have hl:=hsz.len
 unfold pheirs_W pheirs_a0
 have bad:∀c:Int,heirE l n d=c->c≠0->post [] c:=λc he hc=>by
  have h1:heirsS l n d=[]:=by unfold heirsS;rw[if_neg (by rw[he];exact hc)]
  rw[h1,he] at hp;exact hp
 refine⟨hsz,IFB.mk (λhb=> ?_) (λhb=> ?_)⟩
 ·have hb:checkS l≠0:=by simpa using hb
  exact bad _ (by unfold heirE;rw[if_pos hb]) hb
 have hb:checkS l=0:=by simpa using hb
 refine IFB.mk (λhd=> ?_) (λhd=> ?_)
 ·have hd:d<0\/36864<d:=by simpa using hd
  exact bad 9 (by unfold heirE;rw[if_neg (λh=>h hb),if_pos hd]) (by decide)
 have hd:¬(d<0\/36864<d):=by
  intro h
  have:(decide (d<(0:Int))||decide ((36864:Int)<d))=true:=by simpa using h
  rw[this] at hd;cases hd
 intro _
 have hw:1<=n->n<=(l.length:Int)->IntKind.i64.wrap (n-1)=n-1:=λh1 h2=>wrap_in (by omega) (by omega)
 refine⟨λh=> ?_,IFB.mk (λhc=> ?_) (λhc=> ?_)⟩
 ·simp only[Bool.or_eq_true,Bool.and_eq_true,Bool.not_eq_true',Bool.not_eq_false',Bool.or_eq_false_iff,Bool.and_eq_false_iff,decide_eq_true_eq,decide_eq_false_iff_not,gx_t,gx_f] at h
  rw[hw (by omega) (by omega)];omega
 ·refine bad 10 ?_ (by decide)
  unfold heirE
  rw[if_neg (λh=>h hb),if_neg hd,if_pos]
  simp only[Bool.or_eq_true,Bool.and_eq_true,Bool.not_eq_true',Bool.not_eq_false',Bool.or_eq_false_iff,Bool.and_eq_false_iff,decide_eq_true_eq,decide_eq_false_iff_not,gx_t,gx_f] at hc
  rcases hc with (hc|hc)|hc
  ·exact .inl hc
  ·exact .inr (.inl hc)
  ·by_cases h1:n<1
   ·exact .inl h1
   by_cases h2:(l.length:Int)<n
   ·exact .inr (.inl h2)
   rw[hw (by omega) (by omega)] at hc
   exact .inr (.inr hc)
 simp only[Bool.or_eq_true,Bool.and_eq_true,Bool.not_eq_true',Bool.not_eq_false',Bool.or_eq_false_iff,Bool.and_eq_false_iff,decide_eq_true_eq,decide_eq_false_iff_not,gx_t,gx_f] at hc
 obtain⟨⟨c1,c2⟩,c3⟩:=hc
 rw[hw (by omega) (by omega)] at c3
 have he:heirE l n d=0:=by unfold heirE;rw[if_neg (λh=>h hb),if_neg hd,if_neg (by omega)]
 have hhs:heirsS l n d=heirsL l n d:=by unfold heirsS;rw[if_pos he]
 rw[hhs,he] at hp
 rw[hw (by omega) (by omega)]
 obtain⟨N,hN⟩:∃N:Nat,n=(N:Int)+1:=⟨(n-1).toNat,by omega⟩
 subst hN
 rw[show (N:Int)+1-1=(N:Int) by omega,sub_back]
 unfold heirsL at hp
 rw[show ((N:Int)+1-1).toNat=N by omega] at hp
 refine⟨by omega,λ_=> ?_⟩
 have hsd:∀p∈l.drop N,szP p:=λp hp=>hsz.all p (List.mem_of_mem_drop hp)
 have hdl:(l.drop N).length<=1000000:=by rw[List.length_drop];omega
 generalize l.drop N=L at hsd hdl hp ⊢
 refine LOOP.fuel3 (λ(z:Int) (b c:List Int)=>∃k:Nat,z=(k:Int)/\k<=L.length/\(c,b)=(L.take k).foldl (hStep d) ([(N:Int)+1],[])/\b.length<=k/\c.length<=k+1) (λz _ _=>L.length-Int.toNat z) ⟨0,rfl,Nat.zero_le _,rfl,Nat.le_refl _,Nat.le_refl _⟩ ?_
 rintro rec (z:Int) (b:List Int) (c:List Int) ⟨k,i1,i2,i3,i4,i5⟩ hrec
 subst i1
 refine IFB.mk (λhb=> ?_) (λhb=> ?_)
 ·have hb:(k:Int)<L.length:=of_decide_eq_true hb
  have hk:k<L.length:=by omega
  have hm:=ix_mem (l:=L) (i:=(k:Int)) (by omega) (by omega)
  have hx:=hsd _ hm
  have hst:(L.take (k+1)).foldl (hStep d) ([(N:Int)+1],[])=hStep d (c,b) (ix L (k:Int)):=by rw[fold_take hk,<-i3]
  refine JOIN.opq λ(J7:List Int->List Int->Prop) hJ7=>⟨by omega,?_⟩
  have k7:∀(u v:List Int),(v,u)=hStep d (c,b) (ix L (k:Int))->u.length<=k+1->v.length<=k+2->J7 u v:=λu v h h1 h2=>by
   rw[hJ7]
   show rec (IntKind.i64.wrap ((k:Int)+1)) u v
   rw[wrapS (by omega)]
   exact hrec ((k+1:Nat):Int) u v ⟨k+1,rfl,hk,h.trans hst.symm,h1,h2⟩ (by show L.length-((k+1:Nat):Int).toNat<L.length-(k:Int).toNat;omega)
  have hpl:(ix L (k:Int)).4.length<=1000000:=hx.pars
  generalize ix L (k:Int)=p at k7 hpl ⊢
  refine JOIN.opq λ(J16:List Int->Prop) hJ16=> ?_
  have k16:∀v:List Int,v=(if ∃q∈p.Parents,q∈c then c++[p.Number] else c)->v.length<=k+2->J16 v:=λv hv hvl=>by
   rw[hJ16]
   intro v9 h9
   refine JOIN.opq λ(J10:Bool->Prop) hJ10=> ?_
   have k10:∀y:Bool,((v9&&y)=true↔thereP p d/\p.Number∈v)->J10 y:=λy hy=>by
    rw[hJ10]
    refine IFB.mk (λh=>⟨by simp only[List.length_cons,List.length_nil];omega,k7 _ v ?_ (by simp;omega) hvl⟩) (λh=>k7 b v ?_ (by omega) hvl)
    ·unfold hStep;dsimp only;rw[<-hv,if_pos (hy.1 h)]
    ·unfold hStep;dsimp only;rw[<-hv,if_neg (λh2=>by have:=hy.2 h2;rw[h] at this;cases this)]
   refine IFB.mk (λhg=> ?_) (λhg=>k10 false ?_)
   ·have hg:v9=true:=by rw[gx_t] at hg;exact hg
    refine JOIN.opq λ(J13:Int->Prop) hJ13 _=> ?_
    refine find_in (by omega) (λhx z h0=> ?_) (λhx=> ?_)
    ·rw[hJ13]
     refine k10 _ ?_
     rw[hg,Bool.true_and,decide_eq_true_iff]
     exact⟨λ_=>⟨h9.1 hg,hx⟩,λ_=>h0⟩
    ·rw[hJ13]
     refine k10 _ ?_
     rw[hg,Bool.true_and]
     exact⟨λh=>absurd (of_decide_eq_true h) (by decide),λh=>absurd h.2 hx⟩
   ·have hg:v9=false:=by rw[gx_t] at hg;exact hg
    rw[Bool.and_false]
    exact⟨λh=>(by cases h),λh=>by have:=h9.2 h.1;rw[hg] at this;cases this⟩
  refine JOIN.opq λ(J17:Int->Prop) hJ17 _=> ?_
  have yes:(∃q∈p.Parents,q∈c)->∀z:Int,0<=z->J17 z:=λh z h0=>by
   rw[hJ17]
   refine IFB.yes (decide_eq_true h0) ⟨by simp only[List.length_cons,List.length_nil];omega,k16 _ (by rw[if_pos h]) (by simp;omega)⟩
  refine loopCmp (n:=p.4.length) (by omega) (p:=λi=>ix p.4 (i:Int) ∉ c) (λrec2 j hj _ hrec2=>⟨by omega,?_⟩) λhall=> ?_
  ·refine JOIN.opq λ(J22:Int->Prop) hJ22 _=> ?_
   refine find_in (by omega) (λhx z h0=> ?_) (λhx=> ?_)
   ·rw[hJ22]
    exact IFB.yes (decide_eq_true h0) (yes ⟨_,ix_mem (l:=p.Parents) (i:=(j:Int)) (by omega) (by omega),hx⟩ _ (by omega))
   ·rw[hJ22]
    exact IFB.no rfl (hrec2 hx)
  ·rw[hJ17]
   refine IFB.no rfl (k16 c ?_ (by omega))
   rw[if_neg]
   rintro ⟨q,hq,hqc⟩
   obtain⟨i,hi,rfl⟩:=ix_ex hq
   exact hall i hi hqc
 ·have hb:¬(k:Int)<L.length:=of_decide_eq_false hb
  have hk:k=L.length:=by omega
  rw[hk,List.take_length] at i3
  rw[<-i3] at hp
  exact hp
theorem asc_len {l:List Int}(h:asc l){a b:Int}(h0:0<l.length)(ha:a<=ix l 0)(hb:ix l ((l.length:Int)-1)<=b):(l.length:Int)<=b-a+1:=by
 have key:∀k:Nat,k<l.length->a+(k:Int)<=ix l (k:Int):=λk=>by
  induction k with
  |zero=>intro _;simpa using ha
  |succ k ih=>
   intro hk
   have:=ih (by omega)
   have:=h k hk
   push_cast
   push_cast at this
   omega
 have:=key (l.length-1) (by omega)
 rw[show ((l.length-1:Nat):Int)=(l.length:Int)-1 by omega] at this
 omega
theorem regP_num {l:List Pc}(h:regP l){i:Nat}(hi:i<l.length):(ix l (i:Int)).Number=(i:Int)+1:=by
 have:=(h.1 i hi).1
 rw[List.length_take] at this
 rw[this];omega
theorem regP_out {l:List Pc}(h:regP l):∀p∈l,outP p/\0<=p.From/\p.From<=p.Until/\p.Until<=36865:=λp hp=>by
 obtain⟨i,hi,rfl⟩:=ix_ex hp
 obtain⟨_,h2,h3,h4,_,h5,_⟩:=h.1 i hi
 exact⟨h5,h2,h3,h4⟩
theorem regP_dlen {l:List Pc}(h:regP l):∀p∈l,p.Days.length<=36865:=λp hp=>by
 obtain⟨⟨o1,o2,o3,o4,o5,_⟩,f0,_⟩:=regP_out h p hp
 have:=asc_len o4 (a:=0) (b:=36864) o1 (by rw[o3];exact f0) (by omega)
 omega
theorem set_mem {α:Type}{l:List α}{k:Nat}{y x:α}(h:x∈l.set k y):x∈l\/x=y:=List.mem_or_eq_of_mem_set h
theorem endP_mem {day:Int}{l:List Pc}{k:Int}{p:Pc}(h1:1<=k)(h2:k<=(l.length:Int))(h:p∈endP day l k):∃q∈l,p.Number=q.Number/\p.From=q.From/\p.Parents=q.Parents/\p.Days=q.Days/\p.Regions=q.Regions:=by
 rcases set_mem h with h|h
 ·exact⟨p,h,rfl,rfl,rfl,rfl,rfl⟩
 ·exact⟨_,ix_mem (l:=l) (i:=k-1) (by omega) (by omega),by rw[h],by rw[h],by rw[h],by rw[h],by rw[h]⟩
theorem endL_mem {day:Int}:∀{ps:List Int}{l:List Pc}{p:Pc},(∀k∈ps,1<=k/\k<=(l.length:Int))->p∈endL day l ps->∃q∈l,p.Number=q.Number/\p.From=q.From/\p.Parents=q.Parents/\p.Days=q.Days/\p.Regions=q.Regions
 |[],l,p,_,h=>⟨p,h,rfl,rfl,rfl,rfl,rfl⟩
 |k::ps,l,p,hk,h=>by
  obtain⟨q,hq,a1,a2,a3,a4,a5⟩:=endL_mem (ps:=ps) (l:=endP day l k) (λj hj=>by rw[endP_len];exact hk j (by simp[hj])) h
  obtain⟨r,hr,b1,b2,b3,b4,b5⟩:=endP_mem (hk k (by simp)).1 (hk k (by simp)).2 hq
  exact⟨r,hr,a1.trans b1,a2.trans b2,a3.trans b3,a4.trans b4,a5.trans b5⟩
theorem addL_mem {day:Int}{ps:List Int}:∀{rs:List Rn}{l:List Pc}{p:Pc},p∈addL day ps l rs->p∈l\/∃(n:Int)(a:Rn),a∈rs/\p=newP n day ps a
 |[],l,p,h=> .inl h
 |a::rs,l,p,h=>by
  rcases addL_mem (rs:=rs) (l:=l++[newP ((l.length:Int)+1) day ps a]) h with h|⟨n,b,hb,h⟩
  ·rcases List.mem_append.1 h with h|h
   ·exact .inl h
   ·exact .inr ⟨_,a,by simp,by simpa using h⟩
  ·exact .inr ⟨n,b,by simp[hb],h⟩
theorem szP_like {p q:Pc}(h:szP q)(h3:p.Parents=q.Parents)(h4:p.Days=q.Days)(h5:p.Regions=q.Regions):szP p:=⟨by rw[h4];exact h.days,by rw[h5];exact h.regs,by rw[h3];exact h.pars,by rw[h5];exact h.rect⟩
theorem szP_new {n day:Int}{ps:List Int}{a:Rn}(h1:ps.length<=1000000)(h2:a.Rects.length<=1000000):szP (newP n day ps a):=⟨by simp[newP],by simp[newP],h1,λb hb=>by
 have:b=a:=by simpa [newP] using hb
 rw[this];exact h2⟩
theorem szL_add {day:Int}{ps:List Int}{l:List Pc}{rs:List Rn}(h:szL l)(h1:ps.length<=1000000)(h2:∀a∈rs,a.Rects.length<=1000000)(h3:l.length+rs.length<=1000000):szL (addL day ps l rs):=⟨by rw[addL_len];exact h3,λp hp=>by
 rcases addL_mem hp with hp|⟨n,a,ha,rfl⟩
 ·exact h.all p hp
 ·exact szP_new h1 (h2 a ha)⟩
theorem szL_end {day:Int}{ps:List Int}{l:List Pc}(h:szL l)(h1:∀k∈ps,1<=k/\k<=(l.length:Int)):szL (endL day l ps):=⟨by rw[endL_len];exact h.len,λp hp=>by
 obtain⟨q,hq,_,_,a3,a4,a5⟩:=endL_mem h1 hp
 exact szP_like (h.all q hq) a3 a4 a5⟩
theorem applyS_sz {l:List Pc}{e:Ed}(h:szL l)(he:szE e):szL (applyS l e).1:=by
 by_cases h0:editS l e=0
 rotate_left
 ·rw[applyS_err h0];exact h
 obtain⟨e1,e2,e3,⟨e4,e5⟩,e6,e7⟩:=editS_0.1 h0
 obtain⟨h60,hreg⟩:=checkS_0.1 e1
 have hop:∀k∈e.Parcels,1<=k/\k<=(l.length:Int):=λk hk=>⟨(e6 k hk).1,(e6 k hk).2.1⟩
 unfold applyS
 rw[if_neg (λh=>h h0)]
 have hrs:e.Regions.length<=8:=by unfold fitsP at e4;omega
 split
 ·split
  ·exact h
  ·split
   ·exact h
   ·exact szL_add h (by simp) he.rect (by omega)
 split
 ·rename_i hk
  split
  ·exact h
  ·have hps:e.Parcels.length=1:=by unfold fitsP at e4;omega
   have hrs1:e.Regions.length=1:=by unfold fitsP at e4;omega
   have hm:=ix_mem (l:=e.Parcels) (i:=0) (by omega) (by omega)
   obtain⟨o1,o2⟩:=hop _ hm
   have hq:=ix_mem (l:=l) (i:=ix e.Parcels 0-1) (by omega) (by omega)
   have hs:=h.all _ hq
   have hd:=regP_dlen hreg _ hq
   have hdr:=(regP_days hreg _ hq).2
   have hr0:=he.rect _ (ix_mem (l:=e.Regions) (i:=0) (by omega) (by omega))
   refine⟨by rw[List.length_set];exact h.len,λp hp=> ?_⟩
   rcases set_mem hp with hp|rfl
   ·exact h.all p hp
   ·generalize ix l (ix e.Parcels 0-1)=q at hs hd hdr
    unfold drawnP
    split
    ·exact⟨hs.days,by show (List.set _ _ _).length<=_;rw[List.length_set];exact hs.regs,hs.pars,λa ha=>by
      rcases set_mem ha with ha|rfl
      ·exact hs.rect a ha
      ·exact hr0⟩
    ·refine⟨by show (q.Days++[e.Day]).length<=_;rw[List.length_append,List.length_singleton];omega,by show (q.Regions++[ix e.Regions 0]).length<=_;rw[List.length_append,List.length_singleton];omega,hs.pars,λa ha=> ?_⟩
     rcases List.mem_append.1 ha with ha|ha
     ·exact hs.rect a ha
     ·rw[List.mem_singleton.1 ha];exact hr0
 split
 ·split
  ·exact h
  ·split
   ·exact h
   ·split
    ·exact h
    ·exact szL_add (szL_end h hop) he.pars he.rect (by rw[endL_len];omega)
 split
 ·split
  ·exact h
  ·split
   ·exact h
   ·rename_i hc _
    refine szL_add (szL_end h hop) he.pars (λa ha=> ?_) (by rw[endL_len];simp;omega)
    rw[List.mem_singleton.1 ha]
    show (canonF _).length<=_
    omega
 ·exact szL_end h hop
theorem szL_nil:szL []:=⟨by simp,λp hp=>by cases hp⟩
theorem runG_take {x:List Pc}{i:Int}:∀{l:List Ed},(∀e∈l,szE e)->szL x->szL (runG x i l).1:=by
 intro l
 induction l generalizing x i with
 |nil=>exact λ_ h=>h
 |cons e r ih=>
  intro he hx
  unfold runG
  split
  ·exact hx
  ·exact ih (λe' h'=>he e' (by simp[h'])) (applyS_sz hx (he e (by simp)))
theorem hStep_2 (d:Int)(s:List Int×List Int)(p:Pc):(hStep d s p).2=s.2++[p.Number]\/(hStep d s p).2=s.2:=by
 unfold hStep
 generalize (if ∃k,k∈p.Parents/\k∈s.1 then s.1++[p.Number] else s.1)=fam
 dsimp only
 split
 ·exact .inl rfl
 ·exact .inr rfl
theorem hStep_mem {d:Int}:∀{L:List Pc}{s:List Int×List Int}{k:Int},k∈(L.foldl (hStep d) s).2->k∈s.2\/∃p∈L,p.Number=k
 |[],s,k,h=> .inl h
 |p::L,s,k,h=>by
  rcases hStep_mem (L:=L) (s:=hStep d s p) h with h|⟨q,hq,e⟩
  ·rcases hStep_2 d s p with e|e<;>rw[e] at h
   ·rcases List.mem_append.1 h with h|h
    ·exact .inl h
    ·exact .inr ⟨p,by simp,(List.mem_singleton.1 h).symm⟩
   ·exact .inl h
  ·exact .inr ⟨q,by simp[hq],e⟩
theorem hStep_len {d:Int}:∀{L:List Pc}{s:List Int×List Int},(L.foldl (hStep d) s).2.length<=s.2.length+L.length
 |[],s=>Nat.le_refl _
 |p::L,s=>by
  have h1:=hStep_len (d:=d) (L:=L) (s:=hStep d s p)
  have h2:(hStep d s p).2.length<=s.2.length+1:=by
   rcases hStep_2 d s p with e|e<;>rw[e]
   ·simp
   ·omega
  rw[List.foldl_cons,List.length_cons];omega
theorem heirsL_ok {l:List Pc}(h:regP l){n d k:Int}(hk:k∈heirsL l n d):1<=k/\k<=(l.length:Int):=by
 rcases hStep_mem hk with hk|⟨p,hp,e⟩
 ·cases hk
 ·obtain⟨i,hi,rfl⟩:=ix_ex (List.mem_of_mem_drop hp)
  rw[regP_num h hi] at e
  omega
theorem heirsL_len {l:List Pc}{n d:Int}:(heirsL l n d).length<=l.length:=by
 have:=hStep_len (d:=d) (L:=l.drop (n-1).toNat) (s:=([n],[]))
 rw[List.length_drop] at this
 unfold heirsL
 simp only[List.length_nil] at this
 omega
theorem heirE_0 {l:List Pc}{n d:Int}:heirE l n d=0↔checkS l=0/\0<=d/\d<=36864/\1<=n/\n<=(l.length:Int)/\(ix l (n-1)).From<=d:=by
 unfold heirE
 split
 ·rename_i h;exact⟨λh2=>absurd h2 h,λh2=>absurd h2.1 h⟩
 rename_i h1
 have h1:checkS l=0:=Classical.byContradiction h1
 split
 ·exact⟨λh=>(by cases h),λh=>by omega⟩
 split
 ·exact⟨λh=>(by cases h),λh=>by omega⟩
 ·exact⟨λ_=>⟨h1,by omega,by omega,by omega,by omega,by omega⟩,λ_=>rfl⟩
def pshare_P (l:List (api_Parcel))(n:Int)(d:Int)(post:List (arr2_i64)->Int->Prop):Prop:=(szL l)/\post (shareS l n d) (heirE l n d)
def pshare_sp:Spec:=⟨26,false,true,[.sl (.st .api_Parcel),.int .i64,.int .i64],.tup [.dat (.sl (.st .arr2_i64)),.dat (.int .i64)],λx post=>pshare_P (x.1:List (api_Parcel)) (x.2.1:Int) (x.2.2.1:Int) (λy0 y1=>post (y0,y1,()))⟩
def pshare_C:CtxR:=⟨tau,[rule1 pheirs_sp,rule1 pout_sp,ruleC pchoA_sp 90,rule1 psz_sp],lookJ [(0,15,⟨[(34,.dat (.int .i64)),(11,.own 59 (.st .arr2_i64))],[],(List.range' 35 22++[13,14]),[],[]⟩),(0,1000009,⟨[(14,.dat (.sl (.st .api_Rect)))],[],(List.range' 38 11),[],[]⟩)]⟩
abbrev pshare_a0 (l:List (api_Parcel))(n:Int)(d:Int)(z2:Int):=(outlS {Number:=(ix l (IntKind.i64.wrap (ix (heirsS l n d) z2-(1:Int)))).1,From:=(ix l (IntKind.i64.wrap (ix (heirsS l n d) z2-(1:Int)))).2,Until:=(ix l (IntKind.i64.wrap (ix (heirsS l n d) z2-(1:Int)))).3,Parents:=(ix l (IntKind.i64.wrap (ix (heirsS l n d) z2-(1:Int)))).4,Days:=(ix l (IntKind.i64.wrap (ix (heirsS l n d) z2-(1:Int)))).5,Regions:=(ix l (IntKind.i64.wrap (ix (heirsS l n d) z2-(1:Int)))).6:api_Parcel} d)
abbrev pshare_a1 (l:List (api_Parcel))(n:Int)(d:Int):=(outlS {Number:=(ix l (IntKind.i64.wrap (n-(1:Int)))).1,From:=(ix l (IntKind.i64.wrap (n-(1:Int)))).2,Until:=(ix l (IntKind.i64.wrap (n-(1:Int)))).3,Parents:=(ix l (IntKind.i64.wrap (n-(1:Int)))).4,Days:=(ix l (IntKind.i64.wrap (n-(1:Int)))).5,Regions:=(ix l (IntKind.i64.wrap (n-(1:Int)))).6:api_Parcel} d)
def pshare_W (l:List (api_Parcel))(n:Int)(d:Int)(post:List (arr2_i64)->Int->Prop):Prop:=szL l/\IFB (!decide (heirE l n d=0)) (post [] (heirE l n d)) (((0:Int)<=IntKind.i64.wrap (n-1)/\IntKind.i64.wrap (n-1)<(↑l.length:Int))/\((ix l (IntKind.i64.wrap (n-1))).5.length=(ix l (IntKind.i64.wrap (n-1))).6.length/\0<(ix l (IntKind.i64.wrap (n-1))).6.length/\(ix l (IntKind.i64.wrap (n-1))).6.length<=1000000)/\((↑(heirsS l n d).length:Int)<=9223372036854775807->LOOP [Ty.int IntKind.i64,(Ty.st Sn.arr2_i64).sl] (λ(rec1:Int->List arr2_i64->Prop) (z2:Int) (z3:List arr2_i64)=>IFB (decide (z2<(↑(heirsS l n d).length:Int))) (((0:Int)<=z2/\z2<(↑(heirsS l n d).length:Int))/\JOIN [(Ty.st Sn.api_Rect).sl] (λ(y4:List api_Rect)=>((∀(v5:api_Rect),v5∈y4->0<=v5.1/\v5.1<v5.3/\v5.3<=16384/\0<=v5.2/\v5.2<v5.4/\v5.4<=16384)/\y4.length<=268435456)/\(z3.length+[(⟨ix (heirsS l n d) z2,sizeS y4⟩:arr2_i64)].length) * (16:Nat)<=140737488355328/\rec1 (IntKind.i64.wrap (z2+1)) (z3++[(⟨ix (heirsS l n d) z2,sizeS y4⟩:arr2_i64)])) λ(J6:List api_Rect->Prop)=>((0:Int)<=IntKind.i64.wrap (ix (heirsS l n d) z2-1)/\IntKind.i64.wrap (ix (heirsS l n d) z2-1)<(↑l.length:Int))/\((ix l (IntKind.i64.wrap (ix (heirsS l n d) z2-1))).5.length=(ix l (IntKind.i64.wrap (ix (heirsS l n d) z2-1))).6.length/\0<(ix l (IntKind.i64.wrap (ix (heirsS l n d) z2-1))).6.length/\(ix l (IntKind.i64.wrap (ix (heirsS l n d) z2-1))).6.length<=1000000)/\(((∀(v7:api_Rect),v7∈(pshare_a1 l n d).1->0<=v7.1/\v7.1<v7.3/\v7.3<=16384/\0<=v7.2/\v7.2<v7.4/\v7.4<=16384)/\(pshare_a1 l n d).1.length<=8000)/\(∀(v8:api_Rect),v8∈(pshare_a0 l n d z2).1->0<=v8.1/\v8.1<v8.3/\v8.3<=16384/\0<=v8.2/\v8.2<v8.4/\v8.4<=16384)/\(pshare_a0 l n d z2).1.length<=8000)/\J6 (canonF λ(x y:Int)=>howS (2:Int) (cov (pshare_a1 l n d).1 x y) (cov (pshare_a0 l n d z2).1 x y))) (post z3 0)) ((0:Int),[],PUnit.unit)))
theorem pshare_w (l:List (api_Parcel))(n:Int)(d:Int)(post:dens (shT pshare_sp.rs [])->Prop):pshare_W l n d (λy0 y1=>post (y0,y1,()))=walkG (callR Tryz.prog pshare_C (drawF Tryz.prog tau) 10 0) 26 false [tv (.sl (.st .api_Parcel)) l,tv (.int .i64) n,tv (.int .i64) d] pshare_sp.rs post:=by kernel_rfl
theorem pshare_of (h:∀l n d post,pshare_P l n d post->pshare_W l n d post):SpecOK Tryz.prog pshare_sp:=SpecOK.of_rules (C:=pshare_C) (dr:=drawF Tryz.prog tau) (n:=10) (fk:=0) (.cons (rule1_ok pheirs_ok) (.cons (rule1_ok pout_ok) (.cons (ruleC_ok pchoA_ok) (.cons (rule1_ok psz_ok) .nil)))) (drawF_ok tau) λx post hp=>HoldW.of (pshare_w x.1 x.2.1 x.2.2.1 post) (h x.1 x.2.1 x.2.2.1 (λy0 y1=>post (y0,y1,())) hp)
set_option maxHeartbeats 1000000 in
theorem pshare_ok:SpecOK Tryz.prog pshare_sp:=pshare_of λl n d post hp=>by
 obtain⟨hsz,hp⟩:=hp
 have hl:=hsz.len
 unfold pshare_W pshare_a1 pshare_a0
 refine⟨hsz,IFB.mk (λhb=> ?_) (λhb=> ?_)⟩
 ·have hb:heirE l n d≠0:=by simpa using hb
  have hs:shareS l n d=[]:=by unfold shareS;rw[if_neg hb]
  rw[hs] at hp;exact hp
 have hb:heirE l n d=0:=by simpa using hb
 obtain⟨h0,d1,d2,n1,n2,n3⟩:=heirE_0.1 hb
 have hreg:=(checkS_0.1 h0).2
 have hhs:heirsS l n d=heirsL l n d:=by unfold heirsS;rw[if_pos hb]
 have hs:shareS l n d=shareL l n d (heirsL l n d):=by unfold shareS;rw[if_pos hb]
 rw[hs,hb] at hp
 rw[hhs]
 obtain⟨m1,m2,m3,m4,m5⟩:=reg_days hsz h0 n1 n2
 rw[m5]
 have hhl:=heirsL_len (l:=l) (n:=n) (d:=d)
 have hpo:∀k:Int,1<=k->k<=(l.length:Int)->(∀r∈(outlS (ix l (k-1)) d).1,proper r)/\(outlS (ix l (k-1)) d).1.length<=120:=λk k1 k2=>by
  obtain⟨q1,q2,q3,q4,q5⟩:=reg_days hsz h0 k1 k2
  have:=regP_prop hreg _ q1 _ (outlF_mem (d:=d) (n:=(ix l (k-1)).5.length) q3 (by rw[q2];exact Nat.le_refl _))
  exact⟨this.2.2.1,this.2.1⟩
 have ho:=hpo n n1 n2
 refine⟨by omega,⟨m2,m3,m4⟩,λ_=> ?_⟩
 generalize hHe:heirsL l n d=H at hp hhl ⊢
 refine LOOP.fuel2 (λ(z:Int) (b:List arr2_i64)=>∃k:Nat,z=(k:Int)/\k<=H.length/\b=shareL l n d (H.take k)) (λz _=>H.length-Int.toNat z) ⟨0,rfl,Nat.zero_le _,rfl⟩ ?_
 rintro rec (z:Int) (b:List arr2_i64) ⟨k,i1,i2,i3⟩ hrec
 subst i1
 refine IFB.mk (λhb=> ?_) (λhb=> ?_)
 ·have hb:(k:Int)<H.length:=of_decide_eq_true hb
  have hk:k<H.length:=by omega
  have hbl:b.length=k:=by rw[i3];unfold shareL;rw[List.length_map,List.length_take];omega
  obtain⟨k1,k2⟩:=heirsL_ok hreg (n:=n) (d:=d) (k:=ix H (k:Int)) (by rw[hHe];exact ix_mem (by omega) (by omega))
  obtain⟨q1,q2,q3,q4,q5⟩:=reg_days hsz h0 k1 k2
  have hq:=hpo _ k1 k2
  rw[q5]
  refine⟨by omega,JOIN.opq λ(J:List Rc->Prop) hJ=>⟨by omega,⟨q2,q3,q4⟩,⟨⟨ho.1,?_⟩,hq.1,?_⟩,?_⟩⟩
  ·have:=ho.2;show (outlS (ix l (n-1)) d).1.length<=_;omega
  ·have:=hq.2;show (outlS (ix l (ix H (k:Int)-1)) d).1.length<=_;omega
  rw[hJ]
  have hc:=comb_ok (howS_0 2) (outlS (ix l (n-1)) d).1 (outlS (ix l (ix H (k:Int)-1)) d).1
  have hbox:∀x y,cov (canonF (comb (howS 2) (outlS (ix l (n-1)) d).1 (outlS (ix l (ix H (k:Int)-1)) d).1)) x y=true->0<=x/\x<16384/\0<=y/\y<16384:=λx y h=>by
   rw[hc.2] at h
   unfold comb howS at h
   have h:(cov (outlS (ix l (n-1)) d).1 x y&&cov (outlS (ix l (ix H (k:Int)-1)) d).1 x y)=true:=h
   exact proper_box ho.1 (Bool.and_eq_true_iff.1 h).1
  have hpr:∀r∈canonF (comb (howS 2) (outlS (ix l (n-1)) d).1 (outlS (ix l (ix H (k:Int)-1)) d).1),proper r:=λr hr=>by
   have:=canon_box hc.1 hbox r hr
   exact⟨this.1,this.2.1,this.2.2.1,this.2.2.2.1,this.2.2.2.2.1,this.2.2.2.2.2⟩
  refine⟨⟨hpr,box_len hc.1 hbox⟩,by simp only[List.length_cons,List.length_nil];omega,?_⟩
  rw[wrapS (by omega)]
  refine hrec ((k+1:Nat):Int) _ ⟨k+1,rfl,hk,?_⟩ (by show H.length-((k+1:Nat):Int).toNat<H.length-(k:Int).toNat;omega)
  rw[i3]
  unfold shareL
  rw[List.take_succ_eq_append_getElem hk,List.map_append,<-ix_lt hk]
  rfl
 ·have hb:¬(k:Int)<H.length:=of_decide_eq_false hb
  have hk:k=H.length:=by omega
  rw[hk,List.take_length] at i3
  show post b 0
  rw[i3];exact hp
def prun_P (l:List (api_Edit))(post:List (api_Parcel)->Int->Int->Prop):Prop:=(l.length<=1000000/\∀e∈l,szE e/\e.Kind≠2)/\post ((runS l).1) ((runS l).2.1) ((runS l).2.2)
def prun_sp:Spec:=⟨33,false,true,[.sl (.st .api_Edit)],.tup [.dat (.sl (.st .api_Parcel)),.dat (.int .i64),.dat (.int .i64)],λx post=>prun_P (x.1:List (api_Edit)) (λy0 y1 y2=>post (y0,y1,y2,()))⟩
def prun_C:CtxR:=⟨tau,[rule1 pappN_sp],lookJ [(0,11,⟨[(15,.dat (.int .i64)),(5,.dat (.sl (.st .api_Parcel)))],[],(List.range' 16 12++[6,7,8,9,31,32]),[],[]⟩)]⟩
def prun_W (l:List (api_Edit))(post:List (api_Parcel)->Int->Int->Prop):Prop:=(↑l.length:Int)<=9223372036854775807->IFB (decide ((120:Int)<(↑l.length:Int))) (post [] (0:Int) 1) ((↑l.length:Int)<=9223372036854775807->LOOP [Ty.int IntKind.i64,(Ty.st Sn.api_Parcel).sl] (λ(rec1:Int->List api_Parcel->Prop) (z2:Int) (z3:List api_Parcel)=>IFB (decide (z2<(↑l.length:Int))) (((0:Int)<=z2/\z2<(↑l.length:Int))/\(szL z3/\szE {Day:=(ix l z2).1,Known:=(ix l z2).2,Kind:=(ix l z2).3,Parcels:=(ix l z2).4,Regions:=(ix l z2).5:api_Edit}/\((ix l z2).3=2->False))/\IFB (!decide ((applyS z3 {Day:=(ix l z2).1,Known:=(ix l z2).2,Kind:=(ix l z2).3,Parcels:=(ix l z2).4,Regions:=(ix l z2).5:api_Edit}).2=0)) (post z3 z2 (applyS z3 {Day:=(ix l z2).1,Known:=(ix l z2).2,Kind:=(ix l z2).3,Parcels:=(ix l z2).4,Regions:=(ix l z2).5:api_Edit}).2) (rec1 (IntKind.i64.wrap (z2+1)) (applyS z3 {Day:=(ix l z2).1,Known:=(ix l z2).2,Kind:=(ix l z2).3,Parcels:=(ix l z2).4,Regions:=(ix l z2).5:api_Edit}).1)) ((↑l.length:Int)<=9223372036854775807->post z3 (↑l.length:Int) 0)) ((0:Int),[],PUnit.unit))
theorem prun_w (l:List (api_Edit))(post:dens (shT prun_sp.rs [])->Prop):prun_W l (λy0 y1 y2=>post (y0,y1,y2,()))=walkG (callR Tryz.prog prun_C (drawF Tryz.prog tau) 10 0) 33 false [tv (.sl (.st .api_Edit)) l] prun_sp.rs post:=by kernel_rfl
theorem prun_of (h:∀l post,prun_P l post->prun_W l post):SpecOK Tryz.prog prun_sp:=SpecOK.of_rules (C:=prun_C) (dr:=drawF Tryz.prog tau) (n:=10) (fk:=0) (.cons (rule1_ok pappN_ok) .nil) (drawF_ok tau) λx post hp=>HoldW.of (prun_w x.1 post) (h x.1 (λy0 y1 y2=>post (y0,y1,y2,())) hp)
theorem runG_ok {l:List Ed}{K:List Pc->Int->Int->Prop}{x:List Pc}{k:Nat}(hk:k<=l.length)(h:K (runG x (k:Int) (l.drop k)).1 (runG x (k:Int) (l.drop k)).2.1 (runG x (k:Int) (l.drop k)).2.2):(k=l.length->K x (l.length:Int) 0)/\(k<l.length->if (applyS x (ix l (k:Int))).2≠0 then K x (k:Int) (applyS x (ix l (k:Int))).2 else K (runG (applyS x (ix l (k:Int))).1 ((k+1:Nat):Int) (l.drop (k+1))).1 (runG (applyS x (ix l (k:Int))).1 ((k+1:Nat):Int) (l.drop (k+1))).2.1 (runG (applyS x (ix l (k:Int))).1 ((k+1:Nat):Int) (l.drop (k+1))).2.2):=by
 refine⟨λe=> ?_,λhlt=> ?_⟩
 ·subst e
  rw[List.drop_length] at h
  exact h
 ·have hd:l.drop k=ix l (k:Int)::l.drop (k+1):=by rw[ix_lt hlt];exact List.drop_eq_getElem_cons hlt
  rw[hd] at h
  unfold runG at h
  split
  ·rename_i h0
   rw[if_pos h0] at h;exact h
  ·rename_i h0
   rw[if_neg h0] at h
   exact h
theorem prun_ok:SpecOK Tryz.prog prun_sp:=prun_of λl post hp=>by
 obtain⟨⟨hl,he⟩,hp⟩:=hp
 unfold prun_W
 unfold runS at hp
 intro _
 refine IFB.mk (λhb=> ?_) (λhb _=> ?_)
 ·have hb:(120:Int)<(l.length:Int):=of_decide_eq_true hb
  rw[if_pos (by omega)] at hp;exact hp
 have hb:¬(120:Int)<(l.length:Int):=of_decide_eq_false hb
 rw[if_neg (by omega)] at hp
 refine LOOP.fuel2 (λ(z:Int) (x:List Pc)=>∃k:Nat,z=(k:Int)/\k<=l.length/\szL x/\post (runG x (k:Int) (l.drop k)).1 (runG x (k:Int) (l.drop k)).2.1 (runG x (k:Int) (l.drop k)).2.2) (λz _=>l.length-Int.toNat z) ⟨0,rfl,Nat.zero_le _,szL_nil,hp⟩ ?_
 rintro rec (z:Int) (x:List Pc) ⟨k,i1,i2,i3,i4⟩ hrec
 subst i1
 have h4:=runG_ok i2 i4
 refine IFB.mk (λhb=> ?_) (λhb=> ?_)
 ·have hb:(k:Int)<l.length:=of_decide_eq_true hb
  have hk:k<l.length:=by omega
  have hm:=he _ (ix_mem (l:=l) (i:=(k:Int)) (by omega) (by omega))
  have h4:=h4.2 hk
  refine⟨by omega,⟨i3,hm.1,hm.2⟩,IFB.mk (λhc=> ?_) (λhc=> ?_)⟩
  ·rw[if_pos (by simpa using hc)] at h4;exact h4
  ·rw[if_neg (by simpa using hc)] at h4
   rw[wrapS (by omega)]
   exact hrec ((k+1:Nat):Int) _ ⟨k+1,rfl,hk,applyS_sz i3 hm.1,h4⟩ (by show l.length-((k+1:Nat):Int).toNat<l.length-(k:Int).toNat;omega)
 ·have hb:¬(k:Int)<l.length:=of_decide_eq_false hb
  exact λ_=>h4.1 (by omega)
def rints_P (x:List (Int))(y:List (Int))(post:Bool->Prop):Prop:=∀b:Bool,(b=true↔x=y)->post b
def rints_sp:Spec:=⟨28,false,false,[.sl (.int .i64),.sl (.int .i64)],.dat (.bool),λx post=>rints_P (x.1:List (Int)) (x.2.1:List (Int)) (λy0=>post (y0,()))⟩
def rints_C:CtxR:=⟨tau,[],lookJ [(0,9,⟨[(13,.dat (.int .i64))],[],(List.range' 14 12++[5]),[],[]⟩)]⟩
def rints_W (x:List (Int))(y:List (Int))(post:Bool->Prop):Prop:=(↑x.length:Int)<=9223372036854775807->(↑y.length:Int)<=9223372036854775807->IFB (!decide ((↑x.length:Int)=(↑y.length:Int))) (post false) ((↑x.length:Int)<=9223372036854775807->LOOP [Ty.int IntKind.i64] (λ(rec1:Int->Prop) (z2:Int)=>IFB (decide (z2<(↑x.length:Int))) (((0:Int)<=z2/\z2<(↑x.length:Int))/\((0:Int)<=z2/\z2<(↑y.length:Int))/\IFB (!decide (ix x z2=ix y z2)) (post false) (rec1 (IntKind.i64.wrap (z2+1)))) (post true)) ((0:Int),PUnit.unit))
theorem rints_w (x:List (Int))(y:List (Int))(post:dens (shT rints_sp.rs [])->Prop):rints_W x y (λy0=>post (y0,()))=walkG (callR Tryz.prog rints_C (drawR Tryz.prog tau) 8 0) 28 false [tv (.sl (.int .i64)) x,tv (.sl (.int .i64)) y] rints_sp.rs post:=by kernel_rfl
theorem rints_of (h:∀x y post,rints_P x y post->rints_W x y post):SpecOK Tryz.prog rints_sp:=SpecOK.of_rules (C:=rints_C) (dr:=drawR Tryz.prog tau) (n:=8) (fk:=0) .nil (drawR_ok tau) λx post hp=>HoldW.of (rints_w x.1 x.2.1 post) (h x.1 x.2.1 (λy0=>post (y0,())) hp)
theorem rints_ok:SpecOK Tryz.prog rints_sp:=rints_of λl1 l2 post hp=>by
 unfold rints_W
 intro _ _
 refine IFB.mk (λh=>hp _ ?_) (λh=> ?_)
 ·constructor
  ·intro h';cases h'
  ·intro h';subst h';simp at h
 have h3:l1.length=l2.length:=by simp at h;omega
 intro _
 refine LOOP.list l1 (λk (s:Unit)=>((k:Int),())) (λu=>u.1.toNat) (λk r (s:Unit)=>l1.take k=l2.take k) () rfl rfl (λk s h=>by simp) ?_ ?_
 ·intro rec k y r s hd hk hkl hG hrec
  have hx:=ix_of hk
  have hk2:=List.getElem?_eq_getElem (show k<l2.length by omega)
  have hx2:=ix_of hk2
  have w1:IntKind.i64.wrap ((k:Int)+1)=((k+1:Nat):Int):=by rw[wrap_in (by omega) (by omega)];rfl
  show IFB _ _ _
  obtain⟨v,hv⟩:∃v,l2[k]=v:=⟨_,rfl⟩
  rw[hv] at hx2 hk2
  simp only[w1,hx,hx2]
  refine IFB.mk (λ_=>⟨⟨by omega,by omega⟩,⟨by omega,by omega⟩,IFB.mk (λhb=>hp _ ?_) (λhb=>hrec () ?_)⟩) (λh=>absurd (of_decide_eq_false h) (by omega))
  ·constructor
   ·intro h';cases h'
   ·intro h'
    subst h'
    rw[hk] at hk2
    injection hk2 with hk2
    subst hk2
    simp at hb
  ·have hb:y=v:=by simpa using hb
   subst hb
   rw[List.take_add_one,List.take_add_one,hG,hk,hk2]
 ·intro rec s hG
  show IFB _ _ _
  refine IFB.mk (λh=>absurd (of_decide_eq_true h) (by omega)) (λ_=>hp _ ?_)
  rw[List.take_length,h3,List.take_length] at hG
  simp[hG]
namespace PL
noncomputable def notC (a b:List Rc):List Rc:=canonF (comb (howS 3) a b)
open Classical in
noncomputable def wouS (a b:List Rc):List Rc×Int:=if ¬(validP a/\validP b) then ([],7) else if 120<(notC a b).length then ([],1) else (notC a b,0)
end PL
def rwou_P (a:api_Region)(b:api_Region)(post:List (api_Rect)->Int->Prop):Prop:=(True)/\post ((wouS a.1 b.1).1) ((wouS a.1 b.1).2)
def rwou_sp:Spec:=⟨32,false,true,[.st .api_Region,.st .api_Region],.tup [.agg [.dat (.sl (.st .api_Rect))],.dat (.int .i64)],λx post=>rwou_P (x.1:api_Region) (x.2.1:api_Region) (λy0 y1=>post (y0,y1,()))⟩
def rwou_C:CtxR:=⟨tau,[rule1 rval_sp,rule1 rcomb_sp],lookJ [(1024,0,⟨[(0,.tup [.agg [.dat (.sl (.st .api_Rect))],.dat (.int .i64)])],[],[],[],[]⟩),(1067462654,0,⟨[(0,.tup [.agg [.dat (.sl (.st .api_Rect))],.dat (.int .i64)])],[],[],[],[]⟩)]⟩
def rwou_W (a:api_Region)(b:api_Region)(post:List (api_Rect)->Int->Prop):Prop:=JOIN [(Ty.st Sn.api_Rect).sl,Ty.int IntKind.i64] (λ(y1:List api_Rect) (y2:Int)=>post y1 y2) λ(J3:List api_Rect->Int->Prop)=>∀(v4:Bool),(v4=true↔validP a.1)->JOIN [Ty.bool] (λ(y5:Bool)=>IFB (!v4|| !y5) (J3 [] 7) ((a.1.length<=1000/\b.1.length<=1000)/\JOIN [(Ty.st Sn.api_Rect).sl,Ty.int IntKind.i64] (λ(y6:List api_Rect) (y7:Int)=>J3 y6 y7) λ(J8:List api_Rect->Int->Prop)=>(↑(canonF λ(x y:Int)=>howS (3:Int) (cov a.1 x y) (cov b.1 x y)).length:Int)<=9223372036854775807->IFB (decide ((120:Int)<(↑(canonF λ(x y:Int)=>howS (3:Int) (cov a.1 x y) (cov b.1 x y)).length:Int))) (J8 [] 1) (J8 (canonF λ(x y:Int)=>howS (3:Int) (cov a.1 x y) (cov b.1 x y)) 0))) λ(J9:Bool->Prop)=>IFB (gx false !v4) (∀(v10:Bool),(v10=true↔validP b.1)->J9 v10) (J9 false)
theorem rwou_w (a:api_Region)(b:api_Region)(post:dens (shT rwou_sp.rs [])->Prop):rwou_W a b (λy0 y1=>post (y0,y1,()))=walkG (callR Tryz.prog rwou_C (drawR Tryz.prog tau) 6 0) 32 false [tv (.st .api_Region) a,tv (.st .api_Region) b] rwou_sp.rs post:=by kernel_rfl
theorem rwou_of (h:∀a b post,rwou_P a b post->rwou_W a b post):SpecOK Tryz.prog rwou_sp:=SpecOK.of_rules (C:=rwou_C) (dr:=drawR Tryz.prog tau) (n:=6) (fk:=0) (.cons (rule1_ok rval_ok) (.cons (rule1_ok rcomb_ok) .nil)) (drawR_ok tau) λx post hp=>HoldW.of (rwou_w x.1 x.2.1 post) (h x.1 x.2.1 (λy0 y1=>post (y0,y1,())) hp)
theorem rwou_ok:SpecOK Tryz.prog rwou_sp:=rwou_of λa b post hp=>by
 obtain⟨l⟩:=a
 obtain⟨m⟩:=b
 obtain⟨_,hp⟩:=hp
 unfold rwou_W
 dsimp only at hp ⊢
 refine JOIN.opq λ(J3:List Rc->Int->Prop) hJ3=>λv4 h4=>JOIN.opq λ(J:Bool->Prop) hJ=> ?_
 have hP:∀a b,(a,b)=wouS l m->J3 a b:=λa b h=>by
  rw[hJ3]
  show post a b
  rw[<-h] at hp;exact hp
 have main:∀y:Bool,((v4&&y)=true↔validP l/\validP m)->J y:=λy h=>by
  rw[hJ]
  dsimp only
  refine IFB.mk (λhb=>hP _ _ ?_) (λhb=> ?_)
  ·have hb:(v4&&y)=false:=by cases v4<;>cases y<;>simp_all
   unfold wouS
   rw[if_pos (λh2=>by have:=h.2 h2;rw[hb] at this;cases this)]
  ·have hb:(v4&&y)=true:=by cases v4<;>cases y<;>simp_all
   obtain⟨g1,g2⟩:=h.1 hb
   refine⟨⟨by have:=g1.1;omega,by have:=g2.1;omega⟩,JOIN.opq λ(J8:List Rc->Int->Prop) hJ8=>λ_=>IFB.mk (λhn=> ?_) (λhn=> ?_)⟩
   ·have hn:(120:Int)<((notC l m).length:Int):=of_decide_eq_true hn
    rw[hJ8]
    refine hP _ _ ?_
    unfold wouS
    rw[if_neg (not_not_intro ⟨g1,g2⟩),if_pos (by omega)]
   ·have hn:¬(120:Int)<((notC l m).length:Int):=of_decide_eq_false hn
    rw[hJ8]
    refine hP _ _ ?_
    unfold wouS
    rw[if_neg (not_not_intro ⟨g1,g2⟩),if_neg (by omega)];rfl
 refine IFB.mk (λhb v6 h6=>main v6 ?_) (λhb=>main false ?_)
 ·have hb:v4=true:=by cases v4<;>simp_all[gx]
  rw[Bool.and_eq_true,h4,h6]
 ·have hb:v4=false:=by cases v4<;>simp_all[gx]
  rw[Bool.and_false]
  exact⟨λh=>(by cases h),λh=>(by have:=h4.2 h.1;rw[hb] at this;cases this)⟩
end RE
end Go.Proofs.YtpeggkeenboacaaGreat
set_option linter.unusedVariables false
namespace Go.Proofs.YtpeggkeenboacaaGreat
open Go.RowKit
namespace RE
open PL
namespace PL
end PL
end RE
end Go.Proofs.YtpeggkeenboacaaGreat
set_option linter.unusedVariables false
namespace Go.Proofs.YtpeggkeenboacaaGreat
open Go.RowKit
namespace RE
open PL
namespace PL
def pcl (n day u:Int)(ps:List Int)(a:Rn):Pc:=⟨n,day,u,ps,[day],[a]⟩
end PL
theorem regP_nil:regP []:=⟨λi hi=>absurd hi (Nat.not_lt_zero _),λi j hi=>absurd hi (Nat.not_lt_zero _)⟩
theorem ix_app1 {α:Type}[Inhabited α]{l:List α}{x:α}{i:Nat}(h:i<l.length):ix (l++[x]) (i:Int)=ix l (i:Int):=by
 rw[ix_lt (by rw[List.length_append];omega),ix_lt h,List.getElem_append_left h]
theorem ix_app2 {α:Type}[Inhabited α]{l:List α}{x:α}:ix (l++[x]) (l.length:Int)=x:=by
 rw[ix_lt (by rw[List.length_append,List.length_singleton];omega)];simp
theorem regP_snoc {l:List Pc}{p:Pc}(h:regP l)(hr:rightP l p)(hm:∀q∈l,¬meetPc p q):regP (l++[p]):=by
 refine⟨λi hi=> ?_,λi j hi hj=> ?_⟩
 ·rw[List.length_append,List.length_singleton] at hi
  rcases Nat.lt_or_ge i l.length with hlt|hge
  ·rw[ix_app1 hlt,List.take_append_of_le_length (by omega)];exact h.1 i hlt
  ·have:i=l.length:=by omega
   subst this
   rw[ix_app2,List.take_left' rfl];exact hr
 ·rw[List.length_append,List.length_singleton] at hi
  rcases Nat.lt_or_ge i l.length with hlt|hge
  ·rw[ix_app1 hlt,ix_app1 (by omega)];exact h.2 i j hlt hj
  ·have:i=l.length:=by omega
   subst this
   rw[ix_app2,ix_app1 hj]
   exact hm _ (ix_mem (by omega) (by omega))
theorem right_pcl {l:List Pc}{n d u:Int}{ps:List Int}{a:Rn}(hn:n=(l.length:Int)+1)(h0:0<=d)(hd:d<=u)(hu:u<=36865)(hd2:d<=36864)(hl:0<l.length->(ix l ((l.length:Int)-1)).From<=d)(ha:propR a)(hp:asc ps)(hq:∀k∈ps,1<=k/\k<=(l.length:Int)/\(ix l (k-1)).Until=d):rightP l (pcl n d u ps a):=
 ⟨hn,h0,hd,hu,hl,⟨Nat.zero_lt_one,rfl,rfl,λi hi=>absurd hi (by show ¬i+1<1;omega),(by show d<=min u 36864;omega),λb hb=>by
  have:b=a:=by simpa [pcl] using hb
  rw[this];exact ha⟩,hp,hq⟩
theorem meet_pcl {n m d e u v:Int}{ps qs:List Int}{a b:Rn}:meetPc (pcl n d u ps a) (pcl m e v qs b)↔max d e<min u v/\meetP a.Rects b.Rects:=by
 constructor
 ·rintro ⟨i,j,hi,hj,h1,h2⟩
  have hi:i<1:=hi
  have hj:j<1:=hj
  have hi:i=0:=by omega
  have hj:j=0:=by omega
  subst hi hj
  exact⟨h1,h2⟩
 ·rintro ⟨h1,h2⟩
  exact⟨0,0,Nat.zero_lt_one,Nat.zero_lt_one,h1,h2⟩
theorem asc_1 (k:Int):asc [k]:=λi hi=>absurd hi (by show ¬i+1<1;omega)
theorem asc_0:asc []:=λi hi=>absurd hi (by show ¬i+1<0;omega)
namespace PL
def L1 (a:Rn):List Pc:=[pcl 1 0 36865 [] a]
def L2 (d u:Int)(a b c:Rn):List Pc:=[pcl 1 0 d [] a,pcl 2 d u [1] b,pcl 3 d u [1] c]
structure Parts (a b c:Rn):Prop where
 pa:propR a
 pb:propR b
 pc:propR c
 dis:∀x y,¬(cov b.Rects x y=true/\cov c.Rects x y=true)
 all:∀x y,cov a.Rects x y=(cov b.Rects x y||cov c.Rects x y)
end PL
theorem reg_L1 {a:Rn}(ha:propR a):regP (L1 a):=
 regP_snoc (l:=[]) regP_nil (right_pcl rfl (by decide) (by decide) (by decide) (by decide) (λh=>absurd h (by decide)) ha asc_0 (λk hk=>by cases hk)) (λq hq=>by cases hq)
theorem reg_L2 {a b c:Rn}{d u:Int}(h:Parts a b c)(h0:0<=d)(h1:d<=u)(h2:u<=36865)(h3:d<=36864):regP (L2 d u a b c):=by
 have r1:regP [pcl 1 0 d [] a]:=regP_snoc (l:=[]) regP_nil (right_pcl rfl (by decide) h0 (by omega) (by decide) (λh=>absurd h (by decide)) h.pa asc_0 (λk hk=>by cases hk)) (λq hq=>by cases hq)
 have r2:regP ([pcl 1 0 d [] a]++[pcl 2 d u [1] b]):=regP_snoc r1 (right_pcl rfl h0 h1 h2 h3 (λ_=>h0) h.pb (asc_1 1) (λk hk=>by
  rw[List.mem_singleton.1 hk];exact⟨by decide,by show (1:Int)<=1;decide,rfl⟩)) (λq hq=>by
  rw[List.mem_singleton.1 hq,meet_pcl];rintro ⟨h,_⟩;omega)
 exact regP_snoc (l:=[pcl 1 0 d [] a,pcl 2 d u [1] b]) r2 (right_pcl rfl h0 h1 h2 h3 (λ_=>Int.le_refl d) h.pc (asc_1 1) (λk hk=>by
  rw[List.mem_singleton.1 hk];exact⟨by decide,by show (1:Int)<=2;decide,rfl⟩)) (λq hq=>by
  simp only[List.mem_cons,List.not_mem_nil,or_false] at hq
  rcases hq with rfl|rfl
  ·rw[meet_pcl];rintro ⟨h,_⟩;omega
  ·rw[meet_pcl];rintro ⟨_,_,_,x,y,h1,h2⟩;exact h.dis x y ⟨h2,h1⟩)
theorem check_reg {l:List Pc}(h:regP l)(h2:l.length<=60):checkS l=0:=checkS_0.2 ⟨h2,h⟩
theorem step_1 {a:Rn}(ha:propR a):applyS [] ⟨0,0,1,[],[a]⟩=(L1 a,0):=by
 have he:editS [] ⟨0,0,1,[],[a]⟩=0:=editS_0.2 ⟨check_reg regP_nil (by decide),⟨by show (1:Int)<=1;decide,by show (1:Int)<=5;decide⟩,⟨Int.le_refl 0,by show (0:Int)<=36864;decide⟩,⟨.inl ⟨rfl,rfl,rfl⟩,asc_0⟩,λk hk=>(by cases hk),λb hb=>by rw[List.mem_singleton.1 hb];exact ha⟩
 unfold applyS
 rw[if_neg (λh=>h he),if_pos rfl,if_neg (λh=>by obtain⟨p,hp,_⟩:=h;cases hp),if_neg (by decide)]
 rfl
theorem day_L1 {a:Rn}:dayS (L1 a)=0:=rfl
theorem step_2 {a b c:Rn}{d:Int}(h:Parts a b c)(h0:0<=d)(h3:d<=36864):applyS (L1 a) ⟨d,0,3,[1],[b,c]⟩=(L2 d 36865 a b c,0):=by
 have he:editS (L1 a) ⟨d,0,3,[1],[b,c]⟩=0:=editS_0.2 ⟨check_reg (reg_L1 h.pa) (by show 1<=60;omega),⟨by show (1:Int)<=3;decide,by show (3:Int)<=5;decide⟩,⟨by rw[day_L1];exact h0,h3⟩,⟨.inr (.inr (.inl ⟨rfl,rfl,by show 2<=2;omega,by show 2<=8;omega⟩)),asc_1 1⟩,λk hk=>(by
  rw[List.mem_singleton.1 hk];exact⟨by decide,by show (1:Int)<=1;decide,rfl⟩),λx hx=>by
  simp only[List.mem_cons,List.not_mem_nil,or_false] at hx
  rcases hx with rfl|rfl
  ·exact h.pb
  ·exact h.pc⟩
 have hap:apartP [b,c]:=(apart_pw λx hx=>(by
  simp only[List.mem_cons,List.not_mem_nil,or_false] at hx
  rcases hx with rfl|rfl
  ·exact h.pb.2
  ·exact h.pc.2)).2 (List.pairwise_pair.2 h.dis)
 have hal:∀x y,cov (partsR [b,c]) x y=cov (nowR (ix (L1 a) (ix [1] 0-1))).Rects x y:=λx y=>by
  rw[partsR_cons,partsR_cons,cov_app,cov_app]
  show (cov b.Rects x y||(cov c.Rects x y||cov [] x y))=cov a.Rects x y
  rw[h.all,cov_nil,Bool.or_false]
 unfold applyS
 rw[if_neg (λh=>h he),if_neg (show ¬(3:Int)=1 by decide),if_neg (show ¬(3:Int)=2 by decide),if_pos rfl,if_neg (λh=>h hap),if_neg (λh=>h hal),if_neg (show ¬60<(L1 a).length+[b,c].length by show ¬60<1+2;omega)]
 rfl
theorem run_2 {a b c:Rn}{d:Int}(h:Parts a b c)(h0:0<=d)(h3:d<=36864):runS [⟨0,0,1,[],[a]⟩,⟨d,0,3,[1],[b,c]⟩]=(L2 d 36865 a b c,2,0):=by
 unfold runS
 rw[if_neg (by show ¬120<2;omega)]
 unfold runG
 rw[step_1 h.pa,if_neg (λh=>h rfl)]
 unfold runG
 rw[step_2 h h0 h3,if_neg (λh=>h rfl)]
 rfl
end RE
end Go.Proofs.YtpeggkeenboacaaGreat
set_option linter.unusedVariables false
namespace Go.Proofs.YtpeggkeenboacaaGreat
open Go.RowKit
namespace RE
open PL
namespace PL
def bxR (N:Int)(l:List Rc):Prop:=∀r∈l,proper r/\r.Right<=N/\r.High<=N
def bxL (N:Int)(l:List Pc):Prop:=∀p∈l,∀a∈p.Regions,∀r∈a.Rects,r.Right<=N/\r.High<=N
def bxE (N:Int)(e:Ed):Prop:=∀a∈e.Regions,bxR N a.Rects
def edQ (l:List Pc)(day:Int)(e:Ed):Prop:=szE e/\e.Day=day/\e.Known=day/\(1<=e.Kind/\e.Kind<=5)/\e.Regions.length<=2/\e.Parcels.length<=16/\(l=[]->bxE 39 e)/\∀N:Int,39<=N->N<=1000->bxL N l->bxE (N+8) e
end PL
theorem openS_len {l:List Pc}{d:Int}:(openS l d).length<=l.length:=by
 unfold openS
 split
 ·unfold openL
  rw[List.length_map]
  exact List.length_filter_le _ _
 ·simp
theorem open_on {l:List Pc}{d n:Int}(h:n∈openS l d):onP l n d/\regP l:=by
 unfold openS at h
 split at h
 ·rename_i hc
  obtain⟨h60,hreg⟩:=checkS_0.1 hc
  unfold openL at h
  rw[List.mem_map] at h
  obtain⟨p,hp,hn⟩:=h
  rw[List.mem_filter] at hp
  obtain⟨hp,ht⟩:=hp
  have ht:thereP p d:=of_decide_eq_true ht
  obtain⟨i,hi,he⟩:=List.getElem_of_mem hp
  have hx:ix l (i:Int)=p:=by rw[ix_lt hi,he]
  have hnum:=regP_num hreg hi
  rw[hx,hn] at hnum
  refine⟨⟨by omega,by omega,hc,?_⟩,hreg⟩
  rw[show n-1=(i:Int) by omega,hx]
  exact ht
 ·cases h
theorem on_mem {l:List Pc}{d n:Int}(h:onP l n d)(hreg:regP l):onS l n d∈(ix l (n-1)).Regions/\ix l (n-1)∈l:=by
 have hm:ix l (n-1)∈l:=ix_mem (by have:=h.1;omega) (by have:=h.2.1;omega)
 refine⟨?_,hm⟩
 unfold onS
 rw[if_pos h]
 have hd:=regP_days hreg _ hm
 have h1:0<(ix l (n-1)).Regions.length:=by have:=hd.1;have:=hd.2;omega
 exact outlF_mem h1 (Nat.le_of_eq hd.2)
theorem reg_prop {l:List Pc}(h:regP l){p:Pc}(hp:p∈l){a:Rn}(ha:a∈p.Regions):propR a:=(regP_out h p hp).1.2.2.2.2.2 a ha
theorem edQ_rect {l:List Pc}{day kind:Int}{ps:List Int}{r:Rc}(hk:1<=kind/\kind<=5)(hps:ps.length<=16)(h9:l=[]->proper r/\r.Right<=39/\r.High<=39)(h:∀N:Int,39<=N->N<=1000->bxL N l->proper r/\r.Right<=N+8/\r.High<=N+8):edQ l day ⟨day,day,kind,ps,[⟨[r]⟩]⟩:=by
 refine⟨⟨by show ps.length<=1000000;omega,by simp,λa ha=> ?_⟩,rfl,rfl,hk,by simp,hps,λh3 a ha=> ?_,λN h1 h2 h3 a ha=> ?_⟩
 ·rw[List.mem_singleton] at ha;rw[ha];simp
 ·have ha:a∈[(⟨[r]⟩:Rn)]:=ha
  rw[List.mem_singleton] at ha
  subst ha
  intro q hq
  have hq:q∈[r]:=hq
  rw[List.mem_singleton] at hq
  subst hq
  exact h9 h3
 ·have ha:a∈[(⟨[r]⟩:Rn)]:=ha
  rw[List.mem_singleton] at ha
  subst ha
  intro q hq
  have hq:q∈[r]:=hq
  rw[List.mem_singleton] at hq
  subst hq
  exact h N h1 h2 h3
theorem edQ_none {l:List Pc}{day kind:Int}{ps:List Int}(hk:1<=kind/\kind<=5)(hps:ps.length<=16):edQ l day ⟨day,day,kind,ps,[]⟩:=
 ⟨⟨by show ps.length<=1000000;omega,by simp,λa ha=>by cases ha⟩,rfl,rfl,hk,by simp,hps,λ_ a ha=>(by cases ha),λN h1 h2 h3 a ha=>by cases ha⟩
theorem edQ_split {l:List Pc}{day:Int}{ps:List Int}{r:Rc}{v:List Rc}(hps:ps.length<=16)(hln:l≠[])(hv:validP v)(h:∀N:Int,39<=N->N<=1000->bxL N l->(proper r/\r.Right<=N+8/\r.High<=N+8)/\∀q∈v,q.Right<=N/\q.High<=N):edQ l day ⟨day,day,3,ps,[⟨[r]⟩,⟨(wouS v [r]).1⟩]⟩:=by
 have hw:(wouS v [r]).1.length<=120:=by
  unfold wouS
  split
  ·simp
  ·split
   ·simp
   ·rename_i h;show (notC v [r]).length<=120;omega
 refine⟨⟨by show ps.length<=1000000;omega,by simp,λa ha=> ?_⟩,rfl,rfl,⟨by show (1:Int)<=3;omega,by show (3:Int)<=5;omega⟩,by simp,hps,λh=>absurd h hln,λN h1 h2 h3 a ha=> ?_⟩
 ·have ha:a∈[(⟨[r]⟩:Rn),⟨(wouS v [r]).1⟩]:=ha
  rcases List.mem_cons.1 ha with e|e
  ·rw[e];simp
  ·rw[List.mem_singleton] at e;rw[e];show (wouS v [r]).1.length<=1000000;omega
 ·obtain⟨g1,g2⟩:=h N h1 h2 h3
  have ha:a∈[(⟨[r]⟩:Rn),⟨(wouS v [r]).1⟩]:=ha
  rcases List.mem_cons.1 ha with e|e
  ·subst e
   intro q hq
   have hq:q∈[r]:=hq
   rw[List.mem_singleton] at hq
   subst hq
   exact g1
  ·rw[List.mem_singleton] at e
   subst e
   intro q hq
   have hq:q∈(wouS v [r]).1:=hq
   have main:∀q∈notC v [r],proper q/\q.Right<=N+8/\q.High<=N+8:=λq hq=>by
    obtain⟨c1,c2⟩:=comb_ok (howS_0 3) v [r]
    have:=canon_box c1 (x0:=0) (x1:=N) (y0:=0) (y1:=N) (λx y hxy=>by
     rw[c2] at hxy
     have hx:cov v x y=true:=by
      have hxy:howS 3 (cov v x y) (cov [r] x y)=true:=hxy
      unfold howS at hxy
      cases hcv:cov v x y with
      |true=>rfl
      |false=>rw[hcv] at hxy;simp at hxy
     obtain⟨s,hs,s1,s2,s3,s4⟩:=cov_iff.1 hx
     have hp:=hv.2.1 s hs
     obtain⟨p1,_,_,p4,_,_⟩:=hp
     obtain⟨t1,t2⟩:=g2 s hs
     omega) q hq
    obtain⟨b1,b2,b3,b4,b5,b6⟩:=this
    exact⟨⟨by omega,b2,by omega,by omega,b5,by omega⟩,by omega,by omega⟩
   unfold wouS at hq
   split at hq
   ·cases hq
   ·split at hq
    ·cases hq
    ·exact main q hq
end RE
end Go.Proofs.YtpeggkeenboacaaGreat
namespace Go.Proofs.YtpeggkeenboacaaGreat
namespace RE
open Go.RowKit
open Go.Sort
open PL
theorem run_sz {l:List Ed}(h:∀e∈l,szE e):szL (runS l).1:=by
 unfold runS
 split
 ·exact szL_nil
 ·exact runG_take h szL_nil
def prunV_P (l:List (api_Edit))(post:List (api_Parcel)->Int->Int->Prop):Prop:=(l.length<=1000000/\∀e∈l,szE e/\e.Kind≠2)/\∀(x:List Pc)(n g:Int),(szL x/\runS l=(x,n,g))->post x n g
def prunV_sp:Spec:=⟨33,false,true,[.sl (.st .api_Edit)],.tup [.dat (.sl (.st .api_Parcel)),.dat (.int .i64),.dat (.int .i64)],λx post=>prunV_P (x.1:List (api_Edit)) (λy0 y1 y2=>post (y0,y1,y2,()))⟩
theorem prunV_ok:SpecOK Tryz.prog prunV_sp:=λx post hp=>prun_ok x post (⟨hp.1,hp.2 _ _ _ ⟨run_sz λe he=>(hp.1.2 e he).1,rfl⟩⟩)
def pheirsV_P (l:List (api_Parcel))(n:Int)(d:Int)(post:List (Int)->Int->Prop):Prop:=szL l/\∀(h:List Int)(g:Int),(h=heirsS l n d/\g=heirE l n d)->post h g
def pheirsV_sp:Spec:=⟨25,false,true,[.sl (.st .api_Parcel),.int .i64,.int .i64],.tup [.dat (.sl (.int .i64)),.dat (.int .i64)],λx post=>pheirsV_P (x.1:List (api_Parcel)) (x.2.1:Int) (x.2.2.1:Int) (λy0 y1=>post (y0,y1,()))⟩
theorem pheirsV_ok:SpecOK Tryz.prog pheirsV_sp:=λx post hp=>pheirs_ok x post (⟨hp.1,hp.2 _ _ ⟨rfl,rfl⟩⟩)
def pshareV_P (l:List (api_Parcel))(n:Int)(d:Int)(post:List (arr2_i64)->Int->Prop):Prop:=szL l/\∀(s:List arr2_i64)(g:Int),(s=shareS l n d/\g=heirE l n d)->post s g
def pshareV_sp:Spec:=⟨26,false,true,[.sl (.st .api_Parcel),.int .i64,.int .i64],.tup [.dat (.sl (.st .arr2_i64)),.dat (.int .i64)],λx post=>pshareV_P (x.1:List (api_Parcel)) (x.2.1:Int) (x.2.2.1:Int) (λy0 y1=>post (y0,y1,()))⟩
theorem pshareV_ok:SpecOK Tryz.prog pshareV_sp:=λx post hp=>pshare_ok x post (⟨hp.1,hp.2 _ _ ⟨rfl,rfl⟩⟩)
def rcopO_P (l:List (api_Parcel))(post:List (api_Parcel)->Prop):Prop:=szL l/\post l
def rcopO_sp:Spec:=⟨63,false,true,[.sl (.st .api_Parcel)],.own 50 (.st .api_Parcel),λx post=>rcopO_P (x.1:List (api_Parcel)) (λy0=>post (y0,()))⟩
def rcopO_C:CtxR:=⟨tau,[],lookJ [(0,7,⟨[(8,.dat (.int .i64)),(3,.own 50 (.st .api_Parcel))],[],(List.range' 9 23++[5]),[],[]⟩),(0,1000005,⟨[],[(1,[.dat (.int .i64),.dat (.int .i64),.dat (.int .i64),.own 3 (.int .i64),.own 3 (.int .i64),.own 29 (.st .api_Region)])],(List.range' 12 15),[],[]⟩)]⟩
abbrev rcopO_a0 (l:List (api_Parcel))(z2:Int)(J10:Int->Int->Int->List Int->List Int->List api_Region->Prop):=((((0:Nat)+(ix l z2).4.length) * (8:Nat)<=(140737488355328:Nat)/\(((0:Nat)+(ix l z2).5.length) * (8:Nat)<=(140737488355328:Nat)/\((0:Nat)+(ix l z2).6.length) * (24:Nat)<=(140737488355328:Nat)/\J10 (ix l z2).1 (ix l z2).2 (ix l z2).3 ([]++(ix l z2).4) ([]++(ix l z2).5) ([]++(ix l z2).6))/\((0:Nat)+(ix l z2).5.length) * (8:Nat)<=(140737488355328:Nat)/\((0:Nat)+(ix l z2).6.length) * (24:Nat)<=(140737488355328:Nat)/\J10 (ix l z2).1 (ix l z2).2 (ix l z2).3 ([]++(ix l z2).4) ([]++(ix l z2).5) ([]++(ix l z2).6))/\((0:Nat)+(ix l z2).4.length) * (8:Nat)<=(140737488355328:Nat)/\((0:Nat)+(ix l z2).5.length) * (8:Nat)<=(140737488355328:Nat)/\((0:Nat)+(ix l z2).6.length) * (24:Nat)<=(140737488355328:Nat)/\J10 (ix l z2).1 (ix l z2).2 (ix l z2).3 ([]++(ix l z2).4) ([]++(ix l z2).5) ([]++(ix l z2).6))
abbrev rcopO_a1 (l:List (api_Parcel))(z2:Int)(J10:Int->Int->Int->List Int->List Int->List api_Region->Prop):=(((0:Nat)+(ix l z2).4.length) * (8:Nat)<=(140737488355328:Nat)/\((0:Nat)+(ix l z2).5.length) * (8:Nat)<=(140737488355328:Nat)/\((0:Nat)+(ix l z2).6.length) * (24:Nat)<=(140737488355328:Nat)/\J10 (ix l z2).1 (ix l z2).2 (ix l z2).3 ([]++(ix l z2).4) ([]++(ix l z2).5) ([]++(ix l z2).6))
def rcopO_W (l:List (api_Parcel))(post:List (api_Parcel)->Prop):Prop:=(↑l.length:Int)<=9223372036854775807->LOOP [Ty.int IntKind.i64,(Ty.st Sn.api_Parcel).sl] (λ(rec1:Int->List api_Parcel->Prop) (z2:Int) (z3:List api_Parcel)=>IFB (decide (z2<(↑l.length:Int))) (((0:Int)<=z2/\z2<(↑l.length:Int))/\JOIN [Ty.int IntKind.i64,Ty.int IntKind.i64,Ty.int IntKind.i64,(Ty.int IntKind.i64).sl,(Ty.int IntKind.i64).sl,(Ty.st Sn.api_Region).sl] (λ(y4 y5 y6:Int) (y7 y8:List Int) (y9:List api_Region)=>(z3.length+[(⟨y4,y5,y6,y7,y8,y9⟩:api_Parcel)].length) * (96:Nat)<=140737488355328/\rec1 (IntKind.i64.wrap (z2+1)) (z3++[(⟨y4,y5,y6,y7,y8,y9⟩:api_Parcel)])) λ(J10:Int->Int->Int->List Int->List Int->List api_Region->Prop)=>((((0:Nat)+(ix l z2).4.length) * (8:Nat)<=140737488355328/\((((0:Nat)+(ix l z2).5.length) * (8:Nat)<=140737488355328/\((0:Nat)+(ix l z2).6.length) * (24:Nat)<=140737488355328/\J10 (ix l z2).1 (ix l z2).2 (ix l z2).3 ([]++(ix l z2).4) ([]++(ix l z2).5) ([]++(ix l z2).6))/\((0:Nat)+(ix l z2).5.length) * (8:Nat)<=140737488355328/\((0:Nat)+(ix l z2).6.length) * (24:Nat)<=140737488355328/\J10 (ix l z2).1 (ix l z2).2 (ix l z2).3 ([]++(ix l z2).4) ([]++(ix l z2).5) ([]++(ix l z2).6))/\((0:Nat)+(ix l z2).5.length) * (8:Nat)<=140737488355328/\((0:Nat)+(ix l z2).6.length) * (24:Nat)<=140737488355328/\J10 (ix l z2).1 (ix l z2).2 (ix l z2).3 ([]++(ix l z2).4) ([]++(ix l z2).5) ([]++(ix l z2).6))/\(rcopO_a0 l z2 J10)/\(rcopO_a1 l z2 J10)/\((0:Nat)+(ix l z2).4.length) * (8:Nat)<=140737488355328/\((0:Nat)+(ix l z2).5.length) * (8:Nat)<=140737488355328/\((0:Nat)+(ix l z2).6.length) * (24:Nat)<=140737488355328/\J10 (ix l z2).1 (ix l z2).2 (ix l z2).3 ([]++(ix l z2).4) ([]++(ix l z2).5) ([]++(ix l z2).6))/\((rcopO_a0 l z2 J10)/\((0:Nat)+(ix l z2).4.length) * (8:Nat)<=140737488355328/\((0:Nat)+(ix l z2).5.length) * (8:Nat)<=140737488355328/\((0:Nat)+(ix l z2).6.length) * (24:Nat)<=140737488355328/\J10 (ix l z2).1 (ix l z2).2 (ix l z2).3 ([]++(ix l z2).4) ([]++(ix l z2).5) ([]++(ix l z2).6))/\((rcopO_a1 l z2 J10)/\((0:Nat)+(ix l z2).4.length) * (8:Nat)<=140737488355328/\((0:Nat)+(ix l z2).5.length) * (8:Nat)<=140737488355328/\((0:Nat)+(ix l z2).6.length) * (24:Nat)<=140737488355328/\J10 (ix l z2).1 (ix l z2).2 (ix l z2).3 ([]++(ix l z2).4) ([]++(ix l z2).5) ([]++(ix l z2).6))/\((0:Nat)+(ix l z2).4.length) * (8:Nat)<=140737488355328/\((0:Nat)+(ix l z2).5.length) * (8:Nat)<=140737488355328/\((0:Nat)+(ix l z2).6.length) * (24:Nat)<=140737488355328/\J10 (ix l z2).1 (ix l z2).2 (ix l z2).3 ([]++(ix l z2).4) ([]++(ix l z2).5) ([]++(ix l z2).6)) (post z3)) ((0:Int),[],PUnit.unit)
theorem rcopO_w (l:List (api_Parcel))(post:dens (shT rcopO_sp.rs [])->Prop):rcopO_W l (λy0=>post (y0,()))=walkG (callR Tryz.prog rcopO_C (drawF Tryz.prog tau) 8 0) 63 false [tv (.sl (.st .api_Parcel)) l] rcopO_sp.rs post:=by kernel_rfl
theorem rcopO_of (h:∀l post,rcopO_P l post->rcopO_W l post):SpecOK Tryz.prog rcopO_sp:=SpecOK.of_rules (C:=rcopO_C) (dr:=drawF Tryz.prog tau) (n:=8) (fk:=0) .nil (drawF_ok tau) λx post hp=>HoldW.of (rcopO_w x.1 post) (h x.1 (λy0=>post (y0,())) hp)
theorem rcopO_ok:SpecOK Tryz.prog rcopO_sp:=rcopO_of λl post hp=>by
 obtain⟨hsz,hp⟩:=hp
 have hl:=hsz.len
 unfold rcopO_W rcopO_a1 rcopO_a0
 refine λ_=>LOOP.fuel2 (λ(z:Int) (b:List Pc)=>∃k:Nat,z=(k:Int)/\k<=l.length/\b=l.take k) (λz _=>l.length-Int.toNat z) ⟨0,rfl,Nat.zero_le _,rfl⟩ ?_
 rintro rec (z:Int) (b:List Pc) ⟨k,i1,i2,i3⟩ hrec
 subst i1
 refine IFB.mk (λhb=> ?_) (λhb=> ?_)
 ·have hb:(k:Int)<l.length:=of_decide_eq_true hb
  have hk:k<l.length:=by omega
  have hx:=hsz.all _ (ix_mem (l:=l) (i:=(k:Int)) (by omega) (by omega))
  have x1:=hx.days
  have x2:=hx.regs
  have x3:=hx.pars
  refine⟨by omega,JOIN.opq λ(J:Int->Int->Int->List Int->List Int->List api_Region->Prop) hJ=> ?_⟩
  have c1:(0+(ix l (k:Int)).4.length) * 8<=140737488355328:=by omega
  have c2:(0+(ix l (k:Int)).5.length) * 8<=140737488355328:=by omega
  have c3:(0+(ix l (k:Int)).6.length) * 24<=140737488355328:=by omega
  have cJ:J (ix l (k:Int)).1 (ix l (k:Int)).2 (ix l (k:Int)).3 ([]++(ix l (k:Int)).4) ([]++(ix l (k:Int)).5) ([]++(ix l (k:Int)).6):=by
   rw[hJ]
   have hbl:b.length<=1000000:=by rw[i3,List.length_take];omega
   refine⟨by simp only[List.length_cons,List.length_nil];omega,?_⟩
   rw[wrapS (by omega)]
   refine hrec ((k+1:Nat):Int) _ ⟨k+1,rfl,hk,?_⟩ (by show l.length-((k+1:Nat):Int).toNat<l.length-(k:Int).toNat;omega)
   show b++[ix l (k:Int)]=_
   rw[i3,List.take_succ_eq_append_getElem hk,ix_lt hk]
  repeat' first
   |exact c1
   |exact c2
   |exact c3
   |exact cJ
   |refine And.intro ?_ ?_
 ·have hb:¬(k:Int)<l.length:=of_decide_eq_false hb
  have hk:k=l.length:=by omega
  have e:b=l:=by rw[i3,hk,List.take_length]
  show post b
  rw[e];exact hp
def rmeet10_P (l:List (api_Parcel))(a:api_Region)(but:Int)(post:Bool->Prop):Prop:=(szL l/\∀p∈l,0<p.Regions.length)/\∀q:Bool,(q=true↔hitP l a but)->post q
def rmeet10_sp:Spec:=⟨79,false,false,[.sl (.st .api_Parcel),.st .api_Region,.int .i64],.dat (.bool),λx post=>rmeet10_P (x.1:List (api_Parcel)) (x.2.1:api_Region) (x.2.2.1:Int) (λy0=>post (y0,()))⟩
def rmeet10_C:CtxR:=⟨tau,[rule1 rmts_sp],lookJ [(0,5,⟨[(11,.dat (.int .i64))],[],(List.range' 12 19++[8]),[],[]⟩),(0,1000004,⟨[(29,.dat .bool)],[],(List.range' 15 14),[],[]⟩)]⟩
def rmeet10_W (l:List (api_Parcel))(a:api_Region)(but:Int)(post:Bool->Prop):Prop:=(↑l.length:Int)<=9223372036854775807->LOOP [Ty.int IntKind.i64] (λ(rec1:Int->Prop) (z2:Int)=>IFB (decide (z2<(↑l.length:Int))) (((0:Int)<=z2/\z2<(↑l.length:Int))/\JOIN [Ty.bool] (λ(y3:Bool)=>IFB y3 (post true) (rec1 (IntKind.i64.wrap (z2+1)))) λ(J4:Bool->Prop)=>JOIN [Ty.st Sn.api_Region] (λ(y5:api_Region)=>JOIN [Ty.bool] (λ(y6:Bool)=>J4 (decide ((ix l z2).3=36865)&& !decide ((ix l z2).1=but)&&y6)) λ(J7:Bool->Prop)=>IFB (gx true (decide ((ix l z2).3=36865)&& !decide ((ix l z2).1=but))) (∀(v8:Bool),(v8=true↔meetP y5.1 a.1)->J7 v8) (J7 false)) λ(J9:api_Region->Prop)=>IFB (gx true (decide ((ix l z2).3=36865)&& !decide ((ix l z2).1=but))) ((↑(ix l z2).6.length:Int)<=9223372036854775807->((0:Int)<=IntKind.i64.wrap ((↑(ix l z2).6.length:Int)-1)/\IntKind.i64.wrap ((↑(ix l z2).6.length:Int)-1)<(↑(ix l z2).6.length:Int))/\J9 {Rects:=(ix (ix l z2).6 (IntKind.i64.wrap ((↑(ix l z2).6.length:Int)-1))).1:api_Region}) (J9 (dflt (Ty.st Sn.api_Region),()).fst)) (post false)) ((0:Int),PUnit.unit)
theorem rmeet10_w (l:List (api_Parcel))(a:api_Region)(but:Int)(post:dens (shT rmeet10_sp.rs [])->Prop):rmeet10_W l a but (λy0=>post (y0,()))=walkG (callR Tryz.prog rmeet10_C (drawF Tryz.prog tau) 8 0) 79 false [tv (.sl (.st .api_Parcel)) l,tv (.st .api_Region) a,tv (.int .i64) but] rmeet10_sp.rs post:=by kernel_rfl
theorem rmeet10_of (h:∀l a but post,rmeet10_P l a but post->rmeet10_W l a but post):SpecOK Tryz.prog rmeet10_sp:=SpecOK.of_rules (C:=rmeet10_C) (dr:=drawF Tryz.prog tau) (n:=8) (fk:=0) (.cons (rule1_ok rmts_ok) .nil) (drawF_ok tau) λx post hp=>HoldW.of (rmeet10_w x.1 x.2.1 x.2.2.1 post) (h x.1 x.2.1 x.2.2.1 (λy0=>post (y0,())) hp)
theorem rmeet10_ok:SpecOK Tryz.prog rmeet10_sp:=rmeet10_of λl a but post hp=>by
 obtain⟨⟨hsz,hne⟩,hp⟩:=hp
 have hl:=hsz.len
 unfold rmeet10_W
 refine λ_=>loopCmp (n:=l.length) (by omega) (p:=λi=>¬((ix l (i:Int)).Until=36865/\(ix l (i:Int)).Number≠but/\meetP a.Rects (nowR (ix l (i:Int))).Rects)) (λrec k hk _ hrec=> ?_) λhall=>hp _ ⟨λh=>(by cases h),?_⟩
 ·have hm:=ix_mem (l:=l) (i:=(k:Int)) (by omega) (by omega)
  have x2:=(hsz.all _ hm).regs
  have x3:=hne _ hm
  refine⟨by omega,JOIN.opq λ(J4:Bool->Prop) hJ4=>JOIN.opq λ(J9:api_Region->Prop) hJ9=> ?_⟩
  have k4:∀y:Bool,(y=true↔((ix l (k:Int)).Until=36865/\(ix l (k:Int)).Number≠but/\meetP a.Rects (nowR (ix l (k:Int))).Rects))->J4 y:=λy h=>by
   rw[hJ4]
   refine IFB.mk (λhb=>hp _ ⟨λ_=> ?_,λ_=>rfl⟩) (λhb=>hrec λh2=>by rw[h.2 h2] at hb;cases hb)
   obtain⟨u1,u2,u3⟩:=h.1 hb
   exact⟨_,hm,u1,u2,u3⟩
  have hw:IntKind.i64.wrap (((ix l (k:Int)).6.length:Int)-1)=((ix l (k:Int)).Regions.length:Int)-1:=wrap_in (by omega) (by omega)
  refine IFB.mk (λhc=> ?_) (λhc=> ?_)
  ·rw[gx_t] at hc
   refine λ_=>⟨by rw[hw];omega,?_⟩
   rw[hJ9]
   refine JOIN.opq λ(J7:Bool->Prop) hJ7=>IFB.yes (by rw[gx_t];exact hc) λv hv=> ?_
   rw[hJ7]
   refine k4 _ ?_
   rw[hc,Bool.true_and,hv]
   rw[Bool.and_eq_true,decide_eq_true_eq,Bool.not_eq_true',decide_eq_false_iff_not] at hc
   rw[hw,meetP_comm]
   exact⟨λh=>⟨hc.1,hc.2,h⟩,λh=>h.2.2⟩
  ·rw[gx_t] at hc
   rw[hJ9]
   refine JOIN.opq λ(J7:Bool->Prop) hJ7=>IFB.no (by rw[gx_t];exact hc) ?_
   rw[hJ7]
   refine k4 _ ?_
   rw[hc,Bool.false_and]
   rw[Bool.and_eq_false_iff,decide_eq_false_iff_not,Bool.not_eq_false',decide_eq_true_eq] at hc
   refine⟨λh=>(by cases h),λh=> ?_⟩
   rcases hc with hc|hc
   ·exact absurd h.1 hc
   ·exact absurd hc h.2.1
 ·rintro ⟨p,hp2,h⟩
  obtain⟨i,hi,rfl⟩:=ix_ex hp2
  exact absurd h (hall i hi)
def rlat_P (l:List (api_Parcel))(post:Int->Prop):Prop:=(szL l/\checkS l=0)/\post (dayS l)
def rlat_sp:Spec:=⟨152,false,false,[.sl (.st .api_Parcel)],.dat (.int .i64),λx post=>rlat_P (x.1:List (api_Parcel)) (λy0=>post (y0,()))⟩
def rlat_C:CtxR:=⟨tau,[],lookJ [(0,7,⟨[(8,.dat (.int .i64)),(3,.dat (.int .i64))],[],(List.range' 9 23++[5]),[],[]⟩),(0,16,⟨[(3,.dat (.int .i64))],[],(List.range' 10 21++[5]),[],[]⟩)]⟩
def rlat_W (l:List (api_Parcel))(post:Int->Prop):Prop:=(↑l.length:Int)<=9223372036854775807->LOOP [Ty.int IntKind.i64,Ty.int IntKind.i64] (λ(rec1:Int->Int->Prop) (z2 z3:Int)=>IFB (decide (z2<(↑l.length:Int))) (JOIN [Ty.int IntKind.i64] (λ(y4:Int)=>rec1 (IntKind.i64.wrap (z2+1)) y4) λ(J5:Int->Prop)=>((0:Int)<=z2/\z2<(↑l.length:Int))/\((↑(ix l z2).5.length:Int)<=9223372036854775807->((0:Int)<=IntKind.i64.wrap ((↑(ix l z2).5.length:Int)-1)/\IntKind.i64.wrap ((↑(ix l z2).5.length:Int)-1)<(↑(ix l z2).5.length:Int))/\IFB (decide ((ix l z2).3<=36864)) (J5 (Max.max (Max.max (Max.max z3 (ix l z2).2) (ix (ix l z2).5 (IntKind.i64.wrap ((↑(ix l z2).5.length:Int)-1)))) (ix l z2).3)) (J5 (Max.max (Max.max z3 (ix l z2).2) (ix (ix l z2).5 (IntKind.i64.wrap ((↑(ix l z2).5.length:Int)-1))))))) (post z3)) ((0:Int),(0:Int),PUnit.unit)
theorem rlat_w (l:List (api_Parcel))(post:dens (shT rlat_sp.rs [])->Prop):rlat_W l (λy0=>post (y0,()))=walkG (callR Tryz.prog rlat_C (drawF Tryz.prog tau) 8 0) 152 false [tv (.sl (.st .api_Parcel)) l] rlat_sp.rs post:=by kernel_rfl
theorem rlat_of (h:∀l post,rlat_P l post->rlat_W l post):SpecOK Tryz.prog rlat_sp:=SpecOK.of_rules (C:=rlat_C) (dr:=drawF Tryz.prog tau) (n:=8) (fk:=0) .nil (drawF_ok tau) λx post hp=>HoldW.of (rlat_w x.1 post) (h x.1 (λy0=>post (y0,())) hp)
theorem dayS_take {l:List Pc}{k:Nat}(hk:k<l.length):dayS (l.take (k+1))=dayF (dayS (l.take k)) (ix l (k:Int)):=by
 unfold dayS
 rw[fold_take hk]
theorem dayF_reg {p:Pc}{d:Int}(h:outP p)(hu:p.Until<=36865):dayF d p=if p.Until<=36864 then max (max (max d p.From) (ix p.Days ((p.Days.length:Int)-1))) p.Until else max (max d p.From) (ix p.Days ((p.Days.length:Int)-1)):=by
 obtain⟨h1,h2,h3,h4,h5,h6⟩:=h
 have h0:p.From<=ix p.Days ((p.Days.length:Int)-1):=by
  have:=asc_le h4 (i:=0) (j:=p.Days.length-1) (by omega) (by omega)
  rw[show ((p.Days.length-1:Nat):Int)=(p.Days.length:Int)-1 by omega] at this
  have h3:ix p.Days ((0:Nat):Int)=p.From:=h3
  omega
 unfold dayF
 by_cases hU:p.Until=36865
 ·rw[if_pos hU,if_neg (by omega)];omega
 ·rw[if_neg hU,if_pos (by omega)];omega
theorem rlat_ok:SpecOK Tryz.prog rlat_sp:=rlat_of λl post hp=>by
 obtain⟨⟨hsz,hck⟩,hp⟩:=hp
 have hreg:=(checkS_0.1 hck).2
 have hl:=hsz.len
 unfold rlat_W
 refine λ_=>LOOP.fuel2 (λ(z:Int) (d:Int)=>∃k:Nat,z=(k:Int)/\k<=l.length/\d=dayS (l.take k)) (λz _=>l.length-Int.toNat z) ⟨0,rfl,Nat.zero_le _,rfl⟩ ?_
 rintro rec (z:Int) (d:Int) ⟨k,i1,i2,i3⟩ hrec
 subst i1
 refine IFB.mk (λhb=> ?_) (λhb=> ?_)
 ·have hb:(k:Int)<l.length:=of_decide_eq_true hb
  have hk:k<l.length:=by omega
  have hm:=ix_mem (l:=l) (i:=(k:Int)) (by omega) (by omega)
  have x1:=(hsz.all _ hm).days
  obtain⟨ho,_,_,hu⟩:=regP_out hreg _ hm
  have h1:=ho.1
  have hd:=dayF_reg (d:=d) ho hu
  refine JOIN.opq λ(J5:Int->Prop) hJ5=>⟨by omega,λ_=> ?_⟩
  have k5:∀y:Int,y=dayF d (ix l (k:Int))->J5 y:=λy h=>by
   rw[hJ5]
   show rec (IntKind.i64.wrap ((k:Int)+1)) y
   rw[wrapS (by omega)]
   exact hrec ((k+1:Nat):Int) _ ⟨k+1,rfl,hk,by rw[dayS_take hk,<-i3,h]⟩ (by show l.length-((k+1:Nat):Int).toNat<l.length-(k:Int).toNat;omega)
  have hw:IntKind.i64.wrap (((ix l (k:Int)).5.length:Int)-1)=((ix l (k:Int)).Days.length:Int)-1:=wrap_in (by omega) (by omega)
  rw[hw]
  refine⟨by omega,IFB.mk (λhc=>k5 _ ?_) (λhc=>k5 _ ?_)⟩
  ·have hc:(ix l (k:Int)).Until<=36864:=of_decide_eq_true hc
   rw[hd,if_pos hc]
  ·have hc:¬(ix l (k:Int)).Until<=36864:=of_decide_eq_false hc
   rw[hd,if_neg hc]
 ·have hb:¬(k:Int)<l.length:=of_decide_eq_false hb
  have hk:k=l.length:=by omega
  have e:d=dayS l:=by rw[i3,hk,List.take_length]
  show post d
  rw[e];exact hp
def rfits_P (e:api_Edit)(post:Bool->Prop):Prop:=(1<=e.Kind/\e.Kind<=5)/\∀q:Bool,(q=true↔fitsP e)->post q
def rfits_sp:Spec:=⟨153,false,false,[.st .api_Edit],.dat (.bool),λx post=>rfits_P (x.1:api_Edit) (λy0=>post (y0,()))⟩
def rfits_C:CtxR:=⟨tau,[],lookJ []⟩
def rfits_W (e:api_Edit)(post:Bool->Prop):Prop:=(↑e.4.length:Int)<=9223372036854775807->(↑e.5.length:Int)<=9223372036854775807->IFB (decide (e.3=1)) (post (decide ((↑e.4.length:Int)=0)&&decide ((↑e.5.length:Int)=1))) (IFB (decide (e.3=2)) (post (decide ((↑e.4.length:Int)=1)&&decide ((↑e.5.length:Int)=1))) (IFB (decide (e.3=3)) (post (decide ((↑e.4.length:Int)=1)&&decide ((2:Int)<=(↑e.5.length:Int))&&decide ((↑e.5.length:Int)<=8))) (IFB (decide (e.3=4)) (post (decide ((2:Int)<=(↑e.4.length:Int))&&decide ((↑e.4.length:Int)<=8)&&decide ((↑e.5.length:Int)=0))) (post (decide ((↑e.4.length:Int)=1)&&decide ((↑e.5.length:Int)=0))))))
theorem rfits_w (e:api_Edit)(post:dens (shT rfits_sp.rs [])->Prop):rfits_W e (λy0=>post (y0,()))=walkG (callR Tryz.prog rfits_C (drawF Tryz.prog tau) 8 0) 153 false [tv (.st .api_Edit) e] rfits_sp.rs post:=by kernel_rfl
theorem rfits_of (h:∀e post,rfits_P e post->rfits_W e post):SpecOK Tryz.prog rfits_sp:=SpecOK.of_rules (C:=rfits_C) (dr:=drawF Tryz.prog tau) (n:=8) (fk:=0) .nil (drawF_ok tau) λx post hp=>HoldW.of (rfits_w x.1 post) (h x.1 (λy0=>post (y0,())) hp)
theorem rfits_ok:SpecOK Tryz.prog rfits_sp:=rfits_of λe post hp=>by
 obtain⟨⟨k1,k2⟩,hp⟩:=hp
 unfold rfits_W
 unfold fitsP at hp
 intro _ _
 obtain⟨day,known,kind,ps,rs⟩:=e
 dsimp only at k1 k2 hp ⊢
 refine IFB.mk (λhc=>hp _ ?_) (λhc=>IFB.mk (λhc2=>hp _ ?_) (λhc2=>IFB.mk (λhc3=>hp _ ?_) (λhc3=>IFB.mk (λhc4=>hp _ ?_) (λhc4=>hp _ ?_))))
 all_goals simp only[Bool.and_eq_true,decide_eq_true_eq,decide_eq_false_iff_not] at *
 all_goals omega
def rchke_P (l:List (api_Parcel))(e:api_Edit)(post:Int->Prop):Prop:=(szL l/\szE e)/\post (editS l e)
def rchke_sp:Spec:=⟨78,false,false,[.sl (.st .api_Parcel),.st .api_Edit],.dat (.int .i64),λx post=>rchke_P (x.1:List (api_Parcel)) (x.2.1:api_Edit) (λy0=>post (y0,()))⟩
def rchke_C:CtxR:=⟨tau,[rule1 rchk_sp,rule1 rlat_sp,rule1 rfits_sp,rule1 rval_sp],lookJ [(0,45,⟨[(71,.dat (.int .i64))],[],(List.range' 72 13++[10]),[],[]⟩),(0,33,⟨[(59,.dat (.int .i64))],[],[60,61,62,8,63,64,65,66,67],[],[]⟩),(0,23,⟨[(6,.dat (.int .i64))],[],(List.range' 37 19),[],[]⟩)]⟩
def rchke_W (l:List (api_Parcel))(e:api_Edit)(post:Int->Prop):Prop:=szL l/\IFB (!decide (checkS l=0)) (post (checkS l)) (IFB (decide (e.3<1)||decide ((5:Int)<e.3)) (post 14) ((szL l/\checkS l=0)/\IFB (decide (e.1<dayS l)||decide ((36864:Int)<e.1)) (post 9) (((1:Int)<=e.3/\e.3<=5)/\∀(v1:Bool),(v1=true↔fitsP {Day:=e.1,Known:=e.2,Kind:=e.3,Parcels:=e.4,Regions:=e.5:api_Edit})->IFB (!v1) (post 3) (LOOP [Ty.int IntKind.i64] (λ(rec2:Int->Prop) (z3:Int)=>(↑e.4.length:Int)<=9223372036854775807->IFB (decide (z3<(↑e.4.length:Int))) (((0:Int)<=z3/\z3<(↑e.4.length:Int))/\((0:Int)<=IntKind.i64.wrap (z3-1)/\IntKind.i64.wrap (z3-1)<(↑e.4.length:Int))/\IFB (decide (ix e.4 z3<=ix e.4 (IntKind.i64.wrap (z3-1)))) (post 3) (rec2 (IntKind.i64.wrap (z3+1)))) ((↑e.4.length:Int)<=9223372036854775807->LOOP [Ty.int IntKind.i64] (λ(rec4:Int->Prop) (z5:Int)=>IFB (decide (z5<(↑e.4.length:Int))) (((0:Int)<=z5/\z5<(↑e.4.length:Int))/\((gx true (decide ((1:Int)<=ix e.4 z5))=true->(↑l.length:Int)<=9223372036854775807)->(gx true (decide ((1:Int)<=ix e.4 z5)&&decide (ix e.4 z5<=(↑l.length:Int)))=true->0<=IntKind.i64.wrap (ix e.4 z5-1)/\IntKind.i64.wrap (ix e.4 z5-1)<(↑l.length:Int))/\IFB (!(decide ((1:Int)<=ix e.4 z5)&&decide (ix e.4 z5<=(↑l.length:Int))&&decide ((ix l (IntKind.i64.wrap (ix e.4 z5-1))).3=36865))) (post 10) (rec4 (IntKind.i64.wrap (z5+1))))) ((↑e.5.length:Int)<=9223372036854775807->LOOP [Ty.int IntKind.i64] (λ(rec6:Int->Prop) (z7:Int)=>IFB (decide (z7<(↑e.5.length:Int))) (((0:Int)<=z7/\z7<(↑e.5.length:Int))/\∀(v8:Bool),(v8=true↔validP (ix e.5 z7).1)->((gx false !v8)=true->(↑(ix e.5 z7).1.length:Int)<=9223372036854775807)->IFB (!v8||decide ((↑(ix e.5 z7).1.length:Int)=0)) (post 7) (rec6 (IntKind.i64.wrap (z7+1)))) (post 0)) ((0:Int),PUnit.unit))) ((0:Int),PUnit.unit))) ((1:Int),PUnit.unit)))))
theorem rchke_w (l:List (api_Parcel))(e:api_Edit)(post:dens (shT rchke_sp.rs [])->Prop):rchke_W l e (λy0=>post (y0,()))=walkG (callR Tryz.prog rchke_C (drawF Tryz.prog tau) 8 0) 78 false [tv (.sl (.st .api_Parcel)) l,tv (.st .api_Edit) e] rchke_sp.rs post:=by kernel_rfl
theorem rchke_of (h:∀l e post,rchke_P l e post->rchke_W l e post):SpecOK Tryz.prog rchke_sp:=SpecOK.of_rules (C:=rchke_C) (dr:=drawF Tryz.prog tau) (n:=8) (fk:=0) (.cons (rule1_ok rchk_ok) (.cons (rule1_ok rlat_ok) (.cons (rule1_ok rfits_ok) (.cons (rule1_ok rval_ok) .nil)))) (drawF_ok tau) λx post hp=>HoldW.of (rchke_w x.1 x.2.1 post) (h x.1 x.2.1 (λy0=>post (y0,())) hp)
theorem propR_ne2 {a:Rn}{v:Bool}(h:v=true↔validP a.Rects):(!v||decide ((a.Rects.length:Int)=0))=true↔¬propR a:=by
 rw[Bool.or_eq_true,Bool.not_eq_true',decide_eq_true_eq]
 unfold propR
 cases v with
 |false=>
  have:¬validP a.Rects:=λh2=>by have:=h.2 h2;cases this
  simp[this]
 |true=>
  have:validP a.Rects:=h.1 rfl
  cases hr:a.Rects with
  |nil=>simp
  |cons x r=>
   rw[hr] at this
   constructor
   ·rintro (h|h)
    ·cases h
    ·rw[List.length_cons] at h;omega
   ·intro h
    exact absurd ⟨by simp,this⟩ h
open Classical in
theorem rchke_ok:SpecOK Tryz.prog rchke_sp:=rchke_of λl e post hp=>by
 obtain⟨⟨hsz,he⟩,hp⟩:=hp
 have hl:=hsz.len
 have hps:=he.pars
 have hrs:=he.regs
 unfold rchke_W
 unfold editS at hp
 refine⟨hsz,IFB.mk (λhb=> ?_) (λhb=> ?_)⟩
 ·have hb:checkS l≠0:=by simpa using hb
  rw[if_pos hb] at hp;exact hp
 have hb:checkS l=0:=by simpa using hb
 rw[if_neg (λh=>h hb)] at hp
 refine IFB.mk (λhk=> ?_) (λhk=> ?_)
 ·rw[Bool.or_eq_true,decide_eq_true_eq,decide_eq_true_eq] at hk
  rw[if_pos hk] at hp;exact hp
 rw[Bool.or_eq_false_iff,decide_eq_false_iff_not,decide_eq_false_iff_not] at hk
 have hk:¬(e.Kind<1\/5<e.Kind):=λh=>h.elim hk.1 hk.2
 rw[if_neg hk] at hp
 refine⟨⟨hsz,hb⟩,IFB.mk (λhd=> ?_) (λhd=> ?_)⟩
 ·rw[Bool.or_eq_true,decide_eq_true_eq,decide_eq_true_eq] at hd
  rw[if_pos hd] at hp;exact hp
 rw[Bool.or_eq_false_iff,decide_eq_false_iff_not,decide_eq_false_iff_not] at hd
 have hd:¬(e.Day<dayS l\/36864<e.Day):=λh=>h.elim hd.1 hd.2
 rw[if_neg hd] at hp
 refine⟨⟨by show 1<=e.Kind;omega,by show e.Kind<=5;omega⟩,λv9 h9=>IFB.mk (λhv=> ?_) (λhv=> ?_)⟩
 ·have hv:v9=false:=by simpa using hv
  have h9:¬fitsP e:=λh=>by rw[h9.2 h] at hv;cases hv
  rw[if_pos (λh=>h9 h.1)] at hp;exact hp
 have hv:v9=true:=by simpa using hv
 have h9:fitsP e:=h9.1 hv
 have bad1:∀i:Nat,i+1<e.Parcels.length->¬ix e.Parcels (i:Int)<ix e.Parcels ((i+1:Nat):Int)->post 3:=λi hi h=>by
  rw[if_pos (λh2=>h (h2.2 i hi))] at hp;exact hp
 have good1:asc e.Parcels->post (if ¬∀k∈e.Parcels,openP l k then 10 else if ¬∀a∈e.Regions,propR a then 7 else 0):=λh=>by
  rw[if_neg (λh2=>h2 ⟨h9,h⟩)] at hp;exact hp
 clear hp
 refine LOOP.fuel (λu=>∃k:Nat,u.1=((k+1:Nat):Int)/\k<=e.Parcels.length/\∀j:Nat,j<k->j+1<e.Parcels.length->ix e.Parcels (j:Int)<ix e.Parcels ((j+1:Nat):Int)) (λu=>e.Parcels.length+1-Int.toNat u.1) ⟨0,rfl,Nat.zero_le _,λj hj=>absurd hj (Nat.not_lt_zero _)⟩ ?_
 rintro rec ⟨(z:Int),⟨⟩⟩ ⟨k,i1,i2,i3⟩ hrec
 have i1:z=((k+1:Nat):Int):=i1
 subst i1
 refine λ_=>IFB.mk (λhb=> ?_) (λhb=> ?_)
 ·have hb:((k+1:Nat):Int)<e.Parcels.length:=of_decide_eq_true hb
  have hw:IntKind.i64.wrap (((k+1:Nat):Int)-1)=(k:Int):=by rw[wrap_in (by omega) (by omega)];omega
  refine⟨by omega,by rw[hw];omega,IFB.mk (λhc=> ?_) (λhc=> ?_)⟩
  ·have hc:=of_decide_eq_true hc
   rw[hw] at hc
   exact bad1 k (by omega) (Int.not_lt.2 hc)
  ·have hc:=of_decide_eq_false hc
   rw[hw] at hc
   show rec (IntKind.i64.wrap (((k+1:Nat):Int)+1))
   rw[wrapS (by omega)]
   refine hrec (((k+1+1:Nat):Int),()) ⟨k+1,rfl,by omega,λj hj hj2=> ?_⟩ (by show e.Parcels.length+1-((k+1+1:Nat):Int).toNat<e.Parcels.length+1-((k+1:Nat):Int).toNat;omega)
   rcases Nat.lt_or_ge j k with hlt|hge
   ·exact i3 j hlt hj2
   ·have:j=k:=by omega
    subst this;exact Int.not_le.1 hc
 have hb:¬((k+1:Nat):Int)<e.Parcels.length:=of_decide_eq_false hb
 have good1:=good1 λi hi=>i3 i (by omega) hi
 clear hrec i3 bad1
 refine λ_=>loopCmp (n:=e.Parcels.length) (by omega) (p:=λi=>openP l (ix e.Parcels (i:Int))) (λrec k hk _ hrec=> ?_) λhall _=> ?_
 ·have hm:=ix_mem (l:=e.Parcels) (i:=(k:Int)) (by omega) (by omega)
  generalize ix e.Parcels (k:Int)=n at *
  have hw:1<=n->n<=(l.length:Int)->IntKind.i64.wrap (n-1)=n-1:=λh1 h2=>wrap_in (by omega) (by omega)
  refine⟨by omega,λ_=>⟨λh=> ?_,?_⟩⟩
  ·rw[gx_t,Bool.and_eq_true,decide_eq_true_eq,decide_eq_true_eq] at h
   rw[hw h.1 h.2];omega
  have key:(decide ((1:Int)<=n)&&decide (n<=(l.length:Int))&&decide ((ix l (IntKind.i64.wrap (n-1))).3=(36865:Int)))=true↔openP l n:=by
   rw[Bool.and_eq_true,Bool.and_eq_true,decide_eq_true_eq,decide_eq_true_eq,decide_eq_true_eq]
   unfold openP
   constructor
   ·rintro ⟨⟨h1,h2⟩,h3⟩
    rw[hw h1 h2] at h3;exact⟨h1,h2,h3⟩
   ·rintro ⟨h1,h2,h3⟩
    rw[hw h1 h2];exact⟨⟨h1,h2⟩,h3⟩
  refine IFB.mk (λhc=> ?_) (λhc=>hrec ?_)
  ·have hn:¬openP l n:=(bnot_iff key).1 hc
   rw[if_pos (λh=>hn (h n hm))] at good1;exact good1
  ·exact key.1 (by simpa using hc)
 have hop:∀k∈e.Parcels,openP l k:=λk hk=>by
  obtain⟨i,hi,rfl⟩:=ix_ex hk
  exact hall i hi
 rw[if_neg (λh=>h hop)] at good1
 refine loopCmp (n:=e.Regions.length) (by omega) (p:=λi=>propR (ix e.Regions (i:Int))) (λrec k hk _ hrec=> ?_) λhall=> ?_
 ·have hm:=ix_mem (l:=e.Regions) (i:=(k:Int)) (by omega) (by omega)
  refine⟨by omega,λv hv _=>IFB.mk (λhc=> ?_) (λhc=>hrec ?_)⟩
  ·have hn:=(propR_ne2 (a:=ix e.Regions (k:Int)) hv).1 hc
   rw[if_pos (λh=>hn (h _ hm))] at good1;exact good1
  ·exact Classical.byContradiction λh=>by
    have:=(propR_ne2 (a:=ix e.Regions (k:Int)) hv).2 h
    have hc:(!v||decide (((ix e.Regions (k:Int)).Rects.length:Int)=0))=false:=hc
    rw[this] at hc;cases hc
 ·rw[if_neg (λh=>h λa ha=>by
   obtain⟨i,hi,rfl⟩:=ix_ex ha
   exact hall i hi)] at good1
  exact good1
def rdisj_P (l:List (api_Region))(post:Int->Int->Bool->Int->Prop):Prop:=(l.length<=60/\∀a∈l,validP a.Rects)/\∀(i k:Int)(q:Bool),(q=true↔¬apartP l)->post i k q 0
def rdisj_sp:Spec:=⟨37,false,false,[.sl (.st .api_Region)],.tup [.dat (.int .i64),.dat (.int .i64),.dat (.bool),.dat (.int .i64)],λx post=>rdisj_P (x.1:List (api_Region)) (λy0 y1 y2 y3=>post (y0,y1,y2,y3,()))⟩
def rdisj_C:CtxR:=⟨tau,[rule1 rval_sp,rule1 rmts_sp],lookJ [(0,11,⟨[(16,.dat (.int .i64))],[],(List.range' 17 19++[7,8,38]),[],[]⟩),(0,17,⟨[(8,.dat (.int .i64))],[],(List.range' 21 15),[],[]⟩),(1023,0,⟨[(0,.dat (.int .i64))],[],[],[],[]⟩),(1023,9,⟨[(10,.dat (.int .i64))],[],[11,12,13,4,14,15,16,17],[],[]⟩)]⟩
def rdisj_W (l:List (api_Region))(post:Int->Int->Bool->Int->Prop):Prop:=JOIN [Ty.int IntKind.i64] (λ(y1:Int)=>IFB (!decide (y1=0)) (post (0:Int) (0:Int) false y1) ((↑l.length:Int)<=9223372036854775807->LOOP [Ty.int IntKind.i64] (λ(rec2:Int->Prop) (z3:Int)=>IFB (decide (z3<(↑l.length:Int))) (LOOP [Ty.int IntKind.i64] (λ(rec4:Int->Prop) (z5:Int)=>(↑l.length:Int)<=9223372036854775807->IFB (decide (z5<(↑l.length:Int))) (((0:Int)<=z3/\z3<(↑l.length:Int))/\((0:Int)<=z5/\z5<(↑l.length:Int))/\∀(v6:Bool),(v6=true↔meetP (ix l z3).1 (ix l z5).1)->IFB v6 (post z3 z5 true 0) (rec4 (IntKind.i64.wrap (z5+1)))) (rec2 (IntKind.i64.wrap (z3+1)))) (IntKind.i64.wrap (z3+1),PUnit.unit)) (post (0:Int) (0:Int) false 0)) ((0:Int),PUnit.unit))) λ(J7:Int->Prop)=>(↑l.length:Int)<=9223372036854775807->IFB (decide ((60:Int)<(↑l.length:Int))) (J7 1) ((↑l.length:Int)<=9223372036854775807->LOOP [Ty.int IntKind.i64] (λ(rec8:Int->Prop) (z9:Int)=>IFB (decide (z9<(↑l.length:Int))) (((0:Int)<=z9/\z9<(↑l.length:Int))/\∀(v10:Bool),(v10=true↔validP (ix l z9).1)->IFB (!v10) (J7 7) (rec8 (IntKind.i64.wrap (z9+1)))) (J7 0)) ((0:Int),PUnit.unit))
theorem rdisj_w (l:List (api_Region))(post:dens (shT rdisj_sp.rs [])->Prop):rdisj_W l (λy0 y1 y2 y3=>post (y0,y1,y2,y3,()))=walkG (callR Tryz.prog rdisj_C (drawF Tryz.prog tau) 8 0) 37 false [tv (.sl (.st .api_Region)) l] rdisj_sp.rs post:=by kernel_rfl
theorem rdisj_of (h:∀l post,rdisj_P l post->rdisj_W l post):SpecOK Tryz.prog rdisj_sp:=SpecOK.of_rules (C:=rdisj_C) (dr:=drawF Tryz.prog tau) (n:=8) (fk:=0) (.cons (rule1_ok rval_ok) (.cons (rule1_ok rmts_ok) .nil)) (drawF_ok tau) λx post hp=>HoldW.of (rdisj_w x.1 post) (h x.1 (λy0 y1 y2 y3=>post (y0,y1,y2,y3,())) hp)
theorem rdisj_ok:SpecOK Tryz.prog rdisj_sp:=rdisj_of λl post hp=>by
 obtain⟨⟨hl,hv⟩,hp⟩:=hp
 unfold rdisj_W
 refine JOIN.opq λ(J7:Int->Prop) hJ7=>λ_=>IFB.no (decide_eq_false (by omega)) λ_=> ?_
 refine loopCmp (n:=l.length) (by omega) (p:=λ_=>True) (λrec k hk _ hrec=> ?_) λ_=> ?_
 ·have hm:=ix_mem (l:=l) (i:=(k:Int)) (by omega) (by omega)
  refine⟨by omega,λv hv2=> ?_⟩
  have:v=true:=hv2.2 (hv _ hm)
  subst this
  exact IFB.no rfl (hrec trivial)
 rw[hJ7]
 refine IFB.no (by simp) λ_=> ?_
 refine loopCmp (n:=l.length) (by omega) (p:=λj=>∀i:Nat,j<i->i<l.length->¬meetP (ix l (i:Int)).Rects (ix l (j:Int)).Rects) (λrec k hk _ hrec=> ?_) λhall=> ?_
 ·rw[wrapS (by omega)]
  refine LOOP.fuel (λu=>∃m:Nat,u.1=(m:Int)/\k<m/\m<=l.length/\∀i:Nat,k<i->i<m->¬meetP (ix l (i:Int)).Rects (ix l (k:Int)).Rects) (λu=>l.length-Int.toNat u.1) ⟨k+1,rfl,Nat.lt_succ_self k,hk,λi h1 h2=>by omega⟩ ?_
  rintro rec2 ⟨(z:Int),⟨⟩⟩ ⟨m,i1,i2,i3,i4⟩ hrec2
  have i1:z=(m:Int):=i1
  subst i1
  refine λ_=>IFB.mk (λhb=> ?_) (λhb=> ?_)
  ·have hb:(m:Int)<l.length:=of_decide_eq_true hb
   refine⟨by omega,by omega,λv hv2=>IFB.mk (λhc=> ?_) (λhc=> ?_)⟩
   ·refine hp _ _ _ ⟨λ_ h=> ?_,λ_=>rfl⟩
    exact h m k i2 (by omega) (meetP_comm.1 (hv2.1 hc))
   ·show rec2 (IntKind.i64.wrap ((m:Int)+1))
    rw[wrapS (by omega)]
    refine hrec2 (((m+1:Nat):Int),()) ⟨m+1,rfl,by omega,by omega,λi h1 h2=> ?_⟩ (by show l.length-((m+1:Nat):Int).toNat<l.length-(m:Int).toNat;omega)
    rcases Nat.lt_or_ge i m with hlt|hge
    ·exact i4 i h1 hlt
    ·have:i=m:=by omega
     subst this
     intro h
     have:=hv2.2 (meetP_comm.1 h)
     rw[this] at hc;cases hc
  ·have hb:¬(m:Int)<l.length:=of_decide_eq_false hb
   have:=hrec λi h1 h2=>i4 i h1 (by omega)
   rw[wrapS (by omega)] at this
   exact this
 ·exact hp _ _ _ ⟨λh=>(by cases h),λh=>absurd (λi j hj hi=>hall j (by omega) i hj hi) h⟩
end RE
end Go.Proofs.YtpeggkeenboacaaGreat
set_option linter.unusedVariables false
set_option linter.unusedSimpArgs false
namespace Go.Proofs.YtpeggkeenboacaaGreat
open Go.RowKit
namespace RE
open PL
namespace PL
def combK (l:List Pc)(e:Ed):Prop:=editS l e=0->(∀k:Nat,k<=e.Regions.length->(canonF (cov (partsR (e.Regions.take k)))).length<=10000)/\∀k:Nat,k<=e.Parcels.length->(canonF (cov (outsL l (e.Parcels.take k)))).length<=10000
end PL
theorem union_step (A B:List Rc):(canonF λx y=>howS 1 (cov (canonF (cov A)) x y) (cov B x y))=canonF (cov (A++B)):=by
 obtain⟨h1,h2⟩:=comb_ok (howS_0 1) (canonF (cov A)) B
 refine (canonF_eq h1 λx y=> ?_).symm
 rw[h2]
 show howS 1 (cov (canonF (cov A)) x y) (cov B x y)=_
 rw[(canon_cov A).2,cov_app]
 unfold howS
 simp
theorem canonF_nil:canonF (cov [])=[]:=canonF_eq canon_nil λ_ _=>rfl
theorem take_snoc {α:Type}[Inhabited α]{l:List α}{k:Nat}(hk:k<l.length):l.take (k+1)=l.take k++[ix l (k:Int)]:=by
 rw[List.take_succ_eq_append_getElem hk,ix_lt hk]
theorem partsR_snoc (l:List Rn)(a:Rn):partsR (l++[a])=partsR l++a.Rects:=by
 unfold partsR;simp
def rappX_P (l:List (api_Parcel))(e:api_Edit)(post:List (api_Parcel)->Int->Prop):Prop:=(szL l/\szE e/\e.Kind≠2/\combK l e)/\post (applyS l e).1 (applyS l e).2
def rappX_sp:Spec:=⟨21,false,true,[.sl (.st .api_Parcel),.st .api_Edit],.tup [.dat (.sl (.st .api_Parcel)),.dat (.int .i64)],λx post=>rappX_P (x.1:List (api_Parcel)) (x.2.1:api_Edit) (λy0 y1=>post (y0,y1,()))⟩
def rappX_C:CtxR:=⟨tau,[rule1 rcopO_sp,rule1 rchke_sp,rule1 rmeet10_sp,rule1 rdisj_sp,rule1 rcombB_sp,rule1 rrec_sp],lookJ [(0,105,⟨[(211,.dat (.int .i64)),(8,.own 50 (.st .api_Parcel))],[],[212,213,214,25,232,231,230,229,228,227,226,225,224,223,222,221,220,219,218,217,216,215,233],[2],[]⟩),(0,1000054,⟨[(8,.own 50 (.st .api_Parcel))],[],[215,216,217,218,219,220,221,222,223,224,225,226,227,228,229,230,231,232],[3],[]⟩),(0,95,⟨[(197,.dat (.int .i64))],[],[198,199,200,23,201,202,203,204,205,206,207,208],[],[(2,50,(.st .api_Parcel))]⟩),(0,88,⟨[(9,.dat (.sl (.st .api_Region)))],[],[162,161,163,164,165,179,178,177,176,175,174,173,172,171,170,21,169,168,19,166,167,180,181,182,184,185,186,51,50,122,121,124,125,126,123,127,128,129,130,12,13,14,15,131,133,134,135,144,143,142,141,140,18,139,138,16,136,137,145,146,147,148,149,150,151,152,153,154,155,156,157,159,160,37,38,40,39,41,42,43,44,45,46,48,49],[],[]⟩),(0,75,⟨[(166,.dat (.int .i64)),(19,.dat (.sl (.st .api_Rect)))],[],[167,168,169,21,170,171,172,173,174,175,176,177,178,179],[],[]⟩),(0,55,⟨[(136,.dat (.int .i64)),(16,.dat (.sl (.st .api_Rect)))],[],[137,138,139,18,140,141,142,143,144],[],[]⟩)]⟩
abbrev rappX_a0 (z7:List api_Parcel)(e:api_Edit)(y1:List api_Region)(z6:Int):={Number:=IntKind.i64.wrap ((↑z7.length:Int)+(1:Int)),From:=e.1,Until:=(36865:Int),Parents:=[]++e.4,Days:=[e.1],Regions:=[{Rects:=(ix y1 z6).1:api_Region}]:api_Parcel}
abbrev rappX_a1 (e:api_Edit)(z7:List api_Parcel)(y1:List api_Region)(z6:Int)(J9:List api_Parcel->Prop):=((((0:Nat)+e.4.length) * (8:Nat)<=(140737488355328:Nat)/\(z7.length+[(rappX_a0 z7 e y1 z6)].length) * (96:Nat)<=(140737488355328:Nat)/\J9 (z7++[(rappX_a0 z7 e y1 z6)]))/\((0:Nat)+e.4.length) * (8:Nat)<=(140737488355328:Nat)/\(z7.length+[(rappX_a0 z7 e y1 z6)].length) * (96:Nat)<=(140737488355328:Nat)/\J9 (z7++[(rappX_a0 z7 e y1 z6)]))
abbrev rappX_a2 (l:List (api_Parcel))(e:api_Edit):=(ix l (IntKind.i64.wrap (ix e.4 (0:Int)-(1:Int))))
abbrev rappX_a3 (l:List (api_Parcel))(e:api_Edit)(z25:Int):=(↑(ix l (IntKind.i64.wrap (ix e.4 z25-(1:Int)))).6.length:Int)
def rappX_W (l:List (api_Parcel))(e:api_Edit)(post:List (api_Parcel)->Int->Prop):Prop:=szL l/\(szL l/\szE {Day:=e.1,Known:=e.2,Kind:=e.3,Parcels:=e.4,Regions:=e.5:api_Edit})/\IFB (!decide (editS l {Day:=e.1,Known:=e.2,Kind:=e.3,Parcels:=e.4,Regions:=e.5:api_Edit}=0)) (post l (editS l {Day:=e.1,Known:=e.2,Kind:=e.3,Parcels:=e.4,Regions:=e.5:api_Edit})) (szL l/\JOIN [(Ty.st Sn.api_Region).sl] (λ(y1:List api_Region)=>(↑l.length:Int)<=9223372036854775807->(↑y1.length:Int)<=9223372036854775807->IFB (decide ((60:Int)<IntKind.i64.wrap ((↑l.length:Int)+(↑y1.length:Int)))) (post l 1) ((↑e.4.length:Int)<=9223372036854775807->LOOP [Ty.int IntKind.i64,(Ty.st Sn.api_Parcel).sl] (λ(rec2:Int->List api_Parcel->Prop) (z3:Int) (z4:List api_Parcel)=>IFB (decide (z3<(↑e.4.length:Int))) (((0:Int)<=z3/\z3<(↑e.4.length:Int))/\((0:Int)<=IntKind.i64.wrap (ix e.4 z3-1)/\IntKind.i64.wrap (ix e.4 z3-1)<(↑z4.length:Int))/\rec2 (IntKind.i64.wrap (z3+1)) (z4.set (IntKind.i64.wrap (ix e.4 z3-1)).toNat (⟨(ix z4 (IntKind.i64.wrap (ix e.4 z3-1))).1,(ix z4 (IntKind.i64.wrap (ix e.4 z3-1))).2,e.1,(ix z4 (IntKind.i64.wrap (ix e.4 z3-1))).4,(ix z4 (IntKind.i64.wrap (ix e.4 z3-1))).5,(ix z4 (IntKind.i64.wrap (ix e.4 z3-1))).6⟩:api_Parcel))) ((↑y1.length:Int)<=9223372036854775807->LOOP [Ty.int IntKind.i64,(Ty.st Sn.api_Parcel).sl] (λ(rec5:Int->List api_Parcel->Prop) (z6:Int) (z7:List api_Parcel)=>IFB (decide (z6<(↑y1.length:Int))) (((0:Int)<=z6/\z6<(↑y1.length:Int))/\JOIN [(Ty.st Sn.api_Parcel).sl] (λ(y8:List api_Parcel)=>rec5 (IntKind.i64.wrap (z6+1)) y8) λ(J9:List api_Parcel->Prop)=>(↑z7.length:Int)<=9223372036854775807->((((0:Nat)+e.4.length) * (8:Nat)<=140737488355328/\((z7.length+[(rappX_a0 z7 e y1 z6)].length) * (96:Nat)<=140737488355328/\J9 (z7++[(rappX_a0 z7 e y1 z6)]))/\(z7.length+[(rappX_a0 z7 e y1 z6)].length) * (96:Nat)<=140737488355328/\J9 (z7++[(rappX_a0 z7 e y1 z6)]))/\(rappX_a1 e z7 y1 z6 J9)/\(((0:Nat)+e.4.length) * (8:Nat)<=140737488355328/\(z7.length+[(rappX_a0 z7 e y1 z6)].length) * (96:Nat)<=140737488355328/\J9 (z7++[(rappX_a0 z7 e y1 z6)]))/\((0:Nat)+e.4.length) * (8:Nat)<=140737488355328/\(z7.length+[(rappX_a0 z7 e y1 z6)].length) * (96:Nat)<=140737488355328/\J9 (z7++[(rappX_a0 z7 e y1 z6)]))/\((rappX_a1 e z7 y1 z6 J9)/\((0:Nat)+e.4.length) * (8:Nat)<=140737488355328/\(z7.length+[(rappX_a0 z7 e y1 z6)].length) * (96:Nat)<=140737488355328/\J9 (z7++[(rappX_a0 z7 e y1 z6)]))/\(rappX_a1 e z7 y1 z6 J9)/\((0:Nat)+e.4.length) * (8:Nat)<=140737488355328/\(z7.length+[(rappX_a0 z7 e y1 z6)].length) * (96:Nat)<=140737488355328/\J9 (z7++[(rappX_a0 z7 e y1 z6)])) (post z7 0)) ((0:Int),z4,PUnit.unit))) ((0:Int),l,PUnit.unit))) λ(J10:List api_Region->Prop)=>IFB (decide (e.3=1)) ((Int.NonNeg 0/\0<(↑e.5.length:Int))/\(szL l/\∀(v11:api_Parcel),v11∈l->0<v11.6.length)/\∀(v12:Bool),(v12=true↔hitP l {Rects:=(ix e.5 0).1:api_Region} 0)->IFB v12 (post l 11) (J10 e.5)) (IFB (decide (e.3=2)) ((Int.NonNeg 0/\0<(↑e.5.length:Int))/\(Int.NonNeg 0/\0<(↑e.4.length:Int))/\(szL l/\∀(v13:api_Parcel),v13∈l->0<v13.6.length)/\∀(v14:Bool),(v14=true↔hitP l {Rects:=(ix e.5 0).1:api_Region} (ix e.4 0))->IFB v14 (post l 11) ((Int.NonNeg 0/\0<(↑e.4.length:Int))/\((0:Int)<=IntKind.i64.wrap (ix e.4 0-1)/\IntKind.i64.wrap (ix e.4 0-1)<(↑l.length:Int))/\((↑(rappX_a2 l e).5.length:Int)<=9223372036854775807->((0:Int)<=IntKind.i64.wrap ((↑(rappX_a2 l e).5.length:Int)-1)/\IntKind.i64.wrap ((↑(rappX_a2 l e).5.length:Int)-1)<(↑(rappX_a2 l e).5.length:Int))/\IFB (decide (ix (rappX_a2 l e).5 (IntKind.i64.wrap ((↑(rappX_a2 l e).5.length:Int)-1))=e.1)) ((Int.NonNeg 0/\0<(↑e.5.length:Int))/\((0:Int)<=IntKind.i64.wrap ((↑(rappX_a2 l e).5.length:Int)-1)/\IntKind.i64.wrap ((↑(rappX_a2 l e).5.length:Int)-1)<(↑(rappX_a2 l e).6.length:Int))/\False) ((Int.NonNeg 0/\0<(↑e.5.length:Int))/\(False/\False)/\False)))) (IFB (decide (e.3=3)) ((e.5.length<=60/\∀(v15:api_Region),v15∈e.5->v15.1.length<=120/\(∀(v16:api_Rect),v16∈v15.1->0<=v16.1/\v16.1<v16.3/\v16.3<=16384/\0<=v16.2/\v16.2<v16.4/\v16.4<=16384)/\Canon v15.1)/\∀(v17 v18:Int)(v19:Bool),(v19=true↔apartP e.5->False)->IFB v19 (post l 11) ((↑e.5.length:Int)<=9223372036854775807->LOOP [Ty.int IntKind.i64,(Ty.st Sn.api_Rect).sl] (λ(rec20:Int->List api_Rect->Prop) (z21:Int) (z22:List api_Rect)=>IFB (decide (z21<(↑e.5.length:Int))) (((0:Int)<=z21/\z21<(↑e.5.length:Int))/\(z22.length<=10000/\(ix e.5 z21).1.length<=10000)/\rec20 (IntKind.i64.wrap (z21+1)) (canonF λ(x y:Int)=>howS (1:Int) (cov z22 x y) (cov (ix e.5 z21).1 x y))) ((Int.NonNeg 0/\0<(↑e.4.length:Int))/\((0:Int)<=IntKind.i64.wrap (ix e.4 0-1)/\IntKind.i64.wrap (ix e.4 0-1)<(↑l.length:Int))/\((↑(rappX_a2 l e).6.length:Int)<=9223372036854775807->((0:Int)<=IntKind.i64.wrap ((↑(rappX_a2 l e).6.length:Int)-1)/\IntKind.i64.wrap ((↑(rappX_a2 l e).6.length:Int)-1)<(↑(rappX_a2 l e).6.length:Int))/\z22.length<=1000000000/\∀(v23:Bool),(v23=true↔z22=(ix (rappX_a2 l e).6 (IntKind.i64.wrap ((↑(rappX_a2 l e).6.length:Int)-1))).1)->IFB (!v23) (post l 12) (J10 e.5)))) ((0:Int),[],PUnit.unit))) (IFB (decide (e.3=4)) ((↑e.4.length:Int)<=9223372036854775807->LOOP [Ty.int IntKind.i64,(Ty.st Sn.api_Rect).sl] (λ(rec24:Int->List api_Rect->Prop) (z25:Int) (z26:List api_Rect)=>IFB (decide (z25<(↑e.4.length:Int))) (((0:Int)<=z25/\z25<(↑e.4.length:Int))/\((0:Int)<=IntKind.i64.wrap (ix e.4 z25-1)/\IntKind.i64.wrap (ix e.4 z25-1)<(↑l.length:Int))/\((rappX_a3 l e z25)<=9223372036854775807->((0:Int)<=IntKind.i64.wrap ((rappX_a3 l e z25)-1)/\IntKind.i64.wrap ((rappX_a3 l e z25)-1)<(rappX_a3 l e z25))/\(z26.length<=10000/\(ix (ix l (IntKind.i64.wrap (ix e.4 z25-1))).6 (IntKind.i64.wrap ((rappX_a3 l e z25)-1))).1.length<=10000)/\rec24 (IntKind.i64.wrap (z25+1)) (canonF λ(x y:Int)=>howS (1:Int) (cov z26 x y) (cov (ix (ix l (IntKind.i64.wrap (ix e.4 z25-1))).6 (IntKind.i64.wrap ((rappX_a3 l e z25)-1))).1 x y)))) ((↑z26.length:Int)<=9223372036854775807->IFB (decide ((120:Int)<(↑z26.length:Int))) (post l 1) (J10 [(⟨z26⟩:api_Region)]))) ((0:Int),[],PUnit.unit)) (J10 [])))))
theorem rappX_w (l:List (api_Parcel))(e:api_Edit)(post:dens (shT rappX_sp.rs [])->Prop):rappX_W l e (λy0 y1=>post (y0,y1,()))=walkG (callR Tryz.prog rappX_C (drawF Tryz.prog tau) 12 0) 21 false [tv (.sl (.st .api_Parcel)) l,tv (.st .api_Edit) e] rappX_sp.rs post:=by kernel_rfl
theorem rappX_of (h:∀(l:List (api_Parcel))(e:api_Edit)(post:List (api_Parcel)->Int->Prop),rappX_P l e post->rappX_W l e post):SpecOK Tryz.prog rappX_sp:=SpecOK.of_rules (C:=rappX_C) (dr:=drawF Tryz.prog tau) (n:=12) (fk:=0) (.cons (rule1_ok rcopO_ok) (.cons (rule1_ok rchke_ok) (.cons (rule1_ok rmeet10_ok) (.cons (rule1_ok rdisj_ok) (.cons (rule1_ok rcombB_ok) (.cons (rule1_ok rrec_ok) .nil)))))) (drawF_ok tau) λx post hp=>HoldW.of (rappX_w x.1 x.2.1 post) (h x.1 x.2.1 (λy0 y1=>post (y0,y1,())) hp)
set_option maxHeartbeats 4000000 in
theorem rappX_ok:SpecOK Tryz.prog rappX_sp:=rappX_of λl e post hp=>by
 obtain⟨⟨hsz,hse,hk2,hcb⟩,hp⟩:=hp
 unfold rappX_W rappX_a3 rappX_a2 rappX_a1 rappX_a0
 refine⟨hsz,⟨hsz,hse⟩,IFB.mk (λhb=> ?_) (λhb=> ?_)⟩
 ·have hne:editS l e≠0:=by simpa using hb
  rw[applyS_err hne] at hp;exact hp
 have h0:editS l e=0:=by simpa using hb
 obtain⟨e1,e2,e3,⟨e4,e5⟩,e6,e7⟩:=editS_0.1 h0
 obtain⟨h60,hreg⟩:=checkS_0.1 e1
 obtain⟨cb1,cb2⟩:=hcb h0
 clear hcb hb
 have hl:=hsz.len
 have hpk:∀k:Nat,k<e.4.length->1<=ix e.4 (k:Int)/\ix e.4 (k:Int)<=(l.length:Int):=λk hk=>by
  obtain⟨q1,q2,_⟩:=e6 _ (ix_mem (l:=e.4) (i:=(k:Int)) (by omega) (by omega))
  exact⟨q1,q2⟩
 have hpl:e.4.length<=8:=by unfold fitsP at e4;omega
 have hrl:e.5.length<=8:=by unfold fitsP at e4;omega
 refine⟨hsz,JOIN.opq λ(J:List api_Region->Prop) hJ=> ?_⟩
 have tail:∀y1:List api_Region,y1.length<=8->(60<l.length+y1.length->post l 1)->(l.length+y1.length<=60->post (addL e.1 e.4 (endL e.1 l e.4) y1) 0)->J y1:=λy1 hy h1 h2=>by
  rw[hJ]
  intro _ _
  have w0:IntKind.i64.wrap ((l.length:Int)+(y1.length:Int))=(l.length:Int)+(y1.length:Int):=wrap_in (by omega) (by omega)
  rw[w0]
  refine IFB.mk (λhc=>h1 (by have:=of_decide_eq_true hc;omega)) (λhc=> ?_)
  have hc:=of_decide_eq_false hc
  have h2:=h2 (by omega)
  intro _
  refine LOOP.fuel2 (λ(z:Int) (b:List Pc)=>∃k:Nat,z=(k:Int)/\k<=e.4.length/\b=endL e.1 l (e.4.take k)) (λz _=>e.4.length-Int.toNat z) ⟨0,rfl,Nat.zero_le _,rfl⟩ ?_
  rintro rec (z:Int) (b:List Pc) ⟨k,i1,i2,i3⟩ hrec
  subst i1
  have hbl:b.length=l.length:=by rw[i3,endL_len]
  refine IFB.mk (λhb=> ?_) (λhb=> ?_)
  ·have hb:(k:Int)<e.4.length:=of_decide_eq_true hb
   have hk:k<e.4.length:=by omega
   obtain⟨q1,q2⟩:=hpk k hk
   have w1:IntKind.i64.wrap (ix e.4 (k:Int)-1)=ix e.4 (k:Int)-1:=wrap_in (by omega) (by omega)
   rw[w1,wrapS (by omega)]
   refine⟨⟨by omega,hb⟩,⟨by omega,by omega⟩,hrec ((k+1:Nat):Int) _ ⟨k+1,rfl,hk,?_⟩ (by show e.4.length-((k+1:Nat):Int).toNat<e.4.length-(k:Int).toNat;omega)⟩
   have e9:endL e.1 l (e.4.take (k+1))=endP e.1 (endL e.1 l (e.4.take k)) (ix e.4 (k:Int)):=fold_take hk
   rw[e9,<-i3];rfl
  ·have hb:¬(k:Int)<e.4.length:=of_decide_eq_false hb
   have hk:k=e.4.length:=by omega
   have hbe:b=endL e.1 l e.4:=by rw[i3,hk,List.take_length]
   intro _
   refine LOOP.fuel2 (λ(z:Int) (c:List Pc)=>∃j:Nat,z=(j:Int)/\j<=y1.length/\c=addL e.1 e.4 b (y1.take j)) (λz _=>y1.length-Int.toNat z) ⟨0,rfl,Nat.zero_le _,rfl⟩ ?_
   rintro rec2 (z:Int) (c:List Pc) ⟨j,j1,j2,j3⟩ hrec2
   subst j1
   have hcl:c.length=l.length+j:=by rw[j3,addL_len,List.length_take,hbl];omega
   refine IFB.mk (λhc2=> ?_) (λhc2=> ?_)
   ·have hc2:(j:Int)<y1.length:=of_decide_eq_true hc2
    have hj:j<y1.length:=by omega
    refine⟨⟨by omega,hc2⟩,JOIN.opq λ(J9:List api_Parcel->Prop) hJ9 _=> ?_⟩
    have w3:IntKind.i64.wrap ((c.length:Int)+1)=(c.length:Int)+1:=wrap_in (by omega) (by omega)
    rw[w3]
    have c1:(0+e.4.length) * 8<=140737488355328:=by omega
    have c2:(c.length+[({Number:=(c.length:Int)+1,From:=e.1,Until:=36865,Parents:=[]++e.4,Days:=[e.1],Regions:=[{Rects:=(ix y1 (j:Int)).1:api_Region}]}:api_Parcel)].length) * 96<=140737488355328:=by simp only[List.length_cons,List.length_nil];omega
    have c3:J9 (c++[({Number:=(c.length:Int)+1,From:=e.1,Until:=36865,Parents:=[]++e.4,Days:=[e.1],Regions:=[{Rects:=(ix y1 (j:Int)).1:api_Region}]}:api_Parcel)]):=by
     rw[hJ9,wrapS (by omega)]
     refine hrec2 ((j+1:Nat):Int) _ ⟨j+1,rfl,hj,?_⟩ (by show y1.length-((j+1:Nat):Int).toNat<y1.length-(j:Int).toNat;omega)
     have e9:addL e.1 e.4 b (y1.take (j+1))=addL e.1 e.4 b (y1.take j)++[newP (((addL e.1 e.4 b (y1.take j)).length:Int)+1) e.1 e.4 (ix y1 (j:Int))]:=fold_take hj
     rw[e9,<-j3];rfl
    repeat' (first|exact c1|exact c2|exact c3|with_reducible apply And.intro)
   ·have hc2:¬(j:Int)<y1.length:=of_decide_eq_false hc2
    have hj:j=y1.length:=by omega
    have e9:c=addL e.1 e.4 (endL e.1 l e.4) y1:=by rw[j3,hj,List.take_length,hbe]
    rw[e9];exact h2
 clear hJ
 have hz:Int.NonNeg (0:Int):=Int.NonNeg.mk 0
 have hr6:∀p∈l,0<p.6.length:=λp hp=>by have:=regP_days hreg p hp;omega
 have nowW:∀p∈l,IntKind.i64.wrap ((p.6.length:Int)-1)=(p.6.length:Int)-1:=λp hp=>by
  have:=hr6 p hp
  have:=(hsz.all p hp).regs
  exact wrap_in (by omega) (by omega)
 have nowV:∀p∈l,validP (nowR p).Rects:=λp hp=>by
  have h1:=hr6 p hp
  exact ((regP_out hreg p hp).1.2.2.2.2.2 _ (ix_mem (l:=p.6) (i:=(p.6.length:Int)-1) (by omega) (by omega))).2
 refine IFB.mk (λhc=> ?_) (λhc=>IFB.mk (λhc2=>absurd (of_decide_eq_true hc2) hk2) (λ_=>IFB.mk (λhc3=> ?_) (λhc3=>IFB.mk (λhc4=> ?_) (λhc4=> ?_))))
 ·have hc:=of_decide_eq_true hc
  have h51:e.5.length=1/\e.4.length=0:=by unfold fitsP at e4;omega
  have h4n:e.4=[]:=List.eq_nil_of_length_eq_zero h51.2
  unfold applyS at hp
  rw[if_neg (by rw[h0];simp),if_pos hc] at hp
  refine⟨⟨hz,by omega⟩,⟨hsz,hr6⟩,λv hv=>IFB.mk (λhq=> ?_) (λhq=> ?_)⟩
  ·rw[if_pos (hv.1 hq)] at hp;exact hp
  ·have hn:¬hitP l (ix e.5 0) 0:=λh=>by rw[hv.2 h] at hq;cases hq
   rw[if_neg hn] at hp
   refine tail e.5 hrl (λh=> ?_) (λh=> ?_)
   ·rw[if_pos (by omega)] at hp;exact hp
   ·rw[if_neg (by omega)] at hp
    rw[h4n];exact hp
 ·have hc3:=of_decide_eq_true hc3
  have hc:=of_decide_eq_false hc
  have h51:e.4.length=1/\2<=e.5.length:=by unfold fitsP at e4;omega
  obtain⟨p,hp4⟩:∃p,e.4=[p]:=List.length_eq_one_iff.1 h51.1
  have hp0:ix e.4 0=p:=by rw[hp4];rfl
  obtain⟨o1,o2,o3⟩:=e6 p (by rw[hp4];simp)
  have hm:ix l (p-1)∈l:=ix_mem (by omega) (by omega)
  have hval:∀a∈e.5,validP a.Rects:=λa ha=>(e7 a ha).2
  unfold applyS at hp
  rw[if_neg (by rw[h0];simp),if_neg hc,if_neg (by omega),if_pos hc3] at hp
  have hp0':ix e.Parcels 0=p:=hp0
  rw[hp0'] at hp
  refine⟨⟨by omega,λa ha=>hval a ha⟩,λ_ _ v hv=>IFB.mk (λhq=> ?_) (λhq _=> ?_)⟩
  ·rw[if_pos (hv.1 hq)] at hp;exact hp
  have hn:¬¬apartP e.5:=λh=>by rw[hv.2 h] at hq;cases hq
  rw[if_neg hn] at hp
  refine LOOP.fuel2 (λ(z:Int) (b:List Rc)=>∃k:Nat,z=(k:Int)/\k<=e.5.length/\b=canonF (cov (partsR (e.5.take k)))) (λz _=>e.5.length-Int.toNat z) ⟨0,rfl,Nat.zero_le _,canonF_nil.symm⟩ ?_
  rintro rec (z:Int) (b:List Rc) ⟨k,i1,i2,i3⟩ hrec
  subst i1
  refine IFB.mk (λhb=> ?_) (λhb=> ?_)
  ·have hb:(k:Int)<e.5.length:=of_decide_eq_true hb
   have hk:k<e.5.length:=by omega
   have hb1:=cb1 k i2
   have hv1:=(hval _ (ix_mem (l:=e.5) (i:=(k:Int)) (by omega) (by omega))).1
   rw[wrapS (by omega)]
   refine⟨⟨by omega,hb⟩,⟨by rw[i3];exact hb1,by omega⟩,hrec ((k+1:Nat):Int) _ ⟨k+1,rfl,hk,?_⟩ (by show e.5.length-((k+1:Nat):Int).toNat<e.5.length-(k:Int).toNat;omega)⟩
   rw[i3,union_step,take_snoc hk,partsR_snoc]
  ·have hb:¬(k:Int)<e.5.length:=of_decide_eq_false hb
   have hk:k=e.5.length:=by omega
   have hbe:b=canonF (cov (partsR e.5)):=by rw[i3,hk,List.take_length]
   have hbl:=cb1 e.5.length (Nat.le_refl _)
   rw[List.take_length] at hbl
   rw[hp0]
   have w1:IntKind.i64.wrap (p-1)=p-1:=wrap_in (by omega) (by omega)
   rw[w1,nowW _ hm]
   have r6:=hr6 _ hm
   refine⟨⟨hz,by omega⟩,⟨by omega,by omega⟩,λ_=>⟨⟨by omega,by omega⟩,by rw[hbe];omega,λv2 hv2=>IFB.mk (λhq2=> ?_) (λhq2=> ?_)⟩⟩
   ·have hne:b≠(nowR (ix l (p-1))).Rects:=λh=>by rw[hv2.2 h] at hq2;cases hq2
    have hncov:¬∀x y,cov (partsR e.5) x y=cov (nowR (ix l (p-1))).Rects x y:=λh=>hne (by
     rw[hbe]
     exact canonF_eq (nowV _ hm).2.2 λx y=>(h x y).symm)
    rw[if_pos hncov] at hp
    exact hp
   ·have heq:b=(nowR (ix l (p-1))).Rects:=hv2.1 (by simpa using hq2)
    have hcov:¬¬∀x y,cov (partsR e.5) x y=cov (nowR (ix l (p-1))).Rects x y:=λh=>h λx y=>by
     rw[<-heq,hbe,(canon_cov _).2]
    rw[if_neg hcov] at hp
    refine tail e.5 hrl (λh=> ?_) (λh=> ?_)
    ·rw[if_pos h] at hp;exact hp
    ·rw[if_neg (by omega)] at hp;exact hp
 ·have hc4:=of_decide_eq_true hc4
  have hc:=of_decide_eq_false hc
  have hc3:=of_decide_eq_false hc3
  unfold applyS at hp
  rw[if_neg (by rw[h0];simp),if_neg hc,if_neg (by omega),if_neg hc3,if_pos hc4] at hp
  intro _
  refine LOOP.fuel2 (λ(z:Int) (b:List Rc)=>∃k:Nat,z=(k:Int)/\k<=e.4.length/\b=canonF (cov (outsL l (e.4.take k)))) (λz _=>e.4.length-Int.toNat z) ⟨0,rfl,Nat.zero_le _,canonF_nil.symm⟩ ?_
  rintro rec (z:Int) (b:List Rc) ⟨k,i1,i2,i3⟩ hrec
  subst i1
  have hb1:=cb2 k i2
  refine IFB.mk (λhb=> ?_) (λhb _=> ?_)
  ·have hb:(k:Int)<e.4.length:=of_decide_eq_true hb
   have hk:k<e.4.length:=by omega
   obtain⟨q1,q2⟩:=hpk k hk
   have w1:IntKind.i64.wrap (ix e.4 (k:Int)-1)=ix e.4 (k:Int)-1:=wrap_in (by omega) (by omega)
   have hm:ix l (ix e.4 (k:Int)-1)∈l:=ix_mem (by omega) (by omega)
   have hv1:=(nowV _ hm).1
   have r6:=hr6 _ hm
   rw[w1,nowW _ hm,wrapS (by omega)]
   have hv1:(ix (ix l (ix e.4 (k:Int)-1)).6 (((ix l (ix e.4 (k:Int)-1)).6.length:Int)-1)).1.length<=120:=hv1
   refine⟨⟨by omega,hb⟩,⟨by omega,by omega⟩,λ_=>⟨⟨by omega,by omega⟩,⟨by rw[i3];exact hb1,by omega⟩,hrec ((k+1:Nat):Int) _ ⟨k+1,rfl,hk,?_⟩ (by show e.4.length-((k+1:Nat):Int).toNat<e.4.length-(k:Int).toNat;omega)⟩⟩
   rw[i3,union_step,take_snoc hk]
   have:outsL l (e.4.take k++[ix e.4 (k:Int)])=outsL l (e.4.take k)++(nowR (ix l (ix e.4 (k:Int)-1))).Rects:=by
    unfold outsL
    rw[List.map_append,List.map_singleton,partsR_snoc]
   rw[this];rfl
  ·have hb:¬(k:Int)<e.4.length:=of_decide_eq_false hb
   have hk:k=e.4.length:=by omega
   have hbe:b=canonF (cov (outsL l e.4)):=by rw[i3,hk,List.take_length]
   refine IFB.mk (λhq=> ?_) (λhq=> ?_)
   ·have hq:=of_decide_eq_true hq
    rw[if_pos (by have:b.length=(canonF (cov (outsL l e.4))).length:=by rw[hbe]
                  have h2:120<b.length:=by omega
                  rw[this] at h2;exact h2)] at hp
    exact hp
   ·have hq:=of_decide_eq_false hq
    rw[if_neg (by have:b.length=(canonF (cov (outsL l e.4))).length:=by rw[hbe]
                  have h2:¬120<b.length:=by omega
                  rw[this] at h2;exact h2)] at hp
    refine tail [⟨b⟩] (by simp) (λh=> ?_) (λh=> ?_)
    ·simp only[List.length_cons,List.length_nil] at h
     rw[if_pos (by omega)] at hp;exact hp
    ·simp only[List.length_cons,List.length_nil] at h
     rw[if_neg (by omega)] at hp
     rw[hbe];exact hp
 ·have hc4:=of_decide_eq_false hc4
  have hc:=of_decide_eq_false hc
  have hc3:=of_decide_eq_false hc3
  unfold applyS at hp
  rw[if_neg (by rw[h0];simp),if_neg hc,if_neg (by omega),if_neg hc3,if_neg hc4] at hp
  refine tail [] (by simp) (λh=> ?_) (λ_=>hp)
  simp only[List.length_nil] at h
  omega
end RE
end Go.Proofs.YtpeggkeenboacaaGreat
namespace Go.Proofs.YtpeggkeenboacaaGreat
namespace RE
open Go.RowKit
open PL
theorem applyS_len {l:List Pc}{e:Ed}:(applyS l e).1.length<=l.length+max 1 e.Regions.length:=by
 unfold applyS
 split
 ·dsimp only;omega
 split
 ·split
  ·dsimp only;omega
  split
  ·dsimp only;omega
  ·dsimp only;rw[addL_len];omega
 split
 ·split
  ·dsimp only;omega
  ·dsimp only;rw[List.length_set];omega
 split
 ·split
  ·dsimp only;omega
  split
  ·dsimp only;omega
  split
  ·dsimp only;omega
  ·dsimp only;rw[addL_len,endL_len];omega
 split
 ·split
  ·dsimp only;omega
  split
  ·dsimp only;omega
  ·dsimp only;rw[addL_len,endL_len];simp only[List.length_cons,List.length_nil];omega
 ·dsimp only;rw[endL_len];omega
theorem union_box {N:Int}{l:List Rc}(h:∀r∈l,0<=r.Left/\0<=r.Low/\r.Right<=N/\r.High<=N):∀r∈canonF (cov l),0<=r.Left/\r.Left<r.Right/\r.Right<=N/\0<=r.Low/\r.Low<r.High/\r.High<=N:=by
 obtain⟨c1,c2⟩:=canon_cov l
 refine canon_box c1 (λx y hxy=> ?_)
 rw[c2] at hxy
 obtain⟨s,hs,s1,s2,s3,s4⟩:=cov_iff.1 hxy
 obtain⟨t1,t2,t3,t4⟩:=h s hs
 omega
theorem union_len {N:Int}(h0:0<=N){l:List Rc}(h:∀r∈l,0<=r.Left/\0<=r.Low/\r.Right<=N/\r.High<=N):((canonF (cov l)).length:Int)<=N * N:=by
 obtain⟨c1,c2⟩:=canon_cov l
 have:=canon_len c1 (x0:=0) (x1:=N) (y0:=0) (y1:=N) h0 h0 (λx y hxy=>by
  rw[c2] at hxy
  obtain⟨s,hs,s1,s2,s3,s4⟩:=cov_iff.1 hxy
  obtain⟨t1,t2,t3,t4⟩:=h s hs
  omega)
 simpa using this
theorem partsR_mem {l:List Rn}{r:Rc}(h:r∈partsR l):∃a∈l,r∈a.Rects:=by
 unfold partsR at h
 rw[List.mem_flatMap] at h
 exact h
theorem outsL_mem {l:List Pc}{ps:List Int}{r:Rc}(h:r∈outsL l ps):∃k∈ps,r∈(nowR (ix l (k-1))).Rects:=by
 obtain⟨a,ha,hr⟩:=partsR_mem h
 rw[List.mem_map] at ha
 obtain⟨k,hk,rfl⟩:=ha
 exact⟨k,hk,hr⟩
theorem nowR_mem {l:List Pc}(hreg:regP l){p:Pc}(hp:p∈l):nowR p∈p.Regions:=by
 obtain⟨h1,h2⟩:=regP_days hreg p hp
 exact ix_mem (by omega) (by omega)
theorem open_mem {l:List Pc}{n:Int}(h:openP l n):ix l (n-1)∈l:=ix_mem (by have:=h.1;omega) (by have:=h.2.1;omega)
theorem outs_box {l:List Pc}{N:Int}(hreg:regP l)(hbx:bxL N l){ps:List Int}(hp:∀k∈ps,openP l k):∀r∈outsL l ps,proper r/\r.Right<=N/\r.High<=N:=λr hr=>by
 obtain⟨k,hk,hr⟩:=outsL_mem hr
 have hm:=open_mem (hp k hk)
 have hn:=nowR_mem hreg hm
 exact⟨(reg_prop hreg hm hn).2.2.1 r hr,hbx _ hm _ hn r hr⟩
theorem combK_of {l:List Pc}{e:Ed}{N:Int}(h0:0<=N)(hN:N<=100)(hl:bxL N l)(he:bxE N e):combK l e:=λh=>by
 obtain⟨e1,e2,e3,⟨e4,e5⟩,e6,e7⟩:=editS_0.1 h
 obtain⟨h60,hreg⟩:=checkS_0.1 e1
 have hNN:N * N<=10000:=Int.mul_le_mul hN hN h0 (by omega)
 refine⟨λk hk=> ?_,λk hk=> ?_⟩
 ·have:=union_len h0 (l:=partsR (e.Regions.take k)) (λr hr=>by
   obtain⟨a,ha,hr⟩:=partsR_mem hr
   obtain⟨p1,p2,p3⟩:=he a (List.mem_of_mem_take ha) r hr
   exact⟨p1.1,p1.2.2.2.1,p2,p3⟩)
  omega
 ·have:=union_len h0 (l:=outsL l (e.Parcels.take k)) (λr hr=>by
   obtain⟨p1,p2,p3⟩:=outs_box hreg hl (λk hk=>e6 k (List.mem_of_mem_take hk)) r hr
   exact⟨p1.1,p1.2.2.2.1,p2,p3⟩)
  omega
theorem bxL_mono {M N:Int}(h:M<=N){l:List Pc}(hl:bxL M l):bxL N l:=λp hp a ha r hr=>by
 have:=hl p hp a ha r hr;omega
theorem bxE_mono {M N:Int}(h:M<=N){e:Ed}(he:bxE M e):bxE N e:=λa ha r hr=>by
 have:=he a ha r hr
 exact⟨this.1,by omega,by omega⟩
theorem applyS_bx {l:List Pc}{e:Ed}{N:Int}(hl:bxL N l)(he:bxE N e):bxL N (applyS l e).1:=by
 by_cases h0:editS l e=0
 rotate_left
 ·rw[applyS_err h0];exact hl
 obtain⟨e1,e2,e3,⟨e4,e5⟩,e6,e7⟩:=editS_0.1 h0
 obtain⟨h60,hreg⟩:=checkS_0.1 e1
 have hpk:∀k∈e.Parcels,1<=k/\k<=(l.length:Int):=λk hk=>⟨(e6 k hk).1,(e6 k hk).2.1⟩
 have hadd:∀(m:List Pc)(rs:List Rn),bxL N m->(∀a∈rs,∀r∈a.Rects,r.Right<=N/\r.High<=N)->bxL N (addL e.Day e.Parcels m rs):=λm rs hm hr p hp a ha r hrr=>by
  rcases addL_mem hp with hp|⟨n,b,hb,rfl⟩
  ·exact hm p hp a ha r hrr
  ·have ha:a∈[b]:=ha
   rw[List.mem_singleton] at ha
   subst ha
   exact hr a hb r hrr
 have hend:bxL N (endL e.Day l e.Parcels):=λp hp a ha r hr=>by
  obtain⟨q,hq,_,_,_,_,h5⟩:=endL_mem hpk hp
  exact hl q hq a (by rw[<-h5];exact ha) r hr
 have hE:∀a∈e.Regions,∀r∈a.Rects,r.Right<=N/\r.High<=N:=λa ha r hr=>(he a ha r hr).2
 unfold applyS
 rw[if_neg (by rw[h0];simp)]
 split
 ·rename_i hk
  have h4n:e.Parcels=[]:=List.eq_nil_of_length_eq_zero (by unfold fitsP at e4;omega)
  split
  ·exact hl
  split
  ·exact hl
  ·rw[h4n] at hadd
   exact hadd l e.Regions hl hE
 split
 ·rename_i hk
  split
  ·exact hl
  ·intro p hp a ha r hr
   have hfit:e.Parcels.length=1/\e.Regions.length=1:=by unfold fitsP at e4;omega
   have hm0:ix e.Parcels (0:Int)∈e.Parcels:=ix_mem (by omega) (by omega)
   have hr0:ix e.Regions (0:Int)∈e.Regions:=ix_mem (by omega) (by omega)
   have hm:=open_mem (e6 _ hm0)
   rcases List.mem_or_eq_of_mem_set hp with hp|hp
   ·exact hl p hp a ha r hr
   ·subst hp
    unfold drawnP at ha
    split at ha
    ·have ha:a∈(ix l (ix e.Parcels 0-1)).Regions.set ((ix l (ix e.Parcels 0-1)).Days.length-1) (ix e.Regions 0):=ha
     rcases List.mem_or_eq_of_mem_set ha with ha|ha
     ·exact hl _ hm a ha r hr
     ·subst ha;exact hE _ hr0 r hr
    ·have ha:a∈(ix l (ix e.Parcels 0-1)).Regions++[ix e.Regions 0]:=ha
     rcases List.mem_append.1 ha with ha|ha
     ·exact hl _ hm a ha r hr
     ·rw[List.mem_singleton] at ha
      subst ha;exact hE _ hr0 r hr
 split
 ·split
  ·exact hl
  split
  ·exact hl
  split
  ·exact hl
  ·exact hadd _ _ hend hE
 split
 ·split
  ·exact hl
  split
  ·exact hl
  ·refine hadd _ _ hend λa ha r hr=> ?_
   rw[List.mem_singleton] at ha
   subst ha
   have hr:r∈canonF (cov (outsL l e.Parcels)):=hr
   have:=union_box (N:=N) (l:=outsL l e.Parcels) (λr hr=>by
    obtain⟨p1,p2,p3⟩:=outs_box hreg hl e6 r hr
    exact⟨p1.1,p1.2.2.2.1,p2,p3⟩) r hr
   omega
 ·exact hend
theorem applyS_all {l:List Pc}{e:Ed}{Q R:Pc->Prop}(hl:∀p∈l,Q p)(hQR:∀p,Q p->R p)(hnew:∀(n:Int)(ps:List Int)(a:Rn),ps=[]\/ps=e.Parcels->R (newP n e.Day ps a))(hend:∀p q:Pc,Q q->p.Parents=q.Parents->p.Days=q.Days->p.Regions=q.Regions->R p)(hdraw:∀(q:Pc)(a:Rn),Q q->R (drawnP q e.Day a)):∀p∈(applyS l e).1,R p:=by
 have hR:∀p∈l,R p:=λp hp=>hQR p (hl p hp)
 by_cases h0:editS l e=0
 rotate_left
 ·rw[applyS_err h0];exact hR
 obtain⟨e1,e2,e3,⟨e4,e5⟩,e6,e7⟩:=editS_0.1 h0
 have hpk:∀k∈e.Parcels,1<=k/\k<=(l.length:Int):=λk hk=>⟨(e6 k hk).1,(e6 k hk).2.1⟩
 have hadd:∀(ps:List Int),ps=[]\/ps=e.Parcels->∀(m:List Pc)(rs:List Rn),(∀p∈m,R p)->∀p∈addL e.Day ps m rs,R p:=λps hps m rs hm p hp=>by
  rcases addL_mem hp with hp|⟨n,b,hb,rfl⟩
  ·exact hm p hp
  ·exact hnew n ps b hps
 have hen:∀p∈endL e.Day l e.Parcels,R p:=λp hp=>by
  obtain⟨q,hq,_,_,h3,h4,h5⟩:=endL_mem hpk hp
  exact hend p q (hl q hq) h3 h4 h5
 unfold applyS
 rw[if_neg (by rw[h0];simp)]
 split
 ·split
  ·exact hR
  split
  ·exact hR
  ·exact hadd _ (.inl rfl) l e.Regions hR
 split
 ·split
  ·exact hR
  ·intro p hp
   have hm0:ix e.Parcels (0:Int)∈e.Parcels:=ix_mem (by omega) (by unfold fitsP at e4;omega)
   have hm:=open_mem (e6 _ hm0)
   rcases List.mem_or_eq_of_mem_set hp with hp|hp
   ·exact hR p hp
   ·subst hp
    exact hdraw _ _ (hl _ hm)
 split
 ·split
  ·exact hR
  split
  ·exact hR
  split
  ·exact hR
  ·exact hadd _ (.inr rfl) _ _ hen
 split
 ·split
  ·exact hR
  split
  ·exact hR
  ·exact hadd _ (.inr rfl) _ _ hen
 ·exact hen
namespace PL
def fewP (k:Nat)(p:Pc):Prop:=p.Parents.length<=16/\p.Days.length<=k/\p.Regions.length<=k/\0<p.Regions.length
end PL
theorem applyS_few {l:List Pc}{e:Ed}{k:Nat}(hl:∀p∈l,fewP k p)(he:e.Parcels.length<=16):∀p∈(applyS l e).1,fewP (k+1) p:=by
 refine applyS_all hl (λp hp=>⟨hp.1,Nat.le_succ_of_le hp.2.1,Nat.le_succ_of_le hp.2.2.1,hp.2.2.2⟩) (λn ps a hps=>⟨?_,by simp[newP],by simp[newP],by simp[newP]⟩) (λp q hq h1 h2 h3=> ?_) (λq a hq=> ?_)
 ·rcases hps with h|h
  ·subst h;simp[newP]
  ·subst h;exact he
 ·obtain⟨q1,q2,q3,q4⟩:=hq
  exact⟨by rw[h1];exact q1,by rw[h2];omega,by rw[h3];omega,by rw[h3];exact q4⟩
 ·obtain⟨q1,q2,q3,q4⟩:=hq
  unfold drawnP
  split
  ·exact⟨q1,by show q.Days.length<=k+1;omega,by show (q.Regions.set _ _).length<=k+1;rw[List.length_set];omega,by show 0<(q.Regions.set _ _).length;rw[List.length_set];exact q4⟩
  ·exact⟨q1,by show (q.Days++[_]).length<=k+1;rw[List.length_append];simp;omega,by show (q.Regions++[_]).length<=k+1;rw[List.length_append];simp;omega,by show 0<(q.Regions++[_]).length;rw[List.length_append];omega⟩
structure Hist (n:Nat)(es:List Ed)(x:List Pc):Prop where
 run:runG [] 0 es=(x,(es.length:Int),0)
 len:es.length<=n
 sz:szL x
 xl:x.length<=2 * es.length
 bx:∀N:Int,39+8 * ((es.length:Int)-1)<=N->39<=N->bxL N x
 few:∀p∈x,fewP (es.length+1) p
 ed:∀e∈es,szE e/\bxE 95 e/\e.Known=e.Day/\0<=e.Day/\e.Day<=100/\e.Regions.length<=2/\e.Parcels.length<=16/\1<=e.Kind/\e.Kind<=5
theorem runG_snoc {x y:List Pc}{e:Ed}{i:Int}:∀{es:List Ed}{k:Int},runG x i es=(y,k,0)->(k=i+(es.length:Int))/\((applyS y e).2=0->runG x i (es++[e])=((applyS y e).1,k+1,0))/\((applyS y e).2≠0->runG x i (es++[e])=(y,k,(applyS y e).2)):=by
 intro es
 induction es generalizing x i with
 |nil=>
  intro k h
  injection h with h1 h2
  injection h2 with h2 h3
  subst h1 h2
  refine⟨by simp,λh=> ?_,λh=> ?_⟩
  ·show (if (applyS x e).2≠0 then (x,i,(applyS x e).2) else runG (applyS x e).1 (i+1) [])=_
   rw[if_neg (by rw[h];simp)];rfl
  ·show (if (applyS x e).2≠0 then (x,i,(applyS x e).2) else runG (applyS x e).1 (i+1) [])=_
   rw[if_pos h]
 |cons a r ih=>
  intro k h
  have h:(if (applyS x a).2≠0 then (x,i,(applyS x a).2) else runG (applyS x a).1 (i+1) r)=(y,k,0):=h
  split at h
  ·rename_i hne
   injection h with h1 h2
   injection h2 with h2 h3
   exact absurd h3 hne
  ·rename_i hne
   obtain⟨g1,g2,g3⟩:=ih h
   refine⟨by rw[g1];simp only[List.length_cons];omega,λhe=> ?_,λhe=> ?_⟩
   ·show (if (applyS x a).2≠0 then (x,i,(applyS x a).2) else runG (applyS x a).1 (i+1) (r++[e]))=_
    rw[if_neg hne];exact g2 he
   ·show (if (applyS x a).2≠0 then (x,i,(applyS x a).2) else runG (applyS x a).1 (i+1) (r++[e]))=_
    rw[if_neg hne];exact g3 he
theorem hist_nil:Hist 0 [] []:=⟨rfl,Nat.le_refl _,szL_nil,by simp,λN _ _ p hp=>(by cases hp),λp hp=>(by cases hp),λe he=>by cases he⟩
theorem Hist.mono {n m:Nat}(h:n<=m){es:List Ed}{x:List Pc}(k:Hist n es x):Hist m es x:=⟨k.run,Nat.le_trans k.len h,k.sz,k.xl,k.bx,k.few,k.ed⟩
theorem Hist.reach {n:Nat}(hn:n<=7){es:List Ed}{x:List Pc}(k:Hist n es x){day:Int}{e:Ed}(he:edQ x day e):bxL (39+8 * (es.length:Int)) x/\bxE (39+8 * (es.length:Int)) e:=by
 obtain⟨q1,q2,q3,q4,q5,q6,q7,q8⟩:=he
 have:=k.len
 have hb:=k.bx (39+8 * (es.length:Int)) (by omega) (by omega)
 refine⟨hb,?_⟩
 by_cases h0:es.length=0
 ·have hx:x=[]:=List.eq_nil_of_length_eq_zero (by have:=k.xl;omega)
  exact bxE_mono (by omega) (q7 hx)
 ·have:=q8 (39+8 * ((es.length:Int)-1)) (by omega) (by omega) (k.bx _ (Int.le_refl _) (by omega))
  exact bxE_mono (by omega) this
theorem Hist.step {n:Nat}(hn:n<=7){es:List Ed}{x:List Pc}(k:Hist n es x){day:Int}(hd:0<=day/\day<=100){e:Ed}(he:edQ x day e)(h0:(applyS x e).2=0):Hist (n+1) (es++[e]) (applyS x e).1:=by
 obtain⟨r1,r2⟩:=k.reach hn he
 obtain⟨q1,q2,q3,q4,q5,q6,q7,q8⟩:=he
 have hlen:=k.len
 have hxl:=k.xl
 have hl2:(es++[e]).length=es.length+1:=by simp
 refine⟨?_,by rw[hl2];omega,applyS_sz k.sz q1,?_,λN h1 h2=> ?_,(by rw[hl2];exact applyS_few k.few q6),λa ha=> ?_⟩
 ·rw[hl2]
  have:=(runG_snoc k.run (e:=e)).2.1 h0
  rw[this];rfl
 ·have:=applyS_len (l:=x) (e:=e)
  rw[hl2]
  omega
 ·rw[hl2] at h1
  exact applyS_bx (bxL_mono (by omega) r1) (bxE_mono (by omega) r2)
 ·rcases List.mem_append.1 ha with ha|ha
  ·exact k.ed a ha
  ·rw[List.mem_singleton] at ha
   subst ha
   exact⟨q1,bxE_mono (by omega) r2,by rw[q3,q2],by omega,by omega,q5,q6,q4.1,q4.2⟩
end RE
end Go.Proofs.YtpeggkeenboacaaGreat
set_option linter.unusedVariables false
namespace Go.Proofs.YtpeggkeenboacaaGreat
open Go.RowKit
namespace RE
open PL
namespace PL
end PL
end RE
end Go.Proofs.YtpeggkeenboacaaGreat
namespace Go.Proofs.YtpeggkeenboacaaGreat
namespace RE
open Go.RowKit
open PL
theorem outlF_eq {p:Pc}{d:Int}{a:Nat}(ha:ix p.Days (a:Int)<=d):∀{n:Nat},a<n->(∀i:Nat,a<i->i<n->d<ix p.Days (i:Int))->outlF p d n=ix p.Regions (a:Int)
 |0,h,_=>absurd h (Nat.not_lt_zero _)
 |n+1,h,hn=>by
  rw[outlF_succ]
  by_cases e:a=n
  ·subst e;rw[if_pos ha]
  ·rw[if_neg (by have:=hn n (by omega) (by omega);omega)]
   exact outlF_eq ha (by omega) λi h1 h2=>hn i h1 (by omega)
theorem last_le {f:Nat->Int}{d:Int}:∀{n:Nat},0<n->f 0<=d->∃a,a<n/\f a<=d/\∀i,a<i->i<n->d<f i
 |0,h,_=>absurd h (Nat.not_lt_zero _)
 |n+1,_,h0=>by
  by_cases e:f n<=d
  ·exact⟨n,by omega,e,λi h1 h2=>by omega⟩
  ·rcases Nat.eq_zero_or_pos n with h|h
   ·subst h;exact absurd h0 e
   ·obtain⟨a,h1,h2,h3⟩:=last_le h h0
    exact⟨a,by omega,h2,λi g1 g2=>by
     rcases Nat.lt_or_ge i n with g|g
     ·exact h3 i g1 g
     ·have:i=n:=by omega
      subst this;omega⟩
theorem last_ix {p:Pc}(h:0<p.Days.length):ix p.Days ((p.Days.length:Int)-1)=ix p.Days ((p.Days.length-1:Nat):Int):=by
 rw[show ((p.Days.length:Int)-1)=((p.Days.length-1:Nat):Int) by omega]
theorem there_in {p:Pc}(h:outP p){d:Int}(ht:thereP p d):∃a:Nat,a<p.Days.length/\ix p.Days (a:Int)<=d/\d<endsP p (a:Int)/\outlS p d=ix p.Regions (a:Int):=by
 obtain⟨h1,h2,h3,h4,h5,h6⟩:=h
 obtain⟨t1,t2⟩:=ht
 obtain⟨a,a1,a2,a3⟩:=last_le (f:=λi:Nat=>ix p.Days (i:Int)) h1 (by show ix p.Days 0<=d;rw[h3];exact t1)
 refine⟨a,a1,a2,?_,outlF_eq a2 a1 a3⟩
 unfold endsP
 split
 ·exact a3 (a+1) (by omega) (by omega)
 ·exact t2
theorem in_there {p:Pc}(h:outP p){d:Int}{a:Nat}(ha:a<p.Days.length)(h1:ix p.Days (a:Int)<=d)(h2:d<endsP p (a:Int)):thereP p d/\outlS p d=ix p.Regions (a:Int):=by
 obtain⟨g1,g2,g3,g4,g5,g6⟩:=h
 have e0:ix p.Days ((0:Nat):Int)<=ix p.Days (a:Int):=asc_le g4 (Nat.zero_le _) ha
 have e1:∀i:Nat,a<i->i<p.Days.length->d<ix p.Days (i:Int):=λi i1 i2=>by
  have e:endsP p (a:Int)=ix p.Days ((a+1:Nat):Int):=by unfold endsP;rw[if_pos (by omega)];rfl
  have:=asc_le g4 (i:=a+1) (j:=i) (by omega) i2
  omega
 refine⟨⟨?_,?_⟩,outlF_eq h1 ha e1⟩
 ·rw[<-g3];exact Int.le_trans e0 h1
 ·unfold endsP at h2
  split at h2
  ·have:=asc_le g4 (i:=a+1) (j:=p.Days.length-1) (by omega) (by omega)
   rw[last_ix g1] at g5
   have h2:d<ix p.Days ((a+1:Nat):Int):=h2
   omega
  ·exact h2
theorem meetPc_iff {p q:Pc}(hp:outP p)(hq:outP q):meetPc p q↔∃d,thereP p d/\thereP q d/\meetP (outlS p d).Rects (outlS q d).Rects:=by
 constructor
 ·rintro ⟨a,b,h1,h2,h3,h4⟩
  obtain⟨t1,o1⟩:=in_there hp (a:=a) (d:=max (ix p.Days (a:Int)) (ix q.Days (b:Int))) (by rw[hp.2.1];exact h1) (by omega) (by omega)
  obtain⟨t2,o2⟩:=in_there hq (a:=b) (d:=max (ix p.Days (a:Int)) (ix q.Days (b:Int))) (by rw[hq.2.1];exact h2) (by omega) (by omega)
  exact⟨_,t1,t2,by rw[o1,o2];exact h4⟩
 ·rintro ⟨d,t1,t2,h⟩
  obtain⟨a,a1,a2,a3,a4⟩:=there_in hp t1
  obtain⟨b,b1,b2,b3,b4⟩:=there_in hq t2
  rw[a4,b4] at h
  exact⟨a,b,by rw[<-hp.2.1];exact a1,by rw[<-hq.2.1];exact b1,by omega,h⟩
namespace PL
def slotP (l:List Pc)(i:Nat):Prop:=(ix l (i:Int)).Number=(i:Int)+1/\0<=(ix l (i:Int)).From/\(ix l (i:Int)).From<=(ix l (i:Int)).Until/\(ix l (i:Int)).Until<=36865/\(0<i->(ix l ((i:Int)-1)).From<=(ix l (i:Int)).From)/\outP (ix l (i:Int))/\asc (ix l (i:Int)).Parents/\∀k∈(ix l (i:Int)).Parents,1<=k/\k<=(i:Int)/\(ix l (k-1)).Until=(ix l (i:Int)).From
def clearP (l:List Pc):Prop:=∀i j:Nat,j<i->i<l.length->∀d,thereP (ix l (i:Int)) d->thereP (ix l (j:Int)) d->¬meetP (outlS (ix l (i:Int)) d).Rects (outlS (ix l (j:Int)) d).Rects
end PL
theorem right_slot {l:List Pc}{i:Nat}(hi:i<l.length):rightP (l.take i) (ix l (i:Int))↔slotP l i:=by
 have hl:(l.take i).length=i:=by rw[List.length_take];omega
 have hx:∀k:Int,0<=k->k<(i:Int)->ix (l.take i) k=ix l k:=λk k0 k1=>by
  obtain⟨n,rfl⟩:=Int.eq_ofNat_of_zero_le k0
  exact take_ix (by omega) (by omega)
 unfold rightP slotP parP
 rw[hl]
 constructor
 ·rintro ⟨h1,h2,h3,h4,h5,h6,h7,h8⟩
  refine⟨h1,h2,h3,h4,λh=> ?_,h6,h7,λk hk=> ?_⟩
  ·have:=h5 h;rwa [hx _ (by omega) (by omega)] at this
  ·obtain⟨k1,k2,k3⟩:=h8 k hk
   exact⟨k1,k2,by rwa [hx _ (by omega) (by omega)] at k3⟩
 ·rintro ⟨h1,h2,h3,h4,h5,h6,h7,h8⟩
  refine⟨h1,h2,h3,h4,λh=> ?_,h6,h7,λk hk=> ?_⟩
  ·rw[hx _ (by omega) (by omega)];exact h5 h
  ·obtain⟨k1,k2,k3⟩:=h8 k hk
   exact⟨k1,k2,by rw[hx _ (by omega) (by omega)];exact k3⟩
theorem regP_iff {l:List Pc}:regP l↔(∀i:Nat,i<l.length->slotP l i)/\clearP l:=by
 constructor
 ·rintro ⟨h1,h2⟩
  have hs:∀i:Nat,i<l.length->slotP l i:=λi hi=>(right_slot hi).1 (h1 i hi)
  refine⟨hs,λi j hji hi d t1 t2 hm=>h2 i j hi hji ((meetPc_iff (hs i hi).2.2.2.2.2.1 (hs j (by omega)).2.2.2.2.2.1).2 ⟨d,t1,t2,hm⟩)⟩
 ·rintro ⟨hs,h2⟩
  refine⟨λi hi=>(right_slot hi).2 (hs i hi),λi j hi hji hm=> ?_⟩
  obtain⟨d,t1,t2,hm⟩:=(meetPc_iff (hs i hi).2.2.2.2.2.1 (hs j (by omega)).2.2.2.2.2.1).1 hm
  exact h2 i j hji hi d t1 t2 hm
theorem out_from {p:Pc}(h:outP p):p.From<=ix p.Days ((p.Days.length:Int)-1):=by
 obtain⟨h1,h2,h3,h4,h5,h6⟩:=h
 rw[<-h3,last_ix h1]
 exact asc_le h4 (i:=0) (Nat.zero_le _) (by omega)
theorem reg_same {l m:List Pc}(h:regP l)(hl:m.length=l.length)(hs:∀i:Nat,i<l.length->(ix m (i:Int)).Number=(ix l (i:Int)).Number/\(ix m (i:Int)).From=(ix l (i:Int)).From/\(ix m (i:Int)).Parents=(ix l (i:Int)).Parents/\outP (ix m (i:Int))/\(ix m (i:Int)).Until<=36865/\((ix m (i:Int)).Until=(ix l (i:Int)).Until\/(ix l (i:Int)).Until=36865))
 (hd:clearP m):regP m:=by
 obtain⟨r1,r2⟩:=regP_iff.1 h
 refine regP_iff.2 ⟨λi hi=> ?_,hd⟩
 rw[hl] at hi
 obtain⟨s1,s2,s3,s4,s5,s6⟩:=hs i hi
 obtain⟨t1,t2,t3,t4,t5,t6,t7,t8⟩:=r1 i hi
 refine⟨s1.trans t1,by omega,?_,s5,λh0=> ?_,s4,by rw[s3];exact t7,λk hk=> ?_⟩
 ·have:=out_from s4
  have:=s4.2.2.2.2.1
  omega
 ·have:=t5 h0
  have e:=(hs (i-1) (by omega)).2.1
  rw[show ((i-1:Nat):Int)=(i:Int)-1 by omega] at e
  omega
 ·rw[s3] at hk
  obtain⟨k1,k2,k3⟩:=t8 k hk
  refine⟨k1,k2,?_⟩
  obtain⟨n,hn⟩:=Int.eq_ofNat_of_zero_le (show 0<=k-1 by omega)
  rw[hn] at k3 ⊢
  have e:=(hs n (by omega)).2.2.2.2.2
  have o1:=out_from t6
  have o2:=t6.2.2.2.2.1
  rw[s2]
  rcases e with e|e
  ·exact e.trans k3
  ·exact absurd (e.symm.trans k3) (by omega)
namespace PL
def lateP (D:Int)(p:Pc):Prop:=ix p.Days ((p.Days.length:Int)-1)<=D/\(p.Until=36865\/p.Until<=D)
end PL
theorem day_fold {D:Int}:∀{l:List Pc}{d:Int},l.foldl dayF d<=D↔d<=D/\∀p∈l,lateP D p
 |[],d=>by simp
 |p::l,d=>by
  rw[List.foldl_cons,day_fold]
  have e:dayF d p<=D↔d<=D/\lateP D p:=by
   unfold dayF lateP
   split
   ·rename_i h;constructor
    ·intro g;exact⟨by omega,by omega,.inl h⟩
    ·rintro ⟨g1,g2,_⟩;omega
   ·rename_i h;constructor
    ·intro g;exact⟨by omega,by omega,.inr (by omega)⟩
    ·rintro ⟨g1,g2,g3⟩
     rcases g3 with g3|g3
     ·exact absurd g3 h
     ·omega
  rw[e]
  simp only[List.mem_cons,forall_eq_or_imp,and_assoc]
theorem day_late {l:List Pc}{D:Int}(h:dayS l<=D):0<=D/\∀p∈l,lateP D p:=day_fold.1 h
theorem there_late {p:Pc}(h:outP p){D d:Int}(hl:lateP D p)(hD:D<=d)(ht:thereP p d)(hu:d<36865):p.Until=36865/\outlS p d=nowR p:=by
 obtain⟨h1,h2,h3,h4,h5,h6⟩:=h
 obtain⟨t1,t2⟩:=ht
 obtain⟨l1,l2⟩:=hl
 refine⟨by omega,?_⟩
 rw[last_ix h1] at l1
 have e:=outlF_eq (p:=p) (d:=d) (a:=p.Days.length-1) (by omega) (n:=p.Days.length) (by omega) λi i1 i2=>by omega
 unfold outlS
 rw[e]
 unfold nowR
 rw[<-h2,show ((p.Days.length:Int)-1)=((p.Days.length-1:Nat):Int) by omega]
theorem open_there {p:Pc}(h:outP p){D d:Int}(hl:lateP D p)(hD:D<=d)(hu:p.Until=36865)(hd:d<36865):thereP p d/\outlS p d=nowR p:=by
 have ht:thereP p d:=⟨by have:=out_from h;have:=hl.1;omega,by omega⟩
 exact⟨ht,(there_late h hl hD ht hd).2⟩
theorem ix_set {α:Type}[Inhabited α]{l:List α}{k i:Nat}{x:α}(hi:i<l.length):ix (l.set k x) (i:Int)=if k=i then x else ix l (i:Int):=by
 rw[ix_lt (by rw[List.length_set];exact hi),List.getElem_set,ix_lt hi]
theorem endL_ix {day:Int}:∀{ps:List Int}{l:List Pc}{i:Nat},(∀k∈ps,1<=k/\k<=(l.length:Int))->i<l.length->ix (endL day l ps) (i:Int)=if (i:Int)+1∈ps then {ix l (i:Int) with Until:=day} else ix l (i:Int)
 |[],l,i,_,hi=>by simp[endL]
 |k::ps,l,i,hk,hi=>by
  have e:endL day l (k::ps)=endL day (endP day l k) ps:=rfl
  rw[e,endL_ix (l:=endP day l k) (λj hj=>by rw[endP_len];exact hk j (by simp[hj])) (by rw[endP_len];exact hi)]
  obtain⟨k1,k2⟩:=hk k (by simp)
  unfold endP
  rw[ix_set hi]
  by_cases h:(k-1).toNat=i
  ·have hk1:k=(i:Int)+1:=by omega
   subst hk1
   rw[if_pos h,if_pos (c:=(i:Int)+1∈((i:Int)+1)::ps) (by simp)]
   rw[show (i:Int)+1-1=(i:Int) by omega]
   split<;>rfl
  ·have hne:(i:Int)+1≠k:=by omega
   rw[if_neg h]
   simp only[List.mem_cons,hne,false_or]
theorem reg_end {l:List Pc}{D:Int}{ps:List Int}(h:regP l)(hl:∀p∈l,lateP D p)(h3:D<=36864)(hp:∀k∈ps,openP l k):regP (endL D l ps)/\(∀p∈endL D l ps,lateP D p):=by
 have hpk:∀k∈ps,1<=k/\k<=(l.length:Int):=λk hk=>⟨(hp k hk).1,(hp k hk).2.1⟩
 obtain⟨r1,r2⟩:=regP_iff.1 h
 have hx:∀i:Nat,i<l.length->(ix (endL D l ps) (i:Int)=ix l (i:Int))\/((ix l (i:Int)).Until=36865/\ix (endL D l ps) (i:Int)={ix l (i:Int) with Until:=D}):=λi hi=>by
  rw[endL_ix hpk hi]
  split
  ·rename_i hm
   have:=(hp _ hm).2.2
   rw[show (i:Int)+1-1=(i:Int) by omega] at this
   exact .inr ⟨this,rfl⟩
  ·exact .inl rfl
 have hlx:∀i:Nat,i<l.length->lateP D (ix l (i:Int)):=λi hi=>hl _ (ix_mem (by omega) (by omega))
 have th:∀i:Nat,i<l.length->∀d,thereP (ix (endL D l ps) (i:Int)) d->thereP (ix l (i:Int)) d/\outlS (ix (endL D l ps) (i:Int)) d=outlS (ix l (i:Int)) d:=λi hi d ht=>by
  rcases hx i hi with e|⟨e1,e2⟩
  ·rw[e] at ht ⊢;exact⟨ht,rfl⟩
  ·rw[e2] at ht ⊢
   refine⟨⟨ht.1,?_⟩,rfl⟩
   have:d<D:=ht.2
   omega
 refine⟨reg_same h endL_len (λi hi=> ?_) (λi j hji hi d t1 t2=> ?_),λp hp'=> ?_⟩
 ·have ho:=(r1 i hi).2.2.2.2.2.1
  rcases hx i hi with e|⟨e1,e2⟩
  ·rw[e];exact⟨rfl,rfl,rfl,ho,(r1 i hi).2.2.2.1,.inl rfl⟩
  ·rw[e2]
   obtain⟨o1,o2,o3,o4,o5,o6⟩:=ho
   refine⟨rfl,rfl,rfl,⟨o1,o2,o3,o4,?_,o6⟩,by show D<=36865;omega,.inr e1⟩
   have hq:ix (ix l (i:Int)).Days (((ix l (i:Int)).Days.length:Int)-1)<=D:=(hlx i hi).1
   show ix (ix l (i:Int)).Days (((ix l (i:Int)).Days.length:Int)-1)<=min D 36864
   omega
 ·rw[endL_len] at hi
  obtain⟨a1,a2⟩:=th i hi d t1
  obtain⟨b1,b2⟩:=th j (by omega) d t2
  rw[a2,b2]
  exact r2 i j hji hi d a1 b1
 ·obtain⟨i,hi,rfl⟩:=ix_ex hp'
  rw[endL_len] at hi
  rcases hx i hi with e|⟨e1,e2⟩
  ·rw[e];exact hlx i hi
  ·rw[e2];exact⟨(hlx i hi).1,.inr (Int.le_refl _)⟩
theorem out_new {n D:Int}{ps:List Int}{a:Rn}(h:propR a)(h3:D<=36864):outP (newP n D ps a):=⟨by simp[newP],by simp[newP],rfl,asc_1 D,by show D<=min 36865 36864;omega,λb hb=>by
 have:b=a:=by simpa [newP] using hb
 rw[this];exact h⟩
theorem late_new {n D:Int}{ps:List Int}{a:Rn}:lateP D (newP n D ps a):=⟨Int.le_refl _,.inl rfl⟩
theorem reg_add {D:Int}{ps:List Int}(h0:0<=D)(h3:D<=36864)(hps:asc ps):∀{rs:List Rn}{l:List Pc},regP l->(∀p∈l,lateP D p)->(∀k∈ps,1<=k/\k<=(l.length:Int)/\(ix l (k-1)).Until=D)->(∀a∈rs,propR a)->rs.Pairwise (λa b=>¬meetP b.Rects a.Rects)->(∀a∈rs,∀q∈l,q.Until=36865->¬meetP a.Rects (nowR q).Rects)->regP (addL D ps l rs)/\∀p∈addL D ps l rs,lateP D p
 |[],l,hr,hl,_,_,_,_=>⟨hr,hl⟩
 |a::rs,l,hr,hl,hk,hv,hw,hm=>by
  have e:addL D ps l (a::rs)=addL D ps (l++[newP ((l.length:Int)+1) D ps a]) rs:=rfl
  have ha:=hv a (by simp)
  have ho:=out_new (n:=(l.length:Int)+1) (ps:=ps) ha h3
  have hso:∀q∈l,outP q:=λq hq=>(regP_out hr q hq).1
  rw[e]
  rw[List.pairwise_cons] at hw
  have hright:rightP l (newP ((l.length:Int)+1) D ps a):=⟨rfl,h0,by show D<=36865;omega,Int.le_refl _,λhl0=>by
   have hm':=ix_mem (l:=l) (i:=(l.length:Int)-1) (by omega) (by omega)
   have:=out_from (hso _ hm')
   have:=(hl _ hm').1
   show _<=D
   omega,ho,hps,hk⟩
  have hnew:nowR (newP ((l.length:Int)+1) D ps a)=a:=rfl
  have hmeet:∀q∈l,¬meetPc (newP ((l.length:Int)+1) D ps a) q:=λq hq hh=>by
   obtain⟨d,t1,t2,hh⟩:=(meetPc_iff ho (hso q hq)).1 hh
   have hD:D<=d:=t1.1
   have hd:d<36865:=t1.2
   obtain⟨_,o1⟩:=there_late ho late_new hD t1 hd
   obtain⟨u,o2⟩:=there_late (hso q hq) (hl q hq) hD t2 hd
   rw[o1,o2,hnew] at hh
   exact hm a (by simp) q hq u hh
  refine reg_add h0 h3 hps (regP_snoc hr hright hmeet) (λp hp=> ?_) (λk hk'=> ?_) (λb hb=>hv b (by simp[hb])) hw.2 (λb hb q hq hu=> ?_)
  ·rcases List.mem_append.1 hp with hp|hp
   ·exact hl p hp
   ·rw[List.mem_singleton] at hp
    rw[hp];exact late_new
  ·obtain⟨k1,k2,k3⟩:=hk k hk'
   refine⟨k1,by rw[List.length_append];simp;omega,?_⟩
   obtain⟨n,hn⟩:=Int.eq_ofNat_of_zero_le (show 0<=k-1 by omega)
   rw[hn] at k3 ⊢
   have:=ix_app1 (l:=l) (x:=newP ((l.length:Int)+1) D ps a) (i:=n) (by omega)
   rw[this];exact k3
  ·rcases List.mem_append.1 hq with hq|hq
   ·exact hm b (by simp[hb]) q hq hu
   ·rw[List.mem_singleton] at hq
    rw[hq,hnew]
    exact hw.1 b hb
theorem draw_same {p:Pc}{D:Int}{a:Rn}:(drawnP p D a).Number=p.Number/\(drawnP p D a).From=p.From/\(drawnP p D a).Until=p.Until/\(drawnP p D a).Parents=p.Parents:=by
 unfold drawnP;split<;>exact⟨rfl,rfl,rfl,rfl⟩
theorem draw_there {p:Pc}{D d:Int}{a:Rn}:thereP (drawnP p D a) d↔thereP p d:=by
 obtain⟨h1,h2,h3,h4⟩:=draw_same (p:=p) (D:=D) (a:=a)
 unfold thereP;rw[h2,h3]
theorem draw_ok {p:Pc}{D:Int}{a:Rn}(h:outP p)(hl:lateP D p)(h3:D<=36864)(hu:p.Until=36865)(ha:propR a):outP (drawnP p D a)/\lateP D (drawnP p D a)/\(∀d,d<D->thereP p d->outlS (drawnP p D a) d=outlS p d)/\∀d,D<=d->outlS (drawnP p D a) d=a:=by
 obtain⟨g1,g2,g3,g4,g5,g6⟩:=h
 have hlast:=last_ix g1
 unfold drawnP
 split
 ·rename_i hD
  have ho:outP {p with Regions:=p.Regions.set (p.Days.length-1) a}:=⟨g1,by show p.Days.length=(p.Regions.set _ _).length;rw[List.length_set];exact g2,g3,g4,g5,λb hb=>by
   rcases List.mem_or_eq_of_mem_set hb with hb|hb
   ·exact g6 b hb
   ·rw[hb];exact ha⟩
  refine⟨ho,hl,λd hd ht=> ?_,λd hd=> ?_⟩
  ·obtain⟨i,i1,i2,i3,i4⟩:=there_in ⟨g1,g2,g3,g4,g5,g6⟩ ht
   rw[i4,(in_there ho (a:=i) (d:=d) i1 i2 i3).2]
   show ix (p.Regions.set (p.Days.length-1) a) (i:Int)=_
   rw[ix_set (by omega),if_neg]
   intro e
   subst e
   omega
  ·have:=outlF_eq (p:={p with Regions:=p.Regions.set (p.Days.length-1) a}) (d:=d) (a:=p.Days.length-1) (by show ix p.Days _<=d;omega) (n:=p.Days.length) (by omega) λi i1 i2=>by omega
   unfold outlS
   rw[this]
   show ix (p.Regions.set (p.Days.length-1) a) ((p.Days.length-1:Nat):Int)=a
   rw[ix_set (by omega),if_pos rfl]
 ·rename_i hD
  have hlt:ix p.Days ((p.Days.length-1:Nat):Int)<D:=by have:=hl.1;omega
  have hx:∀i:Nat,i<p.Days.length->ix (p.Days++[D]) (i:Int)=ix p.Days (i:Int):=λi hi=>ix_app1 hi
  have hn:ix (p.Days++[D]) (p.Days.length:Int)=D:=ix_app2
  have hlen:(p.Days++[D]).length=p.Days.length+1:=by simp
  have ho:outP {p with Days:=p.Days++[D],Regions:=p.Regions++[a]}:=by
   refine⟨by show 0<(p.Days++[D]).length;omega,by show (p.Days++[D]).length=(p.Regions++[a]).length;simp[g2],?_,λi hi=> ?_,?_,λb hb=> ?_⟩
   ·show ix (p.Days++[D]) ((0:Nat):Int)=p.From
    rw[hx 0 g1];exact g3
   ·have hi:i+1<(p.Days++[D]).length:=hi
    rw[hlen] at hi
    show ix (p.Days++[D]) (i:Int)<ix (p.Days++[D]) ((i+1:Nat):Int)
    rw[hx i (by omega)]
    by_cases e:i+1=p.Days.length
    ·rw[e,hn]
     rw[show i=p.Days.length-1 by omega];exact hlt
    ·rw[hx (i+1) (by omega)]
     exact g4 i (by omega)
   ·show ix (p.Days++[D]) (((p.Days++[D]).length:Int)-1)<=min p.Until 36864
    rw[hlen,show (((p.Days.length+1:Nat):Int)-1)=(p.Days.length:Int) by omega,hn]
    omega
   ·rcases List.mem_append.1 hb with hb|hb
    ·exact g6 b hb
    ·rw[List.mem_singleton] at hb
     rw[hb];exact ha
  refine⟨ho,⟨?_,.inl hu⟩,λd hd ht=> ?_,λd hd=> ?_⟩
  ·show ix (p.Days++[D]) (((p.Days++[D]).length:Int)-1)<=D
   rw[hlen,show (((p.Days.length+1:Nat):Int)-1)=(p.Days.length:Int) by omega,hn]
   exact Int.le_refl _
  ·obtain⟨i,i1,i2,i3,i4⟩:=there_in ⟨g1,g2,g3,g4,g5,g6⟩ ht
   have hi2:ix (p.Days++[D]) (i:Int)<=d:=by rw[hx i i1];exact i2
   have he:d<endsP {p with Days:=p.Days++[D],Regions:=p.Regions++[a]} (i:Int):=by
    unfold endsP
    rw[if_pos (by show (i:Int)+1<((p.Days++[D]).length:Int);omega)]
    show d<ix (p.Days++[D]) ((i+1:Nat):Int)
    by_cases e:i+1=p.Days.length
    ·rw[e,hn];exact hd
    ·rw[hx (i+1) (by omega)]
     unfold endsP at i3
     rw[if_pos (by omega)] at i3
     exact i3
   rw[i4,(in_there ho (a:=i) (d:=d) (by show i<(p.Days++[D]).length;omega) hi2 he).2]
   show ix (p.Regions++[a]) (i:Int)=_
   exact ix_app1 (by omega)
  ·have:=outlF_eq (p:={p with Days:=p.Days++[D],Regions:=p.Regions++[a]}) (d:=d) (a:=p.Days.length) (by show ix (p.Days++[D]) (p.Days.length:Int)<=d;rw[hn];exact hd) (n:=p.Days.length+1) (by omega) λi i1 i2=>by omega
   unfold outlS
   show outlF _ d (p.Days++[D]).length=a
   rw[hlen,this]
   show ix (p.Regions++[a]) (p.Days.length:Int)=a
   rw[g2];exact ix_app2
namespace PL
def pastP (D:Int)(l m:List Pc):Prop:=l.length<=m.length/\(∀i:Nat,i<l.length->(ix m (i:Int)).Number=(ix l (i:Int)).Number/\(ix m (i:Int)).From=(ix l (i:Int)).From/\∀d,d<D->(thereP (ix m (i:Int)) d↔thereP (ix l (i:Int)) d)/\(thereP (ix l (i:Int)) d->outlS (ix m (i:Int)) d=outlS (ix l (i:Int)) d))/\∀i:Nat,l.length<=i->i<m.length->D<=(ix m (i:Int)).From
end PL
theorem past_trans {D E:Int}(hDE:D<=E){l m n:List Pc}(h:pastP D l m)(k:pastP E m n):pastP D l n:=by
 obtain⟨h1,h2,h3⟩:=h
 obtain⟨k1,k2,k3⟩:=k
 refine⟨by omega,λi hi=> ?_,λi i1 i2=> ?_⟩
 ·obtain⟨a1,a2,a3⟩:=h2 i hi
  obtain⟨b1,b2,b3⟩:=k2 i (by omega)
  refine⟨b1.trans a1,b2.trans a2,λd hd=> ?_⟩
  obtain⟨c1,c2⟩:=a3 d hd
  obtain⟨d1,d2⟩:=b3 d (by omega)
  exact⟨d1.trans c1,λht=>(d2 (c1.2 ht)).trans (c2 ht)⟩
 ·rcases Nat.lt_or_ge i m.length with g|g
  ·rw[(k2 i g).2.1];exact h3 i i1 g
  ·exact Int.le_trans hDE (k3 i g i2)
theorem reg_draw {l:List Pc}{D k:Int}{a:Rn}(h:regP l)(hl:∀p∈l,lateP D p)(h3:D<=36864)(hk:openP l k)(ha:propR a)(hh:¬hitP l a k):regP (l.set (k-1).toNat (drawnP (ix l (k-1)) D a))/\(∀p∈l.set (k-1).toNat (drawnP (ix l (k-1)) D a),lateP D p)/\pastP D l (l.set (k-1).toNat (drawnP (ix l (k-1)) D a)):=by
 obtain⟨r1,r2⟩:=regP_iff.1 h
 obtain⟨k1,k2,k3⟩:=hk
 obtain⟨n,hn⟩:=Int.eq_ofNat_of_zero_le (show 0<=k-1 by omega)
 rw[hn] at k3 ⊢
 have hnl:n<l.length:=by omega
 have hP:outP (ix l (n:Int)):=(r1 n hnl).2.2.2.2.2.1
 have hL:∀i:Nat,i<l.length->lateP D (ix l (i:Int)):=λi hi=>hl _ (ix_mem (by omega) (by omega))
 obtain⟨o1,o2,o3,o4⟩:=draw_ok hP (hL n hnl) h3 k3 ha
 obtain⟨s1,s2,s3,s4⟩:=draw_same (p:=ix l (n:Int)) (D:=D) (a:=a)
 have hx:∀i:Nat,i<l.length->ix (l.set (n:Int).toNat (drawnP (ix l (n:Int)) D a)) (i:Int)=if n=i then drawnP (ix l (n:Int)) D a else ix l (i:Int):=λi hi=>by
  rw[Int.toNat_natCast];exact ix_set hi
 have hlen:(l.set (n:Int).toNat (drawnP (ix l (n:Int)) D a)).length=l.length:=List.length_set
 have key:∀i:Nat,i<l.length->i≠n->∀d,thereP (ix l (n:Int)) d->thereP (ix l (i:Int)) d->¬meetP (outlS (drawnP (ix l (n:Int)) D a) d).Rects (outlS (ix l (i:Int)) d).Rects:=λi hi hin d t1 t2 hm=>by
  rcases Int.lt_or_le d D with hd|hd
  ·rw[o3 d hd t1] at hm
   rcases Nat.lt_or_ge i n with g|g
   ·exact r2 n i g hnl d t1 t2 hm
   ·exact r2 i n (by omega) hi d t2 t1 (meetP_comm.1 hm)
  ·rw[o4 d hd] at hm
   have hu:=(r1 i hi).2.2.2.1
   obtain⟨u,e⟩:=there_late (r1 i hi).2.2.2.2.2.1 (hL i hi) hd t2 (by have:=t2.2;omega)
   rw[e] at hm
   exact hh ⟨_,ix_mem (by omega) (by omega),u,by rw[(r1 i hi).1];omega,hm⟩
 refine⟨reg_same h hlen (λi hi=> ?_) (λi j hji hi d t1 t2=> ?_),λp hp=> ?_,⟨by rw[hlen];exact Nat.le_refl _,λi hi=> ?_,λi i1 i2=>by omega⟩⟩
 ·rw[hx i hi]
  split
  ·rename_i e;subst e
   exact⟨s1,s2,s4,o1,by rw[s3,k3];omega,.inl s3⟩
  ·exact⟨rfl,rfl,rfl,(r1 i hi).2.2.2.2.2.1,(r1 i hi).2.2.2.1,.inl rfl⟩
 ·rw[hlen] at hi
  rw[hx i hi] at t1 ⊢
  rw[hx j (by omega)] at t2 ⊢
  by_cases e:n=i
  ·subst e
   rw[if_pos rfl] at t1 ⊢
   rw[if_neg (by omega)] at t2 ⊢
   exact key j (by omega) (by omega) d (draw_there.1 t1) t2
  ·rw[if_neg e] at t1 ⊢
   by_cases e2:n=j
   ·subst e2
    rw[if_pos rfl] at t2 ⊢
    exact λhm=>key i hi (by omega) d (draw_there.1 t2) t1 (meetP_comm.1 hm)
   ·rw[if_neg e2] at t2 ⊢
    exact r2 i j hji hi d t1 t2
 ·rcases List.mem_or_eq_of_mem_set hp with hp|hp
  ·exact hl p hp
  ·rw[hp];exact o2
 ·rw[hx i hi]
  split
  ·rename_i e;subst e
   exact⟨s1,s2,λd hd=>⟨draw_there,λht=>o3 d hd ht⟩⟩
  ·exact⟨rfl,rfl,λd hd=>⟨Iff.rfl,λ_=>rfl⟩⟩
theorem past_end {l:List Pc}{D:Int}{ps:List Int}(h3:D<=36864)(hp:∀k∈ps,openP l k):pastP D l (endL D l ps):=by
 have hpk:∀k∈ps,1<=k/\k<=(l.length:Int):=λk hk=>⟨(hp k hk).1,(hp k hk).2.1⟩
 refine⟨by rw[endL_len];exact Nat.le_refl _,λi hi=> ?_,λi i1 i2=>by rw[endL_len] at i2;omega⟩
 rw[endL_ix hpk hi]
 split
 ·rename_i hm
  have hu:=(hp _ hm).2.2
  rw[show (i:Int)+1-1=(i:Int) by omega] at hu
  refine⟨rfl,rfl,λd hd=>⟨⟨λht=>⟨ht.1,by omega⟩,λht=>⟨ht.1,hd⟩⟩,λ_=>rfl⟩⟩
 ·exact⟨rfl,rfl,λd hd=>⟨Iff.rfl,λ_=>rfl⟩⟩
theorem addL_ix {D:Int}{ps:List Int}:∀{rs:List Rn}{l:List Pc}{i:Nat},i<l.length->ix (addL D ps l rs) (i:Int)=ix l (i:Int)
 |[],l,i,_=>rfl
 |a::rs,l,i,hi=>by
  have e:addL D ps l (a::rs)=addL D ps (l++[newP ((l.length:Int)+1) D ps a]) rs:=rfl
  rw[e,addL_ix (by rw[List.length_append];omega),ix_app1 hi]
theorem addL_new {D:Int}{ps:List Int}:∀{rs:List Rn}{l:List Pc}{i:Nat},i<rs.length->ix (addL D ps l rs) ((l.length+i:Nat):Int)=newP ((l.length:Int)+(i:Int)+1) D ps (ix rs (i:Int))
 |[],l,i,h=>absurd h (Nat.not_lt_zero _)
 |a::rs,l,i,hi=>by
  have e:addL D ps l (a::rs)=addL D ps (l++[newP ((l.length:Int)+1) D ps a]) rs:=rfl
  rw[e]
  cases i with
  |zero=>
   rw[addL_ix (by simp),show ((l.length+0:Nat):Int)=(l.length:Int) by omega,ix_app2]
   show _=newP ((l.length:Int)+0+1) D ps a
   rw[Int.add_zero]
  |succ i=>
   have:=addL_new (rs:=rs) (l:=l++[newP ((l.length:Int)+1) D ps a]) (i:=i) (D:=D) (ps:=ps) (by simpa using hi)
   have hl:(l++[newP ((l.length:Int)+1) D ps a]).length=l.length+1:=by simp
   rw[hl] at this
   rw[show l.length+(i+1)=l.length+1+i by omega,this,show (((l.length+1:Nat):Int)+(i:Int)+1)=(l.length:Int)+((i+1:Nat):Int)+1 by omega]
   have e2:ix (a::rs) ((i+1:Nat):Int)=ix rs (i:Int):=by
    rw[ix_lt (l:=a::rs) (k:=i+1) (by simpa using hi),ix_lt (l:=rs) (k:=i) (by simpa using hi)];rfl
   rw[e2]
theorem past_add {l:List Pc}{D:Int}{ps:List Int}{rs:List Rn}:pastP D l (addL D ps l rs):=by
 refine⟨by rw[addL_len];omega,λi hi=> ?_,λi i1 i2=> ?_⟩
 ·rw[addL_ix hi]
  exact⟨rfl,rfl,λd hd=>⟨Iff.rfl,λ_=>rfl⟩⟩
 ·rw[addL_len] at i2
  have:=addL_new (D:=D) (ps:=ps) (rs:=rs) (l:=l) (i:=i-l.length) (by omega)
  rw[show l.length+(i-l.length)=i by omega] at this
  rw[this];exact Int.le_refl _
theorem parts_clear {l:List Pc}{D:Int}{ps:List Int}{a:Rn}(h:regP l)(hl:∀p∈l,lateP D p)(h3:D<=36864)(hp:∀k∈ps,openP l k)(ha:∀x y,cov a.Rects x y=true->cov (outsL l ps) x y=true):∀q∈endL D l ps,q.Until=36865->¬meetP a.Rects (nowR q).Rects:=λq hq hu hm=>by
 have hpk:∀k∈ps,1<=k/\k<=(l.length:Int):=λk hk=>⟨(hp k hk).1,(hp k hk).2.1⟩
 obtain⟨r1,r2⟩:=regP_iff.1 h
 obtain⟨i,hi,rfl⟩:=ix_ex hq
 rw[endL_len] at hi
 rw[endL_ix hpk hi] at hu hm
 split at hu
 ·have hu:D=36865:=hu
  omega
 ·rename_i hn
  rw[if_neg hn] at hm
  obtain⟨v1,v2,x,y,c1,c2⟩:=hm
  have hc:=ha x y c1
  unfold outsL at hc
  rw[partsR_cov] at hc
  obtain⟨b,hb,hc⟩:=hc
  rw[List.mem_map] at hb
  obtain⟨k,hk,rfl⟩:=hb
  obtain⟨k1,k2,k3⟩:=hp k hk
  obtain⟨n,hn2⟩:=Int.eq_ofNat_of_zero_le (show 0<=k-1 by omega)
  rw[hn2] at k3 hc
  have hne:n≠i:=λe=>hn (by rw[<-e,show (n:Int)+1=k by omega];exact hk)
  have hnl:n<l.length:=by omega
  have hL:∀i:Nat,i<l.length->lateP D (ix l (i:Int)):=λi hi=>hl _ (ix_mem (by omega) (by omega))
  obtain⟨t1,o1⟩:=open_there (r1 n hnl).2.2.2.2.2.1 (hL n hnl) (Int.le_refl D) k3 (by omega)
  obtain⟨t2,o2⟩:=open_there (r1 i hi).2.2.2.2.2.1 (hL i hi) (Int.le_refl D) hu (by omega)
  have hv:validP (nowR (ix l (n:Int))).Rects:=(reg_prop h (ix_mem (by omega) (by omega)) (nowR_mem h (ix_mem (l:=l) (i:=(n:Int)) (by omega) (by omega)))).2
  rcases Nat.lt_or_ge i n with g|g
  ·refine r2 n i g hnl D t1 t2 ?_
   rw[o1,o2];exact⟨hv,v2,x,y,hc,c2⟩
  ·refine r2 i n (by omega) hi D t2 t1 ?_
   rw[o1,o2];exact⟨v2,hv,x,y,c2,hc⟩
theorem prop_point {a:Rn}(h:propR a):∃x y,cov a.Rects x y=true:=by
 obtain⟨h1,h2⟩:=h
 cases e:a.Rects with
 |nil=>exact absurd e h1
 |cons r s=>
  have hr:=h2.2.1 r (by rw[e];simp)
  exact⟨r.Left,r.Low,cov_iff.2 ⟨r,by simp,Int.le_refl _,by have:=hr.2.1;omega,Int.le_refl _,by have:=hr.2.2.2.2.1;omega⟩⟩
theorem apply_form {l m:List Pc}{e:Ed}(h:applyS l e=(m,0)):editS l e=0/\((e.Kind=2/\¬hitP l (ix e.Regions 0) (ix e.Parcels 0)/\m=l.set (ix e.Parcels 0-1).toNat (drawnP (ix l (ix e.Parcels 0-1)) e.Day (ix e.Regions 0)))\/
 (e.Kind≠2/\∃rs:List Rn,m=addL e.Day e.Parcels (endL e.Day l e.Parcels) rs/\l.length+rs.length<=60/\(∀a∈rs,propR a)/\rs.Pairwise (λa b=>¬meetP b.Rects a.Rects)/\(∀a∈rs,∀q∈endL e.Day l e.Parcels,q.Until=36865->¬meetP a.Rects (nowR q).Rects)/\(e.Kind=3\/e.Kind=4->rs≠[]/\∀x y,cov (partsR rs) x y=cov (outsL l e.Parcels) x y))):=by
 by_cases h0:editS l e=0
 rotate_left
 ·rw[applyS_err h0] at h
  injection h with h1 h2
  exact absurd h2 h0
 refine⟨h0,?_⟩
 obtain⟨e1,e2,e3,⟨e4,e5⟩,e6,e7⟩:=editS_0.1 h0
 obtain⟨h60,hreg⟩:=checkS_0.1 e1
 obtain⟨hD0,hL⟩:=day_late e3.1
 unfold applyS at h
 rw[if_neg (by rw[h0];simp)] at h
 split at h
 ·rename_i hk
  have h4n:e.Parcels=[]:=List.eq_nil_of_length_eq_zero (by unfold fitsP at e4;omega)
  split at h
  ·injection h with h1 h2;cases h2
  rename_i hh
  split at h
  ·injection h with h1 h2;cases h2
  rename_i h6
  injection h with h1 h2
  refine .inr ⟨by omega,e.Regions,?_,by unfold fitsP at e4;omega,e7,?_,?_,λhq=>by omega⟩
  ·rw[h4n];exact h1.symm
  ·have:e.Regions.length=1:=by unfold fitsP at e4;omega
   rw[List.pairwise_iff_getElem]
   intro i j hi hj hij
   omega
  ·rw[h4n]
   intro a ha q hq hu hm
   have hq:q∈l:=hq
   have hl1:e.Regions.length=1:=by unfold fitsP at e4;omega
   obtain⟨i,hi,rfl⟩:=ix_ex ha
   have:i=0:=by omega
   subst this
   refine hh ⟨q,hq,hu,?_,hm⟩
   obtain⟨j,hj,rfl⟩:=ix_ex hq
   rw[regP_num hreg hj];omega
 split at h
 ·rename_i hk
  split at h
  ·injection h with h1 h2;cases h2
  rename_i hh
  injection h with h1 h2
  exact .inl ⟨hk,hh,h1.symm⟩
 rename_i hk2
 split at h
 ·rename_i hk
  split at h
  ·injection h with h1 h2;cases h2
  rename_i ha
  split at h
  ·injection h with h1 h2;cases h2
  rename_i hc
  split at h
  ·injection h with h1 h2;cases h2
  rename_i hlen
  injection h with h1 h2
  have ha:apartP e.Regions:=Classical.not_not.1 ha
  have hc:∀x y,cov (partsR e.Regions) x y=cov (nowR (ix l (ix e.Parcels 0-1))).Rects x y:=Classical.not_not.1 hc
  have hp1:e.Parcels.length=1:=by unfold fitsP at e4;omega
  have hps:e.Parcels=[ix e.Parcels 0]:=by
   cases hpp:e.Parcels with
   |nil=>rw[hpp] at hp1;cases hp1
   |cons a r=>
    have:r=[]:=List.eq_nil_of_length_eq_zero (by rw[hpp] at hp1;simpa using hp1)
    subst this;rfl
  have hco:∀x y,cov (partsR e.Regions) x y=cov (outsL l e.Parcels) x y:=λx y=>by
   have:outsL l e.Parcels=(nowR (ix l (ix e.Parcels 0-1))).Rects:=by rw[hps];show _++[]=_;rw[List.append_nil];rfl
   rw[hc,this]
  refine .inr ⟨hk2,e.Regions,h1.symm,by omega,e7,?_,λa ham=>parts_clear hreg hL e3.2 e6 λx y hxy=> ?_,λ_=>⟨λhn=> ?_,hco⟩⟩
  ·rw[List.pairwise_iff_getElem]
   intro i j hi hj hij hm
   refine ha j i hij hj ?_
   rw[ix_lt hj,ix_lt hi];exact hm
  ·rw[<-hco,partsR_cov];exact⟨a,ham,hxy⟩
  ·unfold fitsP at e4
   rw[hn] at e4
   simp at e4
   omega
 rename_i hk3
 split at h
 ·rename_i hk
  split at h
  ·injection h with h1 h2;cases h2
  rename_i h120
  split at h
  ·injection h with h1 h2;cases h2
  rename_i hlen
  injection h with h1 h2
  obtain⟨c1,c2⟩:=canon_cov (outsL l e.Parcels)
  have hbox:=union_box (N:=16384) (l:=outsL l e.Parcels) λr hr=>by
   obtain⟨a,ha,hr⟩:=outsL_mem hr
   obtain⟨p1,p2⟩:=(reg_prop hreg (open_mem (e6 a ha)) (nowR_mem hreg (open_mem (e6 a ha))))
   have:=p2.2.1 r hr
   exact⟨this.1,this.2.2.2.1,this.2.2.1,this.2.2.2.2.2⟩
  have hne:canonF (cov (outsL l e.Parcels))≠[]:=λhn=>by
   have hk0:ix e.Parcels (0:Int)∈e.Parcels:=ix_mem (by omega) (by unfold fitsP at e4;omega)
   obtain⟨x,y,hxy⟩:=prop_point (reg_prop hreg (open_mem (e6 _ hk0)) (nowR_mem hreg (open_mem (e6 _ hk0))))
   have:=(canon_none c1).1 hn x y
   rw[c2] at this
   have h2:cov (outsL l e.Parcels) x y=true:=by
    unfold outsL
    rw[partsR_cov]
    exact⟨_,List.mem_map.2 ⟨_,hk0,rfl⟩,hxy⟩
   rw[h2] at this;cases this
  have hpr:propR ⟨canonF (cov (outsL l e.Parcels))⟩:=⟨hne,by show (canonF (cov (outsL l e.Parcels))).length<=120;omega,λr hr=>by
   obtain⟨b1,b2,b3,b4,b5,b6⟩:=hbox r hr
   exact⟨b1,b2,b3,b4,b5,b6⟩,c1⟩
  refine .inr ⟨hk2,[⟨canonF (cov (outsL l e.Parcels))⟩],h1.symm,by simp;omega,λa ha=> ?_,List.pairwise_singleton _ _,λa ha=> ?_,λ_=>⟨by simp,λx y=> ?_⟩⟩
  ·rw[List.mem_singleton] at ha
   rw[ha];exact hpr
  ·rw[List.mem_singleton] at ha
   subst ha
   exact parts_clear hreg hL e3.2 e6 λx y hxy=>by rw[<-c2];exact hxy
  ·show cov (canonF (cov (outsL l e.Parcels))++[]) x y=_
   rw[List.append_nil,c2]
 rename_i hk4
 injection h with h1 h2
 refine .inr ⟨hk2,[],h1.symm,(by simp;omega),λa ha=>(by cases ha),List.Pairwise.nil,λa ha=>(by cases ha),λhq=> ?_⟩
 rcases hq with hq|hq
 ·exact absurd hq hk3
 ·exact absurd hq hk4
theorem apply_reg {l m:List Pc}{e:Ed}(h:applyS l e=(m,0)):checkS m=0/\(∀p∈m,lateP e.Day p)/\pastP e.Day l m:=by
 obtain⟨h0,hc⟩:=apply_form h
 obtain⟨e1,e2,e3,⟨e4,e5⟩,e6,e7⟩:=editS_0.1 h0
 obtain⟨h60,hreg⟩:=checkS_0.1 e1
 obtain⟨hD0,hL⟩:=day_late e3.1
 rcases hc with⟨hk,hh,rfl⟩|⟨hk,rs,rfl,r1,r2,r3,r4,r5⟩
 ·have hf:e.Parcels.length=1/\e.Regions.length=1:=by unfold fitsP at e4;omega
  obtain⟨a1,a2,a3⟩:=reg_draw hreg hL e3.2 (e6 _ (ix_mem (l:=e.Parcels) (i:=0) (by omega) (by omega))) (e7 _ (ix_mem (l:=e.Regions) (i:=0) (by omega) (by omega))) hh
  exact⟨checkS_0.2 ⟨by rw[List.length_set];exact h60,a1⟩,a2,a3⟩
 ·obtain⟨b1,b2⟩:=reg_end hreg hL e3.2 e6
  have hpk:∀k∈e.Parcels,1<=k/\k<=(l.length:Int):=λk hk=>⟨(e6 k hk).1,(e6 k hk).2.1⟩
  obtain⟨c1,c2⟩:=reg_add hD0 e3.2 e5 (rs:=rs) b1 b2 (λk hk=>⟨(hpk k hk).1,by rw[endL_len];exact (hpk k hk).2,by
   obtain⟨n,hn⟩:=Int.eq_ofNat_of_zero_le (show 0<=k-1 by have:=hpk k hk;omega)
   rw[hn,endL_ix hpk (by have:=hpk k hk;omega),if_pos (by rw[show (n:Int)+1=k by omega];exact hk)]⟩) r2 r3 r4
  exact⟨checkS_0.2 ⟨by rw[addL_len,endL_len];exact r1,c1⟩,c2,past_trans (Int.le_refl _) (past_end e3.2 e6) past_add⟩
theorem openL_app {d:Int}{a b:List Pc}:openL (a++b) d=openL a d++openL b d:=by
 unfold openL;rw[List.filter_append,List.map_append]
theorem runG_cons {x:List Pc}{i n:Int}{e:Ed}{r:List Ed}{y:List Pc}(h:runG x i (e::r)=(y,n,0)):∃z,applyS x e=(z,0)/\runG z (i+1) r=(y,n,0):=by
 have h:(if (applyS x e).2≠0 then (x,i,(applyS x e).2) else runG (applyS x e).1 (i+1) r)=(y,n,0):=h
 split at h
 ·rename_i hne
  injection h with h1 h2
  injection h2 with h2 h3
  exact absurd h3 hne
 ·rename_i hne
  have h0:(applyS x e).2=0:=Classical.not_not.1 hne
  exact⟨(applyS x e).1,by rw[<-h0],h⟩
theorem runG_cut:∀{es:List Ed}{x y:List Pc}{i n:Int}{k:Nat},runG x i es=(y,n,0)->k<=es.length->∃z,runG x i (es.take k)=(z,i+(k:Int),0)/\runG z (i+(k:Int)) (es.drop k)=(y,n,0)
 |es,x,y,i,n,0,h,_=>⟨x,by rw[List.take_zero,show i+((0:Nat):Int)=i by omega];rfl,by rw[List.drop_zero,show i+((0:Nat):Int)=i by omega];exact h⟩
 |[],x,y,i,n,k+1,h,hk=>by simp at hk
 |e::r,x,y,i,n,k+1,h,hk=>by
  obtain⟨z,hz,hr⟩:=runG_cons h
  obtain⟨w,h1,h2⟩:=runG_cut (k:=k) hr (by simpa using hk)
  refine⟨w,?_,?_⟩
  ·rw[List.take_succ_cons]
   show (if (applyS x e).2≠0 then (x,i,(applyS x e).2) else runG (applyS x e).1 (i+1) (r.take k))=_
   rw[hz,if_neg (by simp),h1,show i+1+(k:Int)=i+((k+1:Nat):Int) by omega]
  ·rw[List.drop_succ_cons,show i+((k+1:Nat):Int)=i+1+(k:Int) by omega]
   exact h2
theorem checkS_nil:checkS []=0:=checkS_0.2 ⟨by simp,λi hi=>by simp at hi,λi j hi=>by simp at hi⟩
end RE
end Go.Proofs.YtpeggkeenboacaaGreat
set_option linter.unusedVariables false
namespace Go.Proofs.YtpeggkeenboacaaGreat
open Go.RowKit
namespace RE
open PL
namespace PL
def gridR (X Y:List Int)(l:List Rc):Prop:=∀r∈l,r.Left∈X/\r.Low∈Y/\r.High∈Y
def gridL (X Y:List Int)(l:List Pc):Prop:=∀p∈l,∀a∈p.Regions,gridR X Y a.Rects
end PL
theorem addBd_mem {S:Int->Prop}{out:List Bd}{u v:Int}{ss:List Sp}(h:∀b∈out,S b.low/\S b.high)(hu:S u)(hv:S v):∀b∈addBd out u v ss,S b.low/\S b.high:=by
 unfold addBd
 split
 ·rename_i c hc
  split
  ·intro b hb
   rcases List.mem_append.1 hb with hb|hb
   ·exact h b (List.dropLast_subset _ hb)
   ·rw[List.mem_singleton.1 hb]
    exact⟨(h c (List.mem_of_getLast? hc)).1,hv⟩
  ·intro b hb
   rcases List.mem_append.1 hb with hb|hb
   ·exact h b hb
   ·rw[List.mem_singleton.1 hb];exact⟨hu,hv⟩
 ·intro b hb
  rw[List.mem_singleton.1 hb];exact⟨hu,hv⟩
theorem buildG_mem {S:Int->Prop}{R:Int->List Sp}:∀{xs:List Int}{out:List Bd},(∀b∈out,S b.low/\S b.high)->(∀x∈xs,S x)->∀b∈buildG R out xs,S b.low/\S b.high
 |[],out,h,_=>h
 |[x],out,h,_=>h
 |u::v::r,out,h,hx=>by
  unfold buildG
  exact buildG_mem (xs:=v::r) (addBd_mem h (hx u (by simp)) (hx v (by simp))) λx hxm=>hx x (by simp[List.mem_cons.1 hxm])
theorem comb_rows {in_:Bool->Bool->Bool}(h0:in_ false false=false){a b:List Rc}:∀r∈canonF (comb in_ a b),(∃s∈a++b,r.Low=s.Low\/r.Low=s.High)/\∃s∈a++b,r.High=s.Low\/r.High=s.High:=by
 intro r hr
 obtain⟨_,_,h3⟩:=comb_build h0 (a:=a) (b:=b) (R:=λy=>spansOf (λx=>comb in_ a b x y) (edgesS (a++b))) (λu _=>comb_row h0)
 rw[h3] at hr
 obtain⟨c,hc,hr⟩:=List.mem_flatMap.1 hr
 unfold flat1 at hr
 obtain⟨s,hs,rfl⟩:=List.mem_map.1 hr
 have:=buildG_mem (S:=λz=>z∈cutsS (a++b)) (R:=λy=>spansOf (λx=>comb in_ a b x y) (edgesS (a++b))) (out:=[]) (λb hb=>by cases hb) (xs:=cutsS (a++b)) (λx h=>h) c hc
 exact⟨((cutsS_ok (l:=a++b)).2 _).1 this.1,((cutsS_ok (l:=a++b)).2 _).1 this.2⟩
theorem canon_left {l:List Rc}(h:Canon l):∀r∈l,cov l r.Left r.Low=true/\cov l (r.Left-1) r.Low=false:=by
 intro r hr
 obtain⟨bs,hb,rfl⟩:=h
 obtain⟨b,hbm,hr⟩:=List.mem_flatMap.1 hr
 unfold flat1 at hr
 obtain⟨s,hs,rfl⟩:=List.mem_map.1 hr
 obtain⟨e1,e2,e3⟩:=hb.each b hbm
 refine⟨cov_flat.2 ⟨b,hbm,Int.le_refl _,e1,s,hs,Int.le_refl _,e3.1 s hs⟩,?_⟩
 rw[Bool.eq_false_iff]
 intro hc
 obtain⟨c,hcm,c1,c2,t,ht,t1,t2⟩:=cov_flat.1 hc
 have c1:c.low<=b.low:=c1
 have c2:b.low<c.high:=c2
 have t1:t.1<=s.1-1:=t1
 have t2:s.1-1<t.2:=t2
 obtain⟨i,hi,ei⟩:=List.getElem_of_mem hbm
 obtain⟨j,hj,ej⟩:=List.getElem_of_mem hcm
 have hsrt:=List.pairwise_iff_getElem.1 hb.srt
 have hcb:c=b:=by
  rcases Nat.lt_trichotomy i j with g|g|g
  ·have:=hsrt i j hi hj g
   rw[ei,ej] at this
   omega
  ·subst g;rw[<-ei,<-ej]
  ·have:=hsrt j i hj hi g
   rw[ei,ej] at this
   omega
 subst hcb
 obtain⟨i,hi,ei⟩:=List.getElem_of_mem hs
 obtain⟨j,hj,ej⟩:=List.getElem_of_mem ht
 have hsp:=List.pairwise_iff_getElem.1 e3.2
 have k1:=e3.1 s hs
 have k2:=e3.1 t ht
 rcases Nat.lt_trichotomy i j with g|g|g
 ·have:=hsp i j hi hj g
  rw[ei,ej] at this
  omega
 ·subst g
  rw[ei] at ej
  subst ej
  omega
 ·have:=hsp j i hj hi g
  rw[ei,ej] at this
  omega
theorem grid_union {X Y:List Int}{l:List Rc}(h:gridR X Y l):gridR X Y (canonF (cov l)):=λr hr=>by
 obtain⟨c1,c2⟩:=canon_cov l
 obtain⟨k1,k2⟩:=canon_left c1 r hr
 rw[c2] at k1 k2
 have hr2:=hr
 rw[<-comb_or_nil] at hr2
 obtain⟨⟨s,hs,m1⟩,⟨t,ht,m2⟩⟩:=comb_rows (howS_0 1) r hr2
 rw[List.append_nil] at hs ht
 refine⟨?_,?_,?_⟩
 ·obtain⟨q,hq,q1,q2,q3,q4⟩:=cov_iff.1 k1
  have:q.Left=r.Left:=Classical.byContradiction λhne=>by
   have:cov l (r.Left-1) r.Low=true:=cov_iff.2 ⟨q,hq,by omega,by omega,q3,q4⟩
   rw[k2] at this;cases this
  rw[<-this]
  exact (h q hq).1
 ·rcases m1 with m1|m1<;>rw[m1]
  ·exact (h s hs).2.1
  ·exact (h s hs).2.2
 ·rcases m2 with m2|m2<;>rw[m2]
  ·exact (h t ht).2.1
  ·exact (h t ht).2.2
theorem grid_not {X Y:List Int}{l:List Rc}{c:Rc}(h:gridR X Y l)(hc:c.Low∈Y/\c.High∈Y):gridR (c.Right::X) Y (notC l [c]):=λr hr=>by
 unfold notC at hr
 obtain⟨c1,c2⟩:=comb_ok (howS_0 3) l [c]
 obtain⟨k1,k2⟩:=canon_left c1 r hr
 rw[c2] at k1 k2
 obtain⟨⟨s,hs,m1⟩,⟨t,ht,m2⟩⟩:=comb_rows (howS_0 3) r hr
 have hY:∀s∈l++[c],s.Low∈Y/\s.High∈Y:=λs hs=>by
  rcases List.mem_append.1 hs with hs|hs
  ·exact (h s hs).2
  ·rw[List.mem_singleton.1 hs];exact hc
 refine⟨?_,?_,?_⟩
 ·have k1:howS 3 (cov l r.Left r.Low) (cov [c] r.Left r.Low)=true:=k1
  have k2:howS 3 (cov l (r.Left-1) r.Low) (cov [c] (r.Left-1) r.Low)=false:=k2
  have hw:∀a b:Bool,howS 3 a b=(a&& !b):=λa b=>by unfold howS;cases a<;>cases b<;>rfl
  rw[hw,Bool.and_eq_true] at k1
  rw[hw] at k2
  obtain⟨q,hq,q1,q2,q3,q4⟩:=cov_iff.1 k1.1
  rw[List.mem_cons]
  by_cases e:q.Left=r.Left
  ·right;rw[<-e];exact (h q hq).1
  ·left
   have hl:cov l (r.Left-1) r.Low=true:=cov_iff.2 ⟨q,hq,by omega,by omega,q3,q4⟩
   rw[hl,Bool.true_and] at k2
   have k2:cov [c] (r.Left-1) r.Low=true:=by cases hh:cov [c] (r.Left-1) r.Low<;>rw[hh] at k2<;>first|rfl|cases k2
   obtain⟨z,hz,z1,z2,z3,z4⟩:=cov_iff.1 k2
   rw[List.mem_singleton.1 hz] at z1 z2 z3 z4
   refine Classical.byContradiction λhne=> ?_
   have:cov [c] r.Left r.Low=true:=cov_iff.2 ⟨c,by simp,by omega,by omega,z3,z4⟩
   rw[this] at k1
   cases k1.2
 ·rcases m1 with m1|m1<;>rw[m1]
  ·exact (hY s hs).1
  ·exact (hY s hs).2
 ·rcases m2 with m2|m2<;>rw[m2]
  ·exact (hY t ht).1
  ·exact (hY t ht).2
theorem nodup_len:∀{l P:List (Int×Int)},l.Nodup->(∀x∈l,x∈P)->l.length<=P.length
 |[],_,_,_=>Nat.zero_le _
 |x::l,P,h,hs=>by
  rw[List.nodup_cons] at h
  have hx:=hs x (by simp)
  have:=nodup_len (l:=l) (P:=P.erase x) h.2 λy hy=>by
   have hne:y≠x:=λe=>h.1 (e ▸ hy)
   exact (List.mem_erase_of_ne hne).2 (hs y (by simp[hy]))
  rw[List.length_erase_of_mem hx] at this
  have:0<P.length:=List.length_pos_of_mem hx
  rw[List.length_cons]
  omega
theorem prod_len {X Y:List Int}:(X.flatMap λx=>Y.map λy=>(x,y)).length=X.length * Y.length:=by
 induction X with
 |nil=>simp
 |cons x X ih=>rw[List.flatMap_cons,List.length_append,ih,List.length_map,List.length_cons,Nat.succ_mul];omega
theorem corners {X Y:List Int}{l:List Rc}(hp:∀r∈l,proper r)(hd:l.Pairwise disjR)(hg:gridR X Y l):l.length<=X.length * Y.length:=by
 have hn:(l.map λr=>(r.Left,r.Low)).Nodup:=by
  unfold List.Nodup
  rw[List.pairwise_map]
  refine List.Pairwise.imp_of_mem ?_ hd
  intro a b ha hb hab e
  injection e with e1 e2
  obtain⟨a1,a2,a3,a4,a5,a6⟩:=hp a ha
  obtain⟨b1,b2,b3,b4,b5,b6⟩:=hp b hb
  exact hab a.Left a.Low ⟨hit_iff.2 ⟨Int.le_refl _,a2,Int.le_refl _,a5⟩,hit_iff.2 ⟨by omega,by omega,by omega,by omega⟩⟩
 have:=nodup_len (P:=X.flatMap λx=>Y.map λy=>(x,y)) hn λz hz=>by
  obtain⟨r,hr,rfl⟩:=List.mem_map.1 hz
  obtain⟨g1,g2,_⟩:=hg r hr
  exact List.mem_flatMap.2 ⟨_,g1,List.mem_map.2 ⟨_,g2,rfl⟩⟩
 rwa [List.length_map,prod_len] at this
theorem parts_disj:∀{l:List Rn},(∀a∈l,a.Rects.Pairwise disjR)->l.Pairwise (λa b=>∀x y,¬(cov a.Rects x y=true/\cov b.Rects x y=true))->(partsR l).Pairwise disjR
 |[],_,_=>List.Pairwise.nil
 |a::l,h,hp=>by
  rw[List.pairwise_cons] at hp
  rw[partsR_cons,List.pairwise_append]
  refine⟨h a (by simp),parts_disj (λb hb=>h b (by simp[hb])) hp.2,λr hr s hs x y hxy=> ?_⟩
  obtain⟨b,hb,hs⟩:=partsR_mem hs
  exact hp.1 b hb x y ⟨cov_mem.2 ⟨r,hr,hxy.1⟩,cov_mem.2 ⟨s,hs,hxy.2⟩⟩
namespace PL
def edF (l:List Pc)(e:Ed):Prop:=e.Regions=[]\/(∃r:Rc,e.Regions=[⟨[r]⟩])\/∃(n:Int)(c:Rc),onP l n e.Day/\(onS l n e.Day).Rects≠[]/\c.Low=(ix (onS l n e.Day).Rects 0).Low/\c.High=(ix (onS l n e.Day).Rects 0).High/\c.Left=(ix (onS l n e.Day).Rects 0).Left/\e.Regions=[⟨[c]⟩,⟨(wouS (onS l n e.Day).Rects [c]).1⟩]
noncomputable def rsS (l:List Pc) (e:Ed):List Rn:=if e.Kind=4 then [⟨canonF (cov (outsL l e.Parcels))⟩] else e.Regions
end PL
theorem apply_rs {l m:List Pc}{e:Ed}(h:applyS l e=(m,0))(hk2:e.Kind≠2):m=addL e.Day e.Parcels (endL e.Day l e.Parcels) (rsS l e):=by
 have h0:=(apply_form h).1
 obtain⟨e1,e2,e3,⟨e4,e5⟩,e6,e7⟩:=editS_0.1 h0
 unfold applyS at h
 rw[if_neg (by rw[h0];simp)] at h
 unfold rsS
 split at h
 ·rename_i hk
  have h4n:e.Parcels=[]:=List.eq_nil_of_length_eq_zero (by unfold fitsP at e4;omega)
  rw[if_neg (by omega),h4n]
  split at h
  ·injection h with h1 h2;cases h2
  split at h
  ·injection h with h1 h2;cases h2
  injection h with h1 h2
  exact h1.symm
 split at h
 ·rename_i hk
  rw[if_neg (by omega)]
  split at h
  ·injection h with h1 h2;cases h2
  split at h
  ·injection h with h1 h2;cases h2
  split at h
  ·injection h with h1 h2;cases h2
  injection h with h1 h2
  exact h1.symm
 split at h
 ·rename_i hk
  rw[if_pos hk]
  split at h
  ·injection h with h1 h2;cases h2
  split at h
  ·injection h with h1 h2;cases h2
  injection h with h1 h2
  exact h1.symm
 ·rename_i hk1 hk3 hk4
  have h4n:e.Regions=[]:=List.eq_nil_of_length_eq_zero (by unfold fitsP at e4;omega)
  rw[if_neg hk4,h4n]
  injection h with h1 h2
  exact h1.symm
theorem gridR_mono {X Y X' Y':List Int}(hx:∀x∈X,x∈X')(hy:∀y∈Y,y∈Y'){l:List Rc}(h:gridR X Y l):gridR X' Y' l:=λr hr=>⟨hx _ (h r hr).1,hy _ (h r hr).2.1,hy _ (h r hr).2.2⟩
theorem grid_ed {l:List Pc}{e:Ed}{X Y:List Int}(hl:gridL X Y l)(he:edF l e):∃X' Y':List Int,(∀x∈X,x∈X')/\(∀y∈Y,y∈Y')/\X'.length<=X.length+1/\Y'.length<=Y.length+2/\(∀a∈e.Regions,gridR X' Y' a.Rects)/\(e.Regions.length=2->(partsR e.Regions).length<=1+(X.length+1) * Y.length):=by
 rcases he with he|⟨r,he⟩|⟨n,c,hon,hne,h1,h2,h3,he⟩
 ·exact⟨X,Y,λx h=>h,λy h=>h,by omega,by omega,by rw[he];exact λa ha=>(by cases ha),by rw[he];exact λh=>by cases h⟩
 ·refine⟨r.Left::X,r.Low::r.High::Y,λx h=>by simp[h],λy h=>by simp[h],by simp,by simp,?_,by rw[he];exact λh=>by cases h⟩
  rw[he]
  intro a ha s hs
  have ha:a=⟨[r]⟩:=List.mem_singleton.1 ha
  subst ha
  have hs:s=r:=List.mem_singleton.1 hs
  subst hs
  simp
 ·obtain⟨h60,hreg⟩:=checkS_0.1 hon.2.2.1
  obtain⟨hm1,hm2⟩:=on_mem hon hreg
  have hg:=hl _ hm2 _ hm1
  have hv:=(reg_prop hreg hm2 hm1).2
  generalize (onS l n e.Day).Rects=v at *
  have hr0:=ix_mem (l:=v) (i:=0) (by omega) (by have:=List.length_pos_iff.2 hne;omega)
  obtain⟨g1,g2,g3⟩:=hg _ hr0
  have hn:=grid_not (c:=c) hg ⟨by rw[h1];exact g2,by rw[h2];exact g3⟩
  have hw:∀q∈(wouS v [c]).1,q∈notC v [c]:=λq hq=>by
   unfold wouS at hq
   split at hq
   ·cases hq
   split at hq
   ·cases hq
   ·exact hq
  have hwl:(wouS v [c]).1.length<=(notC v [c]).length:=by
   unfold wouS
   split
   ·simp
   split
   ·simp
   ·exact Nat.le_refl _
  refine⟨c.Right::X,Y,λx h=>by simp[h],λy h=>h,by simp,by omega,?_,λ_=> ?_⟩
  ·rw[he]
   intro a ha
   rcases List.mem_cons.1 ha with ha|ha
   ·subst ha
    intro s hs
    have hs:s=c:=List.mem_singleton.1 hs
    subst hs
    exact⟨by rw[h3];exact List.mem_cons_of_mem _ g1,by rw[h1];exact g2,by rw[h2];exact g3⟩
   ·have ha:a=⟨(wouS v [c]).1⟩:=List.mem_singleton.1 ha
    subst ha
    exact λs hs=>hn s (hw s hs)
  ·obtain⟨c1,c2⟩:=comb_ok (howS_0 3) v [c]
   have hb:=canon_box c1 (x0:=0) (x1:=16384) (y0:=0) (y1:=16384) λx y hxy=>by
    rw[c2] at hxy
    have hxy:howS 3 (cov v x y) (cov [c] x y)=true:=hxy
    have hc:cov v x y=true:=by
     unfold howS at hxy
     cases hh:cov v x y with
     |true=>rfl
     |false=>rw[hh] at hxy;simp at hxy
    exact proper_box hv.2.1 hc
   have:=corners (λr hr=>by obtain⟨b1,b2,b3,b4,b5,b6⟩:=hb r hr;exact⟨b1,b2,b3,b4,b5,b6⟩) (canon_disj c1) hn
   rw[List.length_cons] at this
   have e2:(partsR e.Regions).length=1+(wouS v [c]).1.length:=by
    rw[he]
    show ([c]++((wouS v [c]).1++[])).length=_
    rw[List.append_nil,List.length_append];rfl
   unfold notC at hwl
   rw[e2]
   omega
theorem outs_grid {l:List Pc}{X Y:List Int}(hreg:regP l)(hl:gridL X Y l){ps:List Int}(hp:∀k∈ps,openP l k):gridR X Y (outsL l ps):=λr hr=>by
 obtain⟨k,hk,hr⟩:=outsL_mem hr
 have hm:=open_mem (hp k hk)
 exact hl _ hm _ (nowR_mem hreg hm) r hr
theorem grid_step {l m:List Pc}{e:Ed}{X Y:List Int}(hl:gridL X Y l)(he:edF l e)(ha:applyS l e=(m,0)):∃X' Y':List Int,X'.length<=X.length+1/\Y'.length<=Y.length+2/\gridL X' Y' m:=by
 obtain⟨X',Y',hx,hy,lx,ly,hE,_⟩:=grid_ed hl he
 refine⟨X',Y',lx,ly,?_⟩
 obtain⟨h0,hc⟩:=apply_form ha
 obtain⟨e1,e2,e3,⟨e4,e5⟩,e6,e7⟩:=editS_0.1 h0
 obtain⟨h60,hreg⟩:=checkS_0.1 e1
 have hl':gridL X' Y' l:=λp hp a ha=>gridR_mono hx hy (hl p hp a ha)
 have hpk:∀k∈e.Parcels,1<=k/\k<=(l.length:Int):=λk hk=>⟨(e6 k hk).1,(e6 k hk).2.1⟩
 rcases hc with⟨hk,hh,rfl⟩|⟨hk,_⟩
 ·have hf:e.Parcels.length=1/\e.Regions.length=1:=by unfold fitsP at e4;omega
  have hr0:=ix_mem (l:=e.Regions) (i:=0) (by omega) (by omega)
  have hm:=open_mem (e6 _ (ix_mem (l:=e.Parcels) (i:=0) (by omega) (by omega)))
  intro p hp a hap
  rcases List.mem_or_eq_of_mem_set hp with hp|hp
  ·exact hl' p hp a hap
  ·subst hp
   unfold drawnP at hap
   split at hap
   ·have hap:a∈(ix l (ix e.Parcels 0-1)).Regions.set ((ix l (ix e.Parcels 0-1)).Days.length-1) (ix e.Regions 0):=hap
    rcases List.mem_or_eq_of_mem_set hap with hap|hap
    ·exact hl' _ hm a hap
    ·rw[hap];exact hE _ hr0
   ·have hap:a∈(ix l (ix e.Parcels 0-1)).Regions++[ix e.Regions 0]:=hap
    rcases List.mem_append.1 hap with hap|hap
    ·exact hl' _ hm a hap
    ·rw[List.mem_singleton.1 hap];exact hE _ hr0
 ·rw[apply_rs ha hk]
  intro p hp a hap
  rcases addL_mem hp with hp|⟨n,b,hb,rfl⟩
  ·obtain⟨q,hq,_,_,_,_,q5⟩:=endL_mem hpk hp
   exact hl' q hq a (by rw[<-q5];exact hap)
  ·have hap:a=b:=List.mem_singleton.1 hap
   subst hap
   unfold rsS at hb
   split at hb
   ·rw[List.mem_singleton.1 hb]
    exact grid_union (outs_grid hreg hl' e6)
   ·exact hE a hb
theorem outs_disj {l:List Pc}{D:Int}(hreg:regP l)(hL:∀p∈l,lateP D p)(hD:D<=36864){ps:List Int}(hp:∀k∈ps,openP l k)(hasc:asc ps):(outsL l ps).Pairwise disjR:=by
 obtain⟨r1,r2⟩:=regP_iff.1 hreg
 unfold outsL
 refine parts_disj (λa ha=> ?_) ?_
 ·obtain⟨k,hk,rfl⟩:=List.mem_map.1 ha
  have hm:=open_mem (hp k hk)
  exact canon_disj (reg_prop hreg hm (nowR_mem hreg hm)).2.2.2
 ·rw[List.pairwise_map]
  refine List.Pairwise.imp_of_mem ?_ (asc_pw.1 hasc)
  intro a b ha hb hab x y hxy
  have hva:=open_mem (hp a ha)
  have hvb:=open_mem (hp b hb)
  obtain⟨a1,a2,a3⟩:=hp a ha
  obtain⟨b1,b2,b3⟩:=hp b hb
  obtain⟨i,hi⟩:=Int.eq_ofNat_of_zero_le (show 0<=a-1 by omega)
  obtain⟨j,hj⟩:=Int.eq_ofNat_of_zero_le (show 0<=b-1 by omega)
  have v1:=(reg_prop hreg hva (nowR_mem hreg hva)).2
  have v2:=(reg_prop hreg hvb (nowR_mem hreg hvb)).2
  rw[hi] at hva a3 v1 hxy
  rw[hj] at hvb b3 v2 hxy
  obtain⟨t1,o1⟩:=open_there (r1 i (by omega)).2.2.2.2.2.1 (hL _ hva) (Int.le_refl D) a3 (by omega)
  obtain⟨t2,o2⟩:=open_there (r1 j (by omega)).2.2.2.2.2.1 (hL _ hvb) (Int.le_refl D) b3 (by omega)
  refine r2 j i (by omega) (by omega) D t2 t1 ?_
  rw[o1,o2]
  exact⟨v2,v1,x,y,hxy.2,hxy.1⟩
end RE
end Go.Proofs.YtpeggkeenboacaaGreat
set_option linter.unusedVariables false
namespace Go.Proofs.YtpeggkeenboacaaGreat
open Go.RowKit
namespace RE
open PL
namespace PL
def edG (l:List Pc)(day:Int)(e:Ed):Prop:=edQ l day e/\edF l e
structure HistG (n:Nat)(es:List Ed)(x:List Pc):Prop extends Hist n es x where
 grid:∀k:Nat,k<es.length->∃(y:List Pc)(X Y:List Int),runG [] 0 (es.take k)=(y,(k:Int),0)/\gridL X Y y/\X.length<=k/\Y.length<=2 * k/\edF y (ix es (k:Int))
 last:∃X Y:List Int,gridL X Y x/\X.length<=es.length/\Y.length<=2 * es.length
end PL
theorem edG_rect {l:List Pc}{day kind:Int}{ps:List Int}{r:Rc}(hk:1<=kind/\kind<=5)(hps:ps.length<=16)(h9:l=[]->proper r/\r.Right<=39/\r.High<=39)(h:∀N:Int,39<=N->N<=1000->bxL N l->proper r/\r.Right<=N+8/\r.High<=N+8):edG l day ⟨day,day,kind,ps,[⟨[r]⟩]⟩:=
 ⟨edQ_rect hk hps h9 h,.inr (.inl ⟨r,rfl⟩)⟩
theorem edG_none {l:List Pc}{day kind:Int}{ps:List Int}(hk:1<=kind/\kind<=5)(hps:ps.length<=16):edG l day ⟨day,day,kind,ps,[]⟩:=⟨edQ_none hk hps,.inl rfl⟩
theorem edG_split {l:List Pc}{day n:Int}{r:Rc}{v:List Rc}(hon:onP l n day)(hv12:(onS l n day).Rects=v)(hne:0<v.length)(hr:r.Low=(ix v 0).Low/\r.High=(ix v 0).High/\r.Left=(ix v 0).Left)(hps:[n].length<=16)(hln:l≠[])(hv:validP v)(h:∀N:Int,39<=N->N<=1000->bxL N l->(proper r/\r.Right<=N+8/\r.High<=N+8)/\∀q∈v,q.Right<=N/\q.High<=N):edG l day ⟨day,day,3,[n],[⟨[r]⟩,⟨(wouS v [r]).1⟩]⟩:=by
 refine⟨edQ_split hps hln hv h,.inr (.inr ⟨n,r,hon,?_,?_,?_,?_,?_⟩)⟩
 ·show (onS l n day).Rects≠[]
  rw[hv12];exact List.length_pos_iff.1 hne
 ·show _=(ix (onS l n day).Rects 0).Low
  rw[hv12];exact hr.1
 ·show _=(ix (onS l n day).Rects 0).High
  rw[hv12];exact hr.2.1
 ·show _=(ix (onS l n day).Rects 0).Left
  rw[hv12];exact hr.2.2
 ·show _=[(⟨[r]⟩:Rn),⟨(wouS (onS l n day).Rects [r]).1⟩]
  rw[hv12]
theorem histG_nil:HistG 0 [] []:=⟨hist_nil,λk hk=>by simp at hk,⟨[],[],λp hp=>(by cases hp),by simp,by simp⟩⟩
theorem PL.HistG.monoG {n m:Nat}(h:n<=m){es:List Ed}{x:List Pc}(k:HistG n es x):HistG m es x:=⟨k.toHist.mono h,k.grid,k.last⟩
theorem PL.HistG.stepG {n:Nat}(hn:n<=7){es:List Ed}{x:List Pc}(k:HistG n es x){day:Int}(hd:0<=day/\day<=100){e:Ed}(he:edQ x day e)(hf:edF x e)(h0:(applyS x e).2=0):HistG (n+1) (es++[e]) (applyS x e).1:=by
 obtain⟨X,Y,g1,g2,g3⟩:=k.last
 have hl2:(es++[e]).length=es.length+1:=by simp
 refine⟨k.toHist.step hn hd he h0,λj hj=> ?_,?_⟩
 ·rw[hl2] at hj
  by_cases hq:j=es.length
  ·subst hq
   refine⟨x,X,Y,?_,g1,g2,g3,?_⟩
   ·rw[List.take_left']
    ·exact k.run
    ·rfl
   ·rw[ix_app2];exact hf
  ·obtain⟨y,X',Y',a1,a2,a3,a4,a5⟩:=k.grid j (by omega)
   refine⟨y,X',Y',?_,a2,a3,a4,?_⟩
   ·rw[List.take_append_of_le_length (by omega)];exact a1
   ·rw[ix_app1 (by omega)];exact a5
 ·obtain⟨X',Y',a1,a2,a3⟩:=grid_step (m:=(applyS x e).1) g1 hf (by rw[<-h0])
  exact⟨X',Y',a3,by omega,by omega⟩
end RE
end Go.Proofs.YtpeggkeenboacaaGreat
set_option linter.unusedVariables false
namespace Go.Proofs.YtpeggkeenboacaaGreat
open Go.RowKit
namespace RE
open PL
namespace PL
noncomputable def newF (m:List Pc) (N D:Int) (b:List Rc) (n:Int):List Rc:=if N<n then b++(onS m n D).Rects else b
end PL
theorem openL_addL {D:Int}{ps:List Int}(hD:D<=36864):∀{rs:List Rn}{l:List Pc},openL (addL D ps l rs) D=openL l D++(List.range rs.length).map λ(i:Nat)=>((l.length+i:Nat):Int)+1
 |[],l=>by
  rw[List.length_nil,List.range_zero,List.map_nil,List.append_nil];rfl
 |a::rs,l=>by
  have e:addL D ps l (a::rs)=addL D ps (l++[newP ((l.length:Int)+1) D ps a]) rs:=rfl
  have h1:openL [newP ((l.length:Int)+1) D ps a] D=[(l.length:Int)+1]:=by
   unfold openL
   rw[List.filter_cons,if_pos (by simp only[decide_eq_true_eq];exact⟨Int.le_refl _,by show D<36865;omega⟩)]
   rfl
  rw[e,openL_addL hD,openL_app,h1,List.append_assoc,List.length_cons,List.range_succ_eq_map,List.map_cons,List.map_map]
  congr 1
  rw[List.singleton_append]
  congr 1
  refine List.map_congr_left λi _=> ?_
  show (((l++[newP ((l.length:Int)+1) D ps a]).length+i:Nat):Int)+1=((l.length+(i+1):Nat):Int)+1
  rw[List.length_append,List.length_singleton]
  omega
theorem openL_le {l:List Pc}(h:regP l){d:Int}:∀n∈openL l d,1<=n/\n<=(l.length:Int):=λn hn=>by
 unfold openL at hn
 obtain⟨p,hp,rfl⟩:=List.mem_map.1 hn
 obtain⟨i,hi,rfl⟩:=ix_ex (List.mem_filter.1 hp).1
 rw[regP_num h hi]
 omega
theorem fold_old {m:List Pc}{N D:Int}:∀{ns:List Int}{b:List Rc},(∀n∈ns,n<=N)->ns.foldl (newF m N D) b=b
 |[],b,_=>rfl
 |n::ns,b,h=>by
  rw[List.foldl_cons]
  have:newF m N D b n=b:=by unfold newF;rw[if_neg (by have:=h n (by simp);omega)]
  rw[this]
  exact fold_old λk hk=>h k (by simp[hk])
theorem fold_new {m:List Pc}{N:Nat}{D:Int}{rs:List Rn}(h:∀i:Nat,i<rs.length->onS m (((N+i:Nat):Int)+1) D=ix rs (i:Int)):∀{k:Nat}{b:List Rc},k<=rs.length->((List.range k).map λ(i:Nat)=>((N+i:Nat):Int)+1).foldl (newF m (N:Int) D) b=b++partsR (rs.take k)
 |0,b,_=>by
  rw[List.take_zero]
  show b=b++[]
  rw[List.append_nil]
 |k+1,b,hk=>by
  rw[List.range_succ,List.map_append,List.foldl_append,fold_new h (by omega),List.map_singleton,List.foldl_cons,List.foldl_nil]
  unfold newF
  rw[if_pos (by omega),h k (by omega),List.take_succ_eq_append_getElem (by omega),List.append_assoc]
  congr 1
  unfold partsR
  rw[List.flatMap_append,ix_lt (by omega)]
  simp
theorem edit_sides {l m:List Pc}{e:Ed}(h:applyS l e=(m,0))(hk:e.Kind=3\/e.Kind=4):(∀n∈e.Parcels,onP l n e.Day/\(onS l n e.Day).Rects=(nowR (ix l (n-1))).Rects)/\(openS m e.Day).foldl (newF m (l.length:Int) e.Day) []=partsR (rsS l e):=by
 obtain⟨h0,hc⟩:=apply_form h
 obtain⟨e1,e2,e3,⟨e4,e5⟩,e6,e7⟩:=editS_0.1 h0
 obtain⟨h60,hreg⟩:=checkS_0.1 e1
 obtain⟨hD0,hL⟩:=day_late e3.1
 obtain⟨r1,r2⟩:=regP_iff.1 hreg
 obtain⟨a1,a2,a3⟩:=apply_reg h
 have hm:=apply_rs h (by omega)
 have hpk:∀k∈e.Parcels,1<=k/\k<=(l.length:Int):=λk hk=>⟨(e6 k hk).1,(e6 k hk).2.1⟩
 refine⟨λn hn=> ?_,?_⟩
 ·obtain⟨o1,o2,o3⟩:=e6 n hn
  obtain⟨k,hk⟩:=Int.eq_ofNat_of_zero_le (show 0<=n-1 by omega)
  have o3':=o3
  rw[hk] at o3'
  obtain⟨t1,t2⟩:=open_there (r1 k (by omega)).2.2.2.2.2.1 (hL _ (ix_mem (by omega) (by omega))) (Int.le_refl e.Day) o3' (by omega)
  have hon:onP l n e.Day:=⟨o1,o2,e1,by rw[hk];exact t1⟩
  refine⟨hon,?_⟩
  unfold onS
  rw[if_pos hon,hk,t2]
 ·have hlen:(endL e.Day l e.Parcels).length=l.length:=endL_len
  obtain⟨b1,_⟩:=reg_end hreg hL e3.2 e6
  have e0:openS m e.Day=openL m e.Day:=by unfold openS;rw[if_pos a1]
  have e1:openL m e.Day=openL (endL e.Day l e.Parcels) e.Day++(List.range (rsS l e).length).map λ(i:Nat)=>((l.length+i:Nat):Int)+1:=by
   rw[hm,openL_addL e3.2,hlen]
  have hon:∀i:Nat,i<(rsS l e).length->onS m (((l.length+i:Nat):Int)+1) e.Day=ix (rsS l e) (i:Int):=λi hi=>by
   have hx:=addL_new (D:=e.Day) (ps:=e.Parcels) (rs:=rsS l e) (l:=endL e.Day l e.Parcels) (i:=i) hi
   rw[hlen,<-hm] at hx
   have hml:m.length=l.length+(rsS l e).length:=by rw[hm,addL_len,hlen]
   have ht:thereP (ix m (((l.length+i:Nat):Int)+1-1)) e.Day:=by
    rw[show (((l.length+i:Nat):Int)+1-1)=((l.length+i:Nat):Int) by omega,hx]
    exact⟨Int.le_refl _,by show e.Day<36865;omega⟩
   unfold onS
   rw[if_pos ⟨by omega,by omega,a1,ht⟩,show (((l.length+i:Nat):Int)+1-1)=((l.length+i:Nat):Int) by omega,hx]
   show (if e.Day<=e.Day then ix (rsS l e) (i:Int) else ix (rsS l e) (i:Int))=_
   rw[if_pos (Int.le_refl _)]
  have f1:(openL (endL e.Day l e.Parcels) e.Day).foldl (newF m (l.length:Int) e.Day) []=[]:=fold_old λn hn=>by have:=(openL_le b1 n hn).2;rw[hlen] at this;exact this
  rw[e0,e1,List.foldl_append,f1,fold_new hon (Nat.le_refl _),List.take_length,List.nil_append]
theorem ofS_ok {l:List Rc}(h1:l.length<=120)(h2:∀r∈l,proper r)(h3:(canonF (cov l)).length<=120):ofS l=(canonF (cov l),0):=by
 unfold ofS
 rw[if_neg (by omega),if_neg (λh=>h h2),if_neg (by omega)]
theorem edit_of {l m:List Pc}{e:Ed}{X Y:List Int}{n:Nat}(h:applyS l e=(m,0))(hk:e.Kind=3\/e.Kind=4)(hl:gridL X Y l)(hX:X.length<=n)(hY:Y.length<=2 * n)(hn:n<=7)(hf:edF l e)(h2:e.Kind=3->e.Regions.length=2):
 ofS (outsL l e.Parcels)=(canonF (cov (outsL l e.Parcels)),0)/\ofS (partsR (rsS l e))=(canonF (cov (outsL l e.Parcels)),0)/\partsR (rsS l e)≠[]/\(outsL l e.Parcels).length<=1000:=by
 obtain⟨h0,hc⟩:=apply_form h
 obtain⟨e1,e2,e3,⟨e4,e5⟩,e6,e7⟩:=editS_0.1 h0
 obtain⟨h60,hreg⟩:=checkS_0.1 e1
 obtain⟨hD0,hL⟩:=day_late e3.1
 have hprop:∀r∈outsL l e.Parcels,proper r:=λr hr=>by
  obtain⟨k,hk,hr⟩:=outsL_mem hr
  exact (reg_prop hreg (open_mem (e6 k hk)) (nowR_mem hreg (open_mem (e6 k hk)))).2.2.1 r hr
 have hmul:X.length * Y.length<=98:=by
  have:=Nat.mul_le_mul (Nat.le_trans hX hn) (Nat.le_trans hY (Nat.mul_le_mul_left 2 hn))
  omega
 have hao:(outsL l e.Parcels).length<=98:=Nat.le_trans (corners hprop (outs_disj hreg hL e3.2 e6 e5) (outs_grid hreg hl e6)) hmul
 rcases hc with⟨hk2,_⟩|⟨hk2,rs',hm',r1',r2',r3',r4',r5'⟩
 ·omega
 obtain⟨hne',hcov'⟩:=r5' hk
 have hm:=apply_rs h (by omega)
 have hrs:rs'=rsS l e:=by
  have hlen:m.length=m.length:=rfl
  rw[hm'] at hm
  have hl1:rs'.length=(rsS l e).length:=by
   have:=congrArg List.length hm
   rw[addL_len,addL_len] at this
   omega
  refine List.ext_getElem hl1 λi i1 i2=> ?_
  have g1:=addL_new (D:=e.Day) (ps:=e.Parcels) (rs:=rs') (l:=endL e.Day l e.Parcels) i1
  have g2:=addL_new (D:=e.Day) (ps:=e.Parcels) (rs:=rsS l e) (l:=endL e.Day l e.Parcels) i2
  rw[hm,g2] at g1
  have:=congrArg api_Parcel.Regions g1
  have this:[ix (rsS l e) (i:Int)]=[ix rs' (i:Int)]:=this
  rw[ix_lt i1,ix_lt i2] at this
  exact (List.cons.inj this).1.symm
 rw[hrs] at hne' hcov' r2'
 have hcan:(canonF (cov (outsL l e.Parcels))).length<=120:=by
  rcases hk with hk|hk
  ·
   have hp1:e.Parcels.length=1:=by unfold fitsP at e4;omega
   have hps:e.Parcels=[ix e.Parcels 0]:=by
    cases hpp:e.Parcels with
    |nil=>rw[hpp] at hp1;cases hp1
    |cons a r=>
     have:r=[]:=List.eq_nil_of_length_eq_zero (by rw[hpp] at hp1;simpa using hp1)
     subst this;rfl
   have:outsL l e.Parcels=(nowR (ix l (ix e.Parcels 0-1))).Rects:=by rw[hps];show _++[]=_;rw[List.append_nil];rfl
   have hm0:=open_mem (e6 _ (ix_mem (l:=e.Parcels) (i:=0) (by omega) (by omega)))
   have hv:=(reg_prop hreg hm0 (nowR_mem hreg hm0)).2
   rw[this,canon_self hv.2.2]
   exact hv.1
  ·have hr:rsS l e=[⟨canonF (cov (outsL l e.Parcels))⟩]:=by unfold rsS;rw[if_pos hk]
   have:=(r2' ⟨canonF (cov (outsL l e.Parcels))⟩ (by rw[hr];simp)).2.1
   exact this
 have hpar:∀r∈partsR (rsS l e),proper r:=λr hr=>by
  obtain⟨a,ha,hr⟩:=partsR_mem hr
  exact (r2' a ha).2.2.1 r hr
 have hcovF:(λx y=>cov (partsR (rsS l e)) x y)=λx y=>cov (outsL l e.Parcels) x y:=by
  funext x y;exact hcov' x y
 have hcc:cov (partsR (rsS l e))=cov (outsL l e.Parcels):=hcovF
 refine⟨ofS_ok (by omega) hprop hcan,?_,λhn=> ?_,by omega⟩
 ·rw[ofS_ok ?_ hpar (by rw[hcc];exact hcan),hcc]
  rcases hk with hk|hk
  ·obtain⟨_,_,_,_,_,_,_,hb⟩:=grid_ed hl hf
   have:=hb (h2 hk)
   have hr:rsS l e=e.Regions:=by unfold rsS;rw[if_neg (by omega)]
   rw[hr]
   have h3:(X.length+1) * Y.length<=8 * 14:=Nat.mul_le_mul (by omega) (by omega)
   omega
  ·have hr:rsS l e=[⟨canonF (cov (outsL l e.Parcels))⟩]:=by unfold rsS;rw[if_pos hk]
   rw[hr]
   show (canonF (cov (outsL l e.Parcels))++[]).length<=120
   rw[List.append_nil];exact hcan
 ·have hx0:=List.length_pos_iff.2 hne'
  obtain⟨x,y,hxy⟩:=prop_point (r2' _ (ix_mem (l:=rsS l e) (i:=0) (by omega) (by omega)))
  have:cov (partsR (rsS l e)) x y=true:=partsR_cov.2 ⟨_,ix_mem (l:=rsS l e) (i:=0) (by omega) (by omega),hxy⟩
  rw[hn] at this
  cases this
theorem openL_inc {l:List Pc}(h:regP l){d:Int}:(openL l d).Pairwise (·<·):=by
 unfold openL
 rw[List.pairwise_map]
 refine List.Pairwise.filter _ ?_
 rw[List.pairwise_iff_getElem]
 intro i j hi hj hij
 have h1:=regP_num h hi
 have h2:=regP_num h hj
 rw[ix_lt hi] at h1
 rw[ix_lt hj] at h2
 omega
theorem day_apart {l:List Pc}(h:checkS l=0){d:Int}:(∀n∈openS l d,onP l n d)/\(openS l d).length<=60/\(∀a∈(openS l d).map λn=>onS l n d,validP a.Rects)/\apartP ((openS l d).map λn=>onS l n d):=by
 obtain⟨h60,hreg⟩:=checkS_0.1 h
 obtain⟨r1,r2⟩:=regP_iff.1 hreg
 have e0:openS l d=openL l d:=by unfold openS;rw[if_pos h]
 have hon:∀n∈openS l d,onP l n d:=λn hn=>(open_on hn).1
 have hv:∀a∈(openS l d).map λn=>onS l n d,validP a.Rects:=λa ha=>by
  obtain⟨n,hn,rfl⟩:=List.mem_map.1 ha
  obtain⟨m1,m2⟩:=on_mem (hon n hn) hreg
  exact (reg_prop hreg m2 m1).2
 refine⟨hon,by have:=openS_len (l:=l) (d:=d);omega,hv,?_⟩
 rw[apart_pw hv,List.pairwise_map]
 have hinc:(openS l d).Pairwise (·<·):=by rw[e0];exact openL_inc hreg
 refine List.Pairwise.imp_of_mem ?_ hinc
 intro a b ha hb hab x y hxy
 have oa:=hon a ha
 have ob:=hon b hb
 have va:=hv _ (List.mem_map.2 ⟨a,ha,rfl⟩)
 have vb:=hv _ (List.mem_map.2 ⟨b,hb,rfl⟩)
 unfold onS at hxy va vb
 rw[if_pos oa] at hxy va
 rw[if_pos ob] at hxy vb
 obtain⟨a1,a2,_,a4⟩:=oa
 obtain⟨b1,b2,_,b4⟩:=ob
 obtain⟨i,hi⟩:=Int.eq_ofNat_of_zero_le (show 0<=a-1 by omega)
 obtain⟨j,hj⟩:=Int.eq_ofNat_of_zero_le (show 0<=b-1 by omega)
 rw[hi] at a4 va hxy
 rw[hj] at b4 vb hxy
 exact r2 j i (by omega) (by omega) d b4 a4 ⟨vb,va,x,y,hxy.2,hxy.1⟩
end RE
end Go.Proofs.YtpeggkeenboacaaGreat
set_option linter.unusedVariables false
namespace Go.Proofs.YtpeggkeenboacaaGreat
open Go.RowKit
namespace RE
open PL
namespace PL
end PL
end RE
end Go.Proofs.YtpeggkeenboacaaGreat
namespace Go.Proofs.YtpeggkeenboacaaGreat
namespace RE
open Go.RowKit
open PL
def routl_P (p:api_Parcel)(d:Int)(post:api_Region->Prop):Prop:=(0<p.Regions.length/\p.Days.length=p.Regions.length/\p.Days.length<=1000000)/\post (outlS p d)
def routl_sp:Spec:=⟨106,false,true,[.st .api_Parcel,.int .i64],.dat (.st .api_Region),λx post=>routl_P (x.1:api_Parcel) (x.2.1:Int) (λy0=>post (y0,()))⟩
def routl_C:CtxR:=⟨tau,[],lookJ [(0,7,⟨[(14,.dat (.int .i64))],[(2,[.dat (.sl (.st .api_Rect))])],(List.range' 15 15++[6]),[],[]⟩),(0,14,⟨[],[(2,[.dat (.sl (.st .api_Rect))])],(List.range' 16 13++[6]),[],[]⟩)]⟩
def routl_W (p:api_Parcel)(d:Int)(post:api_Region->Prop):Prop:=(Int.NonNeg 0/\0<(↑p.6.length:Int))/\((↑p.5.length:Int)<=9223372036854775807->LOOP [Ty.int IntKind.i64,(Ty.st Sn.api_Rect).sl] (λ(rec1:Int->List api_Rect->Prop) (z2:Int) (z3:List api_Rect)=>IFB (decide (z2<(↑p.5.length:Int))) (JOIN [(Ty.st Sn.api_Rect).sl] (λ(y4:List api_Rect)=>rec1 (IntKind.i64.wrap (z2+1)) y4) λ(J5:List api_Rect->Prop)=>((0:Int)<=z2/\z2<(↑p.5.length:Int))/\IFB (decide (ix p.5 z2<=d)) (((0:Int)<=z2/\z2<(↑p.6.length:Int))/\J5 (ix p.6 z2).1) (J5 z3)) (post (⟨z3⟩:api_Region))) ((0:Int),(ix p.6 0).1,PUnit.unit))
theorem routl_w (p:api_Parcel)(d:Int)(post:dens (shT routl_sp.rs [])->Prop):routl_W p d (λy0=>post (y0,()))=walkG (callR Tryz.prog routl_C (drawF Tryz.prog tau) 8 0) 106 false [tv (.st .api_Parcel) p,tv (.int .i64) d] routl_sp.rs post:=by kernel_rfl
theorem routl_of (h:∀p d post,routl_P p d post->routl_W p d post):SpecOK Tryz.prog routl_sp:=SpecOK.of_rules (C:=routl_C) (dr:=drawF Tryz.prog tau) (n:=8) (fk:=0) .nil (drawF_ok tau) λx post hp=>HoldW.of (routl_w x.1 x.2.1 post) (h x.1 x.2.1 (λy0=>post (y0,())) hp)
theorem routl_ok:SpecOK Tryz.prog routl_sp:=routl_of λp d post hp=>by
 obtain⟨⟨h1,h2,h3⟩,hp⟩:=hp
 unfold routl_W
 refine⟨⟨Int.NonNeg.mk 0,by omega⟩,λ_=> ?_⟩
 refine LOOP.fuel2 (λ(z:Int) (b:List Rc)=>∃k:Nat,z=(k:Int)/\k<=p.Days.length/\b=(outlF p d k).Rects) (λz _=>p.Days.length-Int.toNat z) ⟨0,rfl,Nat.zero_le _,rfl⟩ ?_
 rintro rec (z:Int) (b:List Rc) ⟨k,i1,i2,i3⟩ hrec
 subst i1
 refine IFB.mk (λhb=> ?_) (λhb=> ?_)
 ·have hb:(k:Int)<p.Days.length:=of_decide_eq_true hb
  refine JOIN.opq λ(J:List Rc->Prop) hJ=>⟨by omega,?_⟩
  have fin:∀y:List Rc,y=(outlF p d (k+1)).Rects->J y:=λy hy=>by
   rw[hJ]
   show rec (IntKind.i64.wrap ((k:Int)+1)) y
   rw[wrapS (by omega)]
   exact hrec ((k+1:Nat):Int) y ⟨k+1,rfl,by omega,hy⟩ (by show p.Days.length-((k+1:Nat):Int).toNat<p.Days.length-(k:Int).toNat;omega)
  refine IFB.mk (λhc=>⟨by omega,fin _ ?_⟩) (λhc=>fin _ ?_)
  ·have hc:ix p.Days (k:Int)<=d:=of_decide_eq_true hc
   rw[outlF_succ,if_pos hc]
  ·have hc:¬ix p.Days (k:Int)<=d:=of_decide_eq_false hc
   rw[outlF_succ,if_neg hc];exact i3
 ·have hb:¬(k:Int)<p.Days.length:=of_decide_eq_false hb
  have hk:k=p.Days.length:=by omega
  rw[i3,hk];exact hp
def ropen_P (l:List (api_Parcel))(d:Int)(post:List (Int)->Prop):Prop:=szL l/\post (openS l d)
def ropen_sp:Spec:=⟨40,false,true,[.sl (.st .api_Parcel),.int .i64],.dat (.sl (.int .i64)),λx post=>ropen_P (x.1:List (api_Parcel)) (x.2.1:Int) (λy0=>post (y0,()))⟩
def ropen_C:CtxR:=⟨tau,[rule1 rchk_sp],lookJ [(0,11,⟨[(13,.dat (.int .i64)),(5,.own 3 (.int .i64))],[],(List.range' 14 12++[7]),[],[]⟩),(0,18,⟨[(5,.own 3 (.int .i64))],[],(List.range' 15 10++[7]),[0],[]⟩)]⟩
def ropen_W (l:List (api_Parcel))(d:Int)(post:List (Int)->Prop):Prop:=szL l/\IFB (!decide (checkS l=0)) (post []) ((↑l.length:Int)<=9223372036854775807->LOOP [Ty.int IntKind.i64,(Ty.int IntKind.i64).sl] (λ(rec1:Int->List Int->Prop) (z2:Int) (z3:List Int)=>IFB (decide (z2<(↑l.length:Int))) (JOIN [(Ty.int IntKind.i64).sl] (λ(y4:List Int)=>rec1 (IntKind.i64.wrap (z2+1)) y4) λ(J5:List Int->Prop)=>((0:Int)<=z2/\z2<(↑l.length:Int))/\IFB (decide ((ix l z2).2<=d)&&decide (d<(ix l z2).3)) ((z3.length+[(ix l z2).1].length) * (8:Nat)<=140737488355328/\J5 (z3++[(ix l z2).1])) (J5 z3)) (post z3)) ((0:Int),[],PUnit.unit))
theorem ropen_w (l:List (api_Parcel))(d:Int)(post:dens (shT ropen_sp.rs [])->Prop):ropen_W l d (λy0=>post (y0,()))=walkG (callR Tryz.prog ropen_C (drawF Tryz.prog tau) 8 0) 40 false [tv (.sl (.st .api_Parcel)) l,tv (.int .i64) d] ropen_sp.rs post:=by kernel_rfl
theorem ropen_of (h:∀l d post,ropen_P l d post->ropen_W l d post):SpecOK Tryz.prog ropen_sp:=SpecOK.of_rules (C:=ropen_C) (dr:=drawF Tryz.prog tau) (n:=8) (fk:=0) (.cons (rule1_ok rchk_ok) .nil) (drawF_ok tau) λx post hp=>HoldW.of (ropen_w x.1 x.2.1 post) (h x.1 x.2.1 (λy0=>post (y0,())) hp)
theorem ropen_ok:SpecOK Tryz.prog ropen_sp:=ropen_of λl d post hp=>by
 obtain⟨hsz,hp⟩:=hp
 have hl:=hsz.len
 unfold ropen_W
 unfold openS at hp
 refine⟨hsz,IFB.mk (λhb=> ?_) (λhb _=> ?_)⟩
 ·have hb:¬checkS l=0:=by simpa using hb
  rw[if_neg hb] at hp;exact hp
 have hb:checkS l=0:=by simpa using hb
 rw[if_pos hb] at hp
 refine LOOP.fuel2 (λ(z:Int) (b:List Int)=>∃k:Nat,z=(k:Int)/\k<=l.length/\b=openL (l.take k) d) (λz _=>l.length-Int.toNat z) ⟨0,rfl,Nat.zero_le _,rfl⟩ ?_
 rintro rec (z:Int) (b:List Int) ⟨k,i1,i2,i3⟩ hrec
 subst i1
 refine IFB.mk (λhb=> ?_) (λhb=> ?_)
 ·have hb:(k:Int)<l.length:=of_decide_eq_true hb
  have hk:k<l.length:=by omega
  have hbl:b.length<=1000000:=by
   have:=openL_len (l:=l.take k) (d:=d)
   rw[<-i3,List.length_take] at this;omega
  refine JOIN.opq λ(J:List Int->Prop) hJ=>⟨by omega,?_⟩
  have fin:∀y:List Int,y=openL (l.take (k+1)) d->J y:=λy hy=>by
   rw[hJ]
   show rec (IntKind.i64.wrap ((k:Int)+1)) y
   rw[wrapS (by omega)]
   exact hrec ((k+1:Nat):Int) y ⟨k+1,rfl,hk,hy⟩ (by show l.length-((k+1:Nat):Int).toNat<l.length-(k:Int).toNat;omega)
  refine IFB.mk (λhc=>⟨by simp only[List.length_cons,List.length_nil];omega,fin _ ?_⟩) (λhc=>fin _ ?_)
  ·rw[Bool.and_eq_true,decide_eq_true_eq,decide_eq_true_eq] at hc
   rw[openL_take hk,if_pos (show thereP (ix l (k:Int)) d from hc),<-i3]
  ·rw[Bool.and_eq_false_iff,decide_eq_false_iff_not,decide_eq_false_iff_not] at hc
   rw[openL_take hk,if_neg (λh=>by unfold thereP at h;rcases hc with hc|hc;exact hc h.1;exact hc h.2),<-i3]
 ·have hb:¬(k:Int)<l.length:=of_decide_eq_false hb
  have hk:k=l.length:=by omega
  rw[hk,List.take_length] at i3
  show post b
  rw[i3];exact hp
def ron_P (l:List (api_Parcel))(n:Int)(d:Int)(post:List (api_Rect)->Bool->Prop):Prop:=szL l/\∀(r:List api_Rect)(q:Bool),(r=(onS l n d).Rects/\(q=true↔onP l n d))->post r q
def ron_sp:Spec:=⟨41,false,true,[.sl (.st .api_Parcel),.int .i64,.int .i64],.tup [.agg [.dat (.sl (.st .api_Rect))],.dat (.bool)],λx post=>ron_P (x.1:List (api_Parcel)) (x.2.1:Int) (x.2.2.1:Int) (λy0 y1=>post (y0,y1,()))⟩
def ron_C:CtxR:=⟨tau,[rule1 rchk_sp,rule1 routl_sp],lookJ []⟩
def ron_W (l:List (api_Parcel))(n:Int)(d:Int)(post:List (api_Rect)->Bool->Prop):Prop:=szL l/\((gx false (!decide (checkS l=0)||decide (n<1))=true->(↑l.length:Int)<=9223372036854775807)->(gx false (!decide (checkS l=0)||decide (n<1)||decide ((↑l.length:Int)<n))=true->0<=IntKind.i64.wrap (n-1)/\IntKind.i64.wrap (n-1)<(↑l.length:Int))/\JOIN [Ty.bool] (λ(y1:Bool)=>IFB (!decide (checkS l=0)||decide (n<1)||decide ((↑l.length:Int)<n)|| !y1) (post [] false) (((0:Int)<=IntKind.i64.wrap (n-1)/\IntKind.i64.wrap (n-1)<(↑l.length:Int))/\((0:Nat)<(ix l (IntKind.i64.wrap (n-1))).6.length/\(ix l (IntKind.i64.wrap (n-1))).5.length=(ix l (IntKind.i64.wrap (n-1))).6.length/\(ix l (IntKind.i64.wrap (n-1))).5.length<=1000000)/\post (outlS {Number:=(ix l (IntKind.i64.wrap (n-1))).1,From:=(ix l (IntKind.i64.wrap (n-1))).2,Until:=(ix l (IntKind.i64.wrap (n-1))).3,Parents:=(ix l (IntKind.i64.wrap (n-1))).4,Days:=(ix l (IntKind.i64.wrap (n-1))).5,Regions:=(ix l (IntKind.i64.wrap (n-1))).6:api_Parcel} d).1 true)) λ(J2:Bool->Prop)=>IFB (gx false (!decide (checkS l=0)||decide (n<1)||decide ((↑l.length:Int)<n))) (J2 (decide ((ix l (IntKind.i64.wrap (n-1))).2<=d)&&decide (d<(ix l (IntKind.i64.wrap (n-1))).3))) (J2 false))
theorem ron_w (l:List (api_Parcel))(n:Int)(d:Int)(post:dens (shT ron_sp.rs [])->Prop):ron_W l n d (λy0 y1=>post (y0,y1,()))=walkG (callR Tryz.prog ron_C (drawF Tryz.prog tau) 8 0) 41 false [tv (.sl (.st .api_Parcel)) l,tv (.int .i64) n,tv (.int .i64) d] ron_sp.rs post:=by kernel_rfl
theorem ron_of (h:∀l n d post,ron_P l n d post->ron_W l n d post):SpecOK Tryz.prog ron_sp:=SpecOK.of_rules (C:=ron_C) (dr:=drawF Tryz.prog tau) (n:=8) (fk:=0) (.cons (rule1_ok rchk_ok) (.cons (rule1_ok routl_ok) .nil)) (drawF_ok tau) λx post hp=>HoldW.of (ron_w x.1 x.2.1 x.2.2.1 post) (h x.1 x.2.1 x.2.2.1 (λy0 y1=>post (y0,y1,())) hp)
theorem ron_ok:SpecOK Tryz.prog ron_sp:=ron_of λl n d post hp=>by
 obtain⟨hsz,hp⟩:=hp
 have hl:=hsz.len
 unfold ron_W
 have hw:1<=n->n<=(l.length:Int)->IntKind.i64.wrap (n-1)=n-1:=λh1 h2=>wrap_in (by omega) (by omega)
 refine⟨hsz,λ_=>⟨λh=> ?_,JOIN.opq λ(J2:Bool->Prop) hJ2=> ?_⟩⟩
 ·rw[gx_f,Bool.not_eq_true',Bool.or_eq_false_iff,Bool.or_eq_false_iff,decide_eq_false_iff_not,decide_eq_false_iff_not] at h
  rw[hw (by omega) (by omega)];omega
 have k2:∀c:Bool,(1<=n->n<=(l.length:Int)->checkS l=0->(c=true↔thereP (ix l (n-1)) d))->J2 c:=λc hc=>by
  rw[hJ2]
  refine IFB.mk (λh=> ?_) (λh=> ?_)
  ·have hn:¬onP l n d:=by
    rintro ⟨o1,o2,o3,o4⟩
    rw[(hc o1 o2 o3).2 o4,o3] at h
    simp at h
    omega
   refine hp [] false ⟨?_,λh=>(by cases h),λh=>absurd h hn⟩
   unfold onS;rw[if_neg hn]
  ·simp only[Bool.or_eq_false_iff,Bool.not_eq_false',decide_eq_true_eq,decide_eq_false_iff_not] at h
   obtain⟨⟨⟨b3,b1⟩,b2⟩,b4⟩:=h
   obtain⟨m1,m2,m3,m4,m5⟩:=reg_days hsz b3 (n:=n) (by omega) (by omega)
   have hon:onP l n d:=⟨by omega,by omega,b3,(hc (by omega) (by omega) b3).1 b4⟩
   have he:onS l n d=outlS (ix l (n-1)) d:=by unfold onS;rw[if_pos hon]
   rw[m5]
   exact⟨by omega,⟨m3,m2,by omega⟩,hp _ true ⟨by rw[he],λ_=>hon,λ_=>rfl⟩⟩
 refine IFB.mk (λhg=>k2 _ λh1 h2 h3=> ?_) (λhg=>k2 _ λh1 h2 h3=> ?_)
 ·rw[hw h1 h2,Bool.and_eq_true,decide_eq_true_eq,decide_eq_true_eq]
  exact Iff.rfl
 ·rw[gx_f,h3] at hg
  simp at hg
  omega
variable {P:Program}
theorem OX.toFro {ob:Obs}{U:Nat->Prop}{tp:Bool}{w:World}{c:Cx}(h:OX ob U tp w c){id:Nat}{x:Ob}(hid:ob id=some x)(ho:x.own=true){t:Ty}{l:List (den t)}(hrd:∀S':Cells,(∀b o,c.S b o->S' b o)->(∀b,c.F id b->∀o,S' b o)->Rd S' w (.sl t l) (c.H id))(hsl:l=[]\/∃b n cap,c.H id= .slice (some ⟨b,0,none⟩) n cap):
 ∃c',OX (put ob id (some (.fro t l))) U tp w c'/\Tr ob U w c (put ob id (some (.fro t l))) U w c'/\c'.H=c.H:=by
 obtain⟨hU,_,_⟩:=h.objs id _ hid
 let S':Cells:=λb o=>c.S b o\/c.F id b
 have hS:∀b o,c.S b o->S' b o:=λ_ _ h=> .inl h
 obtain⟨k1,k2⟩:=h.upd (ob':=put ob id (some (.fro t l))) (w':=w) (c':=⟨S',c.H,c.F,c.T⟩) id (.fro t l) (λi=>i≠id) (λ_ h=>h) hU (put_same _ _ _) (λi y hi e=>⟨e,by rw[put_ne _ _ e] at hi;exact hi⟩) (λe=>e rfl) (λ_ _=>⟨rfl,rfl⟩) hS
  (λb o hb=>by
   rcases hb with hb|hb
   ·exact .inl hb
   ·exact .inr (.inl ⟨id,_,hid,ho,λe=>e rfl,hb⟩))
  (λb o hb=>by
   rcases hb with hb|hb
   ·exact h.sb b o hb
   ·exact (h.fb id _ hid ho b hb).1) rfl rfl rfl rfl (Nat.le_refl _) (λ_ _ _=>rfl) ⟨hrd S' hS λb hb o=> .inr hb,hsl⟩ trivial (λe=>by cases e) (λe=>by cases e)
 exact⟨_,k1,k2,rfl⟩
theorem DpAt.rd {w:World}{S S':Cells}{v:Value}{F:Nat->Prop}{e:TypeId}{t:Ty}{l:List (den t)}(h:DpAt w S v F e t l)(hS:∀b o,S b o->S' b o)(hF':∀b,F b->∀o,S' b o):Rd S' w (.sl t l) v/\(l=[]\/∃b n cap,v= .slice (some ⟨b,0,none⟩) n cap):=by
 obtain⟨h0,⟨hl,⟨ad,hv⟩,_⟩|⟨g,cap,cur,Fi,hv,hF,hg1,hg2,hg,h1,h2,h3,h4⟩⟩:=h
 ·subst hl
  rw[hv];exact⟨Rd.nil _ _ _ (Nat.zero_le _),.inl rfl⟩
 ·refine⟨?_,.inr ⟨_,_,_,hv⟩⟩
  rw[hv]
  refine rd_cells h1 h2 (λi x hx j d hd=> ?_) λo=>hF' g ((hF g).2 (.inl rfl)) o
  obtain⟨u,u1,u2,u3⟩:=h4 i x hx j d hd
  refine⟨u,by rw[cell_row hg];exact u1,u2,?_⟩
  unfold CellD at u3
  split at u3
  ·exact Rd.mono hS (λ_ _ _=>rfl) u3
  ·obtain⟨li,hd',hrow⟩:=u3
   rw[hd']
   exact hrow.rd hS λb hb o=>hF' b ((hF b).2 (.inr ⟨i,j,(List.getElem?_eq_some_iff.1 hx).1,hb⟩)) o
def wordD (ob:Obs):SV->Option D
 | .d d=>some d
 | .os id=>match ob id with
  |some (.fro t l)=>some (.sl t l)
  |_=>none
 |_=>none
def wordsD (ob:Obs):List SV->Option (List D)
 |[]=>some []
 |s::r=>match wordD ob s,wordsD ob r with
  |some d,some ds=>some (d::ds)
  |_,_=>none
theorem wordsD_spec {ob:Obs}:∀{cs:List SV}{ds:List D},wordsD ob cs=some ds->ds.length=cs.length/\∀(j:Nat)(s:SV)(d:D),cs[j]? =some s->ds[j]? =some d->wordD ob s=some d
 |[],ds,h=>by
  injection h with h
  subst h
  exact⟨rfl,λj s d hs=>by simp at hs⟩
 |s::r,ds,h=>by
  unfold wordsD at h
  split at h
  ·rename_i d ds' h1 h2
   injection h with h
   subst h
   obtain⟨k1,k2⟩:=wordsD_spec h2
   refine⟨by simp[k1],λj s' d' hs hd=> ?_⟩
   cases j with
   |zero=>simp at hs hd;subst hs hd;exact h1
   |succ j=>simp at hs hd;exact k2 j s' d' hs hd
  ·cases h
theorem wordD_rd {ob:Obs}{U:Nat->Prop}{tp:Bool}{w:World}{c:Cx}(h:OX ob U tp w c){s:SV}{d:D}(hd:wordD ob s=some d){u:Value}(hr:SRel c w s u):Rd c.S w d u:=by
 unfold wordD at hd
 split at hd
 ·injection hd with hd;subst hd;exact srel_d hr
 ·rename_i id
  split at hd
  ·rename_i t l hob
   injection hd with hd
   subst hd
   rw[srel_os hr]
   exact (h.objs id _ hob).2.2.1
  ·cases hd
 ·cases hd
theorem FocAt.rd {ob:Obs}{U:Nat->Prop}{tp:Bool}{w:World}{c:Cx}(h:OX ob U tp w c){id:Nat}{e:TypeId}{t:Ty}{l:List (den t)}{k:Int}{cs:List SV}(hf:FocAt w c id e t l k cs){ds:List D}(hw:wordsD ob cs=some ds){x:den t}(hx:dec t ds=some x){S':Cells}(hS:∀b o,c.S b o->S' b o)(hF':∀b,c.F id b->∀o,S' b o):
 Rd S' w (.sl t (l.set k.toNat x)) (c.H id)/\∃b n cap,c.H id= .slice (some ⟨b,0,none⟩) n cap:=by
 obtain⟨h0,h1,h2,h3,g,cap,cur,q1,q2,q3,q4,q5,q6,q7,q8⟩:=hf
 have hkl:k.toNat<l.length:=by omega
 refine⟨?_,_,_,_,q1⟩
 rw[q1]
 have hlen:(l.set k.toNat x).length=l.length:=List.length_set ..
 rw[<-hlen]
 refine rd_cells (by rw[hlen];exact q4) q5 (λi y hy j d hd=> ?_) λo=>hF' g ((q2 g).2 rfl) o
 rw[List.getElem?_set] at hy
 by_cases e:k.toNat=i
 ·subst e
  rw[if_pos rfl,if_pos hkl] at hy
  injection hy with hy
  subst hy
  obtain⟨w1,w2⟩:=wordsD_spec hw
  obtain⟨d1,d2⟩:=dec_rd hx
  have hjl:=enc_lt hd
  have hjc:j<cs.length:=by rw[h3];exact hjl
  have hjd:j<ds.length:=by rw[w1];exact hjc
  obtain⟨u,u1,u2,u3⟩:=q8 j cs[j] (List.getElem?_eq_getElem hjc)
  refine⟨u,by rw[cell_row q3];exact u1,u2,?_⟩
  have:=wordD_rd h (w2 j cs[j] ds[j] (List.getElem?_eq_getElem hjc) (List.getElem?_eq_getElem hjd)) u3
  exact (d2 j d ds[j] hd (List.getElem?_eq_getElem hjd) this).mono hS λ_ _ _=>rfl
 ·rw[if_neg e] at hy
  obtain⟨u,u1,u2,u3⟩:=q7 i y hy (λe'=>e e'.symm) j d hd
  exact⟨u,by rw[cell_row q3];exact u1,u2,u3.mono hS λ_ _ _=>rfl⟩
def stl1 (m:MS)(i:Nat):MS:=match m.obs i with
 |some (.dp _ t l)=>⟨(i,some (.fro t l))::m.ob,m.nx,m.tp⟩
 |some (.foc _ t l k cs)=>match wordsD m.obs cs with
  |some ds=>match dec t ds with
   |some x=>⟨(i,some (.fro t (l.set k.toNat x)))::m.ob,m.nx,m.tp⟩
   |none=>m
  |none=>m
 |some (.als k)=>match m.obs k with
  |some (.fro t l)=>⟨(i,some (.fro t l))::m.ob,m.nx,m.tp⟩
  |_=>m
 |_=>m
def StlOK (m m':MS):Prop:=FrM m m'/\∀w c,OXM m w c->∃c',OXM m' w c'/\TrM m w c m' w c'/\c'.H=c.H
theorem StlOK.refl (m:MS):StlOK m m:=⟨.refl m,λw c h=>⟨c,h,.refl,rfl⟩⟩
theorem StlOK.trans {a b d:MS}(h:StlOK a b)(k:StlOK b d):StlOK a d:=⟨h.1.trans k.1,λw c ho=>by
 obtain⟨c1,o1,t1,e1⟩:=h.2 w c ho
 obtain⟨c2,o2,t2,e2⟩:=k.2 w c1 o1
 exact⟨c2,o2,t1.trans t2,e2.trans e1⟩⟩
theorem stl_put {m:MS}{i:Nat}{x:Ob}(h:∀w c,OXM m w c->∃c',OX (put m.obs i (some x)) m.U m.tp w c'/\Tr m.obs m.U w c (put m.obs i (some x)) m.U w c'/\c'.H=c.H):StlOK m ⟨(i,some x)::m.ob,m.nx,m.tp⟩:=by
 have ho:(MS.obs ⟨(i,some x)::m.ob,m.nx,m.tp⟩)=put m.obs i (some x):=lookO_cons _ _ _
 refine⟨⟨⟨[(i,some x)],rfl⟩,id⟩,λw c hc=> ?_⟩
 obtain⟨c',h1,h2,h3⟩:=h w c hc
 refine⟨c',?_,?_,h3⟩
 ·show OX _ _ _ _ _
  rw[ho];exact h1
 ·show Tr _ _ _ _ _ _ _ _
  rw[ho];exact h2
theorem stl1_ok (m:MS)(i:Nat):StlOK m (stl1 m i):=by
 unfold stl1
 split
 ·rename_i e t l hob
  refine stl_put λw c hc=> ?_
  have hat:DpAt w c.S (c.H i) (c.F i) e t l:=(hc.objs i _ hob).2.2
  exact hc.toFro hob rfl (λS' hS hF=>(hat.rd hS hF).1) (hat.rd (S':=λb o=>c.S b o\/c.F i b) (λ_ _ h=> .inl h) λb hb o=> .inr hb).2
 ·rename_i e t l k cs hob
  split
  ·rename_i ds hw
   split
   ·rename_i x hx
    refine stl_put λw c hc=> ?_
    have hat:FocAt w c i e t l k cs:=(hc.objs i _ hob).2.2
    exact hc.toFro hob rfl (λS' hS hF=>(hat.rd hc hw hx hS hF).1) (.inr (hat.rd hc hw hx (S':=λb o=>c.S b o\/c.F i b) (λ_ _ h=> .inl h) λb hb o=> .inr hb).2)
   ·exact .refl m
  ·exact .refl m
 ·rename_i k hob
  split
  ·rename_i t l hobk
   refine stl_put λw c hc=> ?_
   obtain⟨u1,u2,u3⟩:=hc.objs i _ hob
   have u3:c.H i=c.H k:=u3
   obtain⟨v1,v2,v3⟩:=hc.objs k _ hobk
   obtain⟨k1,k2⟩:=hc.upd (ob':=put m.obs i (some (.fro t l))) (w':=w) (c':=c) i (.fro t l) (λj=>j≠i) (λ_ h=>h) u1 (put_same _ _ _) (λj y hj e=>⟨e,by rw[put_ne _ _ e] at hj;exact hj⟩) (λe=>e rfl) (λ_ _=>⟨rfl,rfl⟩) (λ_ _ h=>h) (λ_ _ h=> .inl h) (λb o hb=>hc.sb b o hb) rfl rfl rfl rfl (Nat.le_refl _) (λ_ _ _=>rfl) (by
    have v3:Rd c.S w (.sl t l) (c.H k)/\(l=[]\/∃b n cap,c.H k= .slice (some ⟨b,0,none⟩) n cap):=v3
    rw[<-u3] at v3
    exact v3) trivial (λe=>by cases e) (λe=>by cases e)
   exact⟨c,k1,k2,rfl⟩
  ·exact .refl m
 ·exact .refl m
def stlL:List Nat->MS->MS
 |[],m=>m
 |i::r,m=>stlL r (stl1 m i)
theorem stlL_ok:∀(l:List Nat)(m:MS),StlOK m (stlL l m)
 |[],m=> .refl m
 |i::r,m=>(stl1_ok m i).trans (stlL_ok r _)
def rowIds:List SV->List Nat
 |[]=>[]
 | .os id::r=>id::rowIds r
 |_::r=>rowIds r
def focIds (m:MS):List Nat->List Nat
 |[]=>[]
 |i::r=>match m.obs i with
  |some (.foc _ _ _ _ cs)=>rowIds cs++focIds m r
  |_=>focIds m r
def fzM (m:MS)(ids:List Nat):MS:=⟨fzU m.obs ids++m.ob,m.nx,m.tp⟩
theorem fzM_ok (m:MS)(ids:List Nat):StlOK m (fzM m ids):=by
 have ho:(fzM m ids).obs=ovr m.obs (fzU m.obs ids):=lookO_app _ _
 refine⟨⟨⟨_,rfl⟩,id⟩,λw c hc=> ?_⟩
 obtain⟨c',h1,h2,h3,_⟩:=hc.freezes ids
 refine⟨c',?_,?_,h3⟩
 ·show OX _ _ _ _ _
  rw[ho];exact h1
 ·show Tr _ _ _ _ _ _ _ _
  rw[ho];exact h2
def upN:Nat->List Nat
 |0=>[]
 |n+1=>upN n++[n]
def settle (m:MS):MS:=stlL (upN m.nx) (stlL (upN m.nx) (fzM m (focIds m (upN m.nx))))
theorem settle_ok (m:MS):StlOK m (settle m):=((fzM_ok m _).trans (stlL_ok _ _)).trans (stlL_ok _ _)
def stlCP (cp:CP):CP:=λf ss m k=>cp f ss m λr m'=>k r (settle m')
theorem stlCP_ok {cp:CP}(h:CallOK P cp):CallOK P (stlCP cp):=by
 intro f ss m k hk us w c hox hl hr
 refine (h f ss m _ hk us w c hox hl hr).mono ?_
 rintro e w' ⟨v,s,m',c',rfl,h1,h2,h3,h4,h5,h6⟩
 obtain⟨q1,q2⟩:=settle_ok m'
 obtain⟨c2,o2,t2,e2⟩:=q2 w' c' h3
 exact⟨v,s,settle m',c2,rfl,h1,h2.trans q1,o2,h4.trans t2,t2.srel h3 h5 h6,SV.inU_mono t2.uU _ h6⟩
theorem SpecOK.of_rulesS {C:CtxR}{dr:DR}(hR:RulesOK P C.rs)(hdr:DrOK P dr){n fk:Nat}{s:Spec}(h:∀x post,s.pt x post->HoldW (walkG (stlCP (callR P C dr n fk)) s.f s.tp (tvs s.ts x) s.rs post)):SpecOK P s:=
 SpecOK.of_walkG (stlCP_ok (callR_ok hR hdr n fk)) λx post hp=>(h x post hp).h
structure SpecL where
 f:FuncId
 t:Ty
 ts:List Ty
 pt:List (den t)->dens ts->(Bool->Prop)->Prop
def SpecLOK (P:Program)(s:SpecL):Prop:=∀l x post,s.pt l x post->∀(w:World)(S:Cells)(v:Value)(b:Nat)(T:TypeId)(us:List Value),w.heap[b]? =some (.cells #[v] T (0,0))->Rd S w (.sl s.t l) v->(l=[]\/∃b n cap,v= .slice (some ⟨b,0,none⟩) n cap)->(∀b o,S b o->b<w.heap.size)->(∀o,¬S b o)->us.length=s.ts.length->
 (∀(i:Nat)(d:D)(u:Value),(tvs s.ts x)[i]? =some d->us[i]? =some u->Rd S w d u)->
 Calls P s.f (.pointer (some ⟨b,0,none⟩)::us).toArray w λe w'=>∃q,e= .returned (.bool q)/\post q/\w'.os=w.os/\w'.tape=w.tape/\w'.output=w.output/\w.heap.size<=w'.heap.size/\(∀k,k<w.heap.size->k≠b->w'.heap[k]? =w.heap[k]?)/\∃T',w'.heap[b]? =some (.cells #[v] T' (0,0))
def looksM (t:Ty)(l:List (den t)):MS:=⟨[(0,some (.box [.os 1])),(1,some (.fro t l))],2,false⟩
def sameL (m:MS):Bool:=match m.obs 0 with
 |some (.box [.os i])=>Nat.beq i 1
 |_=>false
def fitB (post:Bool->Prop)(r:SV)(m:MS):Prop:=match r with
 | .d (.v (.bool q))=>bif sameL m then post q else False
 |_=>False
def walkL (cp:CP)(f:FuncId)(t:Ty)(l:List (den t))(ds:List D)(post:Bool->Prop):Prop:=cp f (.bx 0 0::ds.map SV.d) (looksM t l) (fitB post)
theorem SpecLOK.of_cp {cp:CP}(hcp:CallOK P cp){s:SpecL}(h:∀l x post,s.pt l x post->walkL cp s.f s.t l (tvs s.ts x) post):SpecLOK P s:=by
 intro l x post hp w S v b T us hb hrd hsl hS hSb hus hr
 have hbl:b<w.heap.size:=(Array.getElem?_eq_some_iff.1 hb).1
 let c0:Cx:=⟨S,λi=>if i=0 then .pointer (some ⟨b,0,none⟩) else v,λi=>if i=0 then (·=b) else λ_=>False,none⟩
 have hobs:∀id x,(looksM s.t l).obs id=some x->(id=0/\x= .box [.os 1])\/(id=1/\x= .fro s.t l):=λid x hx=>by
  have hx:lookO [(0,some (.box [.os 1])),(1,some (.fro s.t l))] id=some x:=hx
  rw[lookO_cons,lookO_cons] at hx
  by_cases e:id=0
  ·subst e;rw[put_same] at hx;injection hx with hx;exact .inl ⟨rfl,hx.symm⟩
  ·rw[put_ne _ _ e] at hx
   by_cases e1:id=1
   ·subst e1;rw[put_same] at hx;injection hx with hx;exact .inr ⟨rfl,hx.symm⟩
   ·rw[put_ne _ _ e1] at hx;cases hx
 have hv1:v.oneCell'=true:=by
  obtain⟨ad,cap,_,_,_,e,_⟩:=hrd.slInv
  rw[e];rfl
 have hox:OXM (looksM s.t l) w c0:=by
  refine⟨hS,λid x hx=> ?_,λid x hx ho k hk=> ?_,λi j x y hx ho hy ho' hne k hk=> ?_,λT hT=>(by cases hT),λe=>(by cases e),λ_=>rfl⟩
  ·rcases hobs id x hx with⟨rfl,rfl⟩|⟨rfl,rfl⟩
   ·refine⟨by show 0<2;omega,⟨by show 1<2;omega,trivial⟩,b,[v],T,rfl,λ_=>Iff.rfl,hb,rfl,λu hu=>by rw[List.mem_singleton] at hu;rw[hu];exact hv1,λj s u hs hu=> ?_⟩
    match j,hs,hu with
    |0,hs,hu=>
     cases hs;cases hu
     exact SRel.os (c:=c0) (w:=w) 1
    |j+1,hs,hu=>cases hs
   ·exact⟨by show 1<2;omega,trivial,hrd,hsl⟩
  ·rcases hobs id x hx with⟨rfl,rfl⟩|⟨rfl,rfl⟩
   ·have hk:k=b:=hk
    subst hk
    exact⟨hbl,hSb,λe=>by cases e⟩
   ·cases ho
  ·rcases hobs i x hx with⟨rfl,rfl⟩|⟨rfl,rfl⟩
   ·rcases hobs j y hy with⟨rfl,rfl⟩|⟨rfl,rfl⟩
    ·exact absurd rfl hne
    ·cases ho'
   ·cases ho
 have hargs:∀(i:Nat)(q:SV)(u:Value),(SV.bx 0 0::(tvs s.ts x).map SV.d)[i]? =some q->(Value.pointer (some ⟨b,0,none⟩)::us)[i]? =some u->SRel c0 w q u/\q.inU (looksM s.t l).U:=λi q u hq hu=>by
  cases i with
  |zero=>
   simp at hq hu
   subst hq hu
   exact⟨.bx 0 0 b rfl,by show 0<2;omega⟩
  |succ i=>
   simp only[List.getElem?_cons_succ] at hq hu
   rw[List.getElem?_map,Option.map_eq_some_iff] at hq
   obtain⟨d,hd,rfl⟩:=hq
   exact⟨.d _ _ (hr i d u hd hu),trivial⟩
 refine (hcp _ _ _ _ (h l x post hp) _ w c0 hox (by simp[hus,tvs_len]) hargs).mono ?_
 rintro e w' ⟨rv,q,m',c',rfl,hfit,hfr,hox',htr,hsr,hu⟩
 unfold fitB at hfit
 split at hfit
 rotate_left
 ·exact hfit.elim
 rename_i q
 cases hsm:sameL m' with
 |false=>rw[hsm] at hfit;exact hfit.elim
 |true=>
 rw[hsm] at hfit
 have hrv:=srel_v hsr
 subst hrv
 have hFP:∀k,FP (looksM s.t l).obs c0 k->k=b:=λk ⟨id,x,hx,ho,hk⟩=>by
  rcases hobs id x hx with⟨rfl,rfl⟩|⟨rfl,rfl⟩
  ·exact hk
  ·cases ho
 refine⟨q,rfl,hfit,htr.os,htr.tape,htr.output,htr.sz,λk hk hne=>htr.blk k hk (λhf=>hne (hFP k hf)) (λe=>by cases e),?_⟩
 unfold sameL at hsm
 split at hsm
 ·rename_i i hob
  have hi:=beq_eq hsm
  subst hi
  obtain⟨b',arr,T',e1,e2,e3,e4,e5,e6⟩:=(hox'.objs 0 _ hob).2.2
  have hH0:c'.H 0= .pointer (some ⟨b,0,none⟩):=(htr.hH 0 (by show 0<2;omega)).1
  have hH1:c'.H 1=v:=(htr.hH 1 (by show 1<2;omega)).1
  rw[hH0] at e1
  injection e1 with e1
  injection e1 with e1
  injection e1 with e1
  subst e1
  match arr,e4,e3,e6 with
  |[u],_,e3,e6=>
   have hu:=srel_os (e6 0 (.os 1) u rfl rfl)
   rw[hH1] at hu
   subst hu
   exact⟨T',e3⟩
 ·cases hsm
theorem SpecLOK.of_rules {C:CtxR}{dr:DR}(hR:RulesOK P C.rs)(hdr:DrOK P dr){n fk:Nat}{s:SpecL}(h:∀l x post,s.pt l x post->HoldW (walkL (callR P C dr n fk) s.f s.t l (tvs s.ts x) post)):SpecLOK P s:=
 SpecLOK.of_cp (callR_ok hR hdr n fk) λl x post hp=>(h l x post hp).h
def rowLk (m:MS)(t:Ty)(id:Nat):Option (List (den t)):=match m.obs id with
 |some (.dp _ t' l)=>castL t t' l
 |some (.row _ t' l)=>castL t t' l
 |some (.fro t' l)=>castL t t' l
 |_=>none
def datsL:List SV->Option (List D)
 |[]=>some []
 |s::r=>match datIs s,datsL r with
  |some d,some ds=>some (d::ds)
  |_,_=>none
theorem datsL_eq:∀{ss:List SV}{ds:List D},datsL ss=some ds->ss=ds.map SV.d
 |[],ds,h=>by injection h with h;subst h;rfl
 |s::r,ds,h=>by
  unfold datsL at h
  split at h
  ·rename_i d ds' h1 h2
   injection h with h
   subst h
   unfold datIs at h1
   split at h1
   ·injection h1 with h1
    subst h1
    rw[datsL_eq h2];rfl
   ·cases h1
  ·cases h
def lookCp (s:SpecL)(ss:List SV)(m:MS)(k:SV->MS->Prop):Prop:=match ss with
 | .bx id 0::r=>match m.obs id with
  |some (.box [.os i])=>match rowLk m s.t i,datsL r with
   |some l,some ds=>match undoL s.ts ds with
    |some x=>s.pt l x λq=>k (.d (.v (.bool q))) m
    |none=>False
   |_,_=>False
  |_=>False
 |_=>False
def ruleL (s:SpecL):Rule:=⟨s.f,lookCp s⟩
theorem ruleL_ok {s:SpecL}(hs:SpecLOK P s):RuleOK P (ruleL s):=by
 intro ss m k hk us w c hox hl hr
 replace hk:lookCp s ss m k:=hk
 unfold lookCp at hk
 split at hk
 rotate_left
 ·exact hk.elim
 rename_i id r
 split at hk
 rotate_left
 ·exact hk.elim
 rename_i i hbox
 split at hk
 rotate_left
 ·exact hk.elim
 rename_i l ds hrow hds
 split at hk
 rotate_left
 ·exact hk.elim
 rename_i x hx
 have hds:=datsL_eq hds
 subst hds
 match us,hl with
 |u::us',hl=>
 obtain⟨b,hbH,hbu⟩:=srel_bx (hr 0 (.bx id 0) u rfl rfl).1
 subst hbu
 obtain⟨hUid,hUbox,b',arr,T,e1,e2,e3,e4,e5,e6⟩:=hox.objs id _ hbox
 rw[hbH] at e1
 injection e1 with e1
 injection e1 with e1
 injection e1 with e1
 subst e1
 match arr,e4,e3,e6 with
 |[v],_,e3,e6=>
 have hv:=srel_os (e6 0 (.os i) v rfl rfl)
 subst hv
 have hfb:=hox.fb id _ hbox rfl b ((e2 b).2 rfl)
 obtain⟨S',hS,hSb,hSn,hrd,hsl⟩:∃S':Cells,(∀b o,c.S b o->S' b o)/\(∀b o,S' b o->b<w.heap.size)/\(∀o,¬S' b o)/\Rd S' w (.sl s.t l) (c.H i)/\(l=[]\/∃b n cap,c.H i= .slice (some ⟨b,0,none⟩) n cap):=by
  have own:∀y,m.obs i=some y->y.own=true->(∀S':Cells,(∀b o,c.S b o->S' b o)->(∀b,c.F i b->∀o,S' b o)->Rd S' w (.sl s.t l) (c.H i)/\(l=[]\/∃b n cap,c.H i= .slice (some ⟨b,0,none⟩) n cap))->∃S':Cells,(∀b o,c.S b o->S' b o)/\(∀b o,S' b o->b<w.heap.size)/\(∀o,¬S' b o)/\Rd S' w (.sl s.t l) (c.H i)/\(l=[]\/∃b n cap,c.H i= .slice (some ⟨b,0,none⟩) n cap):=λy hy ho hq=>by
   have hne:i≠id:=λe=>by subst e;rw[hbox] at hy;injection hy with hy;subst hy;simp[rowLk,hbox] at hrow
   obtain⟨g1,g2⟩:=hq (λb o=>c.S b o\/c.F i b) (λ_ _ h=> .inl h) λb hb o=> .inr hb
   refine⟨λb o=>c.S b o\/c.F i b,λ_ _ h=> .inl h,λb o hb=> ?_,λo hb=> ?_,g1,g2⟩
   ·rcases hb with hb|hb
    ·exact hox.sb b o hb
    ·exact (hox.fb i y hy ho b hb).1
   ·rcases hb with hb|hb
    ·exact hfb.2.1 o hb
    ·exact hox.dj id i _ y hbox rfl hy ho (λe=>hne e.symm) b ((e2 b).2 rfl) hb
  unfold rowLk at hrow
  split at hrow
  ·rename_i e t' l' hob
   obtain⟨a1,a2⟩:=castL_eq hrow
   subst a1
   have a2:=eq_of_heq a2
   subst a2
   have hat:DpAt w c.S (c.H i) (c.F i) e s.t l':=(hox.objs i _ hob).2.2
   exact own _ hob rfl λS' h1 h2=>hat.rd h1 h2
  ·rename_i e t' l' hob
   obtain⟨a1,a2⟩:=castL_eq hrow
   subst a1
   have a2:=eq_of_heq a2
   subst a2
   have hat:RowAt w c.S (c.H i) (c.F i) e s.t l':=(hox.objs i _ hob).2.2
   refine own _ hob rfl λS' h1 h2=>⟨hat.rd h1 h2,?_⟩
   obtain⟨_,⟨q,_⟩|⟨g,cap,_,q,_⟩⟩:=hat
   ·exact .inl q
   ·exact .inr ⟨g,_,_,q⟩
  ·rename_i t' l' hob
   obtain⟨a1,a2⟩:=castL_eq hrow
   subst a1
   have a2:=eq_of_heq a2
   subst a2
   have hat:Rd c.S w (.sl s.t l') (c.H i)/\(l'=[]\/∃b n cap,c.H i= .slice (some ⟨b,0,none⟩) n cap):=(hox.objs i _ hob).2.2
   exact⟨c.S,λ_ _ h=>h,hox.sb,hfb.2.1,hat.1,hat.2⟩
  ·cases hrow
 have hb3:w.heap[b]? =some (.cells #[c.H i] T (0,0)):=e3
 have hlen:us'.length=s.ts.length:=by
  have:=(undoL_rd hx).1
  simp at hl
  omega
 refine (hs l x _ hk w S' (c.H i) b T us' hb3 hrd hsl hSb hSn hlen (λj d u hd hu=> ?_)).mono ?_
 ·have hjl:j<ds.length:=by
   have h1:=(List.getElem?_eq_some_iff.1 hu).1
   simp at hl
   omega
  have h1:=(hr (j+1) (.d ds[j]) u (by rw[List.getElem?_cons_succ,List.getElem?_map,List.getElem?_eq_getElem hjl];rfl) (by simpa using hu)).1
  exact (undoL_rd hx).2 j d ds[j] hd (List.getElem?_eq_getElem hjl) ((srel_d h1).mono hS λ_ _ _=>rfl)
 rintro ex w' ⟨q,rfl,hq,g1,g2,g3,g4,g5,T',g6⟩
 have hcell:∀b' o,c.S b' o->w'.cell? ⟨b',o,none⟩=w.cell? ⟨b',o,none⟩:=λb' o hs=>World.cell?_of_block (g5 b' (hox.sb b' o hs) λe=>by subst e;exact hfb.2.1 o hs)
 refine⟨_,.d (.v (.bool q)),m,c,rfl,hq,.refl m,⟨λb' o hb'=>Nat.lt_of_lt_of_le (hox.sb b' o hb') g4,λj y hy=> ?_,λj y hy ho b' hb'=> ?_,hox.dj,λT0 hT=> ?_,λe=> ?_,hox.tF⟩,⟨g1,g2,g3,g4,λ_ h=>h,λ_ h=> .inl h,λ_ h=>h,λ_ _=>⟨rfl,rfl⟩,λ_ _ h=>h,λ_ _ h=> .inl h,λb' hb' hf hT=> ?_,λb' hb'=> .inl hb'⟩,.d _ _ (.v _),trivial⟩
 ·obtain⟨u1,u2,u3⟩:=hox.objs j y hy
  refine⟨u1,u2,?_⟩
  by_cases e:j=id
  ·subst e
   rw[hbox] at hy
   injection hy with hy
   subst hy
   refine⟨b,[c.H i],T',hbH,e2,g6,rfl,e5,λj' s' u' hs' hu'=> ?_⟩
   match j',hs',hu' with
   |0,hs',hu'=>cases hs';cases hu';exact .os i
   |j'+1,hs',hu'=>cases hs'
  ·exact u3.keep (U:=m.U) u2 (λ_ _ h=>h) hcell (λ_ h=>h) (λ_ _=>rfl) ⟨rfl,rfl⟩ λho b' hb'=>g5 b' (hox.fb j y hy ho b' hb').1 λe'=>by
    subst e'
    exact hox.dj j id y _ hy ho hbox rfl e b' hb' ((e2 b').2 rfl)
 ·obtain⟨u1,u2,u3⟩:=hox.fb j y hy ho b' hb'
  exact⟨Nat.lt_of_lt_of_le u1 g4,u2,u3⟩
 ·obtain⟨t1,t2⟩:=hox.nT T0 hT
  exact⟨Nat.lt_of_lt_of_le t1 g4,t2⟩
 ·obtain⟨T0,hT,ht⟩:=hox.tpe e
  exact⟨T0,hT,ht.mono (λ_ _ h=>h) hcell (g5 T0 ht.lt λe'=>by subst e';exact hfb.2.2 hT)⟩
 ·exact g5 b' hb' λe=>by subst e;exact hf ⟨id,_,hbox,rfl,(e2 b').2 rfl⟩
end RE
end Go.Proofs.YtpeggkeenboacaaGreat
