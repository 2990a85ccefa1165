/-
  Texts of the proof of CrosscheckAnswers, part GF.
-/
import Derived.Test.YtpeggkeenboacaaGreatNGE
import Derived.Test.YtpeggkeenboacaaGreatNGD
import Derived.Deep.LoopGhost
import Derived.Deep.Draws
import Derived.Lib.Walk
import Derived.Lib.SliceRun
import Derived.Lib.SlicesS
import Derived.Lib.SlicesCompact
import Derived.Shelf.GgSortFunc.RowK
import Derived.Shelf.RegionOpenPlain
import Derived.Test.YtpeggkeenboacaaGreatNGW
import Derived.Test.YtpeggkeenboacaaGreatNGC
set_option linter.unusedVariables false
set_option maxRecDepth 100000
noncomputable section
namespace Go.Proofs.YtpeggkeenboacaaGreat
namespace RE
open Go.RowKit
open PL
def rbef_P (a:List (api_Place))(b:List (api_Place))(post:Bool->Prop):Prop:=(a.length<=1000000000/\b.length<=1000000000)/\post (befP a b)
def rbef_sp:Spec:=⟨118,false,false,[.sl (.st .api_Place),.sl (.st .api_Place)],.dat (.bool),λx post=>rbef_P (x.1:List (api_Place)) (x.2.1:List (api_Place)) (λy0=>post (y0,()))⟩
def rbef_C:CtxR:=⟨tau,[],lookJ [(0,5,⟨[(5,.dat (.int .i64))],[],(List.range' 6 23++List.range' 40 11),[],[]⟩)]⟩
def rbef_W (a:List (api_Place))(b:List (api_Place))(post:Bool->Prop):Prop:=LOOP [Ty.int IntKind.i64] (λ(rec1:Int->Prop) (z2:Int)=>(↑a.length:Int)<=9223372036854775807->(gx true (decide (z2<(↑a.length:Int)))=true->(↑b.length:Int)<=9223372036854775807)->IFB (decide (z2<(↑a.length:Int))&&decide (z2<(↑b.length:Int))) (((0:Int)<=z2/\z2<(↑a.length:Int))/\((0:Int)<=z2/\z2<(↑b.length:Int))/\IFB (!decide ((ix a z2).1=(ix b z2).1)) (((0:Int)<=z2/\z2<(↑a.length:Int))/\((0:Int)<=z2/\z2<(↑b.length:Int))/\post (decide ((ix a z2).1<(ix b z2).1))) (((0:Int)<=z2/\z2<(↑a.length:Int))/\((0:Int)<=z2/\z2<(↑b.length:Int))/\IFB (!decide ((ix a z2).2=(ix b z2).2)) (((0:Int)<=z2/\z2<(↑a.length:Int))/\((0:Int)<=z2/\z2<(↑b.length:Int))/\post (decide ((ix a z2).2<(ix b z2).2))) (rec1 (IntKind.i64.wrap (z2+1))))) ((↑a.length:Int)<=9223372036854775807->(↑b.length:Int)<=9223372036854775807->post (decide ((↑a.length:Int)<(↑b.length:Int))))) ((0:Int),PUnit.unit)
theorem rbef_w (a:List (api_Place))(b:List (api_Place))(post:dens (shT rbef_sp.rs [])->Prop):rbef_W a b (λy0=>post (y0,()))=walkG (callR Tryz.prog rbef_C (drawR Tryz.prog tau) 6 0) 118 false [tv (.sl (.st .api_Place)) a,tv (.sl (.st .api_Place)) b] rbef_sp.rs post:=by kernel_rfl
theorem rbef_of (h:∀a b post,rbef_P a b post->rbef_W a b post):SpecOK Tryz.prog rbef_sp:=SpecOK.of_rules (C:=rbef_C) (dr:=drawR Tryz.prog tau) (n:=6) (fk:=0) .nil (drawR_ok tau) λx post hp=>HoldW.of (rbef_w x.1 x.2.1 post) (h x.1 x.2.1 (λy0=>post (y0,())) hp)
theorem bef_drop {a b:List api_Place}{k:Nat}(h1:k<a.length)(h2:k<b.length):befP (a.drop k) (b.drop k)=if (ix a (k:Int)).1<(ix b (k:Int)).1 then true else if (ix b (k:Int)).1<(ix a (k:Int)).1 then false else if (ix a (k:Int)).2<(ix b (k:Int)).2 then true else if (ix b (k:Int)).2<(ix a (k:Int)).2 then false else befP (a.drop (k+1)) (b.drop (k+1)):=by
 rw[List.drop_eq_getElem_cons h1,List.drop_eq_getElem_cons h2,ix_lt h1,ix_lt h2,befP]
def rbeI (a b:List api_Place)(z:Int):Prop:=∃k:Nat,z=(k:Int)/\k<=a.length/\k<=b.length/\befP (a.drop k) (b.drop k)=befP a b
theorem rbef_ok:SpecOK Tryz.prog rbef_sp:=rbef_of λa b post hp=>by
 obtain⟨⟨h1,h2⟩,hp⟩:=hp
 unfold rbef_W
 refine LOOP.fuel (λu=>rbeI a b u.1) (λu=>a.length-Int.toNat u.1) ⟨0,rfl,Nat.zero_le _,Nat.zero_le _,rfl⟩ ?_
 rintro rec ⟨(z:Int),⟨⟩⟩ ⟨k,i1,i2,i3,i4⟩ hrec
 have i1:z=(k:Int):=i1
 subst i1
 refine λ_ _=>IFB.mk (λhb=> ?_) (λhb _ _=> ?_)
 ·rw[Bool.and_eq_true,decide_eq_true_iff,decide_eq_true_iff] at hb
  obtain⟨b1,b2⟩:=hb
  have ka:k<a.length:=by omega
  have kb:k<b.length:=by omega
  rw[bef_drop ka kb] at i4
  have A:(0:Int)<=(k:Int)/\(k:Int)<(a.length:Int):=⟨by omega,b1⟩
  have B:(0:Int)<=(k:Int)/\(k:Int)<(b.length:Int):=⟨by omega,b2⟩
  refine⟨A,B,IFB.mk (λhc=>⟨A,B,?_⟩) (λhc=>⟨A,B,IFB.mk (λhd=>⟨A,B,?_⟩) (λhd=> ?_)⟩)⟩
  ·have hc:(ix a (k:Int)).1≠(ix b (k:Int)).1:=by simpa using hc
   rw[<-i4] at hp
   by_cases h:(ix a (k:Int)).1<(ix b (k:Int)).1
   ·rw[if_pos h] at hp
    rw[decide_eq_true h];exact hp
   ·rw[if_neg h,if_pos (by omega)] at hp
    rw[decide_eq_false h];exact hp
  ·have hc:(ix a (k:Int)).1=(ix b (k:Int)).1:=by simpa using hc
   have hd:(ix a (k:Int)).2≠(ix b (k:Int)).2:=by simpa using hd
   rw[<-i4,if_neg (by omega),if_neg (by omega)] at hp
   by_cases h:(ix a (k:Int)).2<(ix b (k:Int)).2
   ·rw[if_pos h] at hp
    rw[decide_eq_true h];exact hp
   ·rw[if_neg h,if_pos (by omega)] at hp
    rw[decide_eq_false h];exact hp
  ·have hc:(ix a (k:Int)).1=(ix b (k:Int)).1:=by simpa using hc
   have hd:(ix a (k:Int)).2=(ix b (k:Int)).2:=by simpa using hd
   rw[if_neg (by omega),if_neg (by omega),if_neg (by omega),if_neg (by omega)] at i4
   show rec (IntKind.i64.wrap ((k:Int)+1))
   rw[wrapS (by omega)]
   exact hrec (((k+1:Nat):Int),()) ⟨k+1,rfl,ka,kb,i4⟩ (by show a.length-((k+1:Nat):Int).toNat<a.length-(k:Int).toNat;omega)
 ·rw[Bool.and_eq_false_iff,decide_eq_false_iff_not,decide_eq_false_iff_not] at hb
  rw[<-i4] at hp
  by_cases ha:k<a.length
  ·have hkb:k=b.length:=by omega
   have e1:decide ((a.length:Int)<(b.length:Int))=false:=decide_eq_false (by omega)
   have e2:befP (a.drop k) (b.drop k)=false:=by
    rw[List.drop_eq_getElem_cons ha,drop_nil (l:=b) (by omega)];rfl
   rw[e2] at hp
   rw[e1];exact hp
  ·have hka:k=a.length:=by omega
   have d1:a.drop k=[]:=drop_nil (l:=a) (by omega)
   by_cases hb2:k<b.length
   ·have e1:decide ((a.length:Int)<(b.length:Int))=true:=decide_eq_true (by omega)
    have e2:befP (a.drop k) (b.drop k)=true:=by
     rw[d1,List.drop_eq_getElem_cons hb2];rfl
    rw[e2] at hp
    rw[e1];exact hp
   ·have e1:decide ((a.length:Int)<(b.length:Int))=false:=decide_eq_false (by omega)
    have e2:befP (a.drop k) (b.drop k)=false:=by
     rw[d1,drop_nil (l:=b) (by omega)];rfl
    rw[e2] at hp
    rw[e1];exact hp
def rdbl_P (l:List (api_Version))(post:List (api_Double)->Int->Prop):Prop:=okD l/\∀(ds:List Dbl)(e:Int),dblR l ds e->post ds e
def rdbl_sp:Spec:=⟨52,false,true,[.sl (.st .api_Version)],.tup [.dat (.sl (.st .api_Double)),.dat (.int .i64)],λx post=>rdbl_P (x.1:List (api_Version)) (λy0 y1=>post (y0,y1,()))⟩
def rdbl_C:CtxR:=⟨tau,[rule1 rbegin_sp,rule1 rfaces_sp,rule1 rbef_sp],lookJ [(0,35,⟨[(66,.dat (.int .i64))],[],(List.range' 67 9++[10]),[],[]⟩),(0,13,⟨[(19,.dat (.int .i64)),(5,.own 87 (.st .api_Double))],[],(List.range' 20 41++[7,8]),[],[]⟩),(0,26,⟨[(5,.own 87 (.st .api_Double))],[],(List.range' 21 39++[7,8]),[0],[]⟩),(0,1000012,⟨[(5,.own 87 (.st .api_Double))],[],(List.range' 43 17),[],[]⟩),(0,21,⟨[(8,.dat (.int .i64))],[],(List.range' 27 16),[],[]⟩)]⟩
abbrev rdbl_a0 (l:List (api_Version))(z7:Int):={Region:={Rects:=(ix (facesRG [] [] (linV l)) z7).2:api_Region},Claims:=(ix (facesRG [] [] (linV l)) z7).1:api_Double}
abbrev rdbl_a1 (z8:List api_Double)(z12:Int)(l:List (api_Version))(z7:Int)(J15:List api_Double->Prop):=(((0:Nat)+(sub z8 (0:Int) z12).length) * (48:Nat)<=(140737488355328:Nat)/\(([]++sub z8 (0:Int) z12).length+[(rdbl_a0 l z7)].length) * (48:Nat)<=(140737488355328:Nat)/\(([]++sub z8 (0:Int) z12++[(rdbl_a0 l z7)]).length+(sub z8 z12 (↑z8.length:Int)).length) * (48:Nat)<=(140737488355328:Nat)/\J15 ([]++sub z8 (0:Int) z12++[(rdbl_a0 l z7)]++sub z8 z12 (↑z8.length:Int)))
abbrev rdbl_a2 (z8:List api_Double)(z12:Int)(l:List (api_Version))(z7:Int)(J19:List api_Double->Prop):=(((0:Nat)+(sub z8 (0:Int) z12).length) * (48:Nat)<=(140737488355328:Nat)/\(([]++sub z8 (0:Int) z12).length+[(rdbl_a0 l z7)].length) * (48:Nat)<=(140737488355328:Nat)/\(([]++sub z8 (0:Int) z12++[(rdbl_a0 l z7)]).length+(sub z8 z12 (↑z8.length:Int)).length) * (48:Nat)<=(140737488355328:Nat)/\J19 ([]++sub z8 (0:Int) z12++[(rdbl_a0 l z7)]++sub z8 z12 (↑z8.length:Int)))
abbrev rdbl_a3 (z8:List api_Double)(z12:Int)(l:List (api_Version))(z7:Int):=(([]++sub z8 (0:Int) z12++[(rdbl_a0 l z7)]).length+(sub z8 z12 (↑z8.length:Int)).length)
abbrev rdbl_a4 (z8:List api_Double)(z12:Int)(l:List (api_Version))(z7:Int):=([]++sub z8 (0:Int) z12++[(rdbl_a0 l z7)]++sub z8 z12 (↑z8.length:Int))
abbrev rdbl_a5 (z8:List api_Double)(z12:Int)(l:List (api_Version))(z7:Int):=(([]++sub z8 (0:Int) z12).length+[(rdbl_a0 l z7)].length)
def rdbl_W (l:List (api_Version))(post:List (api_Double)->Int->Prop):Prop:=(l.length<=1000/\∀(v1:api_Version),v1∈l->v1.2.length<=1000)/\∀(v2:Int),beginP l v2->IFB (!decide (v2=0)) (post [] v2) (((l.length<=1000/\∀(v3:api_Version),v3∈l->v3.2.length<=1000)/\(linV l).length<=60/\List.Pairwise (λ(x1 x2:api_Place)=>x1=x2->False) (List.map (λ(x:crosscheck_line)=>x.1) (linV l))/\∀(v4:crosscheck_line),v4∈linV l->(∀(v5:api_Rect),v5∈v4.2->0<=v5.1/\v5.1<v5.3/\v5.3<=30/\0<=v5.2/\v5.2<v5.4/\v5.4<=10)/\v4.2.length<=120)/\((↑(facesRG [] [] (linV l)).length:Int)<=9223372036854775807->LOOP [Ty.int IntKind.i64,(Ty.st Sn.api_Double).sl] (λ(rec6:Int->List api_Double->Prop) (z7:Int) (z8:List api_Double)=>IFB (decide (z7<(↑(facesRG [] [] (linV l)).length:Int))) (JOIN [(Ty.st Sn.api_Double).sl] (λ(y9:List api_Double)=>rec6 (IntKind.i64.wrap (z7+1)) y9) λ(J10:List api_Double->Prop)=>((0:Int)<=z7/\z7<(↑(facesRG [] [] (linV l)).length:Int))/\((↑(ix (facesRG [] [] (linV l)) z7).1.length:Int)<=9223372036854775807->IFB (decide ((↑(ix (facesRG [] [] (linV l)) z7).1.length:Int)<2)) (J10 z8) (LOOP [Ty.int IntKind.i64] (λ(rec11:Int->Prop) (z12:Int)=>(↑z8.length:Int)<=9223372036854775807->(gx true (decide (z12<(↑z8.length:Int)))=true->0<=z12/\z12<(↑z8.length:Int))/\(JOIN [Ty.bool] (λ(y13:Bool)=>IFB (decide (z12<(↑z8.length:Int))&&y13) (rec11 (IntKind.i64.wrap (z12+1))) (JOIN [(Ty.st Sn.api_Double).sl] (λ(y14:List api_Double)=>J10 y14) λ(J15:List api_Double->Prop)=>(Int.NonNeg 0/\0<=z12/\z12<=(↑z8.length:Int))/\((0:Int)<=z12/\z12<=(↑z8.length:Int)/\(↑z8.length:Int)<=(↑z8.length:Int))/\((rdbl_a1 z8 z12 l z7 J15)/\(rdbl_a1 z8 z12 l z7 J15)/\(rdbl_a1 z8 z12 l z7 J15)/\((0:Nat)+(sub z8 (0:Int) z12).length) * (48:Nat)<=140737488355328/\(rdbl_a5 z8 z12 l z7) * (48:Nat)<=140737488355328/\(rdbl_a3 z8 z12 l z7) * (48:Nat)<=140737488355328/\J15 (rdbl_a4 z8 z12 l z7))/\((rdbl_a1 z8 z12 l z7 J15)/\(rdbl_a1 z8 z12 l z7 J15)/\((0:Nat)+(sub z8 (0:Int) z12).length) * (48:Nat)<=140737488355328/\(rdbl_a5 z8 z12 l z7) * (48:Nat)<=140737488355328/\(rdbl_a3 z8 z12 l z7) * (48:Nat)<=140737488355328/\J15 (rdbl_a4 z8 z12 l z7))/\((rdbl_a1 z8 z12 l z7 J15)/\((0:Nat)+(sub z8 (0:Int) z12).length) * (48:Nat)<=140737488355328/\(rdbl_a5 z8 z12 l z7) * (48:Nat)<=140737488355328/\(rdbl_a3 z8 z12 l z7) * (48:Nat)<=140737488355328/\J15 (rdbl_a4 z8 z12 l z7))/\((0:Nat)+(sub z8 (0:Int) z12).length) * (48:Nat)<=140737488355328/\(rdbl_a5 z8 z12 l z7) * (48:Nat)<=140737488355328/\(rdbl_a3 z8 z12 l z7) * (48:Nat)<=140737488355328/\J15 (rdbl_a4 z8 z12 l z7))) λ(J16:Bool->Prop)=>IFB (gx true (decide (z12<(↑z8.length:Int)))) (((ix z8 z12).2.length<=1000000000/\(ix (facesRG [] [] (linV l)) z7).1.length<=1000000000)/\J16 (befP (ix z8 z12).2 (ix (facesRG [] [] (linV l)) z7).1)) (J16 false))/\JOIN [Ty.bool] (λ(y17:Bool)=>IFB (decide (z12<(↑z8.length:Int))&&y17) (rec11 (IntKind.i64.wrap (z12+1))) (JOIN [(Ty.st Sn.api_Double).sl] (λ(y18:List api_Double)=>J10 y18) λ(J19:List api_Double->Prop)=>(Int.NonNeg 0/\0<=z12/\z12<=(↑z8.length:Int))/\((0:Int)<=z12/\z12<=(↑z8.length:Int)/\(↑z8.length:Int)<=(↑z8.length:Int))/\((rdbl_a2 z8 z12 l z7 J19)/\(rdbl_a2 z8 z12 l z7 J19)/\(rdbl_a2 z8 z12 l z7 J19)/\((0:Nat)+(sub z8 (0:Int) z12).length) * (48:Nat)<=140737488355328/\(rdbl_a5 z8 z12 l z7) * (48:Nat)<=140737488355328/\(rdbl_a3 z8 z12 l z7) * (48:Nat)<=140737488355328/\J19 (rdbl_a4 z8 z12 l z7))/\((rdbl_a2 z8 z12 l z7 J19)/\(rdbl_a2 z8 z12 l z7 J19)/\((0:Nat)+(sub z8 (0:Int) z12).length) * (48:Nat)<=140737488355328/\(rdbl_a5 z8 z12 l z7) * (48:Nat)<=140737488355328/\(rdbl_a3 z8 z12 l z7) * (48:Nat)<=140737488355328/\J19 (rdbl_a4 z8 z12 l z7))/\((rdbl_a2 z8 z12 l z7 J19)/\((0:Nat)+(sub z8 (0:Int) z12).length) * (48:Nat)<=140737488355328/\(rdbl_a5 z8 z12 l z7) * (48:Nat)<=140737488355328/\(rdbl_a3 z8 z12 l z7) * (48:Nat)<=140737488355328/\J19 (rdbl_a4 z8 z12 l z7))/\((0:Nat)+(sub z8 (0:Int) z12).length) * (48:Nat)<=140737488355328/\(rdbl_a5 z8 z12 l z7) * (48:Nat)<=140737488355328/\(rdbl_a3 z8 z12 l z7) * (48:Nat)<=140737488355328/\J19 (rdbl_a4 z8 z12 l z7))) λ(J20:Bool->Prop)=>IFB (gx true (decide (z12<(↑z8.length:Int)))) (((ix z8 z12).2.length<=1000000000/\(ix (facesRG [] [] (linV l)) z7).1.length<=1000000000)/\J20 (befP (ix z8 z12).2 (ix (facesRG [] [] (linV l)) z7).1)) (J20 false)) ((0:Int),PUnit.unit)))) ((↑z8.length:Int)<=9223372036854775807->IFB (decide ((200:Int)<(↑z8.length:Int))) (post [] 1) ((↑z8.length:Int)<=9223372036854775807->LOOP [Ty.int IntKind.i64] (λ(rec21:Int->Prop) (z22:Int)=>IFB (decide (z22<(↑z8.length:Int))) (((0:Int)<=z22/\z22<(↑z8.length:Int))/\((↑(ix z8 z22).1.1.length:Int)<=9223372036854775807->IFB (decide ((120:Int)<(↑(ix z8 z22).1.1.length:Int))) (post [] 1) (rec21 (IntKind.i64.wrap (z22+1))))) (post z8 0)) ((0:Int),PUnit.unit)))) ((0:Int),[],PUnit.unit)))
theorem rdbl_w (l:List (api_Version))(post:dens (shT rdbl_sp.rs [])->Prop):rdbl_W l (λy0 y1=>post (y0,y1,()))=walkG (callR Tryz.prog rdbl_C (drawR Tryz.prog tau) 8 0) 52 false [tv (.sl (.st .api_Version)) l] rdbl_sp.rs post:=by kernel_rfl
theorem rdbl_of (h:∀l post,rdbl_P l post->rdbl_W l post):SpecOK Tryz.prog rdbl_sp:=SpecOK.of_rules (C:=rdbl_C) (dr:=drawR Tryz.prog tau) (n:=8) (fk:=0) (.cons (rule1_ok rbegin_ok) (.cons (rule1_ok rfaces_ok) (.cons (rule1_ok rbef_ok) .nil))) (drawR_ok tau) λx post hp=>HoldW.of (rdbl_w x.1 post) (h x.1 (λy0 y1=>post (y0,y1,())) hp)
theorem take_while {α:Type}[Inhabited α]{p:α->Bool}{l:List α}{k:Nat}(hk:k<=l.length)(h1:∀i:Nat,i<k->p (ix l (i:Int))=true)(h2:k=l.length\/p (ix l (k:Int))=false):l.takeWhile p=l.take k/\l.dropWhile p=l.drop k:=by
 induction l generalizing k with
 |nil=>
  have:k=0:=by simpa using hk
  subst this
  exact⟨rfl,rfl⟩
 |cons a l ih=>
  match k,hk,h1,h2 with
  |0,_,_,h2=>
   rcases h2 with h2|h2
   ·cases h2
   ·have h2:p a=false:=h2
    rw[List.takeWhile_cons,List.dropWhile_cons,h2]
    exact⟨rfl,rfl⟩
  |k+1,hk,h1,h2=>
   have h0:p a=true:=h1 0 (by omega)
   obtain⟨q1,q2⟩:=ih (k:=k) (by simpa using hk) (λi hi=>by
    have:=h1 (i+1) (by omega)
    exact this) (by
    rcases h2 with h2|h2
    ·left;simpa using h2
    ·right;exact h2)
   rw[List.takeWhile_cons,List.dropWhile_cons,h0]
   exact⟨by simp[q1],by simp[q2]⟩
def rdbI (R:List FaceR)(z:Int)(b:List Dbl):Prop:=∃k:Nat,z=(k:Int)/\k<=R.length/\b=sortD ((two ((R.take k).map cv)).map toD)
def rdbJ (b:List Dbl)(c:List api_Place)(z:Int):Prop:=∃j:Nat,z=(j:Int)/\j<=b.length/\∀i:Nat,i<j->befP (ix b (i:Int)).Claims c=true
theorem sortD_len (l:List Dbl):(sortD l).length=l.length:=by
 have h:∀l o:List Dbl,(l.foldl (λo d=>insD d o) o).length=o.length+l.length:=λl=>by
  induction l with
  |nil=>intro o;rfl
  |cons d l ih=>
   intro o
   rw[List.foldl_cons,ih,insD_perm.length_eq,List.length_cons,List.length_cons];omega
 have:=h l []
 rw[List.length_nil,Nat.zero_add] at this
 exact this
theorem sortD_mem {l:List Dbl}{d:Dbl}(h:d∈sortD l):d∈l:=by
 have:∀l o:List Dbl,d∈l.foldl (λo d=>insD d o) o->d∈o\/d∈l:=λl=>by
  induction l with
  |nil=>intro o h;exact .inl h
  |cons e l ih=>
   intro o h
   rw[List.foldl_cons] at h
   rcases ih _ h with h|h
   ·have:=insD_perm.mem_iff.1 h
    rcases List.mem_cons.1 this with rfl|h
    ·exact .inr (List.mem_cons_self ..)
    ·exact .inl h
   ·exact .inr (List.mem_cons_of_mem _ h)
 rcases this l [] h with h|h
 ·cases h
 ·exact h
theorem rdbl_h (l:List api_Version)(post:List (api_Double)->Int->Prop)(hp:rdbl_P l post):rdbl_W l post:=by
 obtain⟨⟨h1,hs⟩,hp⟩:=hp
 unfold rdbl_W rdbl_a5 rdbl_a4 rdbl_a3 rdbl_a2 rdbl_a1 rdbl_a0
 refine⟨h1,λe he=> ?_⟩
 have he:=beginP_F he
 subst he
 refine IFB.mk (λhb=> ?_) (λhb=> ?_)
 ·have hb:beginF l≠0:=by simpa using hb
  exact hp [] _ (.inl ⟨hb,rfl,rfl⟩)
 have hz:beginF l=0:=by simpa using hb
 have hs:=hs hz
 have hbox:∀x∈linV l,inBox x.rects:=λx hx=>(hs.2.2 x hx).1
 have hpm:=facesR_perm (linV l)
 have hok:=faces_perm (faces_ok hs.2.1) hpm.symm
 have hfew:=faces_few hok hbox
 have href:=dbls_ref hs.2.1
 have hlin:(linV l).length<=60:=hs.1
 refine⟨⟨h1,hs⟩,λ_=> ?_⟩
 generalize hR:facesRG [] [] (linV l)=R at *
 rw[List.length_map] at hfew
 refine LOOP.fuel (λu=>rdbI R u.1 u.2.1) (λu=>R.length-Int.toNat u.1) ⟨0,rfl,Nat.zero_le _,rfl⟩ ?_
 rintro rec ⟨(z:Int),(b:List Dbl),⟨⟩⟩ ⟨k,i1,i2,i3⟩ hrec
 have i1:z=(k:Int):=i1
 have q3:b=sortD ((two ((R.take k).map cv)).map toD):=i3
 clear i3
 subst i1
 have hbl:b.length<=300:=by
  rw[q3,sortD_len,List.length_map]
  unfold two
  have:=List.length_filter_le (λf:Fc=>decide (2<=f.claims.length)) ((R.take k).map cv)
  rw[List.length_map,List.length_take] at this
  omega
 have hbm:∀d∈b,d.Claims.length<=60:=λd hd=>by
  rw[q3] at hd
  obtain⟨f,hf,rfl⟩:=List.mem_map.1 (sortD_mem hd)
  have hf:=(List.mem_filter.1 hf).1
  obtain⟨g,hg,rfl⟩:=List.mem_map.1 hf
  have:=(face_small hok hbox (List.mem_map.2 ⟨g,List.mem_of_mem_take hg,rfl⟩)).2.2
  show (cv g).claims.length<=60
  omega
 refine IFB.mk (λhc=>JOIN.opq λ(J:List Dbl->Prop) hJ=> ?_) (λhc=> ?_)
 ·have hc:(k:Int)<R.length:=of_decide_eq_true hc
  have hk:k<R.length:=by omega
  obtain⟨f,hf⟩:∃f,ix R (k:Int)=f:=⟨_,rfl⟩
  have hfm:f∈R:=by rw[<-hf,ix_lt hk];exact List.getElem_mem hk
  have hfc:f.claims.length<=60:=by
   have:=(face_small hok hbox (List.mem_map.2 ⟨f,hfm,rfl⟩)).2.2
   have e:(cv f).claims=f.claims:=rfl
   rw[e] at this;omega
  have etk:two ((R.take (k+1)).map cv)=two ((R.take k).map cv)++two [cv f]:=by rw[List.take_succ_eq_append_getElem hk,List.map_append,two_app,<-ix_lt hk,hf];rfl
  have hJ2:∀y:List Dbl,y=sortD ((two ((R.take (k+1)).map cv)).map toD)->J y:=λy hy=>by
   rw[hJ]
   show rec (IntKind.i64.wrap ((k:Int)+1)) y
   rw[wrapS (by omega)]
   exact hrec (((k+1:Nat):Int),y,()) ⟨k+1,rfl,hk,hy⟩ (by show R.length-((k+1:Nat):Int).toNat<R.length-(k:Int).toNat;omega)
  dsimp only
  rw[hf]
  refine⟨⟨by omega,hc⟩,λ_=>IFB.mk (λhd=> ?_) (λhd=> ?_)⟩
  ·have hd:(f.claims.length:Int)<2:=of_decide_eq_true hd
   refine hJ2 b ?_
   rw[etk,q3,show two [cv f]=[] by unfold two;rw[List.filter_cons,if_neg (by show ¬decide (2<=f.claims.length)=true;simp;omega),List.filter_nil],List.append_nil]
  ·have hd:¬(f.claims.length:Int)<2:=of_decide_eq_false hd
   have e2:two [cv f]=[cv f]:=by unfold two;rw[List.filter_cons,if_pos (by show decide (2<=f.claims.length)=true;simp;omega),List.filter_nil]
   have ins:∀j:Nat,j<=b.length->(∀i:Nat,i<j->befP (ix b (i:Int)).Claims f.claims=true)->(j=b.length\/befP (ix b (j:Int)).Claims f.claims=false)->J ([]++sub b 0 (j:Int)++[(⟨⟨f.rects⟩,f.claims⟩:Dbl)]++sub b (j:Int) (b.length:Int)):=λj hj a1 a2=>by
    refine hJ2 _ ?_
    obtain⟨t1,t2⟩:=take_while (p:=λa:Dbl=>befP a.Claims f.claims) hj a1 a2
    rw[etk,e2,List.map_append,List.map_cons,List.map_nil,sortD_app,<-q3]
    show _=b.takeWhile (λa:Dbl=>befP a.Claims f.claims)++(⟨⟨f.rects⟩,f.claims⟩:Dbl)::b.dropWhile (λa:Dbl=>befP a.Claims f.claims)
    rw[t1,t2,sub_front,sub_back,List.nil_append,List.append_assoc];rfl
   refine LOOP.fuel (λu=>rdbJ b f.claims u.1) (λu=>b.length-Int.toNat u.1) ⟨0,rfl,Nat.zero_le _,λi hi=>absurd hi (Nat.not_lt_zero i)⟩ ?_
   rintro rec2 ⟨(z2:Int),⟨⟩⟩ ⟨j,j1,j2,j3⟩ hrec2
   have j1:z2=(j:Int):=j1
   have j3:∀i:Nat,i<j->befP (ix b (i:Int)).Claims f.claims=true:=j3
   subst j1
   have next:j<b.length->befP (ix b (j:Int)).Claims f.claims=true->rec2 (IntKind.i64.wrap ((j:Int)+1)):=λhj hj2=>by
    rw[wrapS (by omega)]
    refine hrec2 (((j+1:Nat):Int),()) ⟨j+1,rfl,hj,λi hi=> ?_⟩ (by show b.length-((j+1:Nat):Int).toNat<b.length-(j:Int).toNat;omega)
    by_cases e:i=j
    ·rw[e];exact hj2
    ·exact j3 i (by omega)
   have hg:gx true (decide ((j:Int)<(b.length:Int)))=true->(0:Int)<=(j:Int)/\(j:Int)<(b.length:Int):=λh=>by
    rw[gx_t,decide_eq_true_iff] at h
    exact⟨by omega,h⟩
   have s1:(sub b 0 (j:Int)).length<=300:=by rw[sub_front,List.length_take];omega
   have s2:(sub b (j:Int) (b.length:Int)).length<=300:=by rw[sub_back,List.length_drop];omega
   have z1:(0+(sub b 0 (j:Int)).length) * 48<=140737488355328:=by omega
   have z2:(([]++sub b 0 (j:Int):List Dbl).length+[(⟨⟨f.rects⟩,f.claims⟩:Dbl)].length) * 48<=140737488355328:=by simp only[List.nil_append,List.length_cons,List.length_nil];omega
   have z3:(([]++sub b 0 (j:Int)++[(⟨⟨f.rects⟩,f.claims⟩:Dbl)]:List Dbl).length+(sub b (j:Int) (b.length:Int)).length) * 48<=140737488355328:=by simp only[List.nil_append,List.length_append,List.length_cons,List.length_nil];omega
   have z4:Int.NonNeg (0:Int):=Int.NonNeg.mk _
   have z5:(0:Int)<=(j:Int):=by omega
   have z6:(j:Int)<=(b.length:Int):=by omega
   have z7:(b.length:Int)<=(b.length:Int):=Int.le_refl _
   intro _
   repeat' first
    |exact hg
    |exact λ_=>hg
    |with_reducible apply And.intro
    |intro _
   all_goals
    refine JOIN.opq λ(K:Bool->Prop) hK=> ?_
    have fin:∀y:Bool,(j<b.length->y=befP (ix b (j:Int)).Claims f.claims)->K y:=λy hy=>by
     rw[hK]
     dsimp only
     refine IFB.mk (λhn=> ?_) (λhn=>JOIN.opq λ(M:List Dbl->Prop) hM=> ?_)
     ·rw[Bool.and_eq_true,decide_eq_true_iff] at hn
      have hj:j<b.length:=by omega
      exact next hj (by rw[<-hy hj];exact hn.2)
     ·have hM2:M ([]++sub b 0 (j:Int)++[(⟨⟨f.rects⟩,f.claims⟩:Dbl)]++sub b (j:Int) (b.length:Int)):=by
       rw[hM]
       refine ins j j2 j3 ?_
       rw[Bool.and_eq_false_iff,decide_eq_false_iff_not] at hn
       by_cases hj:j<b.length
       ·right
        rcases hn with hn|hn
        ·omega
        ·rw[<-hy hj];exact hn
       ·left;omega
      repeat' first
       |exact hM2
       |exact z1
       |exact z2
       |exact z3
       |exact z4
       |exact z5
       |exact z6
       |exact z7
       |with_reducible apply And.intro
    refine IFB.mk (λhn=>⟨⟨?_,?_⟩,fin _ λ_=>rfl⟩) (λhn=>fin _ λhj=> ?_)
    ·rw[gx_t,decide_eq_true_iff] at hn
     have:=hbm _ (ix_mem (l:=b) (i:=(j:Int)) (by omega) hn)
     show (ix b (j:Int)).Claims.length<=1000000000
     omega
    ·show f.claims.length<=1000000000
     omega
    ·rw[gx_t,decide_eq_false_iff_not] at hn
     omega
 ·have hc:¬(k:Int)<R.length:=of_decide_eq_false hc
  have hk:k=R.length:=by omega
  rw[hk,List.take_length] at q3
  rw[<-q3] at href
  refine λ_=>IFB.mk (λhd=> ?_) (λhd _=> ?_)
  ·have hd:(200:Int)<(b.length:Int):=of_decide_eq_true hd
   exact hp [] 1 (.inr ⟨hz,b,href,.inl ⟨.inl (by omega),rfl,rfl⟩⟩)
  ·have hd:¬(200:Int)<(b.length:Int):=of_decide_eq_false hd
   refine loopCmp (n:=b.length) (by omega) (p:=λi=>(ix b (i:Int)).Region.Rects.length<=120) (λrec3 i hi _ hrec3=>⟨by show (0:Int)<=(i:Int)/\(i:Int)<(b.length:Int);omega,λ_=>IFB.mk (λhn=> ?_) (λhn=>hrec3 ?_)⟩) λhall=> ?_
   ·have hn:(120:Int)<((ix b (i:Int)).Region.Rects.length:Int):=of_decide_eq_true hn
    have hn2:120<(ix b (i:Int)).Region.Rects.length:=by omega
    exact hp [] 1 (.inr ⟨hz,b,href,.inl ⟨.inr ⟨_,ix_mem (l:=b) (i:=(i:Int)) (by omega) (by show (i:Int)<(b.length:Int);omega),hn2⟩,rfl,rfl⟩⟩)
   ·have hn:¬(120:Int)<((ix b (i:Int)).Region.Rects.length:Int):=of_decide_eq_false hn
    omega
   ·refine hp b 0 (.inr ⟨hz,b,href,.inr ⟨λh=> ?_,rfl,rfl⟩⟩)
    rcases h with h|⟨d,hd2,h⟩
    ·omega
    ·obtain⟨i,hi,rfl⟩:=List.getElem_of_mem hd2
     have:=hall i hi
     rw[ix_lt hi] at this
     omega
theorem rdbl_ok:SpecOK Tryz.prog rdbl_sp:=rdbl_of rdbl_h
set_option maxRecDepth 1000000
open Go.Sort
open Go.Lib
def encQ (x:arr2_i64):List Value:=[.int .i64 x.e0,.int .i64 x.e1]
theorem eq70 (x y:arr2_i64)(w:World):(Op.equalIn 10000 59 (.agg #[.int .i64 x.e0,.int .i64 x.e1]) (.agg #[.int .i64 y.e0,.int .i64 y.e1])).run Tryz.prog w= .ok (decide (x=y)) w:=by
 have h:=arr_run (P:=Tryz.prog) (t:=59) (by kernel_rfl) (xs:=[.v (.int .i64 x.e0),.v (.int .i64 x.e1)]) (ys:=[.v (.int .i64 y.e0),.v (.int .i64 y.e1)]) (r:=decide (x=y)) (by
  obtain⟨a,b⟩:=x
  obtain⟨c,d⟩:=y
  simp only[eqS,if_pos,Option.map_some,Bool.and_true]
  rw[<-Bool.decide_and]
  simp) w
 exact h
theorem set_flatA (d:Array arr2_i64)(i:Nat)(x:arr2_i64)(hi:i<d.size):setMany (flatK encQ 2 d) (i * 2) (encQ x)=flatK encQ 2 (d.setIfInBounds i x):=by
 refine ext_get! (by simp) λt ht=> ?_
 have ht':t<d.size * 2:=by simpa using ht
 rw[get_setMany _ _ _ t (by simpa using ht'),get_flatK _ _ _ t ht',get_flatK _ _ _ t (by simpa using ht'),show (encQ x).length=2 from rfl]
 by_cases a:t/2=i
 ·rw[if_pos ((blk_iff 2 i t (by decide)).2 a),a,getElem!_set_same d i x hi,show t-i * 2=t % 2 by omega]
 ·rw[if_neg (λh=>a ((blk_iff 2 i t (by decide)).1 h)),getElem!_set_other d i (t/2) x a]
theorem store_world2 {w wr:World}{n blk off:Nat}{dk:Array arr2_i64}{i:Nat}(hi:i<dk.size)(hwr:wr=putRowK encQ 2 (Sort.ahead w n) blk off dk)(x:arr2_i64):
 (wr.setCells blk (off+i * 2) (encQ x)).drew=putRowK encQ 2 (Sort.ahead w (n+1)) blk off (dk.setIfInBounds i x):=by
 subst hwr
 unfold putRowK
 rw[setCells_putRow _ _ _ _ _ _ (by rw[size_flatK];show i * 2+2<=dk.size * 2;omega),set_flatA dk i x hi,<-ahead_drew]
 rfl
theorem HoldsA {w:World}{blk off:Nat}{d:Array arr2_i64}(h:HoldsK encQ 2 w blk off d){i:Nat}(hi:i<d.size):
 (w.cell? ⟨blk,off+i * 2,none⟩=some (.int .i64 d[i]!.e0)/\w.frozen? ⟨blk,off+i * 2,none⟩=false)/\w.cell? ⟨blk,off+i * 2+1,none⟩=some (.int .i64 d[i]!.e1)/\w.frozen? ⟨blk,off+i * 2+1,none⟩=false:=
 ⟨h.cell (c:=0) hi (by decide),h.cell (c:=1) hi (by decide)⟩
theorem zeroA (w:World)(z:Value)(hv:∀w,(zeroValue 59).run Tryz.prog w= .ok z w)(hz:z.cells= #[.int .i64 0,.int .i64 0])(b o n c:Nat)(hn:0<n)(ty:TypeId)(ht:Tryz.prog.underlying 53=some (.slice 59))
 (hc:∀j,j<n * 2->(w.cell? ⟨b,o+j,none⟩).isSome=true) (hf:∀j,j<n * 2->w.frozen? ⟨b,o+j,none⟩=false):
 (Builtin.clear_ #[53] ty #[.slice (some ⟨b,o,none⟩) n c]).run Tryz.prog w= .ok (.tuple #[]) (w.setCells b o (List.replicate (n * 2) (.int .i64 0))):=by
 have hzc:(Builtin.zeroCells z.cells n).toList=List.replicate (n * 2) (.int .i64 0):=by
  rw[hz]
  apply List.ext_getElem
  ·simp[Builtin.zeroCells]
  ·intro i h1 h2
   simp only[Builtin.zeroCells,List.getElem_replicate]
   rcases Nat.mod_two_eq_zero_or_one i with h|h<;>simp[h]
 have hst:=run_storeCells_cells (P:=Tryz.prog) b o (List.replicate (n * 2) (.int .i64 0)) 0 w (by simpa using hc) (by simpa using hf) (by intro v hv';rw[List.eq_of_mem_replicate hv'];rfl)
 simp only[Nat.add_zero] at hst
 obtain⟨m,rfl⟩:∃m,n=m+1:=⟨n-1,by omega⟩
 simp[Builtin.clear_,run_underlying ht,hv,hzc,hst]theorem lay_flatA:∀(m:Nat)(d:Array arr2_i64)(k:Nat),k+m<=d.size->setMany (flatK encQ 2 d) (k * 2) (List.replicate (m * 2) (.int .i64 0))=flatK encQ 2 (lay d k (List.replicate m ⟨0,0⟩))
 |0,d,k,_=>rfl
 |m+1,d,k,h=>by
  have ih:=lay_flatA m (d.setIfInBounds k ⟨0,0⟩) (k+1) (by simp;omega)
  rw[<-set_flatA d k ⟨0,0⟩ (by omega),Nat.add_mul] at ih
  rw[Nat.add_mul,Nat.one_mul]
  show setMany (flatK encQ 2 d) (k * 2) (List.replicate (m * 2+2) (.int .i64 0))=flatK encQ 2 (lay (d.setIfInBounds k ⟨0,0⟩) (k+1) (List.replicate m ⟨0,0⟩))
  rw[<-ih]
  rfl
theorem lay_worldA (w:World)(blk off:Nat)(d:Array arr2_i64)(k m:Nat)(h:k+m<=d.size):(putRowK encQ 2 w blk off d).setCells blk (off+k * 2) (List.replicate (m * 2) (.int .i64 0))=putRowK encQ 2 w blk off (lay d k (List.replicate m ⟨0,0⟩)):=by
 unfold putRowK
 rw[setCells_putRow _ _ _ _ _ _ (by rw[size_flatK,List.length_replicate];omega),lay_flatA m d k h]
set_option maxHeartbeats 8000000 in
theorem compact2_arr (blk off cap:Nat)(d:Array arr2_i64)(w:World)(hH:HoldsK encQ 2 w blk off d)(hsz:d.size<=1000000000)(hcap:d.size<=cap):
 Calls Tryz.prog 130 #[.slice (some ⟨blk,off,none⟩) d.size cap] w λe w'=>e= .returned (.slice (some ⟨blk,off,none⟩) (compactUpTo d d.size).length cap)/\∃q,w'=putRowK encQ 2 (Sort.ahead w q) blk off (compactUpTo d d.size++List.replicate (d.size-(compactUpTo d d.size).length) (⟨0,0⟩:arr2_i64)).toArray:=by
 have eq70:=eq70
 have mixed:Tryz.prog.follows Departure.mixedOrders=true:=by kernel_rfl
 have same:∀q,(∀j,j<d.size->keeps d j=true)->(compactUpTo d d.size).length=d.size/\w.drewN q=putRowK encQ 2 (Sort.ahead w q) blk off (compactUpTo d d.size++List.replicate (d.size-(compactUpTo d d.size).length) (⟨0,0⟩:arr2_i64)).toArray:=by
  intro q hall
  have e:compactUpTo d d.size=d.toList:=by rw[compactUpTo_all d _ hall,range_map_get]
  rw[e]
  refine⟨by simp,?_⟩
  simp only[Array.length_toList,Nat.sub_self,List.replicate_zero,List.append_nil,Array.toArray_toList]
  exact (putRowK_self encQ 2 (Sort.ahead w q) blk off d (holdsK_ahead encQ 2 w q blk off d hH)).symm
 have HS:=Lib.hid same
 clear same
 by_cases h2:d.size<2
 ·have HH:=Lib.hid hH
  clear hH
  go_enter Tryz.func130,Tryz.ntmps130
  go_wp2
  go_ret
  obtain⟨e1,e2⟩:=HS.out 0 (λj hj=>keeps_lt_one d j (by omega))
  exact⟨by rw[e1];rfl,0,e2⟩
 ·go_enter Tryz.func130,Tryz.ntmps130
  go_wp2
  go_loopg [3] d.size (λg s3 wr=>∃k q:Nat,1<=k/\k<=d.size/\d.size-k<=g/\s3= .int .i64 k/\wr=w.drewN q/\∀j,j<k->keeps d j=true)
  case atStart=>exact⟨1,0,Nat.le_refl _,by omega,by omega,rfl,rfl,keeps_lt_one d⟩
  case round=>
   obtain⟨k,q,hk1,hk,hg,rfl,rfl,hall⟩:=hrel
   by_cases hlt:k<d.size
   ·obtain⟨⟨c1,f1⟩,c2,f2⟩:=HoldsA hH hlt
    obtain⟨⟨c3,f3⟩,c4,f4⟩:=HoldsA (i:=k-1) hH (by omega)
    have A:=Lib.hid hall
    have HH:=Lib.hid hH
    clear hall hH
    generalize hx:d[k]! =x at c1 c2
    generalize hy:d[k-1]! =y at c3 c4
    have B:=Lib.hid (show d[k]! =x/\d[k-1]! =y from ⟨hx,hy⟩)
    clear hx hy
    by_cases hdup:x=y
    ·subst hdup
     have hdec:decide (x=x)=true:=decide_eq_true rfl
     go_wp2_with fail
     go_region_o
     go_wp2
     clear c1 c2 c3 c4 f1 f2 f3 f4
     go_loopg [3,5] d.size (λg s3 s5 wr=>∃(kk k2 q2:Nat)(dk:Array arr2_i64),s3= .int .i64 kk/\s5= .int .i64 k2/\1<=k2/\k+k2<=d.size/\d.size-(k+k2)<=g/\wr=putRowK encQ 2 (Sort.ahead w q2) blk off dk/\CompInv d (k+k2) kk dk)
     case atStart=>exact⟨k,1,q+1,d,rfl,rfl,Nat.le_refl _,by omega,by omega,(putRowK_self encQ 2 (Sort.ahead w (q+1)) blk off d (holdsK_ahead encQ 2 w (q+1) blk off d HH.out)).symm,CompInv.start A.out (keeps_neg (by omega) (by rw[B.out.1,B.out.2]))⟩
     case round=>
      obtain⟨kk,k2,q2,dk,rfl,rfl,h1,hle,hg2,hwr,hI⟩:=hrel
      have hkk:=hI.lt
      have hds:=hI.size
      have hHk:HoldsK encQ 2 wr blk off dk:=by rw[hwr];exact holdsK_putRowK encQ 2 _ blk off d dk (holdsK_ahead encQ 2 w q2 blk off d HH.out) hds
      have W2:=Lib.hid hwr
      have I2:=Lib.hid hI
      clear hwr
      by_cases hlt2:k+k2<d.size
      ·obtain⟨⟨m1,_⟩,m2,_⟩:=HoldsA hHk (i:=k+k2) (by omega)
       obtain⟨⟨p1,_⟩,p2,_⟩:=HoldsA hHk (i:=k+k2-1) (by omega)
       obtain⟨⟨k1,g1⟩,k3,g3⟩:=HoldsA hHk (i:=kk) (by omega)
       rw[hI.high (k+k2) (by omega),show off+(k+k2) * 2=off+k * 2+k2 * 2 by omega] at m1 m2
       rw[hI.high (k+k2-1) (by omega),show off+(k+k2-1) * 2=off+k * 2+(k2-1) * 2 by omega] at p1 p2
       clear hHk hI
       generalize hu:d[k+k2]! =u at m1 m2
       generalize hv:d[k+k2-1]! =v at p1 p2
       generalize dk[kk]! =old at k1 k3
       have C:=Lib.hid (show d[k+k2]! =u/\d[k+k2-1]! =v from ⟨hu,hv⟩)
       clear hu hv
       by_cases huv:u=v
       ·subst huv
        have hdec2:decide (u=u)=true:=decide_eq_true rfl
        go_wp2_with fail
        go_region_o
        go_wp2
        go_roundg (d.size-(k+(k2+1)))
        case measure=>omega
        case rel=>exact⟨kk,k2+1,q2+1,dk,rfl,by go_num,by omega,by omega,Nat.le_refl _,by rw[W2.out];rfl,I2.out.skip (keeps_neg (by omega) (by rw[C.out.1,C.out.2]))⟩
       ·have hdec2:decide (u=v)=false:=decide_eq_false huv
        go_wp2_with fail
        go_region_o
        go_wp2
        go_roundg (d.size-(k+(k2+1)))
        case measure=>omega
        case rel=>exact⟨kk+1,k2+1,q2+1,dk.setIfInBounds kk u,by go_num,by go_num,by omega,by omega,Nat.le_refl _,store_world2 (by omega) W2.out u,by have:=I2.out.keep hlt2 (keeps_pos (by rw[C.out.1,C.out.2];exact huv));rwa [C.out.1] at this⟩
      ·have hend:k+k2=d.size:=by omega
       have hcl:∀ty,(Builtin.clear_ #[53] ty #[.slice (some ⟨blk,off+kk * 2,none⟩) (d.size-kk) (cap-kk)]).run Tryz.prog wr= .ok (.tuple #[]) (wr.setCells blk (off+kk * 2) (List.replicate ((d.size-kk) * 2) (.int .i64 0))):=
        λty=>zeroA wr _ Tryz.zeroValue59 rfl blk (off+kk * 2) _ _ (by omega) ty Tryz.underlying53
         (λj hj=>by rw[show off+kk * 2+j=off+(kk * 2+j) by omega,(hHk (kk * 2+j) (by rw[size_flatK];omega)).1];rfl)
         (λj hj=>by rw[show off+kk * 2+j=off+(kk * 2+j) by omega];exact (hHk (kk * 2+j) (by rw[size_flatK];omega)).2)
       clear hHk hI
       go_wp2
       go_ret
       have hI:=I2.out
       rw[hend] at hI
       refine⟨by rw[hI.len];rfl,q2,?_⟩
       rw[hI.len,<-hI.done ⟨0,0⟩,W2.out]
       exact lay_worldA _ _ _ _ _ _ (by omega)
    ·have hdec:decide (x=y)=false:=decide_eq_false hdup
     go_wp2_with fail
     go_region_o
     go_wp2
     go_roundg (d.size-(k+1))
     case measure=>omega
     case rel=>
      refine⟨k+1,q+1,by omega,by omega,Nat.le_refl _,by go_num,rfl,λj hj=> ?_⟩
      by_cases e:j=k
      ·subst e
       exact keeps_pos (by rw[B.out.1,B.out.2];exact hdup)
      ·exact A.out j (by omega)
   ·have:k=d.size:=by omega
    subst this
    have HH:=Lib.hid hH
    clear hH
    go_wp2
    go_ret
    obtain⟨e1,e2⟩:=HS.out q hall
    exact⟨by rw[e1];rfl,q,e2⟩
end RE
end Go.Proofs.YtpeggkeenboacaaGreat
set_option linter.unusedVariables false
namespace Go.Proofs.YtpeggkeenboacaaGreat
open Go.RowKit Go.Sort Go.Lib
namespace RE
open PL
namespace PL
def cmpQ (a b:arr2_i64):Int:=orI (Lib.compareInt a.e0 b.e0) (Lib.compareInt a.e1 b.e1)
end PL
set_option maxHeartbeats 2000000 in
theorem cmpA_any (hc:CmpOK Tryz.prog)(a c:arr2_i64)(b1 b2:Nat)(W:World)(h1:W.cell? ⟨b1,0,none⟩=some (.int .i64 a.e0))(h2:W.cell? ⟨b1,1,none⟩=some (.int .i64 a.e1))
 (h3:W.cell? ⟨b2,0,none⟩=some (.int .i64 c.e0)) (h4:W.cell? ⟨b2,1,none⟩=some (.int .i64 c.e1)):
 Calls Tryz.prog 129 #[.slice (some ⟨b1,0,none⟩) 2 2,.slice (some ⟨b2,0,none⟩) 2 2] W λe w'=>e= .returned (.int .i64 (cmpQ a c))/\w'=W:=by
 have hc:=Lib.hid hc
 unfold cmpQ orI
 obtain⟨z0,hz0⟩:∃z,Lib.compareInt a.e0 c.e0=z:=⟨_,rfl⟩
 obtain⟨z1,hz1⟩:∃z,Lib.compareInt a.e1 c.e1=z:=⟨_,rfl⟩
 rw[hz0,hz1]
 have q0:=Lib.hid (λ(W':World)=>hz0 ▸ hc.out a.e0 c.e0 W')
 have q1:=Lib.hid (λ(W':World)=>hz1 ▸ hc.out a.e1 c.e1 W')
 clear hz0 hz1
 by_cases hx:z0=0
 ·subst hx
  rw[if_neg (λh=>h rfl)]
  by_cases hy:z1=0
  ·subst hy
   go_enter Tryz.func129,Tryz.ntmps129
   go_wp2_with fail
   refine wp_loop_rounds 3 ?_
   rw[rounds_succ]
   go_wp2_with (go_at_call 104;refine (q0.out _).mono ?_;rintro e w' ⟨rfl,rfl⟩)
   go_wp2
   rw[rounds_succ]
   go_wp2_with (go_at_call 104;refine (q1.out _).mono ?_;rintro e w' ⟨rfl,rfl⟩)
   go_wp2
   rw[rounds_succ]
   go_wp2
   go_ret
   exact⟨rfl,rfl⟩
  ·have hb:(z1==0)=false:=beq_eq_false_iff_ne.2 hy
   go_enter Tryz.func129,Tryz.ntmps129
   go_wp2_with fail
   refine wp_loop_rounds 2 ?_
   rw[rounds_succ]
   go_wp2_with (go_at_call 104;refine (q0.out _).mono ?_;rintro e w' ⟨rfl,rfl⟩)
   go_wp2
   rw[rounds_succ]
   go_wp2_with (go_at_call 104;refine (q1.out _).mono ?_;rintro e w' ⟨rfl,rfl⟩)
   go_wp2
   go_ret
   exact⟨rfl,rfl⟩
 ·rw[if_pos hx]
  have hb:(z0==0)=false:=beq_eq_false_iff_ne.2 hx
  go_enter Tryz.func129,Tryz.ntmps129
  go_wp2_with fail
  refine wp_loop_rounds 1 ?_
  rw[rounds_succ]
  go_wp2_with (go_at_call 104;refine (q0.out _).mono ?_;rintro e w' ⟨rfl,rfl⟩)
  go_wp2
  go_ret
  exact⟨rfl,rfl⟩
set_option maxHeartbeats 2000000 in
theorem cmpB_any (hc:CmpOK Tryz.prog)(a c:arr2_i64)(W:World):
 Calls Tryz.prog 128 #[.agg #[.int .i64 a.e0,.int .i64 a.e1],.agg #[.int .i64 c.e0,.int .i64 c.e1]] W λe w'=>e= .returned (.int .i64 (cmpQ a c))/\Ahd W w':=by
 have hq:=Lib.hid (cmpA_any hc a c)
 obtain⟨z,hz⟩:∃z,cmpQ a c=z:=⟨_,rfl⟩
 rw[hz] at hq ⊢
 obtain⟨a1,a2⟩:=a
 obtain⟨d1,d2⟩:=c
 dsimp only at hq ⊢
 clear hz hc
 go_enter Tryz.func128,Tryz.ntmps128
 go_upto_region 1 with fail
 obtain⟨W1,hW1⟩:∃W1,W1=(W.alloc (.cells #[.int .i64 a1,.int .i64 a2] 59)).alloc (.cells #[.int .i64 d1,.int .i64 d2] 59):=⟨_,rfl⟩
 have h1:=Lib.hid (show Ahd W W1 by rw[hW1];exact ((Ahd.refl W).alloc _).alloc _)
 have k1:W1.heap[W.heap.size]? =some (.cells #[.int .i64 a1,.int .i64 a2] 59 (0,0)):=by rw[hW1,Below.heap_alloc _ _ _ (by simp)];exact heap_alloc_new W _
 have k2:W1.heap[(W.alloc (.cells #[.int .i64 a1,.int .i64 a2] 59)).heap.size]? =some (.cells #[.int .i64 d1,.int .i64 d2] 59 (0,0)):=by rw[hW1];exact heap_alloc_new _ _
 rw[<-hW1]
 have e2:(W.alloc (.cells #[.int .i64 a1,.int .i64 a2] 59)).heap.size=W.heap.size+1:=by simp
 rw[e2] at k2
 obtain⟨b1,hb1⟩:∃b1,W.heap.size=b1:=⟨_,rfl⟩
 rw[hb1] at k1 k2 ⊢
 have hb1':=Lib.hid hb1
 have d1':W1.drew.cell? ⟨b1,0,none⟩=some (.int .i64 a1):=(cell_row2 (o:=0) k1).1
 have d2':W1.drew.cell? ⟨b1,1,none⟩=some (.int .i64 a2):=(cell_row2 (o:=0) k1).2
 have d3':W1.drew.cell? ⟨b1+1,0,none⟩=some (.int .i64 d1):=(cell_row2 (o:=0) k2).1
 have d4':W1.drew.cell? ⟨b1+1,1,none⟩=some (.int .i64 d2):=(cell_row2 (o:=0) k2).2
 have l1:b1<W1.heap.size:=(Array.getElem?_eq_some_iff.1 k1).1
 have l2:b1+1<W1.heap.size:=(Array.getElem?_eq_some_iff.1 k2).1
 clear hW1 k1 k2 e2 hb1
 go_region_held3 (λW'=>W'.cell? ⟨b1,0,none⟩=some (.int .i64 a1)/\W'.cell? ⟨b1,1,none⟩=some (.int .i64 a2)/\W'.cell? ⟨b1+1,0,none⟩=some (.int .i64 d1)/\W'.cell? ⟨b1+1,1,none⟩=some (.int .i64 d2)) (first|exact⟨d1',d2',d3',d4'⟩|assumption|go_keep) (first|(go_at_call 129;refine (hq.out _ _ _ (by assumption) (by assumption) (by assumption) (by assumption)).mono ?_;rintro e w' ⟨rfl,rfl⟩))
 go_wp2
 go_ret
 exact⟨rfl,((h1.out)).drew⟩
theorem pair_row {S:Cells}{w:World}{cur:Array Value}{l:List arr2_i64}(h:∀(i:Nat)(x:arr2_i64),l[i]? =some x->∀(j:Nat)(c:D),(enc (.st .arr2_i64) x)[j]? =some c->∃u:Value,cur[i * 2+j]? =some u/\u.oneCell'=true/\Rd S w c u)
 {i:Nat} (hi:i<l.length):cur[i * 2]? =some (.int .i64 l[i].e0)/\cur[i * 2+1]? =some (.int .i64 l[i].e1):=by
 obtain⟨u1,a1,_,a3⟩:=h i l[i] (List.getElem?_eq_getElem hi) 0 (.v (.int .i64 l[i].e0)) rfl
 obtain⟨u2,b1,_,b3⟩:=h i l[i] (List.getElem?_eq_getElem hi) 1 (.v (.int .i64 l[i].e1)) rfl
 rw[rd_v a3] at a1
 rw[rd_v b3] at b1
 exact⟨a1,b1⟩
theorem pair_holds {S:Cells}{w:World}{g:Nat}{cur:Array Value}{l:List arr2_i64}{ty:TypeId}(hg:w.heap[g]? =some (.cells cur ty (0,0)))(h:∀(i:Nat)(x:arr2_i64),l[i]? =some x->∀(j:Nat)(c:D),(enc (.st .arr2_i64) x)[j]? =some c->∃u:Value,cur[i * 2+j]? =some u/\u.oneCell'=true/\Rd S w c u):HoldsK encQ 2 w g 0 l.toArray:=by
 intro t ht
 have ht:t<l.length * 2:=by simpa using ht
 refine⟨?_,by simp[World.frozen?,hg]⟩
 show w.cell? ⟨g,0+t,none⟩=some (flatK encQ 2 l.toArray)[t]!
 rw[get_flatK _ _ _ t (by simpa using ht),Nat.zero_add,cell_row hg]
 obtain⟨i,hi2⟩:∃i,t=i * 2\/t=i * 2+1:=⟨t/2,by omega⟩
 have hi:i<l.length:=by omega
 obtain⟨k1,k2⟩:=pair_row h hi
 have e1:(l.toArray)[i]! =l[i]:=by simp[hi]
 rcases hi2 with rfl|rfl
 ·rw[show i * 2/2=i by omega,show i * 2 % 2=0 by omega,e1];exact k1
 ·rw[show (i * 2+1)/2=i by omega,show (i * 2+1) % 2=1 by omega,e1];exact k2
theorem pair_back {S:Cells}{w:World}{cap:Nat}{cur:Array Value}{dd:Array arr2_i64}{l:List arr2_i64}(hcs:cur.size=cap * 2)(hd:dd.size<=cap)(hl:∀(i:Nat)(x:arr2_i64),l[i]? =some x->i<dd.size/\dd[i]! =x):
 ∀(i:Nat)(x:arr2_i64),l[i]? =some x->∀(j:Nat)(c:D),(enc (.st .arr2_i64) x)[j]? =some c->∃u:Value,(putCells id 0 (flatK encQ 2 dd) cur)[i * 2+j]? =some u/\u.oneCell'=true/\Rd S w c u:=by
 intro i x hx j c hc
 obtain⟨hi,hxe⟩:=hl i x hx
 have key:∀k,k<2->(putCells id 0 (flatK encQ 2 dd) cur)[i * 2+k]? =some (encQ x)[k]! :=by
  intro k hk
  have h1:i * 2+k<cur.size:=by omega
  have h2:i * 2+k<dd.size * 2:=by omega
  simp only[putCells,Array.getElem?_mapIdx,Array.getElem?_eq_getElem h1,Option.map_some,Nat.zero_le,true_and,Nat.zero_add,size_flatK,if_pos h2,Nat.sub_zero,id]
  rw[get_flatK _ _ _ _ h2,show (i * 2+k)/2=i by omega,show (i * 2+k) % 2=k by omega,hxe]
 match j,hc with
 |0,hc=>
  have hc:some (D.v (.int .i64 x.e0))=some c:=hc
  injection hc with hc
  subst hc
  exact⟨_,key 0 (by omega),rfl,.v _⟩
 |1,hc=>
  have hc:some (D.v (.int .i64 x.e1))=some c:=hc
  injection hc with hc
  subst hc
  exact⟨_,key 1 (by omega),rfl,.v _⟩
 |j+2,hc=>cases (show (none:Option D)=some c from hc)
namespace PL
def ltA (x y:arr2_i64):Prop:=x.e0<y.e0\/(x.e0=y.e0/\x.e1<y.e1)
end PL
theorem cmpQ_lt (x y:arr2_i64):cmpQ x y<0↔ltA x y:=by
 obtain⟨p1,p2⟩:=cmpI_lt x.e0 y.e0
 obtain⟨q1,q2⟩:=cmpI_lt x.e1 y.e1
 unfold cmpQ orI ltA
 by_cases h:Lib.compareInt x.e0 y.e0=0
 ·rw[if_neg (not_not_intro h)]
  have:=p2.1 h
  rw[q1]
  refine⟨λh=> .inr ⟨this,h⟩,λh=> ?_⟩
  rcases h with h|h
  ·omega
  ·exact h.2
 ·rw[if_pos h,p1]
  refine⟨.inl,λk=> ?_⟩
  rcases k with k|k
  ·exact k
  ·exact absurd (p2.2 k.1) h
theorem ltQ (x y:arr2_i64):ltOf cmpQ x y=true↔ltA x y:=by
 unfold ltOf
 rw[decide_eq_true_iff]
 exact cmpQ_lt x y
theorem swoQ:SWO (ltOf cmpQ) where
 irrefl x:=by
  cases h:ltOf cmpQ x x
  ·rfl
  ·have:=(ltQ x x).1 h
   unfold ltA at this
   omega
 trans x y z h1 h2:=by
  rw[ltQ] at *
  unfold ltA at *
  omega
 ntrans x y z h1 h2:=by
  cases h:ltOf cmpQ x z
  ·rfl
  ·have h:=(ltQ x z).1 h
   have h1:¬ltA x y:=λk=>by rw[(ltQ x y).2 k] at h1;cases h1
   have h2:¬ltA y z:=λk=>by rw[(ltQ y z).2 k] at h2;cases h2
   unfold ltA at *
   omega
theorem cmpLaysA {w:World}(g size:Nat):CmpLays Tryz.prog 128 #[] encQ 2 cmpQ g 0 size w:=by
 intro m os dk hdk x y
 refine (cmpB_any cmpOK x y (sortWorldK encQ 2 w g 0 m dk os)).mono ?_
 rintro e w' ⟨rfl,hA⟩
 exact⟨rfl,hA.grow⟩
def psortA_sp:Spec3:=⟨127,.st .arr2_i64,some 128,λ(l:List arr2_i64) post=>l.length<=1000000/\∀l2,l2.Perm l->l2.Pairwise (λa b=>¬ltA b a)->post l2⟩
theorem psortA_row (l:List arr2_i64)(post:List arr2_i64->Prop)(hp:l.length<=1000000/\∀l2,l2.Perm l->l2.Pairwise (λa b=>¬ltA b a)->post l2)(w:World)(S:Cells)(v:Value)(F:Nat->Prop)(e:TypeId)(hrow:RowAt w S v F e (.st .arr2_i64) l)(hS:∀b o,S b o->b<w.heap.size)(hF:∀b,F b->b<w.heap.size/\∀k,¬S b k):
 Calls Tryz.prog 127 #[v,.func (.func 128) #[] #[]] w λe' w'=>∃r,∃l':List arr2_i64,e'= .returned r/\post l'/\RowAt w' S v F e (.st .arr2_i64) l'/\w'.os=w.os/\w'.tape=w.tape/\w'.output=w.output/\w.heap.size<=w'.heap.size/\∀b,b<w.heap.size->¬F b->w'.heap[b]? =w.heap[b]? :=by
 obtain⟨hlen,hp⟩:=hp
 obtain⟨h0,⟨rfl,⟨ad,rfl⟩,hn⟩|⟨g,cap,cur,rfl,hFg,hg,hnl,hcm,hcs,hrr⟩⟩:=hrow
 ·refine (AnyF.slices_SortFunc_none Tryz.sortAp ad 0 _ w).mono ?_
  rintro e' w' ⟨rfl,rfl⟩
  exact⟨_,[],rfl,hp [] (List.Perm.refl _) List.Pairwise.nil,⟨h0,.inl ⟨rfl,⟨ad,rfl⟩,hn⟩⟩,rfl,rfl,rfl,Nat.le_refl _,λ_ _ _=>rfl⟩
 have hgl:=(Array.getElem?_eq_some_iff.1 hg).1
 have hnl:List.length (l:List arr2_i64)<=cap:=hnl
 have hcs:cur.size=cap * 2:=hcs
 have hH:HoldsK encQ 2 w g 0 l.toArray:=pair_holds hg hrr
 have eg:∀args w,(callFunc 128 args).run Tryz.prog w= .ok (.enter 128 args) w:=enters_of Tryz.func128 (by kernel_rfl) rfl
 have hone:∀(x:arr2_i64),∀v∈encQ x,v.oneCell'=true:=λx v hv=>by
  unfold encQ at hv
  rcases List.mem_cons.1 hv with rfl|hv
  ·rfl
  ·rw[List.mem_singleton] at hv;subst hv;rfl
 have hsz:l.toArray.size=l.length:=by simp
 have hcall:=AnyQ.slices_SortFunc Tryz.sortAp 2 Tryz.isAgg59 Tryz.sizeOf59 encQ (λ_=>rfl) hone cmpQ swoQ 128 #[] g 0 cap l.toArray w eg (cmpLaysA g _) hH hgl (by rw[hsz];omega)
 rw[hsz] at hcall
 refine hcall.mono ?_
 rintro e' w' ⟨rfl,d,n,os,⟨q1,q2,q3⟩,q4,rfl⟩
 have hdsz:d.size=l.length:=by rw[q1];exact hsz
 have hG:=grownBy_sortedV (w:=w) (n:=n) (g:=g) (os:=os) (flatK encQ 2 d)
 have hHp:=heap_sortedV (n:=n) (os:=os) (flatK encQ 2 d) hg
 have hlen2:List.length d.toList=l.length:=by rw[Array.length_toList];exact hdsz
 refine⟨_,d.toList,rfl,hp _ ?_ ?_,⟨h0,.inr ⟨g,cap,_,?_,hFg,hHp,Nat.le_trans (Nat.le_of_eq hlen2) hnl,hcm,by simp[putCells,hcs];rfl,pair_back hcs (by omega) λi x hx=> ?_⟩⟩,hG.os,hG.tape,hG.output,hG.size,λb hb hnF=>hG.block b hb λe=>hnF ((hFg b).2 (Option.some.inj e))⟩
 ·have e1:d.extract 0 l.length=d:=by rw[<-hdsz];simp
  have e2:l.toArray.extract 0 l.length=l.toArray:=by rw[<-hsz];simp
  rw[e1,e2] at q3
  simpa using q3
 ·rw[List.pairwise_iff_getElem]
  intro i j hi hj hij hlt
  have hi':i<d.size:=by simpa using hi
  have hj':j<d.size:=by simpa using hj
  have:=q4 i j (Nat.zero_le _) hij (by rw[<-hdsz];exact hj')
  rw[getElem!_pos d i hi',getElem!_pos d j hj'] at this
  have h2:=(ltQ d[j] d[i]).2 (by simpa using hlt)
  rw[h2] at this;cases this
 ·show Value.slice (some ⟨g,0,none⟩) l.length cap=Value.slice (some ⟨g,0,none⟩) (List.length d.toList) cap
  rw[hlen2]
 ·rw[Array.getElem?_toList] at hx
  have hi:i<d.size:=(Array.getElem?_eq_some_iff.1 hx).1
  exact⟨hi,by rw[getElem!_pos d i hi];exact (Array.getElem?_eq_some_iff.1 hx).2⟩
theorem psortA_ok:Spec3OK Tryz.prog psortA_sp:=λl post hp w S v F e hrow hS hF=>psortA_row l post hp w S v F e hrow hS hF
set_option maxHeartbeats 1000000 in
theorem compact2_empty (a:Option Addr)(cap:Nat)(w:World):Calls Tryz.prog 130 #[.slice a 0 cap] w λe w'=>e= .returned (.slice a 0 cap)/\w'=w:=by
 go_enter Tryz.func130,Tryz.ntmps130
 go_wp2
 go_ret
 exact⟨rfl,rfl⟩
namespace PL
def compA (l:List arr2_i64):List arr2_i64:=Lib.compact l
end PL
def pcompA_sp:Spec2:=⟨130,[.own 59 (.st .arr2_i64)],.own 59 (.st .arr2_i64),λx post=>(λ(l:List arr2_i64) (post:List arr2_i64->Prop)=>l.length<=1000000/\post (compA l)) (x.1:List arr2_i64) λy=>post (y,())⟩
theorem pcompA_row:∀(l:List arr2_i64)(post:List arr2_i64->Prop),(l.length<=1000000/\post (Lib.compact l))->∀(w:World)(S:Cells)(v:Value)(F:Nat->Prop),RowAt w S v F 59 (.st .arr2_i64) l->(∀b o,S b o->b<w.heap.size)->(∀b,F b->b<w.heap.size/\∀k,¬S b k)->
 Calls Tryz.prog 130 #[v] w λe' w'=>∃(r:Value)(l':List arr2_i64),e'= .returned r/\post l'/\RowAt w' S r F 59 (.st .arr2_i64) l'/\w'.os=w.os/\w'.tape=w.tape/\w'.output=w.output/\w.heap.size<=w'.heap.size/\∀b,b<w.heap.size->¬F b->w'.heap[b]? =w.heap[b]? :=by
 intro l post ⟨hlen,hp⟩ w S v F hrow hS hF
 obtain⟨h0,⟨rfl,⟨ad,rfl⟩,hn⟩|⟨g,cap,cur,rfl,hFg,hg,hnl,hcm,hcs,hrr⟩⟩:=hrow
 ·refine (compact2_empty ad 0 w).mono ?_
  rintro e' w' ⟨rfl,rfl⟩
  exact⟨_,[],rfl,hp,⟨h0,.inl ⟨rfl,⟨ad,rfl⟩,hn⟩⟩,rfl,rfl,rfl,Nat.le_refl _,λ_ _ _=>rfl⟩
 ·have hnl:List.length (l:List arr2_i64)<=cap:=hnl
  have hlen:List.length (l:List arr2_i64)<=1000000:=hlen
  have hcs:cur.size=cap * 2:=hcs
  have hcl:(Lib.compact l).length<=List.length l:=Go.Lib.compact_length_le l
  have hcall:=compact2_arr g 0 cap l.toArray w (pair_holds hg hrr) (by simp;omega) (by simpa using hnl)
  have e1:compactUpTo l.toArray l.toArray.size=Lib.compact l:=by unfold Lib.compact;simp
  rw[e1] at hcall
  rw[show l.toArray.size=List.length l by simp] at hcall
  refine hcall.mono ?_
  rintro e' w' ⟨rfl,n,rfl⟩
  generalize hd:(Lib.compact l++List.replicate (List.length l-(Lib.compact l).length) (⟨0,0⟩:arr2_i64)).toArray=d
  have hG:=grownBy_sortedV (w:=w) (n:=n) (g:=g) (os:= #[]) (flatK encQ 2 d)
  have hHp:=heap_sortedV (n:=n) (os:= #[]) (flatK encQ 2 d) hg
  rw[grow_empty] at hG hHp
  have hds:d.size=List.length l:=by rw[<-hd];simp;omega
  refine⟨_,Lib.compact l,rfl,hp,⟨h0,.inr ⟨g,cap,_,rfl,hFg,hHp,Nat.le_trans hcl hnl,hcm,by simp[putCells,hcs];rfl,pair_back hcs (by omega) λi x hx=> ?_⟩⟩,hG.os,hG.tape,hG.output,hG.size,λb hb hnF=>hG.block b hb λe=>hnF ((hFg b).2 (Option.some.inj e))⟩
  have hi:i<(Lib.compact l).length:=(List.getElem?_eq_some_iff.1 hx).1
  refine⟨by omega,?_⟩
  have h2:(Lib.compact l)[i]=x:=(List.getElem?_eq_some_iff.1 hx).2
  rw[<-h2,<-hd]
  simp[List.getElem?_append_left hi,List.getElem?_eq_getElem hi]
theorem pcompA_ok:Spec2OK Tryz.prog pcompA_sp:=Spec2OK.of_row (t:= .st .arr2_i64) rfl pcompA_row
theorem compactA_up {d:Array arr2_i64}(h:∀j k,j<=k->k<d.size->¬ltA d[k]! d[j]!):∀m,m<=d.size->(Lib.compactUpTo d m).Pairwise ltA/\∀x,x∈Lib.compactUpTo d m↔∃j,j<m/\d[j]! =x
 |0,_=>⟨by simp[Lib.compactUpTo],λx=>by simp[Lib.compactUpTo]⟩
 |m+1,hm=>by
  obtain⟨h1,h2⟩:=compactA_up h m (by omega)
  rw[Lib.compactUpTo_succ]
  cases hk:Lib.keeps d m with
  |false=>
   rw[if_neg (by decide),List.append_nil]
   refine⟨h1,λx=>(h2 x).trans ⟨λ⟨j,a,b⟩=>⟨j,by omega,b⟩,λ⟨j,a,b⟩=> ?_⟩⟩
   by_cases e:j=m
   ·subst e
    unfold Lib.keeps at hk
    simp only[decide_eq_false_iff_not,not_or,Classical.not_not] at hk
    exact⟨j-1,by omega,by rw[<-hk.2];exact b⟩
   ·exact⟨j,by omega,b⟩
  |true=>
   rw[if_pos rfl]
   refine⟨List.pairwise_append.2 ⟨h1,List.pairwise_singleton _ _,λx hx y hy=> ?_⟩,λx=> ?_⟩
   ·rw[List.mem_singleton] at hy
    subst hy
    obtain⟨j,hj,rfl⟩:=(h2 x).1 hx
    unfold Lib.keeps at hk
    simp only[decide_eq_true_iff] at hk
    have hne:d[m]!≠d[m-1]! :=by rcases hk with hk|hk
                                ·omega
                                ·exact hk
    have a1:=h j (m-1) (by omega) (by omega)
    have a2:=h (m-1) m (by omega) (by omega)
    have hne2:¬(d[m]!.e0=d[m-1]!.e0/\d[m]!.e1=d[m-1]!.e1):=λe=>hne (by
     cases e1:d[m]! with|mk a b=>cases e2:d[m-1]! with|mk c f=>rw[e1,e2] at e;simp at e;rw[e.1,e.2])
    unfold ltA at *
    omega
   ·rw[List.mem_append,List.mem_singleton,h2]
    constructor
    ·rintro (⟨j,a,b⟩|rfl)
     ·exact⟨j,by omega,b⟩
     ·exact⟨m,by omega,rfl⟩
    ·rintro ⟨j,a,b⟩
     by_cases e:j=m
     ·subst e;exact .inr b.symm
     ·exact .inl ⟨j,by omega,b⟩
theorem compactA_sorted {l:List arr2_i64}(h:l.Pairwise (λa b=>¬ltA b a)):(Lib.compact l).Pairwise ltA/\∀x,x∈Lib.compact l↔x∈l:=by
 have hd:∀j k,j<=k->k<l.toArray.size->¬ltA l.toArray[k]! l.toArray[j]! :=by
  intro j k hjk hk
  have hk':k<l.length:=by simpa using hk
  rw[getElem!_pos l.toArray k hk,getElem!_pos l.toArray j (by omega)]
  rcases Nat.lt_or_ge j k with hlt|hge
  ·have:=(List.pairwise_iff_getElem.1 h) j k (by omega) hk' hlt
   simpa using this
  ·have:j=k:=by omega
   subst this
   unfold ltA;omega
 obtain⟨h1,h2⟩:=compactA_up hd l.length (by simp)
 refine⟨h1,λx=>(h2 x).trans ⟨?_,?_⟩⟩
 ·rintro ⟨j,hj,rfl⟩
  rw[getElem!_pos l.toArray j (by simpa using hj)]
  simp
 ·intro hx
  obtain⟨j,hj,rfl⟩:=List.getElem_of_mem hx
  exact⟨j,hj,by rw[getElem!_pos l.toArray j (by simpa using hj)];simp⟩
end RE
end Go.Proofs.YtpeggkeenboacaaGreat
set_option linter.unusedVariables false
namespace Go.Proofs.YtpeggkeenboacaaGreat
open Go.RowKit
namespace RE
open PL
namespace PL
end PL
def rversE_P (a:api_Version)(b:api_Version)(post:Bool->Prop):Prop:=(a.2.length<=1000000000/\∀x∈a.2,x.2.1.length<=1000000000)/\∀q:Bool,(q=true↔a=b)->post q
def rversE_sp:Spec:=⟨126,false,false,[.st .api_Version,.st .api_Version],.dat (.bool),λx post=>rversE_P (x.1:api_Version) (x.2.1:api_Version) (λy0=>post (y0,()))⟩
def rversE_C:CtxR:=⟨tau,[rule1 rsame_sp],lookJ [(1032,0,⟨[(0,.dat .bool)],[],[],[],[]⟩),(1032,9,⟨[(13,.dat (.int .i64))],[],[14,15,5,16,17,18,19,20,21,22,23,24,25,26,27,39,40,52,53,66,28,29,30,31,32,33,34,35,36,37,38,41,42,43,44,45,46,47,48,49,50,51,54,55,56,57,58,59,60,61,62,63,64,65,67],[],[]⟩)]⟩
abbrev rversE_a0 (a:api_Version)(z6:Int)(b:api_Version):=(!decide ((ix a.2 z6).1=(ix b.2 z6).1)|| !decide ((ix a.2 z6).3=(ix b.2 z6).3)|| !decide ((ix a.2 z6).4=(ix b.2 z6).4))
def rversE_W (a:api_Version)(b:api_Version)(post:Bool->Prop):Prop:=JOIN [Ty.bool] (λ(y1:Bool)=>post (decide (a.1=b.1)&&y1)) λ(J2:Bool->Prop)=>IFB (gx true (decide (a.1=b.1))) (JOIN [Ty.bool] (λ(y3:Bool)=>J2 y3) λ(J4:Bool->Prop)=>(↑a.2.length:Int)<=9223372036854775807->(↑b.2.length:Int)<=9223372036854775807->IFB (!decide ((↑a.2.length:Int)=(↑b.2.length:Int))) (J4 false) ((↑a.2.length:Int)<=9223372036854775807->LOOP [Ty.int IntKind.i64] (λ(rec5:Int->Prop) (z6:Int)=>IFB (decide (z6<(↑a.2.length:Int))) (((0:Int)<=z6/\z6<(↑a.2.length:Int))/\((0:Int)<=z6/\z6<(↑b.2.length:Int))/\((gx false !decide ((ix a.2 z6).1=(ix b.2 z6).1))=true->0<=z6/\z6<(↑a.2.length:Int))/\((gx false !decide ((ix a.2 z6).1=(ix b.2 z6).1))=true->0<=z6/\z6<(↑b.2.length:Int))/\(gx false (!decide ((ix a.2 z6).1=(ix b.2 z6).1)|| !decide ((ix a.2 z6).3=(ix b.2 z6).3))=true->0<=z6/\z6<(↑a.2.length:Int))/\(gx false (!decide ((ix a.2 z6).1=(ix b.2 z6).1)|| !decide ((ix a.2 z6).3=(ix b.2 z6).3))=true->0<=z6/\z6<(↑b.2.length:Int))/\(gx false (rversE_a0 a z6 b)=true->0<=z6/\z6<(↑a.2.length:Int))/\(gx false (rversE_a0 a z6 b)=true->0<=z6/\z6<(↑b.2.length:Int))/\JOIN [Ty.bool] (λ(y7:Bool)=>IFB (!decide ((ix a.2 z6).1=(ix b.2 z6).1)|| !decide ((ix a.2 z6).3=(ix b.2 z6).3)|| !decide ((ix a.2 z6).4=(ix b.2 z6).4)|| !y7) (J4 false) (rec5 (IntKind.i64.wrap (z6+1)))) λ(J8:Bool->Prop)=>IFB (gx false (rversE_a0 a z6 b)) ((ix a.2 z6).2.1.length<=1000000000/\∀(v9:Bool),(v9=true↔{Rects:=(ix a.2 z6).2.1:api_Region}={Rects:=(ix b.2 z6).2.1:api_Region})->J8 v9) (J8 false)) (J4 true)) ((0:Int),PUnit.unit))) (J2 false)
theorem rversE_w (a:api_Version)(b:api_Version)(post:dens (shT rversE_sp.rs [])->Prop):rversE_W a b (λy0=>post (y0,()))=walkG (callR Tryz.prog rversE_C (drawR Tryz.prog tau) 8 0) 126 false [tv (.st .api_Version) a,tv (.st .api_Version) b] rversE_sp.rs post:=by kernel_rfl
theorem rversE_of (h:∀(a:api_Version)(b:api_Version)(post:Bool->Prop),rversE_P a b post->rversE_W a b post):SpecOK Tryz.prog rversE_sp:=SpecOK.of_rules (C:=rversE_C) (dr:=drawR Tryz.prog tau) (n:=8) (fk:=0) (.cons (rule1_ok rsame_ok) .nil) (drawR_ok tau) λx post hp=>HoldW.of (rversE_w x.1 x.2.1 post) (h x.1 x.2.1 (λy0=>post (y0,())) hp)
theorem line_eq {x y:api_Line}:x=y↔x.1=y.1/\x.3=y.3/\x.4=y.4/\x.2=y.2:=by
 constructor
 ·rintro rfl;exact⟨rfl,rfl,rfl,rfl⟩
 ·obtain⟨a,b,c,d⟩:=x
  obtain⟨a',b',c',d'⟩:=y
  rintro ⟨h1,h2,h3,h4⟩
  cases h1;cases h2;cases h3;cases h4;rfl
theorem vers_eq {a b:api_Version}:a=b↔a.1=b.1/\a.2=b.2:=by
 constructor
 ·rintro rfl;exact⟨rfl,rfl⟩
 ·obtain⟨a,b⟩:=a
  rintro ⟨h1,h2⟩
  cases h1;cases h2;rfl
theorem rversE_ok:SpecOK Tryz.prog rversE_sp:=rversE_of λa b post hp=>by
 obtain⟨⟨h1,h2⟩,hp⟩:=hp
 unfold rversE_W rversE_a0
 refine JOIN.opq λ(J:Bool->Prop) hJ=> ?_
 have hJ2:∀y:Bool,(a.1=b.1->(y=true↔a.2=b.2))->J y:=λy hy=>by
  rw[hJ]
  refine hp _ ?_
  rw[Bool.and_eq_true,decide_eq_true_iff,vers_eq]
  exact⟨λh=>⟨h.1,(hy h.1).1 h.2⟩,λh=>⟨h.1,(hy h.1).2 h.2⟩⟩
 refine IFB.mk (λhb=> ?_) (λhb=>hJ2 false λh=>by rw[gx_t,decide_eq_false_iff_not] at hb;exact absurd h hb)
 refine JOIN.opq λ(K:Bool->Prop) hK=>λhl1 hl2=> ?_
 have hK2:∀y:Bool,(y=true↔a.2=b.2)->K y:=λy hy=>by
  rw[hK]
  exact hJ2 y λ_=>hy
 refine IFB.mk (λhn=>hK2 false ?_) (λhn _=> ?_)
 ·have hn:(a.2.length:Int)≠(b.2.length:Int):=by simpa using hn
  exact⟨λh=>(by cases h),λh=>(by rw[h] at hn;exact absurd rfl hn)⟩
 have hn:(a.2.length:Int)=(b.2.length:Int):=by simpa using hn
 have hn2:a.2.length=b.2.length:=by omega
 refine loopCmp (n:=a.2.length) h1 (p:=λi=>ix a.2 (i:Int)=ix b.2 (i:Int)) (λrec k hk hpre hrec=> ?_) λhall=>hK2 true ⟨λ_=>(list_eq_iff hn2).2 hall,λ_=>rfl⟩
 have A:(0:Int)<=(k:Int)/\(k:Int)<(a.2.length:Int):=by omega
 have B:(0:Int)<=(k:Int)/\(k:Int)<(b.2.length:Int):=by omega
 refine⟨A,B,λ_=>A,λ_=>B,λ_=>A,λ_=>B,λ_=>A,λ_=>B,JOIN.opq λ(M:Bool->Prop) hM=> ?_⟩
 have bad:ix a.2 (k:Int)≠ix b.2 (k:Int)->K false:=λh=>hK2 false ⟨λh=>(by cases h),λe=>absurd (by rw[e]) h⟩
 have hM2:∀y:Bool,((ix a.2 (k:Int)).1=(ix b.2 (k:Int)).1->(ix a.2 (k:Int)).3=(ix b.2 (k:Int)).3->(ix a.2 (k:Int)).4=(ix b.2 (k:Int)).4->(y=true↔(ix a.2 (k:Int)).2=(ix b.2 (k:Int)).2))->M y:=λy hy=>by
  rw[hM]
  dsimp only
  refine IFB.mk (λhc=>bad λe=> ?_) (λhc=>hrec ?_)
  ·obtain⟨e1,e2,e3,e4⟩:=line_eq.1 e
   have:=(hy e1 e2 e3).2 e4
   simp[e1,e2,e3,this] at hc
  ·simp only[Bool.or_eq_false_iff,Bool.not_eq_false',decide_eq_true_iff] at hc
   obtain⟨⟨⟨e1,e2⟩,e3⟩,e4⟩:=hc
   exact line_eq.2 ⟨e1,e2,e3,(hy e1 e2 e3).1 e4⟩
 refine IFB.mk (λhc=>⟨h2 _ (ix_mem A.1 A.2),λv9 h9=>hM2 v9 λ_ _ _=>h9⟩) (λhc=>hM2 false λe1 e2 e3=> ?_)
 exfalso
 simp[gx,e1,e2,e3] at hc
def rallE_P (a:List (api_Version))(b:List (api_Version))(post:Bool->Prop):Prop:=(a.length<=1000000000/\∀v∈a,v.2.length<=1000000000/\∀x∈v.2,x.2.1.length<=1000000000)/\∀q:Bool,(q=true↔a=b)->post q
def rallE_sp:Spec:=⟨58,false,false,[.sl (.st .api_Version),.sl (.st .api_Version)],.dat (.bool),λx post=>rallE_P (x.1:List (api_Version)) (x.2.1:List (api_Version)) (λy0=>post (y0,()))⟩
def rallE_C:CtxR:=⟨tau,[rule1 rversE_sp],lookJ [(0,9,⟨[(13,.dat (.int .i64))],[],[14,15,5,16,17,18,19,20,21,22,23,24,25,26],[],[]⟩)]⟩
def rallE_W (a:List (api_Version))(b:List (api_Version))(post:Bool->Prop):Prop:=(↑a.length:Int)<=9223372036854775807->(↑b.length:Int)<=9223372036854775807->IFB (!decide ((↑a.length:Int)=(↑b.length:Int))) (post false) ((↑a.length:Int)<=9223372036854775807->LOOP [Ty.int IntKind.i64] (λ(rec1:Int->Prop) (z2:Int)=>IFB (decide (z2<(↑a.length:Int))) (((0:Int)<=z2/\z2<(↑a.length:Int))/\((0:Int)<=z2/\z2<(↑b.length:Int))/\((ix a z2).2.length<=1000000000/\∀(v3:api_Line),v3∈(ix a z2).2->v3.2.1.length<=1000000000)/\∀(v4:Bool),(v4=true↔{Day:=(ix a z2).1,Lines:=(ix a z2).2:api_Version}={Day:=(ix b z2).1,Lines:=(ix b z2).2:api_Version})->IFB (!v4) (post false) (rec1 (IntKind.i64.wrap (z2+1)))) (post true)) ((0:Int),PUnit.unit))
theorem rallE_w (a:List (api_Version))(b:List (api_Version))(post:dens (shT rallE_sp.rs [])->Prop):rallE_W a b (λy0=>post (y0,()))=walkG (callR Tryz.prog rallE_C (drawR Tryz.prog tau) 8 0) 58 false [tv (.sl (.st .api_Version)) a,tv (.sl (.st .api_Version)) b] rallE_sp.rs post:=by kernel_rfl
theorem rallE_of (h:∀(a:List (api_Version))(b:List (api_Version))(post:Bool->Prop),rallE_P a b post->rallE_W a b post):SpecOK Tryz.prog rallE_sp:=SpecOK.of_rules (C:=rallE_C) (dr:=drawR Tryz.prog tau) (n:=8) (fk:=0) (.cons (rule1_ok rversE_ok) .nil) (drawR_ok tau) λx post hp=>HoldW.of (rallE_w x.1 x.2.1 post) (h x.1 x.2.1 (λy0=>post (y0,())) hp)
theorem rallE_ok:SpecOK Tryz.prog rallE_sp:=rallE_of λa b post hp=>by
 obtain⟨⟨h1,h2⟩,hp⟩:=hp
 unfold rallE_W
 refine λ_ _=>IFB.mk (λhn=>hp false ?_) (λhn _=> ?_)
 ·have hn:(a.length:Int)≠(b.length:Int):=by simpa using hn
  exact⟨λh=>(by cases h),λh=>(by rw[h] at hn;exact absurd rfl hn)⟩
 have hn:(a.length:Int)=(b.length:Int):=by simpa using hn
 have hn2:a.length=b.length:=by omega
 refine loopCmp (n:=a.length) h1 (p:=λi=>ix a (i:Int)=ix b (i:Int)) (λrec k hk hpre hrec=> ?_) λhall=>hp true ⟨λ_=>(list_eq_iff hn2).2 hall,λ_=>rfl⟩
 have A:(0:Int)<=(k:Int)/\(k:Int)<(a.length:Int):=by omega
 have B:(0:Int)<=(k:Int)/\(k:Int)<(b.length:Int):=by omega
 refine⟨A,B,h2 _ (ix_mem A.1 A.2),λv4 h4=>IFB.mk (λhc=>hp false ⟨λh=>(by cases h),λe=> ?_⟩) (λhc=>hrec ?_)⟩
 ·have:=h4.2 (by rw[e])
  rw[this] at hc;cases hc
 ·exact h4.1 (by cases v4<;>simp_all)
def rdsame_P (a:List (api_Double))(b:List (api_Double))(post:Bool->Prop):Prop:=(a.length<=1000000000/\∀d∈a,d.1.1.length<=1000000000/\d.2.length<=1000000000)/\∀q:Bool,(q=true↔a=b)->post q
def rdsame_sp:Spec:=⟨57,false,false,[.sl (.st .api_Double),.sl (.st .api_Double)],.dat (.bool),λx post=>rdsame_P (x.1:List (api_Double)) (x.2.1:List (api_Double)) (λy0=>post (y0,()))⟩
def rdsame_C:CtxR:=⟨tau,[rule1 rsame_sp],lookJ [(0,9,⟨[(14,.dat (.int .i64))],[],[15,16,5,17,18,19,20,21,22,23,24,25,26,27,28,29,43,30,31,32,33,34,35,36,37,38,39,40,41,42,44,45,46,47,48,49,70,69,68,67,66,65,64,63,62,61,60,59,58,57,56,55,54,53,6,52,50,51,71],[],[]⟩),(0,19,⟨[(50,.dat (.int .i64))],[],[51,52,6,53,54,55,56,57,58,59,60,61,62,63,64,65,66,67,68,69,70],[],[]⟩)]⟩
abbrev rdsame_a0 (v3:Bool)(a:List (api_Double))(z2:Int):=((gx false !v3)=true->(↑(ix a z2).2.length:Int)<=(9223372036854775807:Int))
abbrev rdsame_a1 (v3:Bool)(b:List (api_Double))(z2:Int):=((gx false !v3)=true->(↑(ix b z2).2.length:Int)<=(9223372036854775807:Int))
abbrev rdsame_a2 (v3:Bool)(a:List (api_Double))(z2:Int)(b:List (api_Double)):=(!v3|| !decide ((↑(ix a z2).2.length:Int)=(↑(ix b z2).2.length:Int)))
def rdsame_W (a:List (api_Double))(b:List (api_Double))(post:Bool->Prop):Prop:=(↑a.length:Int)<=9223372036854775807->(↑b.length:Int)<=9223372036854775807->IFB (!decide ((↑a.length:Int)=(↑b.length:Int))) (post false) ((↑a.length:Int)<=9223372036854775807->LOOP [Ty.int IntKind.i64] (λ(rec1:Int->Prop) (z2:Int)=>IFB (decide (z2<(↑a.length:Int))) (((0:Int)<=z2/\z2<(↑a.length:Int))/\((0:Int)<=z2/\z2<(↑b.length:Int))/\(ix a z2).1.1.length<=1000000000/\∀(v3:Bool),(v3=true↔{Rects:=(ix a z2).1.1:api_Region}={Rects:=(ix b z2).1.1:api_Region})->((gx false !v3)=true->0<=z2/\z2<(↑a.length:Int))/\((gx false !v3)=true->0<=z2/\z2<(↑b.length:Int))/\(((rdsame_a0 v3 a z2)->(rdsame_a1 v3 b z2)->IFB (rdsame_a2 v3 a z2 b) (post false) (((0:Int)<=z2/\z2<(↑a.length:Int))/\((↑(ix a z2).2.length:Int)<=9223372036854775807->LOOP [Ty.int IntKind.i64] (λ(rec4:Int->Prop) (z5:Int)=>IFB (decide (z5<(↑(ix a z2).2.length:Int))) (((0:Int)<=z2/\z2<(↑a.length:Int))/\((0:Int)<=z5/\z5<(↑(ix a z2).2.length:Int))/\((0:Int)<=z2/\z2<(↑b.length:Int))/\((0:Int)<=z5/\z5<(↑(ix b z2).2.length:Int))/\IFB (!(decide ((ix (ix a z2).2 z5).1=(ix (ix b z2).2 z5).1)&&(decide ((ix (ix a z2).2 z5).2=(ix (ix b z2).2 z5).2)&&true))) (post false) (rec4 (IntKind.i64.wrap (z5+1)))) (rec1 (IntKind.i64.wrap (z2+1)))) ((0:Int),PUnit.unit))))/\((rdsame_a0 v3 a z2)->(rdsame_a1 v3 b z2)->IFB (rdsame_a2 v3 a z2 b) (post false) (((0:Int)<=z2/\z2<(↑a.length:Int))/\((↑(ix a z2).2.length:Int)<=9223372036854775807->LOOP [Ty.int IntKind.i64] (λ(rec6:Int->Prop) (z7:Int)=>IFB (decide (z7<(↑(ix a z2).2.length:Int))) (((0:Int)<=z2/\z2<(↑a.length:Int))/\((0:Int)<=z7/\z7<(↑(ix a z2).2.length:Int))/\((0:Int)<=z2/\z2<(↑b.length:Int))/\((0:Int)<=z7/\z7<(↑(ix b z2).2.length:Int))/\IFB (!(decide ((ix (ix a z2).2 z7).1=(ix (ix b z2).2 z7).1)&&(decide ((ix (ix a z2).2 z7).2=(ix (ix b z2).2 z7).2)&&true))) (post false) (rec6 (IntKind.i64.wrap (z7+1)))) (rec1 (IntKind.i64.wrap (z2+1)))) ((0:Int),PUnit.unit))))/\((rdsame_a1 v3 b z2)->(rdsame_a0 v3 a z2)->IFB (rdsame_a2 v3 a z2 b) (post false) (((0:Int)<=z2/\z2<(↑a.length:Int))/\((↑(ix a z2).2.length:Int)<=9223372036854775807->LOOP [Ty.int IntKind.i64] (λ(rec8:Int->Prop) (z9:Int)=>IFB (decide (z9<(↑(ix a z2).2.length:Int))) (((0:Int)<=z2/\z2<(↑a.length:Int))/\((0:Int)<=z9/\z9<(↑(ix a z2).2.length:Int))/\((0:Int)<=z2/\z2<(↑b.length:Int))/\((0:Int)<=z9/\z9<(↑(ix b z2).2.length:Int))/\IFB (!(decide ((ix (ix a z2).2 z9).1=(ix (ix b z2).2 z9).1)&&(decide ((ix (ix a z2).2 z9).2=(ix (ix b z2).2 z9).2)&&true))) (post false) (rec8 (IntKind.i64.wrap (z9+1)))) (rec1 (IntKind.i64.wrap (z2+1)))) ((0:Int),PUnit.unit)))))/\(((rdsame_a0 v3 a z2)->(rdsame_a1 v3 b z2)->IFB (rdsame_a2 v3 a z2 b) (post false) (((0:Int)<=z2/\z2<(↑a.length:Int))/\((↑(ix a z2).2.length:Int)<=9223372036854775807->LOOP [Ty.int IntKind.i64] (λ(rec10:Int->Prop) (z11:Int)=>IFB (decide (z11<(↑(ix a z2).2.length:Int))) (((0:Int)<=z2/\z2<(↑a.length:Int))/\((0:Int)<=z11/\z11<(↑(ix a z2).2.length:Int))/\((0:Int)<=z2/\z2<(↑b.length:Int))/\((0:Int)<=z11/\z11<(↑(ix b z2).2.length:Int))/\IFB (!(decide ((ix (ix a z2).2 z11).1=(ix (ix b z2).2 z11).1)&&(decide ((ix (ix a z2).2 z11).2=(ix (ix b z2).2 z11).2)&&true))) (post false) (rec10 (IntKind.i64.wrap (z11+1)))) (rec1 (IntKind.i64.wrap (z2+1)))) ((0:Int),PUnit.unit))))/\((rdsame_a1 v3 b z2)->(rdsame_a0 v3 a z2)->IFB (rdsame_a2 v3 a z2 b) (post false) (((0:Int)<=z2/\z2<(↑a.length:Int))/\((↑(ix a z2).2.length:Int)<=9223372036854775807->LOOP [Ty.int IntKind.i64] (λ(rec12:Int->Prop) (z13:Int)=>IFB (decide (z13<(↑(ix a z2).2.length:Int))) (((0:Int)<=z2/\z2<(↑a.length:Int))/\((0:Int)<=z13/\z13<(↑(ix a z2).2.length:Int))/\((0:Int)<=z2/\z2<(↑b.length:Int))/\((0:Int)<=z13/\z13<(↑(ix b z2).2.length:Int))/\IFB (!(decide ((ix (ix a z2).2 z13).1=(ix (ix b z2).2 z13).1)&&(decide ((ix (ix a z2).2 z13).2=(ix (ix b z2).2 z13).2)&&true))) (post false) (rec12 (IntKind.i64.wrap (z13+1)))) (rec1 (IntKind.i64.wrap (z2+1)))) ((0:Int),PUnit.unit)))))/\((rdsame_a1 v3 b z2)->(rdsame_a0 v3 a z2)->IFB (rdsame_a2 v3 a z2 b) (post false) (((0:Int)<=z2/\z2<(↑a.length:Int))/\((↑(ix a z2).2.length:Int)<=9223372036854775807->LOOP [Ty.int IntKind.i64] (λ(rec14:Int->Prop) (z15:Int)=>IFB (decide (z15<(↑(ix a z2).2.length:Int))) (((0:Int)<=z2/\z2<(↑a.length:Int))/\((0:Int)<=z15/\z15<(↑(ix a z2).2.length:Int))/\((0:Int)<=z2/\z2<(↑b.length:Int))/\((0:Int)<=z15/\z15<(↑(ix b z2).2.length:Int))/\IFB (!(decide ((ix (ix a z2).2 z15).1=(ix (ix b z2).2 z15).1)&&(decide ((ix (ix a z2).2 z15).2=(ix (ix b z2).2 z15).2)&&true))) (post false) (rec14 (IntKind.i64.wrap (z15+1)))) (rec1 (IntKind.i64.wrap (z2+1)))) ((0:Int),PUnit.unit))))) (post true)) ((0:Int),PUnit.unit))
theorem rdsame_w (a:List (api_Double))(b:List (api_Double))(post:dens (shT rdsame_sp.rs [])->Prop):rdsame_W a b (λy0=>post (y0,()))=walkG (callR Tryz.prog rdsame_C (drawR Tryz.prog tau) 8 0) 57 false [tv (.sl (.st .api_Double)) a,tv (.sl (.st .api_Double)) b] rdsame_sp.rs post:=by kernel_rfl
theorem rdsame_of (h:∀(a:List (api_Double))(b:List (api_Double))(post:Bool->Prop),rdsame_P a b post->rdsame_W a b post):SpecOK Tryz.prog rdsame_sp:=SpecOK.of_rules (C:=rdsame_C) (dr:=drawR Tryz.prog tau) (n:=8) (fk:=0) (.cons (rule1_ok rsame_ok) .nil) (drawR_ok tau) λx post hp=>HoldW.of (rdsame_w x.1 x.2.1 post) (h x.1 x.2.1 (λy0=>post (y0,())) hp)
theorem dbl_eq {a b:api_Double}:a=b↔a.1=b.1/\a.2=b.2:=by
 constructor
 ·rintro rfl;exact⟨rfl,rfl⟩
 ·obtain⟨a,b⟩:=a
  rintro ⟨h1,h2⟩
  cases h1;cases h2;rfl
theorem rdsame_ok:SpecOK Tryz.prog rdsame_sp:=rdsame_of λa b post hp=>by
 obtain⟨⟨h1,h2⟩,hp⟩:=hp
 unfold rdsame_W rdsame_a2 rdsame_a1 rdsame_a0
 refine λ_ _=>IFB.mk (λhn=>hp false ?_) (λhn _=> ?_)
 ·have hn:(a.length:Int)≠(b.length:Int):=by simpa using hn
  exact⟨λh=>(by cases h),λh=>(by rw[h] at hn;exact absurd rfl hn)⟩
 have hn:(a.length:Int)=(b.length:Int):=by simpa using hn
 have hn2:a.length=b.length:=by omega
 refine loopCmp (n:=a.length) h1 (p:=λi=>ix a (i:Int)=ix b (i:Int)) (λrec k hk hpre hrec=> ?_) λhall=>hp true ⟨λ_=>(list_eq_iff hn2).2 hall,λ_=>rfl⟩
 have A:(0:Int)<=(k:Int)/\(k:Int)<(a.length:Int):=by omega
 have B:(0:Int)<=(k:Int)/\(k:Int)<(b.length:Int):=by omega
 have hd:=h2 _ (ix_mem A.1 A.2)
 have bad:ix a (k:Int)≠ix b (k:Int)->post false:=λh=>hp false ⟨λh=>(by cases h),λe=>absurd (by rw[e]) h⟩
 generalize hx:ix a (k:Int)=x at *
 generalize hy:ix b (k:Int)=y at *
 refine⟨A,B,hd.1,λv3 h3=> ?_⟩
 repeat' first
  |exact λ_=>A
  |exact λ_=>B
  |with_reducible apply And.intro
  |intro _
 all_goals
  refine IFB.mk (λhc=>bad λe=> ?_) (λhc=>⟨A,λ_=> ?_⟩)
  ·obtain⟨e1,e2⟩:=dbl_eq.1 e
   have:=h3.2 (by rw[e1])
   simp[this,e2] at hc
  ·simp only[Bool.or_eq_false_iff,Bool.not_eq_false',decide_eq_true_iff] at hc
   obtain⟨e1,e2⟩:=hc
   have e1:=h3.1 e1
   have hn3:x.2.length=y.2.length:=by omega
   refine loopCmp (n:=x.2.length) hd.2 (p:=λi=>ix x.2 (i:Int)=ix y.2 (i:Int)) (λrec2 j hj _ hrec2=>⟨A,by omega,B,by omega,IFB.mk (λhc=>bad λe=> ?_) (λhc=>hrec2 ?_)⟩) λhall=>hrec (dbl_eq.2 ⟨?_,(list_eq_iff hn3).2 hall⟩)
   ·rw[e] at hc;simp at hc
   ·simp only[Bool.not_eq_false',Bool.and_true,Bool.and_eq_true,decide_eq_true_iff] at hc
    exact place_ext hc.1 hc.2
   ·have e1:(⟨x.1.1⟩:api_Region)=⟨y.1.1⟩:=e1
    exact e1
end RE
end Go.Proofs.YtpeggkeenboacaaGreat
set_option linter.unusedVariables false
namespace Go.Proofs.YtpeggkeenboacaaGreat
open Go.RowKit
namespace RE
open PL
namespace PL
def rcA:Rc:=⟨0,0,2,1⟩
def rcB:Rc:=⟨1,0,3,1⟩
def rcC:Rc:=⟨1,0,2,1⟩
def rcD:Rc:=⟨0,0,1,1⟩
def lnOf (r:Rc):api_Version:=⟨0,[⟨0,⟨[r]⟩,0,0⟩]⟩
def exV:List api_Version:=[lnOf rcA,lnOf rcB]
def exW:List api_Version:=[lnOf rcD,lnOf rcB]
def exY:List api_Yield:=[⟨⟨0,0⟩,⟨[rcC]⟩⟩]
end PL
theorem cov_one (r:Rc)(x y:Int):cov [r] x y=true↔r.Left<=x/\x<r.Right/\r.Low<=y/\y<r.High:=by
 rw[cov_iff]
 constructor
 ·rintro ⟨q,hq,h⟩;rw[List.mem_singleton] at hq;subst hq;exact h
 ·intro h;exact⟨r,by simp,h⟩
theorem rcA_p:proper rcA:=by unfold proper rcA;decide
theorem rcB_p:proper rcB:=by unfold proper rcB;decide
theorem rcC_p:proper rcC:=by unfold proper rcC;decide
theorem rcD_p:proper rcD:=by unfold proper rcD;decide
theorem one_valid {r:Rc}(h:proper r):validP [r]:=⟨by simp,λq hq=>by rw[List.mem_singleton] at hq;subst hq;exact h,canon_one h⟩
theorem two_lin (a b:Rc):linV [lnOf a,lnOf b]=[⟨⟨0,0⟩,[a]⟩,⟨⟨1,0⟩,[b]⟩]:=rfl
theorem two_okS {a b:Rc}(ha:proper a)(hb:proper b)(ha2:a.Right<=30/\a.High<=10)(hb2:b.Right<=30/\b.High<=10):okS [lnOf a,lnOf b]:=by
 refine⟨⟨by show 2<=1000;omega,λv hv=> ?_⟩,λ_ x hx=> ?_⟩
 ·rcases List.mem_cons.1 hv with rfl|hv
  ·show 1<=1000;omega
  ·rw[List.mem_singleton] at hv;subst hv;show 1<=1000;omega
 ·rw[two_lin] at hx
  rcases List.mem_cons.1 hx with rfl|hx
  ·intro r hr
   have hr:r∈[a]:=hr
   rw[List.mem_singleton] at hr;subst hr
   obtain⟨h1,h2,h3,h4,h5,h6⟩:=ha
   exact⟨h1,h2,ha2.1,h4,h5,ha2.2⟩
  ·rw[List.mem_singleton] at hx;subst hx
   intro r hr
   have hr:r∈[b]:=hr
   rw[List.mem_singleton] at hr;subst hr
   obtain⟨h1,h2,h3,h4,h5,h6⟩:=hb
   exact⟨h1,h2,hb2.1,h4,h5,hb2.2⟩
theorem two_begin {a b:Rc}(ha:proper a)(hb:proper b):beginF [lnOf a,lnOf b]=0:=by
 refine begin_ok (by rw[two_lin];show 2<=60;omega) λx hx=> ?_
 rw[two_lin] at hx
 rcases List.mem_cons.1 hx with rfl|hx
 ·exact one_valid ha
 ·rw[List.mem_singleton] at hx;subst hx;exact one_valid hb
theorem two_limit (a b:Rc):limitF [lnOf a,lnOf b]=0:=by
 refine limitF_0 λr hr=> ?_
 have e:regN [lnOf a,lnOf b] ([lnOf a,lnOf b]:List api_Version).length=[⟨[a]⟩,⟨[b]⟩]:=rfl
 rw[e] at hr
 rcases List.mem_cons.1 hr with rfl|hr
 ·show [a].length<=120;simp
 ·rw[List.mem_singleton] at hr;subst hr;show [b].length<=120;simp
theorem exV_ok:okS exV:=two_okS rcA_p rcB_p (by decide) (by decide)
theorem who_two (a b:Rc)(x y:Int):who (linV [lnOf a,lnOf b]) x y=(if cov [a] x y=true then [⟨0,0⟩] else [])++(if cov [b] x y=true then [⟨1,0⟩] else []):=by
 rw[two_lin]
 unfold who
 rw[List.filter_cons,List.filter_cons]
 by_cases h1:cov [a] x y=true<;>by_cases h2:cov [b] x y=true<;>simp[h1,h2]
theorem ex_dbl {ds:List Dbl}{e:Int}(h:dblR exV ds e):ds=[⟨⟨[rcC]⟩,[⟨0,0⟩,⟨1,0⟩]⟩]/\e=0:=by
 rcases h with⟨a,_,_⟩|⟨_,d0,h1,h2⟩
 ·exact absurd (two_begin rcA_p rcB_p) a
 have hC:∀x y,cov [rcC] x y=true↔cov [rcA] x y=true/\cov [rcB] x y=true:=λx y=>by
  rw[cov_one,cov_one,cov_one]
  show (1<=x/\x<2/\0<=y/\y<1)↔(0<=x/\x<2/\0<=y/\y<1)/\(1<=x/\x<3/\0<=y/\y<1)
  omega
 have hw:∀x y,2<=(who (linV exV) x y).length↔cov [rcC] x y=true:=λx y=>by
  rw[hC,show exV=[lnOf rcA,lnOf rcB] from rfl,who_two]
  by_cases h1:cov [rcA] x y=true<;>by_cases h2:cov [rcB] x y=true<;>simp[h1,h2]
 have hw2:∀x y,cov [rcC] x y=true->who (linV exV) x y=[⟨0,0⟩,⟨1,0⟩]:=λx y h=>by
  obtain⟨h1,h2⟩:=(hC x y).1 h
  rw[show exV=[lnOf rcA,lnOf rcB] from rfl,who_two,if_pos h1,if_pos h2];rfl
 have each:∀d∈d0,d=⟨⟨[rcC]⟩,[⟨0,0⟩,⟨1,0⟩]⟩:=λd hd=>by
  obtain⟨c1,c2,c3,c4⟩:=dbls_each (linV_nodup exV) h1 d hd
  have sub:∀x y,cov d.Region.Rects x y=true->cov [rcC] x y=true:=λx y hc=>(hw x y).1 (by rw[c4 x y hc];exact c3)
  obtain⟨x,y,hc⟩:=canon_some c1 c2
  have hcl:d.Claims=[⟨0,0⟩,⟨1,0⟩]:=by rw[<-c4 x y hc];exact hw2 x y (sub x y hc)
  have hre:d.Region.Rects=[rcC]:=canon_uniq c1 (canon_one rcC_p) λu v=>by
   refine bool_iff ⟨sub u v,λh=> ?_⟩
   have s:=sub x y hc
   rw[cov_one] at s h
   have s:1<=x/\x<2/\0<=y/\y<1:=s
   have h:1<=u/\u<2/\0<=v/\v<1:=h
   rw[show u=x by omega,show v=y by omega];exact hc
  obtain⟨⟨r⟩,c⟩:=d
  have hre:r=[rcC]:=hre
  have hcl:c=[⟨0,0⟩,⟨1,0⟩]:=hcl
  rw[hre,hcl]
 have e0:d0=[⟨⟨[rcC]⟩,[⟨0,0⟩,⟨1,0⟩]⟩]:=by
  match d0,h1,each with
  |[],h1,_=>
   obtain⟨d,hd,_⟩:=dbls_all (linV_nodup exV) h1 (x:=1) (y:=0) ((hw 1 0).2 (by decide))
   cases hd
  |[d],_,each=>rw[each d (by simp)]
  |d::d'::t,h1,each=>
   have:=(List.pairwise_cons.1 h1.2).1 d' (by simp)
   rw[each d (by simp),each d' (by simp),bef_irr] at this
   cases this
 rcases h2 with⟨h2,_,_⟩|⟨_,rfl,rfl⟩
 ·rw[e0] at h2
  rcases h2 with h2|⟨d,hd,h2⟩
  ·exact absurd h2 (by decide)
  ·rw[List.mem_singleton] at hd;subst hd;exact absurd h2 (by decide)
 ·exact⟨e0,rfl⟩
theorem ex_not:canonF (comb (howS 3) [rcA] [rcC])=[rcD]:=canonF_eq (canon_one rcD_p) λx y=>by
 refine bool_iff ?_
 have h:comb (howS 3) [rcA] [rcC] x y=true↔cov [rcA] x y=true/\cov [rcC] x y=false:=by
  unfold comb howS;simp
 rw[h,cov_one,cov_one,<-Bool.not_eq_true,cov_one]
 show (0<=x/\x<1/\0<=y/\y<1)↔(0<=x/\x<2/\0<=y/\y<1)/\¬(1<=x/\x<2/\0<=y/\y<1)
 omega
theorem ex_give:givS exV exY=(exW,0):=by
 have h1:beginF exV=0:=two_begin rcA_p rcB_p
 have h2:errY exV exY=0:=by
  unfold exY
  rw[errY,if_neg (not_not_intro ?_),if_neg (not_not_intro ?_),errY]
  ·exact one_valid rcC_p
  ·exact (there_nat (i:=0) (j:=0)).2 ⟨by decide,by decide⟩
 have h3:exY.foldl give1 exV=exW:=by
  show give1 exV ⟨⟨0,0⟩,⟨[rcC]⟩⟩=exW
  unfold give1 setAt
  have e:(ix (ix exV (0:Int)).2 (0:Int)).2.1=[rcA]:=rfl
  dsimp only
  rw[e,ex_not];rfl
 unfold givS
 rw[if_neg (by simp[h1]),if_neg (by decide),if_neg (by simp[h2]),h3,if_neg (by rw[show limitF exW=0 from two_limit rcD rcB];simp)]
theorem ex_set {m:List api_Version}{ds:List Dbl}{e:Int}(h:setR exV exY m ds e):m=exW/\ds=[]/\e=0:=by
 unfold setR at h
 rw[ex_give] at h
 rcases h with⟨h,_⟩|⟨_,d0,e0,h1,h2⟩
 ·exact absurd rfl h
 have hw:∀x y,(who (linV exW) x y).length<=1:=λx y=>by
  rw[show exW=[lnOf rcD,lnOf rcB] from rfl,who_two]
  have hn:¬(cov [rcD] x y=true/\cov [rcB] x y=true):=by
   rw[cov_one,cov_one]
   show ¬((0<=x/\x<1/\0<=y/\y<1)/\(1<=x/\x<3/\0<=y/\y<1))
   omega
  by_cases h1:cov [rcD] x y=true<;>by_cases h2:cov [rcB] x y=true<;>simp_all
 have h1:d0=[]/\e0=0:=by
  rcases h1 with⟨a,_,_⟩|⟨_,dd,q1,q2⟩
  ·exact absurd (two_begin rcD_p rcB_p) a
  have e1:dd=[]:=by
   match dd,q1 with
   |[],_=>rfl
   |d::t,q1=>
    obtain⟨c1,c2,c3,c4⟩:=dbls_each (linV_nodup exW) q1 d (List.mem_cons_self ..)
    obtain⟨x,y,hc⟩:=canon_some c1 c2
    have:=hw x y
    rw[c4 x y hc] at this
    omega
  subst e1
  rcases q2 with⟨q2,_,_⟩|⟨_,rfl,rfl⟩
  ·rcases q2 with q2|⟨d,hd,_⟩
   ·exact absurd q2 (by decide)
   ·cases hd
  ·exact⟨rfl,rfl⟩
 obtain⟨rfl,rfl⟩:=h1
 have e2:setS exW []=exW:=rfl
 rw[e2] at h2
 rcases h2 with⟨h,_⟩|⟨_,h,_⟩|⟨_,_,a,b,c⟩
 ·exact absurd rfl h
 ·exact absurd (two_limit rcD rcB) h
 ·exact⟨a,b,c⟩
end RE
end Go.Proofs.YtpeggkeenboacaaGreat
set_option linter.unusedVariables false
namespace Go.Proofs.YtpeggkeenboacaaGreat
open Go.RowKit
namespace RE
open PL
namespace PL
def sizeW (l:List Rc):Int:=l.foldl (λn r=>IntKind.i64.wrap (n+IntKind.i64.wrap (IntKind.i64.wrap (r.3-r.1) * IntKind.i64.wrap (r.4-r.2)))) 0
end PL
def rsize_P (l:List (api_Rect))(post:Int->Prop):Prop:=l.length<=1000000/\post (sizeW l)
def rsize_sp:Spec:=⟨94,false,false,[.sl (.st .api_Rect)],.dat (.int .i64),λx post=>rsize_P (x.1:List (api_Rect)) (λy0=>post (y0,()))⟩
def rsize_C:CtxR:=⟨tau,[],lookJ [(0,7,⟨[(8,.dat (.int .i64)),(3,.dat (.int .i64))],[],[9,10,11,5,12,13,14,15,16,17,18,19,20,21,22,23,24,25],[],[]⟩)]⟩
def rsize_W (l:List (api_Rect))(post:Int->Prop):Prop:=(↑l.length:Int)<=9223372036854775807->LOOP [Ty.int IntKind.i64,Ty.int IntKind.i64] (λ(rec1:Int->Int->Prop) (z2 z3:Int)=>IFB (decide (z2<(↑l.length:Int))) (((0:Int)<=z2/\z2<(↑l.length:Int))/\rec1 (IntKind.i64.wrap (z2+1)) (IntKind.i64.wrap (z3+IntKind.i64.wrap (IntKind.i64.wrap ((ix l z2).3-(ix l z2).1) * IntKind.i64.wrap ((ix l z2).4-(ix l z2).2))))) (post z3)) ((0:Int),(0:Int),PUnit.unit)
theorem rsize_w (l:List (api_Rect))(post:dens (shT rsize_sp.rs [])->Prop):rsize_W l (λy0=>post (y0,()))=walkG (callR Tryz.prog rsize_C (drawR Tryz.prog tau) 6 0) 94 false [tv (.sl (.st .api_Rect)) l] rsize_sp.rs post:=by kernel_rfl
theorem rsize_of (h:∀(l:List (api_Rect))(post:Int->Prop),rsize_P l post->rsize_W l post):SpecOK Tryz.prog rsize_sp:=SpecOK.of_rules (C:=rsize_C) (dr:=drawR Tryz.prog tau) (n:=6) (fk:=0) .nil (drawR_ok tau) λx post hp=>HoldW.of (rsize_w x.1 post) (h x.1 (λy0=>post (y0,())) hp)
def rsiI (l:List Rc)(z n:Int):Prop:=∃k:Nat,z=(k:Int)/\k<=l.length/\n=sizeW (l.take k)
theorem rsize_ok:SpecOK Tryz.prog rsize_sp:=rsize_of λl post hp=>by
 obtain⟨h1,hp⟩:=hp
 unfold rsize_W
 refine λ_=>LOOP.fuel (λu=>rsiI l u.1 u.2.1) (λu=>l.length-Int.toNat u.1) ⟨0,rfl,Nat.zero_le _,rfl⟩ ?_
 rintro rec ⟨(z:Int),(n:Int),⟨⟩⟩ ⟨k,i1,i2,i3⟩ hrec
 have i1:z=(k:Int):=i1
 have q3:n=sizeW (l.take k):=i3
 clear i3
 subst i1
 refine IFB.mk (λhb=> ?_) (λhb=> ?_)
 ·have hb:(k:Int)<l.length:=of_decide_eq_true hb
  have hk:k<l.length:=by omega
  refine⟨⟨by omega,hb⟩,?_⟩
  rw[wrapS (by omega)]
  refine hrec (((k+1:Nat):Int),_,()) ⟨k+1,rfl,hk,?_⟩ (by show l.length-((k+1:Nat):Int).toNat<l.length-(k:Int).toNat;omega)
  rw[List.take_succ_eq_append_getElem hk,<-ix_lt hk]
  unfold sizeW at q3 ⊢
  rw[List.foldl_append,<-q3];rfl
 ·have hb:¬(k:Int)<l.length:=of_decide_eq_false hb
  have hk:k=l.length:=by omega
  rw[hk,List.take_length] at q3
  show post n
  rw[q3];exact hp
def rarea_P (a:api_Region)(post:Int->Prop):Prop:=(a.1.length<=1000000)/\∀n:Int,(validP a.1->n=sizeW a.1)->post n
def rarea_sp:Spec:=⟨29,false,false,[.st .api_Region],.dat (.int .i64),λx post=>rarea_P (x.1:api_Region) (λy0=>post (y0,()))⟩
def rarea_C:CtxR:=⟨tau,[rule1 rval_sp,rule1 rsize_sp],lookJ []⟩
def rarea_W (a:api_Region)(post:Int->Prop):Prop:=∀(v1:Bool),(v1=true↔validP a.1)->IFB (!v1) (post 0) (a.1.length<=1000000/\post (sizeW a.1))
theorem rarea_w (a:api_Region)(post:dens (shT rarea_sp.rs [])->Prop):rarea_W a (λy0=>post (y0,()))=walkG (callR Tryz.prog rarea_C (drawR Tryz.prog tau) 6 0) 29 false [tv (.st .api_Region) a] rarea_sp.rs post:=by kernel_rfl
theorem rarea_of (h:∀(a:api_Region)(post:Int->Prop),rarea_P a post->rarea_W a post):SpecOK Tryz.prog rarea_sp:=SpecOK.of_rules (C:=rarea_C) (dr:=drawR Tryz.prog tau) (n:=6) (fk:=0) (.cons (rule1_ok rval_ok) (.cons (rule1_ok rsize_ok) .nil)) (drawR_ok tau) λx post hp=>HoldW.of (rarea_w x.1 post) (h x.1 (λy0=>post (y0,())) hp)
theorem rarea_ok:SpecOK Tryz.prog rarea_sp:=rarea_of λa post hp=>by
 obtain⟨h1,hp⟩:=hp
 unfold rarea_W
 intro v hv
 refine IFB.mk (λhb=>hp 0 λh=> ?_) (λhb=>⟨h1,hp _ λ_=>rfl⟩)
 have:=hv.2 h
 rw[this] at hb;cases hb
def pawake_P (post:Bool->Prop):Prop:=post true
def pawake_sp:Spec:=⟨47,false,false,[],.dat (.bool),λx post=>pawake_P (λy0=>post (y0,()))⟩
def pawake_C:CtxR:=⟨tau,[rule1 pdbl_sp,rule1 pset_sp,rule1 rarea_sp],lookJ []⟩
abbrev pawake_a0 (v2:Int)(v1:List api_Double)(y6:Int)(v5:Int)(v4:List api_Double)(v3:List api_Version):=(decide (v2=(0:Int))&&decide ((↑v1.length:Int)=(1:Int))&&decide (y6=(1:Int))&&decide ((↑(ix v1 (0:Int)).2.length:Int)=(2:Int))&&decide (v5=(0:Int))&&decide ((↑v4.length:Int)=(0:Int))&&decide ((↑v3.length:Int)=(2:Int))&&decide ((↑(ix v3 (1:Int)).2.length:Int)=(1:Int)))
def pawake_W (post:Bool->Prop):Prop:=okD exV/\∀(v1:List api_Double)(v2:Int),dblR exV v1 v2->okS exV/\∀(v3:List api_Version)(v4:List api_Double)(v5:Int),setR exV exY v3 v4 v5->(gx true (decide (v2=0))=true->(↑v1.length:Int)<=9223372036854775807)->(gx true (decide (v2=0)&&decide ((↑v1.length:Int)=1))=true->Int.NonNeg 0/\0<(↑v1.length:Int))/\JOIN [Ty.int IntKind.i64] (λ(y6:Int)=>(gx true (decide (v2=0)&&decide ((↑v1.length:Int)=1)&&decide (y6=1))=true->Int.NonNeg 0/\0<(↑v1.length:Int))/\((gx true (decide (v2=0)&&decide ((↑v1.length:Int)=1)&&decide (y6=1))=true->(↑(ix v1 0).2.length:Int)<=9223372036854775807)->(gx true (decide (v2=0)&&decide ((↑v1.length:Int)=1)&&decide (y6=1)&&decide ((↑(ix v1 0).2.length:Int)=2)&&decide (v5=0))=true->(↑v4.length:Int)<=9223372036854775807)->(gx true (decide (v2=0)&&decide ((↑v1.length:Int)=1)&&decide (y6=1)&&decide ((↑(ix v1 0).2.length:Int)=2)&&decide (v5=0)&&decide ((↑v4.length:Int)=0))=true->(↑v3.length:Int)<=9223372036854775807)->(gx true (decide (v2=0)&&decide ((↑v1.length:Int)=1)&&decide (y6=1)&&decide ((↑(ix v1 0).2.length:Int)=2)&&decide (v5=0)&&decide ((↑v4.length:Int)=0)&&decide ((↑v3.length:Int)=2))=true->Int.NonNeg 1/\1<(↑v3.length:Int))/\((gx true (decide (v2=0)&&decide ((↑v1.length:Int)=1)&&decide (y6=1)&&decide ((↑(ix v1 0).2.length:Int)=2)&&decide (v5=0)&&decide ((↑v4.length:Int)=0)&&decide ((↑v3.length:Int)=2))=true->(↑(ix v3 1).2.length:Int)<=9223372036854775807)->(gx true (pawake_a0 v2 v1 y6 v5 v4 v3)=true->Int.NonNeg 1/\1<(↑v3.length:Int))/\(gx true (pawake_a0 v2 v1 y6 v5 v4 v3)=true->Int.NonNeg 0/\0<(↑(ix v3 1).2.length:Int))/\JOIN [Ty.int IntKind.i64] (λ(y7:Int)=>post (decide (v2=0)&&decide ((↑v1.length:Int)=1)&&decide (y6=1)&&decide ((↑(ix v1 0).2.length:Int)=2)&&decide (v5=0)&&decide ((↑v4.length:Int)=0)&&decide ((↑v3.length:Int)=2)&&decide ((↑(ix v3 1).2.length:Int)=1)&&decide (y7=2))) λ(J8:Int->Prop)=>IFB (gx true (pawake_a0 v2 v1 y6 v5 v4 v3)) ((ix (ix v3 1).2 0).2.1.length<=1000000/\∀(v9:Int),(validP (ix (ix v3 1).2 0).2.1->v9=sizeW (ix (ix v3 1).2 0).2.1)->J8 v9) (J8 0)))) λ(J10:Int->Prop)=>IFB (gx true (decide (v2=0)&&decide ((↑v1.length:Int)=1))) ((ix v1 0).1.1.length<=1000000/\∀(v11:Int),(validP (ix v1 0).1.1->v11=sizeW (ix v1 0).1.1)->J10 v11) (J10 0)
theorem pawake_w (post:dens (shT pawake_sp.rs [])->Prop):pawake_W (λy0=>post (y0,()))=walkG (callR Tryz.prog pawake_C (drawR Tryz.prog tau) 10 0) 47 false [] pawake_sp.rs post:=by kernel_rfl
theorem pawake_of (h:∀(post:Bool->Prop),pawake_P post->pawake_W post):SpecOK Tryz.prog pawake_sp:=SpecOK.of_rules (C:=pawake_C) (dr:=drawR Tryz.prog tau) (n:=10) (fk:=0) (.cons (rule1_ok pdbl_ok) (.cons (rule1_ok pset_ok) (.cons (rule1_ok rarea_ok) .nil))) (drawR_ok tau) λx post hp=>HoldW.of (pawake_w post) (h (λy0=>post (y0,())) hp)
theorem pawake_ok:SpecOK Tryz.prog pawake_sp:=pawake_of λpost hp=>by
 unfold pawake_W pawake_a0
 refine⟨okS_D exV_ok,λv1 v2 hd=>⟨exV_ok,λv3 v4 v5 hs=> ?_⟩⟩
 obtain⟨rfl,rfl⟩:=ex_dbl hd
 obtain⟨rfl,rfl,rfl⟩:=ex_set hs
 have z0:Int.NonNeg (0:Int):=Int.NonNeg.mk _
 have z1:Int.NonNeg (1:Int):=Int.NonNeg.mk _
 have a1:sizeW [rcC]=1:=by decide
 have a2:sizeW [rcB]=2:=by decide
 have fin:∀K:Int->Prop,(∀y,y=2->K y)->K 2:=λK h=>h 2 rfl
 have last:∀y13:Int,y13=2->post (decide ((0:Int)=0)&&decide ((([(⟨⟨[rcC]⟩,[⟨0,0⟩,⟨1,0⟩]⟩:Dbl)].length:Nat):Int)=1)&&decide ((1:Int)=1)&&decide (((2:Nat):Int)=2)&&decide ((0:Int)=0)&&decide (((0:Nat):Int)=0)&&decide (((2:Nat):Int)=2)&&decide (((1:Nat):Int)=1)&&decide (y13=2)):=λy h=>by
  rw[h];exact hp
 intro _
 refine⟨λ_=>⟨z0,by decide⟩,JOIN.opq λ(J:Int->Prop) hJ=> ?_⟩
 refine IFB.yes rfl ⟨by decide,λv17 h17=> ?_⟩
 have h17:v17=1:=(h17 (one_valid rcC_p)).trans a1
 subst h17
 rw[hJ]
 dsimp only
 refine⟨λ_=>⟨z0,by decide⟩,?_⟩
 intro _ _ _
 refine⟨λ_=>⟨z1,by decide⟩,?_⟩
 intro _
 refine⟨λ_=>⟨z1,by decide⟩,λ_=>⟨z0,by decide⟩,JOIN.opq λ(K:Int->Prop) hK=> ?_⟩
 refine IFB.yes rfl ⟨by decide,λv15 h15=> ?_⟩
 have h15:v15=2:=(h15 (one_valid rcB_p)).trans a2
 subst h15
 rw[hK]
 exact hp
end RE
end Go.Proofs.YtpeggkeenboacaaGreat
set_option linter.unusedVariables false
namespace Go.Proofs.YtpeggkeenboacaaGreat
open Go.RowKit
namespace RE
open PL
namespace PL
end PL
theorem boxed_inBox {q:Int}(h0:0<=q)(h1:q<=2){l:List Rc}(h:boxed q l):inBox l:=(can_inBox h.1 λx y hc=>by
 have:=h.2 x y hc;omega).1
end RE
end Go.Proofs.YtpeggkeenboacaaGreat
set_option linter.unusedVariables false
namespace Go.Proofs.YtpeggkeenboacaaGreat
open Go.RowKit
namespace RE
open PL
namespace PL
def prP (A B:List api_Place)(x:arr2_i64):Prop:=x.e0<x.e1/\(∃p∈A,p.1=x.e0)/\∃q∈B,q.1=x.e1
def partP (d:List api_Double)(l:List arr2_i64):Prop:=l.Pairwise ltA/\∀x,x∈l↔∃y∈d,prP y.2 y.2 x
end PL
theorem pr_a {A B:List api_Place}{p:api_Place}{x:arr2_i64}:prP (A++[p]) B x↔prP A B x\/prP [p] B x:=by
 unfold prP
 simp only[List.mem_append,List.mem_singleton]
 constructor
 ·rintro ⟨h,⟨a,ha,e⟩,hb⟩
  rcases ha with ha|ha
  ·exact .inl ⟨h,⟨a,ha,e⟩,hb⟩
  ·exact .inr ⟨h,⟨a,ha,e⟩,hb⟩
 ·rintro (⟨h,⟨a,ha,e⟩,hb⟩|⟨h,⟨a,ha,e⟩,hb⟩)
  ·exact⟨h,⟨a,.inl ha,e⟩,hb⟩
  ·exact⟨h,⟨a,.inr ha,e⟩,hb⟩
theorem pr_b {A B:List api_Place}{p:api_Place}{x:arr2_i64}:prP A (B++[p]) x↔prP A B x\/prP A [p] x:=by
 unfold prP
 simp only[List.mem_append,List.mem_singleton]
 constructor
 ·rintro ⟨h,hb,⟨a,ha,e⟩⟩
  rcases ha with ha|ha
  ·exact .inl ⟨h,hb,⟨a,ha,e⟩⟩
  ·exact .inr ⟨h,hb,⟨a,ha,e⟩⟩
 ·rintro (⟨h,hb,⟨a,ha,e⟩⟩|⟨h,hb,⟨a,ha,e⟩⟩)
  ·exact⟨h,hb,⟨a,.inl ha,e⟩⟩
  ·exact⟨h,hb,⟨a,.inr ha,e⟩⟩
theorem pr_one {p q:api_Place}{x:arr2_i64}:prP [p] [q] x↔p.1<q.1/\x=⟨p.1,q.1⟩:=by
 obtain⟨a,b⟩:=x
 unfold prP
 simp only[List.mem_singleton]
 constructor
 ·rintro ⟨h,⟨a,rfl,e⟩,⟨b,rfl,f⟩⟩
  have e:a.1=_:=e
  have f:b.1=_:=f
  subst e f
  exact⟨h,rfl⟩
 ·rintro ⟨h,e⟩
  injection e with e f
  subst e f
  exact⟨h,⟨p,rfl,rfl⟩,⟨q,rfl,rfl⟩⟩
theorem pr_nilA {B:List api_Place}{x:arr2_i64}:¬prP [] B x:=λ⟨_,⟨_,h,_⟩,_⟩=>by cases h
theorem pr_nilB {A:List api_Place}{x:arr2_i64}:¬prP A [] x:=λ⟨_,_,⟨_,h,_⟩⟩=>by cases h
def ptA (d:List api_Double)(z:Int)(b:List arr2_i64):Prop:=∃k:Nat,z=(k:Int)/\k<=d.length/\b.length<=3600 * k/\∀x,x∈b↔∃y∈d.take k,prP y.2 y.2 x
def ptB (d:List api_Double)(k:Nat)(c:List api_Place)(z:Int)(b:List arr2_i64):Prop:=∃j:Nat,z=(j:Int)/\j<=c.length/\b.length<=3600 * k+60 * j/\∀x,x∈b↔(∃y∈d.take k,prP y.2 y.2 x)\/prP (c.take j) c x
def ptC (d:List api_Double)(k:Nat)(c:List api_Place)(j:Nat)(p:api_Place)(z:Int)(b:List arr2_i64):Prop:=∃i:Nat,z=(i:Int)/\i<=c.length/\b.length<=3600 * k+60 * j+i/\∀x,x∈b↔((∃y∈d.take k,prP y.2 y.2 x)\/prP (c.take j) c x)\/prP [p] (c.take i) x
def pparts_P (d:List (api_Double))(post:List (arr2_i64)->Int->Prop):Prop:=(d.length<=200/\∀x∈d,x.2.length<=60)/\∀l:List arr2_i64,partP d l->post l 0
def pparts_sp:Spec:=⟨59,false,true,[.sl (.st .api_Double)],.tup [.dat (.sl (.st .arr2_i64)),.dat (.int .i64)],λx post=>pparts_P (x.1:List (api_Double)) (λy0 y1=>post (y0,y1,()))⟩
def pparts_C:CtxR:=⟨tau,[rule3 psortA_sp,rule2 pcompA_sp],lookJ [(0,11,⟨[(16,.dat (.int .i64)),(4,.own 59 (.st .arr2_i64))],[],[17,18,19,6,20,21,22,48,31,30,46,45,44,43,42,41,40,39,38,37,36,35,34,10,33,32,47,29,28,27,8,26,25,23,24,49],[],[]⟩),(0,17,⟨[(23,.dat (.int .i64)),(4,.own 59 (.st .arr2_i64))],[],[24,25,26,8,27,28,29,47,32,33,10,34,35,36,37,38,39,40,41,42,43,44,45,46,30,31,48],[0],[]⟩),(0,23,⟨[(30,.dat (.int .i64)),(4,.own 59 (.st .arr2_i64))],[],[31,46,45,44,43,42,41,40,39,38,37,36,35,34,10,33,32,47],[2],[]⟩),(0,30,⟨[(4,.own 59 (.st .arr2_i64))],[],[32,33,10,34,35,36,37,38,39,40,41,42,43,44,45,46],[4],[]⟩)]⟩
def pparts_W (d:List (api_Double))(post:List (arr2_i64)->Int->Prop):Prop:=(↑d.length:Int)<=9223372036854775807->IFB (decide ((200:Int)<(↑d.length:Int))) (post [] 1) ((↑d.length:Int)<=9223372036854775807->LOOP [Ty.int IntKind.i64,(Ty.st Sn.arr2_i64).sl] (λ(rec1:Int->List arr2_i64->Prop) (z2:Int) (z3:List arr2_i64)=>IFB (decide (z2<(↑d.length:Int))) (((0:Int)<=z2/\z2<(↑d.length:Int))/\((↑(ix d z2).2.length:Int)<=9223372036854775807->LOOP [Ty.int IntKind.i64,(Ty.st Sn.arr2_i64).sl] (λ(rec4:Int->List arr2_i64->Prop) (z5:Int) (z6:List arr2_i64)=>IFB (decide (z5<(↑(ix d z2).2.length:Int))) (((0:Int)<=z5/\z5<(↑(ix d z2).2.length:Int))/\((↑(ix d z2).2.length:Int)<=9223372036854775807->LOOP [Ty.int IntKind.i64,(Ty.st Sn.arr2_i64).sl] (λ(rec7:Int->List arr2_i64->Prop) (z8:Int) (z9:List arr2_i64)=>IFB (decide (z8<(↑(ix d z2).2.length:Int))) (JOIN [(Ty.st Sn.arr2_i64).sl] (λ(y10:List arr2_i64)=>rec7 (IntKind.i64.wrap (z8+1)) y10) λ(J11:List arr2_i64->Prop)=>((0:Int)<=z8/\z8<(↑(ix d z2).2.length:Int))/\IFB (decide ((ix (ix d z2).2 z5).1<(ix (ix d z2).2 z8).1)) ((z9.length+[(⟨(ix (ix d z2).2 z5).1,(ix (ix d z2).2 z8).1⟩:arr2_i64)].length) * (16:Nat)<=140737488355328/\J11 (z9++[(⟨(ix (ix d z2).2 z5).1,(ix (ix d z2).2 z8).1⟩:arr2_i64)])) (J11 z9)) (rec4 (IntKind.i64.wrap (z5+1)) z9)) ((0:Int),z6,PUnit.unit))) (rec1 (IntKind.i64.wrap (z2+1)) z6)) ((0:Int),z3,PUnit.unit))) (z3.length<=1000000/\∀(v12:List arr2_i64),v12.Perm z3->List.Pairwise (λ(a b:arr2_i64)=>ltA b a->False) v12->v12.length<=1000000/\post (compA v12) 0)) ((0:Int),[],PUnit.unit))
theorem pparts_w (d:List (api_Double))(post:dens (shT pparts_sp.rs [])->Prop):pparts_W d (λy0 y1=>post (y0,y1,()))=walkG (callR Tryz.prog pparts_C (drawR Tryz.prog tau) 8 0) 59 false [tv (.sl (.st .api_Double)) d] pparts_sp.rs post:=by kernel_rfl
theorem pparts_of (h:∀(d:List (api_Double))(post:List (arr2_i64)->Int->Prop),pparts_P d post->pparts_W d post):SpecOK Tryz.prog pparts_sp:=SpecOK.of_rules (C:=pparts_C) (dr:=drawR Tryz.prog tau) (n:=8) (fk:=0) (.cons (rule3_ok psortA_ok) (.cons (rule2_ok pcompA_ok) .nil)) (drawR_ok tau) λx post hp=>HoldW.of (pparts_w x.1 post) (h x.1 (λy0 y1=>post (y0,y1,())) hp)
set_option maxHeartbeats 2000000 in
theorem pparts_ok:SpecOK Tryz.prog pparts_sp:=pparts_of λd post hp=>by
 obtain⟨⟨hd,hcl⟩,hp⟩:=hp
 unfold pparts_W
 refine λ_=>IFB.no (decide_eq_false (by omega)) λ_=> ?_
 refine LOOP.fuel (λu=>ptA d u.1 u.2.1) (λu=>d.length-Int.toNat u.1) ⟨0,rfl,Nat.zero_le _,Nat.le_refl _,λx=>⟨λh=>(by cases h),λ⟨y,hy,_⟩=>(by cases hy)⟩⟩ ?_
 rintro rec ⟨(z:Int),(b:List arr2_i64),⟨⟩⟩ ⟨k,i1,i2,i3,i4⟩ hrec
 have i1:z=(k:Int):=i1
 have i3:b.length<=3600 * k:=i3
 have q4:∀x,x∈b↔∃y∈d.take k,prP y.2 y.2 x:=i4
 clear i4
 subst i1
 refine IFB.mk (λhb=> ?_) (λhb=> ?_)
 ·have hb:(k:Int)<d.length:=of_decide_eq_true hb
  have hk:k<d.length:=by omega
  obtain⟨y,hy⟩:∃y,ix d (k:Int)=y:=⟨_,rfl⟩
  have hym:y∈d:=by rw[<-hy];exact ix_mem (by omega) hb
  have htk:d.take (k+1)=d.take k++[y]:=by rw[List.take_succ_eq_append_getElem hk,<-ix_lt hk,hy]
  dsimp only
  rw[hy]
  obtain⟨c,hc⟩:∃c,y.2=c:=⟨_,rfl⟩
  have hc60:c.length<=60:=by rw[<-hc];exact hcl y hym
  rw[hc]
  refine⟨⟨by omega,hb⟩,λ_=> ?_⟩
  refine LOOP.fuel (λu=>ptB d k c u.1 u.2.1) (λu=>c.length-Int.toNat u.1) ⟨0,rfl,Nat.zero_le _,i3,λx=>(q4 x).trans ⟨.inl,λh=>h.elim id λh=>absurd h pr_nilA⟩⟩ ?_
  rintro rec2 ⟨(z2:Int),(b2:List arr2_i64),⟨⟩⟩ ⟨j,j1,j2,j3,j4⟩ hrec2
  have j1:z2=(j:Int):=j1
  have j3:b2.length<=3600 * k+60 * j:=j3
  have r4:∀x,x∈b2↔(∃y∈d.take k,prP y.2 y.2 x)\/prP (c.take j) c x:=j4
  clear j4
  subst j1
  refine IFB.mk (λhb2=> ?_) (λhb2=> ?_)
  ·have hb2:(j:Int)<c.length:=of_decide_eq_true hb2
   have hj:j<c.length:=by omega
   obtain⟨p,hp2⟩:∃p,ix c (j:Int)=p:=⟨_,rfl⟩
   have htj:c.take (j+1)=c.take j++[p]:=by rw[List.take_succ_eq_append_getElem hj,<-ix_lt hj,hp2]
   dsimp only
   rw[hp2]
   refine⟨⟨by omega,hb2⟩,λ_=> ?_⟩
   refine LOOP.fuel (λu=>ptC d k c j p u.1 u.2.1) (λu=>c.length-Int.toNat u.1) ⟨0,rfl,Nat.zero_le _,j3,λx=>(r4 x).trans ⟨.inl,λh=>h.elim id λh=>absurd h pr_nilB⟩⟩ ?_
   rintro rec3 ⟨(z3:Int),(b3:List arr2_i64),⟨⟩⟩ ⟨i,l1,l2,l3,l4⟩ hrec3
   have l1:z3=(i:Int):=l1
   have l3:b3.length<=3600 * k+60 * j+i:=l3
   have s4:∀x,x∈b3↔((∃y∈d.take k,prP y.2 y.2 x)\/prP (c.take j) c x)\/prP [p] (c.take i) x:=l4
   clear l4
   subst l1
   refine IFB.mk (λhb3=>JOIN.opq λ(J:List arr2_i64->Prop) hJ=> ?_) (λhb3=> ?_)
   ·have hb3:(i:Int)<c.length:=of_decide_eq_true hb3
    have hi:i<c.length:=by omega
    obtain⟨q,hq⟩:∃q,ix c (i:Int)=q:=⟨_,rfl⟩
    have hti:c.take (i+1)=c.take i++[q]:=by rw[List.take_succ_eq_append_getElem hi,<-ix_lt hi,hq]
    have fin:∀y:List arr2_i64,y.length<=b3.length+1->(∀x,x∈y↔x∈b3\/prP [p] [q] x)->J y:=λy a1 a2=>by
     rw[hJ]
     show rec3 (IntKind.i64.wrap ((i:Int)+1)) y
     rw[wrapS (by omega)]
     refine hrec3 (((i+1:Nat):Int),y,()) ⟨i+1,rfl,hi,by show y.length<=_;omega,λx=> ?_⟩ (by show c.length-((i+1:Nat):Int).toNat<c.length-(i:Int).toNat;omega)
     show x∈y↔_
     rw[a2,s4,hti,pr_b,or_assoc]
    dsimp only
    rw[hq]
    refine⟨⟨by omega,hb3⟩,IFB.mk (λhn=>⟨by simp only[List.length_cons,List.length_nil];omega,fin _ (by simp) λx=> ?_⟩) (λhn=>fin b3 (by omega) λx=> ?_)⟩
    ·have hn:p.1<q.1:=of_decide_eq_true hn
     rw[List.mem_append,List.mem_singleton,pr_one]
     exact⟨λh=>h.elim .inl λh=> .inr ⟨hn,h⟩,λh=>h.elim .inl λh=> .inr h.2⟩
    ·have hn:¬p.1<q.1:=of_decide_eq_false hn
     rw[pr_one]
     exact⟨.inl,λh=>h.elim id λh=>absurd h.1 hn⟩
   ·have hb3:¬(i:Int)<c.length:=of_decide_eq_false hb3
    have hi:i=c.length:=by omega
    show rec2 (IntKind.i64.wrap ((j:Int)+1)) b3
    rw[wrapS (by omega)]
    refine hrec2 (((j+1:Nat):Int),b3,()) ⟨j+1,rfl,hj,by show b3.length<=_;omega,λx=> ?_⟩ (by show c.length-((j+1:Nat):Int).toNat<c.length-(j:Int).toNat;omega)
    show x∈b3↔_
    rw[s4,hi,List.take_length,htj,pr_a,or_assoc]
  ·have hb2:¬(j:Int)<c.length:=of_decide_eq_false hb2
   have hj:j=c.length:=by omega
   show rec (IntKind.i64.wrap ((k:Int)+1)) b2
   rw[wrapS (by omega)]
   refine hrec (((k+1:Nat):Int),b2,()) ⟨k+1,rfl,hk,by show b2.length<=_;omega,λx=> ?_⟩ (by show d.length-((k+1:Nat):Int).toNat<d.length-(k:Int).toNat;omega)
   show x∈b2↔_
   rw[r4,hj,List.take_length,htk,<-hc]
   constructor
   ·rintro (⟨y,h1,h2⟩|h)
    ·exact⟨y,List.mem_append.2 (.inl h1),h2⟩
    ·exact⟨y,List.mem_append.2 (.inr (List.mem_singleton.2 rfl)),h⟩
   ·rintro ⟨w,h1,h2⟩
    rcases List.mem_append.1 h1 with h1|h1
    ·exact .inl ⟨w,h1,h2⟩
    ·rw[List.mem_singleton] at h1
     subst h1
     exact .inr h2
 ·have hb:¬(k:Int)<d.length:=of_decide_eq_false hb
  have hk:k=d.length:=by omega
  rw[hk,List.take_length] at q4
  refine⟨by omega,λl2 h1 h2=>⟨by rw[h1.length_eq];omega,hp _ ?_⟩⟩
  obtain⟨c1,c2⟩:=compactA_sorted (l:=l2) h2
  exact⟨c1,λx=>(c2 x).trans ((h1.mem_iff).trans (q4 x))⟩
end RE
end Go.Proofs.YtpeggkeenboacaaGreat
set_option linter.unusedVariables false
namespace Go.Proofs.YtpeggkeenboacaaGreat
open Go.RowKit
namespace RE
open PL
namespace PL
def clmB (c:List api_Place)(n:Int):Bool:=c.any λp=>decide (p.1=n)
def invN (l:List api_Double)(n:Int)(k:Nat):List Int:=((List.range k).filter λ(i:Nat)=>clmB (ix l (i:Int)).2 n).map λ(i:Nat)=>(i:Int)
end PL
theorem invN_succ (l:List api_Double)(n:Int)(k:Nat):invN l n (k+1)=invN l n k++if clmB (ix l (k:Int)).2 n then [(k:Int)] else []:=by
 unfold invN
 rw[List.range_succ,List.filter_append,List.map_append]
 congr 1
 cases h:clmB (ix l (k:Int)).2 n<;>simp[h]
theorem invN_len (l:List api_Double)(n:Int)(k:Nat):(invN l n k).length<=k:=by
 unfold invN
 rw[List.length_map]
 exact Nat.le_trans (List.length_filter_le _ _) (Nat.le_of_eq (List.length_range ..))
theorem clmB_iff {c:List api_Place}{n:Int}:clmB c n=true↔∃p∈c,p.1=n:=by
 unfold clmB
 rw[List.any_eq_true]
 exact⟨λ⟨p,h,e⟩=>⟨p,h,of_decide_eq_true e⟩,λ⟨p,h,e⟩=>⟨p,h,decide_eq_true e⟩⟩
theorem all_ixP {α:Type}[Inhabited α]{l:List α}{p:α->Prop}(h:∀k:Nat,k<l.length->p (ix l (k:Int))):∀x∈l,p x:=λx hx=>by
 obtain⟨j,hj,rfl⟩:=List.getElem_of_mem hx
 have:=h j hj
 rwa [ix_lt hj] at this
def pinv_P (l:List (api_Double))(n:Int)(post:List (Int)->Prop):Prop:=(l.length<=1000000/\∀x∈l,x.2.length<=1000000)/\post (invN l n l.length)
def pinv_sp:Spec:=⟨61,false,true,[.sl (.st .api_Double),.int .i64],.dat (.sl (.int .i64)),λx post=>pinv_P (x.1:List (api_Double)) (x.2.1:Int) (λy0=>post (y0,()))⟩
def pinv_C:CtxR:=⟨tau,[],lookJ [(0,7,⟨[(10,.dat (.int .i64)),(5,.own 3 (.int .i64))],[],[11,22,21,20,19,18,17,16,15,6,7,14,13,12,23],[],[]⟩),(0,14,⟨[(5,.own 3 (.int .i64))],[],[12,13,14,7,6,15,16,17,18,19,20,21,22],[1],[]⟩),(5325832093,0,⟨[(0,.dat (.int .i64))],[],[],[],[]⟩),(5325832093,5,⟨[(8,.dat (.int .i64))],[],[9,10,5,11,12,13,14,15,16,18],[],[]⟩)]⟩
def pinv_W (l:List (api_Double))(n:Int)(post:List (Int)->Prop):Prop:=(↑l.length:Int)<=9223372036854775807->LOOP [Ty.int IntKind.i64,(Ty.int IntKind.i64).sl] (λ(rec1:Int->List Int->Prop) (z2:Int) (z3:List Int)=>IFB (decide (z2<(↑l.length:Int))) (JOIN [(Ty.int IntKind.i64).sl] (λ(y4:List Int)=>rec1 (IntKind.i64.wrap (z2+1)) y4) λ(J5:List Int->Prop)=>((0:Int)<=z2/\z2<(↑l.length:Int))/\JOIN [Ty.int IntKind.i64] (λ(y6:Int)=>IFB (decide ((0:Int)<=y6)) ((z3.length+[z2].length) * (8:Nat)<=140737488355328/\J5 (z3++[z2])) (J5 z3)) λ(J7:Int->Prop)=>(↑(ix l z2).2.length:Int)<=9223372036854775807->LOOP [Ty.int IntKind.i64] (λ(rec8:Int->Prop) (z9:Int)=>IFB (decide (z9<(↑(ix l z2).2.length:Int))) (((0:Int)<=z9/\z9<(↑(ix l z2).2.length:Int))/\IFB (decide ((ix (ix l z2).2 z9).1=n)) (J7 z9) (rec8 (IntKind.i64.wrap (z9+1)))) (J7 (-1:Int))) ((0:Int),PUnit.unit)) (post z3)) ((0:Int),[],PUnit.unit)
theorem pinv_w (l:List (api_Double))(n:Int)(post:dens (shT pinv_sp.rs [])->Prop):pinv_W l n (λy0=>post (y0,()))=walkG (callR Tryz.prog pinv_C (drawR Tryz.prog tau) 8 0) 61 false [tv (.sl (.st .api_Double)) l,tv (.int .i64) n] pinv_sp.rs post:=by kernel_rfl
theorem pinv_of (h:∀(l:List (api_Double))(n:Int)(post:List (Int)->Prop),pinv_P l n post->pinv_W l n post):SpecOK Tryz.prog pinv_sp:=SpecOK.of_rules (C:=pinv_C) (dr:=drawR Tryz.prog tau) (n:=8) (fk:=0) .nil (drawR_ok tau) λx post hp=>HoldW.of (pinv_w x.1 x.2.1 post) (h x.1 x.2.1 (λy0=>post (y0,())) hp)
def ivI (l:List api_Double)(n:Int)(z:Int)(b:List Int):Prop:=∃k:Nat,z=(k:Int)/\k<=l.length/\b=invN l n k
theorem pinv_ok:SpecOK Tryz.prog pinv_sp:=pinv_of λl n post hp=>by
 obtain⟨⟨hl,hcl⟩,hp⟩:=hp
 unfold pinv_W
 refine λ_=>LOOP.fuel (λu=>ivI l n u.1 u.2.1) (λu=>l.length-Int.toNat u.1) ⟨0,rfl,Nat.zero_le _,rfl⟩ ?_
 rintro rec ⟨(z:Int),(b:List Int),⟨⟩⟩ ⟨k,i1,i2,i3⟩ hrec
 have i1:z=(k:Int):=i1
 have q3:b=invN l n k:=i3
 clear i3
 subst i1
 refine IFB.mk (λhb=>JOIN.opq λ(J:List Int->Prop) hJ=> ?_) (λhb=> ?_)
 ·have hb:(k:Int)<l.length:=of_decide_eq_true hb
  have hk:k<l.length:=by omega
  obtain⟨c,hc⟩:∃c,(ix l (k:Int)).2=c:=⟨_,rfl⟩
  have hc6:c.length<=1000000:=by rw[<-hc];exact hcl _ (ix_mem (by omega) hb)
  have hbl:b.length<=k:=by rw[q3];exact invN_len l n k
  have fin:∀y,y=b++(if clmB c n then [(k:Int)] else [])->J y:=λy hy=>by
   rw[hJ]
   show rec (IntKind.i64.wrap ((k:Int)+1)) y
   rw[wrapS (by omega)]
   refine hrec (((k+1:Nat):Int),y,()) ⟨k+1,rfl,hk,?_⟩ (by show l.length-((k+1:Nat):Int).toNat<l.length-(k:Int).toNat;omega)
   show y=_
   rw[hy,invN_succ,<-q3,hc]
  dsimp only
  rw[hc]
  refine⟨⟨by omega,hb⟩,JOIN.opq λ(M:Int->Prop) hM _=> ?_⟩
  refine loopCmp (n:=c.length) (by omega) (p:=λi=>(ix c (i:Int)).1≠n) (λrec2 i hi hpre hrec2=> ?_) λhall=> ?_
  ·refine⟨⟨by omega,by omega⟩,IFB.mk (λh=> ?_) (λh=>hrec2 (of_decide_eq_false h))⟩
   have h:(ix c (i:Int)).1=n:=of_decide_eq_true h
   have hcB:clmB c n=true:=clmB_iff.2 ⟨_,ix_mem (l:=c) (by omega) (by omega),h⟩
   rw[hM]
   refine IFB.mk (λ_=>⟨by simp only[List.length_cons,List.length_nil];omega,fin _ (by rw[hcB];rfl)⟩) (λh=>absurd (of_decide_eq_false h) (by omega))
  ·have hcB:clmB c n=false:=by
    cases h:clmB c n
    ·rfl
    ·obtain⟨p,h1,h2⟩:=clmB_iff.1 h
     exact absurd h2 (all_ixP (p:=λx=>x.1≠n) hall p h1)
   rw[hM]
   refine IFB.mk (λh=>absurd (of_decide_eq_true h) (by decide)) (λ_=>fin _ (by rw[hcB];simp))
 ·have hb:¬(k:Int)<l.length:=of_decide_eq_false hb
  have hk:k=l.length:=by omega
  rw[hk] at q3
  rw[q3];exact hp
end RE
end Go.Proofs.YtpeggkeenboacaaGreat
namespace Go.Proofs.YtpeggkeenboacaaGreat
namespace RE
open Go.RowKit
open PL
def rputA_P (l:List (arr2_i64))(a:arr2_i64)(post:List (arr2_i64)->Prop):Prop:=(l.length<=1000000/\l.Pairwise ltA)/\∀m:List arr2_i64,(m.Pairwise ltA/\m.length<=l.length+1/\∀z,z∈m↔z=a\/z∈l)->post m
def rputA_sp:Spec:=⟨131,false,true,[.sl (.st .arr2_i64),.st .arr2_i64],.dat (.sl (.st .arr2_i64)),λx post=>rputA_P (x.1:List (arr2_i64)) (x.2.1:arr2_i64) (λy0=>post (y0,()))⟩
def rputA_C:CtxR:=⟨tau,[],lookJ [(0,1000006,⟨[(4,.own 59 (.st .arr2_i64))],[],(List.range' 55 12),[],[]⟩),(0,5,⟨[(5,.dat (.int .i64))],[],(List.range' 6 36),[],[]⟩)]⟩
def rputA_W (l:List (arr2_i64))(a:arr2_i64)(post:List (arr2_i64)->Prop):Prop:=LOOP [Ty.int IntKind.i64] (λ(rec1:Int->Prop) (z2:Int)=>(↑l.length:Int)<=9223372036854775807->(gx true (decide (z2<(↑l.length:Int)))=true->0<=z2/\z2<(↑l.length:Int))/\((gx true (decide (z2<(↑l.length:Int)))&&gx false (decide ((ix l z2).1<a.1)))=true->0<=z2/\z2<(↑l.length:Int))/\((gx true (decide (z2<(↑l.length:Int)))&&gx false (decide ((ix l z2).1<a.1))&&gx true (decide ((ix l z2).1=a.1)))=true->0<=z2/\z2<(↑l.length:Int))/\IFB (decide (z2<(↑l.length:Int))&&(decide ((ix l z2).1<a.1)||decide ((ix l z2).1=a.1)&&decide ((ix l z2).2<a.2))) (rec1 (IntKind.i64.wrap (z2+1))) ((↑l.length:Int)<=9223372036854775807->(gx true (decide (z2<(↑l.length:Int)))=true->0<=z2/\z2<(↑l.length:Int))/\IFB (decide (z2<(↑l.length:Int))&&(decide ((ix l z2).1=a.1)&&(decide ((ix l z2).2=a.2)&&true))) (post l) (JOIN [(Ty.st Sn.arr2_i64).sl] (λ(y3:List arr2_i64)=>post y3) λ(J4:List arr2_i64->Prop)=>(Int.NonNeg 0/\0<=z2/\z2<=(↑l.length:Int))/\((0:Int)<=z2/\z2<=(↑l.length:Int)/\(↑l.length:Int)<=(↑l.length:Int))/\((((0:Nat)+(sub l (0:Int) z2).length) * (16:Nat)<=140737488355328/\(([]++sub l (0:Int) z2).length+[{e0:=a.1,e1:=a.2:arr2_i64}].length) * (16:Nat)<=140737488355328/\(([]++sub l (0:Int) z2++[{e0:=a.1,e1:=a.2:arr2_i64}]).length+(sub l z2 (↑l.length:Int)).length) * (16:Nat)<=140737488355328/\J4 ([]++sub l (0:Int) z2++[{e0:=a.1,e1:=a.2:arr2_i64}]++sub l z2 (↑l.length:Int)))/\((0:Nat)+(sub l (0:Int) z2).length) * (16:Nat)<=140737488355328/\(([]++sub l (0:Int) z2).length+[{e0:=a.1,e1:=a.2:arr2_i64}].length) * (16:Nat)<=140737488355328/\(([]++sub l (0:Int) z2++[{e0:=a.1,e1:=a.2:arr2_i64}]).length+(sub l z2 (↑l.length:Int)).length) * (16:Nat)<=140737488355328/\J4 ([]++sub l (0:Int) z2++[{e0:=a.1,e1:=a.2:arr2_i64}]++sub l z2 (↑l.length:Int)))/\((0:Nat)+(sub l (0:Int) z2).length) * (16:Nat)<=140737488355328/\(([]++sub l (0:Int) z2).length+[{e0:=a.1,e1:=a.2:arr2_i64}].length) * (16:Nat)<=140737488355328/\(([]++sub l (0:Int) z2++[{e0:=a.1,e1:=a.2:arr2_i64}]).length+(sub l z2 (↑l.length:Int)).length) * (16:Nat)<=140737488355328/\J4 ([]++sub l (0:Int) z2++[{e0:=a.1,e1:=a.2:arr2_i64}]++sub l z2 (↑l.length:Int))))) ((0:Int),PUnit.unit)
theorem rputA_w (l:List (arr2_i64))(a:arr2_i64)(post:dens (shT rputA_sp.rs [])->Prop):rputA_W l a (λy0=>post (y0,()))=walkG (callR Tryz.prog rputA_C (drawF Tryz.prog tau) 8 0) 131 false [tv (.sl (.st .arr2_i64)) l,tv (.st .arr2_i64) a] rputA_sp.rs post:=by kernel_rfl
theorem rputA_of (h:∀l a post,rputA_P l a post->rputA_W l a post):SpecOK Tryz.prog rputA_sp:=SpecOK.of_rules (C:=rputA_C) (dr:=drawF Tryz.prog tau) (n:=8) (fk:=0) .nil (drawF_ok tau) λx post hp=>HoldW.of (rputA_w x.1 x.2.1 post) (h x.1 x.2.1 (λy0=>post (y0,())) hp)
theorem ltA_trans {a b c:arr2_i64}(h:ltA a b)(k:ltA b c):ltA a c:=by
 unfold ltA at *;omega
theorem ltA_tri {a b:arr2_i64}(h:¬ltA a b)(hn:¬(a.e0=b.e0/\a.e1=b.e1)):ltA b a:=by
 unfold ltA at *;omega
theorem put_sorted {l:List arr2_i64}{a:arr2_i64}{k:Nat}(hs:l.Pairwise ltA)(hk:k<=l.length)(h1:∀i:Nat,i<k->ltA (ix l (i:Int)) a)(h2:k<l.length->ltA a (ix l (k:Int))):(l.take k++[a]++l.drop k).Pairwise ltA:=by
 have hsp:=hs
 rw[<-List.take_append_drop k l,List.pairwise_append] at hsp
 obtain⟨p1,p2,p3⟩:=hsp
 have ht:∀z∈l.take k,ltA z a:=λz hz=>by
  obtain⟨i,hi,rfl⟩:=List.getElem_of_mem hz
  rw[List.length_take] at hi
  have:=h1 i (by omega)
  rwa [ix_lt (by omega),<-List.getElem_take (j:=k) (h:=by rw[List.length_take];omega)] at this
 have hd:∀z∈l.drop k,ltA a z:=λz hz=>by
  obtain⟨i,hi,rfl⟩:=List.getElem_of_mem hz
  rw[List.length_drop] at hi
  have h0:=h2 (by omega)
  rw[List.getElem_drop]
  rw[ix_lt (by omega)] at h0
  rcases Nat.eq_zero_or_pos i with e|e
  ·subst e;exact h0
  ·exact ltA_trans h0 (List.pairwise_iff_getElem.1 hs k (k+i) (by omega) (by omega) (by omega))
 rw[List.append_assoc,List.pairwise_append]
 refine⟨p1,?_,λx hx y hy=> ?_⟩
 ·rw[List.singleton_append,List.pairwise_cons]
  exact⟨hd,p2⟩
 ·rcases List.mem_append.1 hy with hy|hy
  ·rw[List.mem_singleton.1 hy];exact ht x hx
  ·exact p3 x hx y hy
theorem put_mem {l:List arr2_i64}{a:arr2_i64}{k:Nat}(z:arr2_i64):z∈l.take k++[a]++l.drop k↔z=a\/z∈l:=by
 have:z∈l↔z∈l.take k\/z∈l.drop k:=by
  conv=>lhs;rw[<-List.take_append_drop k l]
  exact List.mem_append
 rw[this,List.mem_append,List.mem_append,List.mem_singleton]
 constructor
 ·rintro ((h|h)|h)
  ·exact .inr (.inl h)
  ·exact .inl h
  ·exact .inr (.inr h)
 ·rintro (h|h|h)
  ·exact .inl (.inr h)
  ·exact .inl (.inl h)
  ·exact .inr h
theorem rputA_ok:SpecOK Tryz.prog rputA_sp:=rputA_of λl a post hp=>by
 obtain⟨⟨hl,hs⟩,hp⟩:=hp
 unfold rputA_W
 refine LOOP.fuel (λu=>∃k:Nat,u.1=(k:Int)/\k<=l.length/\∀i:Nat,i<k->ltA (ix l (i:Int)) a) (λu=>l.length-Int.toNat u.1) ⟨0,rfl,Nat.zero_le _,λi hi=>by omega⟩ ?_
 rintro rec ⟨(z:Int),⟨⟩⟩ ⟨k,i1,i2,i3⟩ hrec
 have i1:z=(k:Int):=i1
 subst i1
 refine λ_=>⟨λh=> ?_,λh=> ?_,λh=> ?_,IFB.mk (λhb=> ?_) (λhb _=>⟨λh=> ?_,IFB.mk (λhc=> ?_) (λhc=> ?_)⟩)⟩
 ·simp only[gx_t,decide_eq_true_eq] at h;omega
 ·simp only[gx_t,Bool.and_eq_true,decide_eq_true_eq] at h;omega
 ·simp only[gx_t,Bool.and_eq_true,decide_eq_true_eq] at h;omega
 ·simp only[Bool.and_eq_true,Bool.or_eq_true,decide_eq_true_eq] at hb
  obtain⟨hb1,hb2⟩:=hb
  show rec (IntKind.i64.wrap ((k:Int)+1))
  rw[wrapS (by omega)]
  refine hrec (((k+1:Nat):Int),()) ⟨k+1,rfl,by omega,λi hi=> ?_⟩ (by show l.length-((k+1:Nat):Int).toNat<l.length-(k:Int).toNat;omega)
  by_cases e:i=k
  ·subst e;exact hb2
  ·exact i3 i (by omega)
 ·simp only[gx_t,decide_eq_true_eq] at h;omega
 ·simp only[Bool.and_eq_true,decide_eq_true_eq,and_true] at hc
  obtain⟨c1,c2,c3⟩:=hc
  refine hp l ⟨hs,by omega,λz=>⟨.inr,λh=>h.elim (λe=> ?_) id⟩⟩
  have:z=ix l (k:Int):=by
   rw[e]
   obtain⟨a0,a1⟩:=a
   have c2:(ix l (k:Int)).e0=a0:=c2
   have c3:(ix l (k:Int)).e1=a1:=c3
   rw[<-c2,<-c3]
  rw[this]
  exact ix_mem (by omega) c1
 ·have hnl:k<l.length->ltA a (ix l (k:Int)):=λhk=>by
   refine ltA_tri (λh=> ?_) (λh=> ?_)
   ·have:(decide ((k:Int)<(l.length:Int))&&(decide ((ix l (k:Int)).1<a.1)||decide ((ix l (k:Int)).1=a.1)&&decide ((ix l (k:Int)).2<a.2)))=true:=by
     simp only[Bool.and_eq_true,Bool.or_eq_true,decide_eq_true_eq]
     exact⟨by omega,h⟩
    rw[this] at hb;cases hb
   ·have:(decide ((k:Int)<(l.length:Int))&&(decide ((ix l (k:Int)).1=a.1)&&(decide ((ix l (k:Int)).2=a.2)&&true)))=true:=by
     simp only[Bool.and_eq_true,decide_eq_true_eq,and_true]
     exact⟨by omega,h.1,h.2⟩
    rw[this] at hc;cases hc
  rw[sub_front,sub_back,List.nil_append]
  refine JOIN.opq λ(J:List arr2_i64->Prop) hJ=> ?_
  have fin:J (l.take k++[a]++l.drop k):=by
   rw[hJ]
   exact hp _ ⟨put_sorted hs i2 i3 hnl,by rw[List.length_append,List.length_append,List.length_take,List.length_drop];simp only[List.length_cons,List.length_nil];omega,λz=>put_mem z⟩
  have f1:(0+(l.take k).length) * 16<=140737488355328:=by rw[List.length_take];omega
  have f2:((l.take k).length+[a].length) * 16<=140737488355328:=by rw[List.length_take];simp only[List.length_cons,List.length_nil];omega
  have f3:((l.take k++[a]).length+(l.drop k).length) * 16<=140737488355328:=by rw[List.length_append,List.length_take,List.length_drop];simp only[List.length_cons,List.length_nil];omega
  exact⟨⟨.mk _,by omega,by omega⟩,⟨by omega,by omega,by omega⟩,⟨⟨f1,f2,f3,fin⟩,f1,f2,f3,fin⟩,f1,f2,f3,fin⟩
def rinv_P (l:List (api_Double))(n:Int)(post:List (Int)->Prop):Prop:=(l.length<=1000000/\∀v∈l,v.2.length<=1000000)/\post (invN l n l.length)
def rinv_sp:Spec:=⟨62,false,true,[.sl (.st .api_Double),.int .i64],.dat (.sl (.int .i64)),λx post=>rinv_P (x.1:List (api_Double)) (x.2.1:Int) (λy0=>post (y0,()))⟩
def rinv_C:CtxR:=⟨tau,[rule1 rput_sp],lookJ [(0,7,⟨[(12,.dat (.int .i64)),(5,.dat (.sl (.int .i64)))],[],(List.range' 13 20++[6,7,9]),[],[]⟩),(0,13,⟨[(20,.dat (.int .i64)),(5,.dat (.sl (.int .i64)))],[],(List.range' 21 11++[9]),[],[]⟩),(0,20,⟨[(5,.dat (.sl (.int .i64)))],[],(List.range' 22 9++[9]),[],[]⟩)]⟩
def rinv_W (l:List (api_Double))(n:Int)(post:List (Int)->Prop):Prop:=(↑l.length:Int)<=9223372036854775807->LOOP [Ty.int IntKind.i64,(Ty.int IntKind.i64).sl] (λ(rec1:Int->List Int->Prop) (z2:Int) (z3:List Int)=>IFB (decide (z2<(↑l.length:Int))) (((0:Int)<=z2/\z2<(↑l.length:Int))/\((↑(ix l z2).2.length:Int)<=9223372036854775807->LOOP [Ty.int IntKind.i64,(Ty.int IntKind.i64).sl] (λ(rec4:Int->List Int->Prop) (z5:Int) (z6:List Int)=>IFB (decide (z5<(↑(ix l z2).2.length:Int))) (JOIN [(Ty.int IntKind.i64).sl] (λ(y7:List Int)=>rec4 (IntKind.i64.wrap (z5+1)) y7) λ(J8:List Int->Prop)=>((0:Int)<=z5/\z5<(↑(ix l z2).2.length:Int))/\IFB (decide ((ix (ix l z2).2 z5).1=n)) (z6.length<=1000000/\J8 (putS z2 z6)) (J8 z6)) (rec1 (IntKind.i64.wrap (z2+1)) z6)) ((0:Int),z3,PUnit.unit))) (post z3)) ((0:Int),[],PUnit.unit)
theorem rinv_w (l:List (api_Double))(n:Int)(post:dens (shT rinv_sp.rs [])->Prop):rinv_W l n (λy0=>post (y0,()))=walkG (callR Tryz.prog rinv_C (drawF Tryz.prog tau) 8 0) 62 false [tv (.sl (.st .api_Double)) l,tv (.int .i64) n] rinv_sp.rs post:=by kernel_rfl
theorem rinv_of (h:∀l n post,rinv_P l n post->rinv_W l n post):SpecOK Tryz.prog rinv_sp:=SpecOK.of_rules (C:=rinv_C) (dr:=drawF Tryz.prog tau) (n:=8) (fk:=0) (.cons (rule1_ok rput_ok) .nil) (drawF_ok tau) λx post hp=>HoldW.of (rinv_w x.1 x.2.1 post) (h x.1 x.2.1 (λy0=>post (y0,())) hp)
theorem putS_last {n:Int}:∀{l:List Int},(∀z∈l,z<n)->putS n l=l++[n]
 |[],_=>rfl
 |z::r,h=>by
  unfold putS
  rw[if_pos (h z (by simp)),putS_last λw hw=>h w (by simp[hw])]
  rfl
theorem putS_same {n:Int}:∀{l:List Int},(∀z∈l,z<n)->putS n (l++[n])=l++[n]
 |[],_=>by
  show putS n [n]=[n]
  unfold putS
  rw[if_neg (by omega),if_pos rfl]
 |z::r,h=>by
  show putS n (z::(r++[n]))=z::(r++[n])
  unfold putS
  rw[if_pos (h z (by simp)),putS_same λw hw=>h w (by simp[hw])]
theorem invN_lt {l:List api_Double}{n:Int}{k:Nat}:∀z∈invN l n k,z<(k:Int):=λz hz=>by
 unfold invN at hz
 obtain⟨i,hi,rfl⟩:=List.mem_map.1 hz
 have:=List.mem_range.1 (List.mem_filter.1 hi).1
 omega
theorem rinv_ok:SpecOK Tryz.prog rinv_sp:=rinv_of λl n post hp=>by
 obtain⟨⟨hl,hcl⟩,hp⟩:=hp
 unfold rinv_W
 refine λ_=>LOOP.fuel (λu=>ivI l n u.1 u.2.1) (λu=>l.length-Int.toNat u.1) ⟨0,rfl,Nat.zero_le _,rfl⟩ ?_
 rintro rec ⟨(z:Int),(b:List Int),⟨⟩⟩ ⟨k,i1,i2,i3⟩ hrec
 have i1:z=(k:Int):=i1
 have q3:b=invN l n k:=i3
 clear i3
 subst i1
 refine IFB.mk (λhb=> ?_) (λhb=> ?_)
 ·have hb:(k:Int)<l.length:=of_decide_eq_true hb
  have hk:k<l.length:=by omega
  obtain⟨c,hc⟩:∃c,(ix l (k:Int)).2=c:=⟨_,rfl⟩
  have hc6:c.length<=1000000:=by rw[<-hc];exact hcl _ (ix_mem (by omega) hb)
  have hbl:b.length<=k:=by rw[q3];exact invN_len l n k
  refine⟨⟨by omega,hb⟩,λ_=> ?_⟩
  dsimp only
  rw[hc]
  refine LOOP.fuel (λu=>∃j:Nat,u.1=(j:Int)/\j<=c.length/\u.2.1=b++(if clmB (c.take j) n then [(k:Int)] else [])) (λu=>c.length-Int.toNat u.1) ⟨0,rfl,Nat.zero_le _,by show b=_;simp[clmB]⟩ ?_
  rintro rec2 ⟨(z2:Int),(d:List Int),⟨⟩⟩ ⟨j,j1,j2,j3⟩ hrec2
  have j1:z2=(j:Int):=j1
  have q6:d=b++(if clmB (c.take j) n then [(k:Int)] else []):=j3
  clear j3
  subst j1
  have hdl:d.length<=k+1:=by rw[q6,List.length_append];split<;>simp<;>omega
  refine IFB.mk (λhd=> ?_) (λhd=> ?_)
  ·have hd:(j:Int)<c.length:=of_decide_eq_true hd
   have hj:j<c.length:=by omega
   refine JOIN.opq λ(J:List Int->Prop) hJ=>⟨⟨by omega,hd⟩,?_⟩
   have htk:clmB (c.take (j+1)) n=(clmB (c.take j) n||decide ((ix c (j:Int)).1=n)):=by
    rw[List.take_succ_eq_append_getElem hj,<-ix_lt hj]
    unfold clmB
    rw[List.any_append]
    simp
   have nx:∀y,y=b++(if clmB (c.take (j+1)) n then [(k:Int)] else [])->J y:=λy hy=>by
    rw[hJ]
    show rec2 (IntKind.i64.wrap ((j:Int)+1)) y
    rw[wrapS (by omega)]
    exact hrec2 (((j+1:Nat):Int),y,()) ⟨j+1,rfl,hj,hy⟩ (by show c.length-((j+1:Nat):Int).toNat<c.length-(j:Int).toNat;omega)
   refine IFB.mk (λhe=>⟨by show d.length<=1000000;omega,nx _ ?_⟩) (λhe=>nx _ ?_)
   ·rw[htk,he,Bool.or_true,if_pos rfl,q6]
    have hlt:∀z∈b,z<(k:Int):=by rw[q3];exact invN_lt
    split
    ·exact putS_same hlt
    ·rw[List.append_nil];exact putS_last hlt
   ·rw[htk,he,Bool.or_false];exact q6
  ·have hd:¬(j:Int)<c.length:=of_decide_eq_false hd
   show rec (IntKind.i64.wrap ((k:Int)+1)) d
   rw[wrapS (by omega)]
   refine hrec (((k+1:Nat):Int),d,()) ⟨k+1,rfl,hk,?_⟩ (by show l.length-((k+1:Nat):Int).toNat<l.length-(k:Int).toNat;omega)
   show d=invN l n (k+1)
   rw[invN_succ,hc,<-q3,q6,List.take_of_length_le (by omega)]
 ·have hb:¬(k:Int)<l.length:=of_decide_eq_false hb
  have:k=l.length:=by omega
  rw[this] at q3
  rw[q3] at *
  exact hp
def rbeginV_sp:Spec:=⟨116,false,false,[.sl (.st .api_Version)],.dat (.int .i64),λx post=>rbegin_P (x.1:List (api_Version)) (λy0=>post (y0,()))⟩
theorem rbeginV_ok:SpecOK Tryz.prog rbeginV_sp:=λx post hp=>rbegin_ok x post hp
def rset_P (l:List (api_Version))(ys:List (api_Yield))(post:List (api_Version)->List (api_Double)->Int->Prop):Prop:=okS l/\∀m ds e,setR l ys m ds e->post m ds e
def rset_sp:Spec:=⟨56,false,true,[.sl (.st .api_Version),.sl (.st .api_Yield)],.tup [.dat (.sl (.st .api_Version)),.dat (.sl (.st .api_Double)),.dat (.int .i64)],λx post=>rset_P (x.1:List (api_Version)) (x.2.1:List (api_Yield)) (λy0 y1 y2=>post (y0,y1,y2,()))⟩
def rset_C:CtxR:=⟨tau,[ruleW 124 (.st .api_Version) 96 1 98 (.st .api_Line) Nest.Small,rule1 rval_sp,rule1 rcomb_sp,rule1 rlimit_sp,rule1 rbeginV_sp,rule1 rbef_sp,ruleNl nfaces_sp],lookJ [(0,17,⟨[(35,.dat (.int .i64))],[],(List.range' 36 34++[11,13,14]),[],[(0,96,(.st .api_Version))]⟩),(0,23,⟨[(42,.dat (.int .i64))],[],(List.range' 43 26++[13,14]),[],[(0,96,(.st .api_Version))]⟩),(4086,35,⟨[(66,.dat (.int .i64))],[],(List.range' 67 9++[10]),[],[(0,96,(.st .api_Version))]⟩),(4086,13,⟨[(19,.dat (.int .i64)),(5,.own 87 (.st .api_Double))],[],(List.range' 20 41++[7,8]),[],[(0,96,(.st .api_Version))]⟩),(4086,26,⟨[(5,.own 87 (.st .api_Double))],[],(List.range' 21 39++[7,8]),[1],[(0,96,(.st .api_Version))]⟩),(4086,1000012,⟨[(5,.own 87 (.st .api_Double))],[],(List.range' 43 17),[],[(0,96,(.st .api_Version))]⟩),(4086,21,⟨[(8,.dat (.int .i64))],[],(List.range' 27 16),[],[(0,96,(.st .api_Version))]⟩),(1024,17,⟨[(25,.dat (.int .i64))],[],(List.range' 26 59++[9,10,11]),[],[(0,96,(.st .api_Version))]⟩)]⟩
abbrev rset_a0 (z43:List api_Double)(z49:Int)(z11:List api_Version)(z42:Int)(J54:List api_Double->List api_Version->Prop)(z50:List api_Version):=(((0:Nat)+(sub z43 (0:Int) z49).length) * (48:Nat)<=(140737488355328:Nat)/\(([]++sub z43 (0:Int) z49).length+[{Region:={Rects:=(ix (facesRG [] [] (linV z11)) z42).2:api_Region},Claims:=(ix (facesRG [] [] (linV z11)) z42).1:api_Double}].length) * (48:Nat)<=(140737488355328:Nat)/\(([]++sub z43 (0:Int) z49++[{Region:={Rects:=(ix (facesRG [] [] (linV z11)) z42).2:api_Region},Claims:=(ix (facesRG [] [] (linV z11)) z42).1:api_Double}]).length+(sub z43 z49 (↑z43.length:Int)).length) * (48:Nat)<=(140737488355328:Nat)/\J54 ([]++sub z43 (0:Int) z49++[{Region:={Rects:=(ix (facesRG [] [] (linV z11)) z42).2:api_Region},Claims:=(ix (facesRG [] [] (linV z11)) z42).1:api_Double}]++sub z43 z49 (↑z43.length:Int)) z50)
abbrev rset_a1 (z11:List api_Version)(z42:Int):={Region:={Rects:=(ix (facesRG [] [] (linV z11)) z42).2:api_Region},Claims:=(ix (facesRG [] [] (linV z11)) z42).1:api_Double}
abbrev rset_a2 (z43:List api_Double)(z49:Int)(z11:List api_Version)(z42:Int):=(([]++sub z43 (0:Int) z49++[(rset_a1 z11 z42)]).length+(sub z43 z49 (↑z43.length:Int)).length)
def rset_W (l:List (api_Version))(ys:List (api_Yield))(post:List (api_Version)->List (api_Double)->Int->Prop):Prop:=(l.length<=1000/\∀(v1:api_Version),v1∈l->v1.2.length<=1000)/\∀(v2:Int),beginP l v2->IFB (!decide (v2=0)) (IFB (!decide (v2=0)) (post [] [] v2) ((Nat.le ((0:Nat)) ((1000:Nat))/\∀(v3:api_Version),v3∈[]->v3.2.length<=1000)/\∀(v4:Int),beginP [] v4->IFB (!decide (v4=0)) (IFB (!decide (v4=0)) (post [] [] v4) False) False)) ((↑ys.length:Int)<=9223372036854775807->IFB (decide ((200:Int)<(↑ys.length:Int))) (IFB true (post [] [] 1) ((Nat.le ((0:Nat)) ((1000:Nat))/\∀(v5:api_Version),v5∈[]->v5.2.length<=1000)/\∀(v6:Int),beginP [] v6->IFB (!decide (v6=0)) (IFB (!decide (v6=0)) (post [] [] v6) False) False)) ((l.length<=4000000/\∀(v7:api_Version),v7∈l->v7.2.length<=4000000/\∀(v8:api_Line),v8∈v7.2->v8.2.1.length<=4000000)/\((↑ys.length:Int)<=9223372036854775807->LOOP [Ty.int IntKind.i64,(Ty.st Sn.api_Version).sl] (λ(rec9:Int->List api_Version->Prop) (z10:Int) (z11:List api_Version)=>IFB (decide (z10<(↑ys.length:Int))) (((0:Int)<=z10/\z10<(↑ys.length:Int))/\((gx false (decide ((ix ys z10).1.1<0))=true->(↑l.length:Int)<=9223372036854775807)->(gx false (decide ((ix ys z10).1.1<0)||decide ((↑l.length:Int)<=(ix ys z10).1.1)||decide ((ix ys z10).1.2<0))=true->0<=(ix ys z10).1.1/\(ix ys z10).1.1<(↑l.length:Int))/\((gx false (decide ((ix ys z10).1.1<0)||decide ((↑l.length:Int)<=(ix ys z10).1.1)||decide ((ix ys z10).1.2<0))=true->(↑(ix l (ix ys z10).1.1).2.length:Int)<=9223372036854775807)->IFB (decide ((ix ys z10).1.1<0)||decide ((↑l.length:Int)<=(ix ys z10).1.1)||decide ((ix ys z10).1.2<0)||decide ((↑(ix l (ix ys z10).1.1).2.length:Int)<=(ix ys z10).1.2)) (IFB true (post [] [] 15) ((Nat.le ((0:Nat)) ((1000:Nat))/\∀(v12:api_Version),v12∈[]->v12.2.length<=1000)/\∀(v13:Int),beginP [] v13->IFB (!decide (v13=0)) (IFB (!decide (v13=0)) (post [] [] v13) (LOOP [Ty.int IntKind.i64,(Ty.st Sn.api_Version).sl] (λ(rec14:Int->List api_Version->Prop) (z15:Int) (z16:List api_Version)=>IFB (decide (z15<0)) False ((Nat.le ((0:Nat)) ((1000:Nat))/\∀(v17:api_Version),v17∈[]->v17.2.length<=1000)/\IFB false (post [] [] 0) (post [] [] 0))) ((0:Int),z11,PUnit.unit))) False)) (∀(v18:Bool),(v18=true↔validP (ix ys z10).2.1)->IFB (!v18) (IFB true (post [] [] 7) ((Nat.le ((0:Nat)) ((1000:Nat))/\∀(v19:api_Version),v19∈[]->v19.2.length<=1000)/\∀(v20:Int),beginP [] v20->IFB (!decide (v20=0)) (IFB (!decide (v20=0)) (post [] [] v20) (LOOP [Ty.int IntKind.i64,(Ty.st Sn.api_Version).sl] (λ(rec21:Int->List api_Version->Prop) (z22:Int) (z23:List api_Version)=>IFB (decide (z22<0)) False ((Nat.le ((0:Nat)) ((1000:Nat))/\∀(v24:api_Version),v24∈[]->v24.2.length<=1000)/\IFB false (post [] [] 0) (post [] [] 0))) ((0:Int),z11,PUnit.unit))) False)) (((0:Int)<=(ix ys z10).1.1/\(ix ys z10).1.1<(↑z11.length:Int))/\((0:Int)<=(ix ys z10).1.2/\(ix ys z10).1.2<(↑(ix z11 (ix ys z10).1.1).2.length:Int))/\((ix (ix z11 (ix ys z10).1.1).2 (ix ys z10).1.2).2.1.length<=1000/\(ix ys z10).2.1.length<=1000)/\rec9 (IntKind.i64.wrap (z10+1)) (z11.set (ix ys z10).1.1.toNat (⟨(ix z11 (ix ys z10).1.1).1,(ix z11 (ix ys z10).1.1).2.set (ix ys z10).1.2.toNat (⟨(ix (ix z11 (ix ys z10).1.1).2 (ix ys z10).1.2).1,(⟨canonF λ(x y:Int)=>howS (3:Int) (cov (ix (ix z11 (ix ys z10).1.1).2 (ix ys z10).1.2).2.1 x y) (cov (ix ys z10).2.1 x y)⟩:api_Region),(ix (ix z11 (ix ys z10).1.1).2 (ix ys z10).1.2).3,(ix (ix z11 (ix ys z10).1.1).2 (ix ys z10).1.2).4⟩:api_Line)⟩:api_Version))))))) ((z11.length<=1000/\∀(v25:api_Version),v25∈z11->v25.2.length<=1000)/\IFB (!decide (limitF z11=0)) (IFB (!decide (limitF z11=0)) (post [] [] (limitF z11)) ((Nat.le ((0:Nat)) ((1000:Nat))/\∀(v26:api_Version),v26∈[]->v26.2.length<=1000)/\∀(v27:Int),beginP [] v27->IFB (!decide (v27=0)) (IFB (!decide (v27=0)) (post [] [] v27) (LOOP [Ty.int IntKind.i64,(Ty.st Sn.api_Version).sl] (λ(rec28:Int->List api_Version->Prop) (z29:Int) (z30:List api_Version)=>IFB (decide (z29<0)) False ((Nat.le ((0:Nat)) ((1000:Nat))/\∀(v31:api_Version),v31∈[]->v31.2.length<=1000)/\IFB false (post [] [] 0) (post [] [] 0))) ((0:Int),z11,PUnit.unit))) False)) (IFB false (post [] [] 0) ((z11.length<=1000/\∀(v32:api_Version),v32∈z11->v32.2.length<=1000)/\∀(v33:Int),beginP z11 v33->IFB (!decide (v33=0)) (IFB (!decide (v33=0)) (post [] [] v33) (LOOP [Ty.int IntKind.i64,(Ty.st Sn.api_Version).sl] (λ(rec34:Int->List api_Version->Prop) (z35:Int) (z36:List api_Version)=>IFB (decide (z35<0)) False ((z36.length<=1000/\∀(v37:api_Version),v37∈z36->v37.2.length<=1000)/\IFB (!decide (limitF z36=0)) (post [] [] (limitF z36)) (post z36 [] 0))) ((0:Int),z11,PUnit.unit))) (((z11.length<=1000/\∀(v38:api_Version),v38∈z11->v38.2.length<=1000)/\(linV z11).length<=60/\List.Pairwise (λ(x1 x2:api_Place)=>x1=x2->False) (List.map (λ(x:crosscheck_line)=>x.1) (linV z11))/\∀(v39:crosscheck_line),v39∈linV z11->(∀(v40:api_Rect),v40∈v39.2->0<=v40.1/\v40.1<v40.3/\v40.3<=30/\0<=v40.2/\v40.2<v40.4/\v40.4<=10)/\v39.2.length<=120)/\((↑(facesRG [] [] (linV z11)).length:Int)<=9223372036854775807->LOOP [Ty.int IntKind.i64,(Ty.st Sn.api_Double).sl,(Ty.st Sn.api_Version).sl] (λ(rec41:Int->List api_Double->List api_Version->Prop) (z42:Int) (z43:List api_Double) (z44:List api_Version)=>IFB (decide (z42<(↑(facesRG [] [] (linV z11)).length:Int))) (JOIN [(Ty.st Sn.api_Double).sl,(Ty.st Sn.api_Version).sl] (λ(y45:List api_Double) (y46:List api_Version)=>rec41 (IntKind.i64.wrap (z42+1)) y45 y46) λ(J47:List api_Double->List api_Version->Prop)=>((0:Int)<=z42/\z42<(↑(facesRG [] [] (linV z11)).length:Int))/\((↑(ix (facesRG [] [] (linV z11)) z42).1.length:Int)<=9223372036854775807->IFB (decide ((↑(ix (facesRG [] [] (linV z11)) z42).1.length:Int)<2)) (J47 z43 z44) (LOOP [Ty.int IntKind.i64,(Ty.st Sn.api_Version).sl] (λ(rec48:Int->List api_Version->Prop) (z49:Int) (z50:List api_Version)=>(↑z43.length:Int)<=9223372036854775807->(gx true (decide (z49<(↑z43.length:Int)))=true->0<=z49/\z49<(↑z43.length:Int))/\JOIN [Ty.bool] (λ(y51:Bool)=>IFB (decide (z49<(↑z43.length:Int))&&y51) (rec48 (IntKind.i64.wrap (z49+1)) z50) (JOIN [(Ty.st Sn.api_Double).sl,(Ty.st Sn.api_Version).sl] (λ(y52:List api_Double) (y53:List api_Version)=>J47 y52 y53) λ(J54:List api_Double->List api_Version->Prop)=>(Int.NonNeg 0/\0<=z49/\z49<=(↑z43.length:Int))/\((0:Int)<=z49/\z49<=(↑z43.length:Int)/\(↑z43.length:Int)<=(↑z43.length:Int))/\((rset_a0 z43 z49 z11 z42 J54 z50)/\(rset_a0 z43 z49 z11 z42 J54 z50)/\(rset_a0 z43 z49 z11 z42 J54 z50)/\((0:Nat)+(sub z43 (0:Int) z49).length) * (48:Nat)<=140737488355328/\(([]++sub z43 (0:Int) z49).length+[(rset_a1 z11 z42)].length) * (48:Nat)<=140737488355328/\(rset_a2 z43 z49 z11 z42) * (48:Nat)<=140737488355328/\J54 ([]++sub z43 (0:Int) z49++[(rset_a1 z11 z42)]++sub z43 z49 (↑z43.length:Int)) z50)/\((rset_a0 z43 z49 z11 z42 J54 z50)/\(rset_a0 z43 z49 z11 z42 J54 z50)/\((0:Nat)+(sub z43 (0:Int) z49).length) * (48:Nat)<=140737488355328/\(([]++sub z43 (0:Int) z49).length+[(rset_a1 z11 z42)].length) * (48:Nat)<=140737488355328/\(rset_a2 z43 z49 z11 z42) * (48:Nat)<=140737488355328/\J54 ([]++sub z43 (0:Int) z49++[(rset_a1 z11 z42)]++sub z43 z49 (↑z43.length:Int)) z50)/\((rset_a0 z43 z49 z11 z42 J54 z50)/\((0:Nat)+(sub z43 (0:Int) z49).length) * (48:Nat)<=140737488355328/\(([]++sub z43 (0:Int) z49).length+[(rset_a1 z11 z42)].length) * (48:Nat)<=140737488355328/\(rset_a2 z43 z49 z11 z42) * (48:Nat)<=140737488355328/\J54 ([]++sub z43 (0:Int) z49++[(rset_a1 z11 z42)]++sub z43 z49 (↑z43.length:Int)) z50)/\((0:Nat)+(sub z43 (0:Int) z49).length) * (48:Nat)<=140737488355328/\(([]++sub z43 (0:Int) z49).length+[(rset_a1 z11 z42)].length) * (48:Nat)<=140737488355328/\(rset_a2 z43 z49 z11 z42) * (48:Nat)<=140737488355328/\J54 ([]++sub z43 (0:Int) z49++[(rset_a1 z11 z42)]++sub z43 z49 (↑z43.length:Int)) z50)) λ(J55:Bool->Prop)=>IFB (gx true (decide (z49<(↑z43.length:Int)))) (((ix z43 z49).2.length<=1000000000/\(ix (facesRG [] [] (linV z11)) z42).1.length<=1000000000)/\J55 (befP (ix z43 z49).2 (ix (facesRG [] [] (linV z11)) z42).1)) (J55 false)) ((0:Int),z44,PUnit.unit)))) ((↑z43.length:Int)<=9223372036854775807->IFB (decide ((200:Int)<(↑z43.length:Int))) (IFB true (post [] [] 1) (LOOP [Ty.int IntKind.i64,(Ty.st Sn.api_Version).sl] (λ(rec56:Int->List api_Version->Prop) (z57:Int) (z58:List api_Version)=>IFB (decide (z57<0)) False ((z58.length<=1000/\∀(v59:api_Version),v59∈z58->v59.2.length<=1000)/\IFB (!decide (limitF z58=0)) (post [] [] (limitF z58)) (post z58 [] 0))) ((0:Int),z44,PUnit.unit))) ((↑z43.length:Int)<=9223372036854775807->LOOP [Ty.int IntKind.i64,(Ty.st Sn.api_Version).sl] (λ(rec60:Int->List api_Version->Prop) (z61:Int) (z62:List api_Version)=>IFB (decide (z61<(↑z43.length:Int))) (((0:Int)<=z61/\z61<(↑z43.length:Int))/\((↑(ix z43 z61).1.1.length:Int)<=9223372036854775807->IFB (decide ((120:Int)<(↑(ix z43 z61).1.1.length:Int))) (IFB true (post [] [] 1) (LOOP [Ty.int IntKind.i64,(Ty.st Sn.api_Version).sl] (λ(rec63:Int->List api_Version->Prop) (z64:Int) (z65:List api_Version)=>IFB (decide (z64<0)) False ((z65.length<=1000/\∀(v66:api_Version),v66∈z65->v66.2.length<=1000)/\IFB (!decide (limitF z65=0)) (post [] [] (limitF z65)) (post z65 [] 0))) ((0:Int),z62,PUnit.unit))) (rec60 (IntKind.i64.wrap (z61+1)) z62))) (IFB false (post [] [] 0) ((↑z43.length:Int)<=9223372036854775807->LOOP [Ty.int IntKind.i64,(Ty.st Sn.api_Version).sl] (λ(rec67:Int->List api_Version->Prop) (z68:Int) (z69:List api_Version)=>IFB (decide (z68<(↑z43.length:Int))) (((0:Int)<=z68/\z68<(↑z43.length:Int))/\((↑(ix z43 z68).2.length:Int)<=9223372036854775807->LOOP [Ty.int IntKind.i64,(Ty.st Sn.api_Version).sl] (λ(rec70:Int->List api_Version->Prop) (z71:Int) (z72:List api_Version)=>IFB (decide (z71<(↑(ix z43 z68).2.length:Int))) (((0:Int)<=z71/\z71<(↑(ix z43 z68).2.length:Int))/\((0:Int)<=(ix (ix z43 z68).2 z71).1/\(ix (ix z43 z68).2 z71).1<(↑z72.length:Int))/\((0:Int)<=(ix (ix z43 z68).2 z71).2/\(ix (ix z43 z68).2 z71).2<(↑(ix z72 (ix (ix z43 z68).2 z71).1).2.length:Int))/\((ix (ix z72 (ix (ix z43 z68).2 z71).1).2 (ix (ix z43 z68).2 z71).2).2.1.length<=1000/\(ix z43 z68).1.1.length<=1000)/\rec70 (IntKind.i64.wrap (z71+1)) (z72.set (ix (ix z43 z68).2 z71).1.toNat (⟨(ix z72 (ix (ix z43 z68).2 z71).1).1,(ix z72 (ix (ix z43 z68).2 z71).1).2.set (ix (ix z43 z68).2 z71).2.toNat (⟨(ix (ix z72 (ix (ix z43 z68).2 z71).1).2 (ix (ix z43 z68).2 z71).2).1,(⟨canonF λ(x y:Int)=>howS (3:Int) (cov (ix (ix z72 (ix (ix z43 z68).2 z71).1).2 (ix (ix z43 z68).2 z71).2).2.1 x y) (cov (ix z43 z68).1.1 x y)⟩:api_Region),(ix (ix z72 (ix (ix z43 z68).2 z71).1).2 (ix (ix z43 z68).2 z71).2).3,(ix (ix z72 (ix (ix z43 z68).2 z71).1).2 (ix (ix z43 z68).2 z71).2).4⟩:api_Line)⟩:api_Version))) (rec67 (IntKind.i64.wrap (z68+1)) z72)) ((0:Int),z69,PUnit.unit))) ((z69.length<=1000/\∀(v73:api_Version),v73∈z69->v73.2.length<=1000)/\IFB (!decide (limitF z69=0)) (post [] [] (limitF z69)) (post z69 z43 0))) ((0:Int),z62,PUnit.unit)))) ((0:Int),z44,PUnit.unit)))) ((0:Int),[],z11,PUnit.unit))))))) ((0:Int),l,PUnit.unit))))
theorem rset_w (l:List (api_Version))(ys:List (api_Yield))(post:dens (shT rset_sp.rs [])->Prop):rset_W l ys (λy0 y1 y2=>post (y0,y1,y2,()))=walkG (callR Tryz.prog rset_C (drawF Tryz.prog tau) 10 0) 56 false [tv (.sl (.st .api_Version)) l,tv (.sl (.st .api_Yield)) ys] rset_sp.rs post:=by kernel_rfl
theorem rset_of (h:∀l ys post,rset_P l ys post->rset_W l ys post):SpecOK Tryz.prog rset_sp:=SpecOK.of_rules (C:=rset_C) (dr:=drawF Tryz.prog tau) (n:=10) (fk:=0) (.cons (ruleW_ok Nest.copy_mk) (.cons (rule1_ok rval_ok) (.cons (rule1_ok rcomb_ok) (.cons (rule1_ok rlimit_ok) (.cons (rule1_ok rbeginV_ok) (.cons (rule1_ok rbef_ok) (.cons (ruleNl_ok nfaces_ok) .nil))))))) (drawF_ok tau) λx post hp=>HoldW.of (rset_w x.1 x.2.1 post) (h x.1 x.2.1 (λy0 y1 y2=>post (y0,y1,y2,())) hp)
set_option maxHeartbeats 4000000 in
theorem rset_h (l:List api_Version)(ys:List api_Yield)(post:List (api_Version)->List (api_Double)->Int->Prop)(hp:rset_P l ys post):rset_W l ys post:=by
 obtain⟨hS,hp⟩:=hp
 have h1:=hS.1
 have perr:∀e:Int,givS l ys=([],e)->e≠0->post [] [] e:=λe h he=>hp [] [] e (.inl ⟨by rw[h];exact he,rfl,rfl,by rw[h]⟩)
 unfold rset_W rset_a2 rset_a1 rset_a0
 refine⟨h1,λe he=> ?_⟩
 have he:=beginP_F he
 subst he
 refine IFB.mk (λhb=>IFB.yes hb ?_) (λhb=> ?_)
 ·have hb:beginF l≠0:=by simpa using hb
  exact perr _ (by unfold givS;rw[if_pos hb]) hb
 have hb:beginF l=0:=by simpa using hb
 refine λ_=>IFB.mk (λhc=>IFB.yes rfl ?_) (λhc=> ?_)
 ·have hc:(200:Int)<(ys.length:Int):=of_decide_eq_true hc
  exact perr 1 (by unfold givS;rw[if_neg (by simp[hb]),if_pos (by omega)]) (by decide)
 have hc:¬(200:Int)<(ys.length:Int):=of_decide_eq_false hc
 have hc':¬200<ys.length:=by omega
 obtain⟨hlen,hval⟩:=begin_zero hb
 refine⟨⟨by have:=h1.1;omega,λv hv=>⟨by have:=h1.2 v hv;omega,λx hx=> ?_⟩⟩,λ_=> ?_⟩
 ·have:=(lin_valid.2 hval _ (regN_mem hv hx)).1
  show x.Region.Rects.length<=4000000;omega
 refine LOOP.fuel (λu=>∃k:Nat,u.1=(k:Int)/\k<=ys.length/\u.2.1=(ys.take k).foldl give1 l/\errY l (ys.take k)=0/\∀z∈ys.take k,thereP l z.1/\validP z.2.1) (λu=>ys.length-Int.toNat u.1) ⟨0,rfl,Nat.zero_le _,rfl,rfl,λz hz=>by cases hz⟩ ?_
 rintro rec ⟨(z0:Int),(m:List api_Version),⟨⟩⟩ ⟨k,i1,i2,i3,i4,i5⟩ hrec
 have i1:z0=(k:Int):=i1
 have q3:m=(ys.take k).foldl give1 l:=i3
 clear i3
 subst i1
 have hyk:∀z∈ys.take k,thereP l z.1:=λz hz=>(i5 z hz).1
 have hlike:likeV l m:=by rw[q3];exact (gives_ok hyk).1
 refine IFB.mk (λhd=> ?_) (λhd=> ?_)
 ·have hd:(k:Int)<ys.length:=of_decide_eq_true hd
  have hk:k<ys.length:=by omega
  obtain⟨z,hz⟩:∃z,ys[k]=z:=⟨_,rfl⟩
  have hix:ix ys (k:Int)=z:=by rw[ix_lt hk,hz]
  have htk:ys.take (k+1)=ys.take k++[z]:=by rw[List.take_succ_eq_append_getElem hk,hz]
  dsimp only
  rw[hix]
  have hl:(l.length:Int)<=1000:=by have:=h1.1;omega
  refine⟨⟨by omega,hd⟩,?_⟩
  have hA:gx false (decide (z.Place.Application<0)||decide ((l.length:Int)<=z.Place.Application)||decide (z.Place.Line<0))=true->0<=z.Place.Application/\z.Place.Application<(l.length:Int):=λh=>by
   simp[gx] at h
   omega
  have hne15:∀h:¬thereP l z.1,errY l (ys.take (k+1))=15:=λh=>by rw[htk,errY_snoc i4,errY,if_pos h]
  have hne7:∀h:thereP l z.1,¬validP z.2.1->errY l (ys.take (k+1))=7:=λh h'=>by rw[htk,errY_snoc i4,errY,if_neg (not_not_intro h),if_pos h']
  have hne0:∀h:thereP l z.1,validP z.2.1->errY l (ys.take (k+1))=0:=λh h'=>by rw[htk,errY_snoc i4,errY,if_neg (not_not_intro h),if_neg (not_not_intro h')];rfl
  refine λ_=>⟨hA,λ_=> ?_⟩
  refine IFB.mk (λht=>IFB.yes rfl ?_) (λht=> ?_)
  ·have hnt:¬thereP l z.1:=λ⟨a,b,c,d⟩=>by
    simp at ht
    omega
   exact perr 15 (givS_err hb hc' (hne15 hnt) (by decide)) (by decide)
  ·have hth:thereP l z.1:=by
    simp at ht
    exact⟨by omega,by omega,by omega,by omega⟩
   intro v8 hv8
   refine IFB.mk (λhn=>IFB.yes rfl ?_) (λhn=> ?_)
   ·have hnv:¬validP z.2.1:=λh=>by have:=hv8.2 h;rw[this] at hn;cases hn
    exact perr 7 (givS_err hb hc' (hne7 hth hnv) (by decide)) (by decide)
   ·have hv:validP z.2.1:=hv8.1 (by cases v8<;>simp_all)
    obtain⟨m1,m2,m3,m4⟩:=hlike.there.2 hth
    have hlen1:(gat m z.1).length<=300:=by rw[q3];exact (gave_box hb hS hyk hth).2.1
    refine⟨⟨m1,m2⟩,⟨m3,m4⟩,⟨?_,?_⟩,?_⟩
    ·show (gat m z.1).length<=1000
     omega
    ·have:=hv.1;show z.2.1.length<=1000;omega
    ·show rec (IntKind.i64.wrap ((k:Int)+1)) _
     rw[wrapS (by omega)]
     refine hrec (((k+1:Nat):Int),_,()) ⟨k+1,rfl,hk,?_,hne0 hth hv,?_⟩ (by show ys.length-((k+1:Nat):Int).toNat<ys.length-(k:Int).toNat;omega)
     ·rw[htk,foldl_snoc,<-q3];rfl
     ·intro y hy
      rw[htk] at hy
      rcases List.mem_append.1 hy with hy|hy
      ·exact i5 y hy
      ·rw[List.mem_singleton.1 hy];exact⟨hth,hv⟩
 have hd:¬(k:Int)<ys.length:=of_decide_eq_false hd
 have hk:k=ys.length:=by omega
 rw[hk,List.take_length] at q3 i4
 have hmany:manyV m:=many_like hlike h1
 dsimp only
 refine⟨hmany,?_⟩
 refine IFB.mk (λhn=>IFB.yes hn ?_) (λhn=>IFB.no rfl ?_)
 ·have hn:limitF m≠0:=by simpa using hn
  have h1':limitF m=1:=by unfold limitF at hn ⊢;split at hn<;>first|exact absurd rfl hn|(rename_i h;rw[if_neg h])
  rw[h1']
  exact perr 1 (by
   unfold givS
   rw[if_neg (by simp[hb]),if_neg hc',if_neg (by simp[i4]),if_pos (by rw[<-q3];exact hn)]) (by decide)
 have hn:limitF m=0:=by simpa using hn
 have e:givS l ys=(m,0):=by
  unfold givS
  rw[if_neg (by simp[hb]),if_neg hc',if_neg (by simp[i4]),if_neg (by rw[<-q3];simp[hn]),<-q3]
 have hSm:okS m:=by
  have:=(okS_give (ys:=ys) hS (by rw[e])).1
  rwa [e] at this
 have hset:∀m' ds' e',(∃d0 e0,dblR m d0 e0/\((e0≠0/\m'=[]/\ds'=[]/\e'=e0)\/(e0=0/\limitF (setS m d0)≠0/\m'=[]/\ds'=[]/\e'=1)\/(e0=0/\limitF (setS m d0)=0/\m'=setS m d0/\ds'=d0/\e'=0)))->post m' ds' e':=λm' ds' e' h=>hp m' ds' e' (.inr ⟨by rw[e],by rw[e];exact h⟩)
 clear hrec perr
 refine⟨hmany,λe0 he0=> ?_⟩
 have he0:=beginP_F he0
 subst he0
 refine IFB.mk (λhbm=>IFB.yes hbm ?_) (λhbm=> ?_)
 ·have hbm:beginF m≠0:=by simpa using hbm
  exact hset [] [] _ ⟨[],_,.inl ⟨hbm,rfl,rfl⟩,.inl ⟨hbm,rfl,rfl,rfl⟩⟩
 have hbm:beginF m=0:=by simpa using hbm
 have hs:=(okS_D hSm).2 hbm
 have hbox:∀x∈linV m,inBox x.rects:=λx hx=>(hs.2.2 x hx).1
 have hpm:=facesR_perm (linV m)
 have hok:=faces_perm (faces_ok hs.2.1) hpm.symm
 have hfew:=faces_few hok hbox
 have href:=dbls_ref hs.2.1
 refine⟨⟨hmany,hs⟩,λ_=> ?_⟩
 generalize hR:facesRG [] [] (linV m)=R at *
 rw[List.length_map] at hfew
 refine LOOP.fuel (λu=>rdbI R u.1 u.2.1/\u.2.2.1=m) (λu=>R.length-Int.toNat u.1) ⟨⟨0,rfl,Nat.zero_le _,rfl⟩,rfl⟩ ?_
 rintro rec ⟨(zz:Int),(b:List Dbl),(mm:List api_Version),⟨⟩⟩ ⟨⟨k2,i1,i2,i3⟩,i6⟩ hrec
 have p1:zz=(k2:Int):=i1
 have q7:b=sortD ((two ((R.take k2).map cv)).map toD):=i3
 have p6:mm=m:=i6
 clear i1 i3 i6
 subst p1 p6
 have hbl:b.length<=300:=by
  rw[q7,sortD_len,List.length_map]
  unfold two
  have:=List.length_filter_le (λf:Fc=>decide (2<=f.claims.length)) ((R.take k2).map cv)
  rw[List.length_map,List.length_take] at this
  omega
 have hbm2:∀d∈b,d.Claims.length<=60:=λd hd=>by
  rw[q7] at hd
  obtain⟨f,hf,rfl⟩:=List.mem_map.1 (sortD_mem hd)
  have hf:=(List.mem_filter.1 hf).1
  obtain⟨g,hg,rfl⟩:=List.mem_map.1 hf
  have:=(face_small hok hbox (List.mem_map.2 ⟨g,List.mem_of_mem_take hg,rfl⟩)).2.2
  have h2:=hs.1
  show (cv g).claims.length<=60
  omega
 refine IFB.mk (λhc=>JOIN.opq λ(J:List Dbl->List api_Version->Prop) hJ=> ?_) (λhc=> ?_)
 ·have hc:(k2:Int)<R.length:=of_decide_eq_true hc
  have hk:k2<R.length:=by omega
  obtain⟨f,hf⟩:∃f,ix R (k2:Int)=f:=⟨_,rfl⟩
  have hfm:f∈R:=by rw[<-hf,ix_lt hk];exact List.getElem_mem hk
  have hfc:f.claims.length<=60:=by
   have:=(face_small hok hbox (List.mem_map.2 ⟨f,hfm,rfl⟩)).2.2
   have e:(cv f).claims=f.claims:=rfl
   have h2:=hs.1
   rw[e] at this;omega
  have etk:two ((R.take (k2+1)).map cv)=two ((R.take k2).map cv)++two [cv f]:=by rw[List.take_succ_eq_append_getElem hk,List.map_append,two_app,<-ix_lt hk,hf];rfl
  have hJ2:∀y:List Dbl,y=sortD ((two ((R.take (k2+1)).map cv)).map toD)->J y mm:=λy hy=>by
   rw[hJ]
   show rec (IntKind.i64.wrap ((k2:Int)+1)) y mm
   rw[wrapS (by omega)]
   exact hrec (((k2+1:Nat):Int),y,mm,()) ⟨⟨k2+1,rfl,hk,hy⟩,rfl⟩ (by show R.length-((k2+1:Nat):Int).toNat<R.length-(k2:Int).toNat;omega)
  dsimp only
  rw[hf]
  refine⟨⟨by omega,hc⟩,λ_=>IFB.mk (λhd=> ?_) (λhd=> ?_)⟩
  ·have hd:(f.claims.length:Int)<2:=of_decide_eq_true hd
   refine hJ2 b ?_
   rw[etk,q7,show two [cv f]=[] by unfold two;rw[List.filter_cons,if_neg (by show ¬decide (2<=f.claims.length)=true;simp;omega),List.filter_nil],List.append_nil]
  ·have hd:¬(f.claims.length:Int)<2:=of_decide_eq_false hd
   have e2:two [cv f]=[cv f]:=by unfold two;rw[List.filter_cons,if_pos (by show decide (2<=f.claims.length)=true;simp;omega),List.filter_nil]
   have ins:∀j:Nat,j<=b.length->(∀i:Nat,i<j->befP (ix b (i:Int)).Claims f.claims=true)->(j=b.length\/befP (ix b (j:Int)).Claims f.claims=false)->J ([]++sub b 0 (j:Int)++[(⟨⟨f.rects⟩,f.claims⟩:Dbl)]++sub b (j:Int) (b.length:Int)) mm:=λj hj a1 a2=>by
    refine hJ2 _ ?_
    obtain⟨t1,t2⟩:=take_while (p:=λa:Dbl=>befP a.Claims f.claims) hj a1 a2
    rw[etk,e2,List.map_append,List.map_cons,List.map_nil,sortD_app,<-q7]
    show _=b.takeWhile (λa:Dbl=>befP a.Claims f.claims)++(⟨⟨f.rects⟩,f.claims⟩:Dbl)::b.dropWhile (λa:Dbl=>befP a.Claims f.claims)
    rw[t1,t2,sub_front,sub_back,List.nil_append,List.append_assoc];rfl
   refine LOOP.fuel (λu=>rdbJ b f.claims u.1/\u.2.1=mm) (λu=>b.length-Int.toNat u.1) ⟨⟨0,rfl,Nat.zero_le _,λi hi=>absurd hi (Nat.not_lt_zero i)⟩,rfl⟩ ?_
   rintro rec2 ⟨(z2:Int),(mn:List api_Version),⟨⟩⟩ ⟨⟨j,j1,j2,j3⟩,j6⟩ hrec2
   have j1:z2=(j:Int):=j1
   have j3:∀i:Nat,i<j->befP (ix b (i:Int)).Claims f.claims=true:=j3
   have j7:mn=mm:=j6
   clear j6
   subst j1 j7
   have next:j<b.length->befP (ix b (j:Int)).Claims f.claims=true->rec2 (IntKind.i64.wrap ((j:Int)+1)) mn:=λhj hj2=>by
    rw[wrapS (by omega)]
    refine hrec2 (((j+1:Nat):Int),mn,()) ⟨⟨j+1,rfl,hj,λi hi=> ?_⟩,rfl⟩ (by show b.length-((j+1:Nat):Int).toNat<b.length-(j:Int).toNat;omega)
    by_cases e:i=j
    ·rw[e];exact hj2
    ·exact j3 i (by omega)
   have hg:gx true (decide ((j:Int)<(b.length:Int)))=true->(0:Int)<=(j:Int)/\(j:Int)<(b.length:Int):=λh=>by
    rw[gx_t,decide_eq_true_iff] at h
    exact⟨by omega,h⟩
   have s1:(sub b 0 (j:Int)).length<=300:=by rw[sub_front,List.length_take];omega
   have s2:(sub b (j:Int) (b.length:Int)).length<=300:=by rw[sub_back,List.length_drop];omega
   have z1:(0+(sub b 0 (j:Int)).length) * 48<=140737488355328:=by omega
   have z2:(([]++sub b 0 (j:Int):List Dbl).length+[(⟨⟨f.rects⟩,f.claims⟩:Dbl)].length) * 48<=140737488355328:=by simp only[List.nil_append,List.length_cons,List.length_nil];omega
   have z3:(([]++sub b 0 (j:Int)++[(⟨⟨f.rects⟩,f.claims⟩:Dbl)]:List Dbl).length+(sub b (j:Int) (b.length:Int)).length) * 48<=140737488355328:=by simp only[List.nil_append,List.length_append,List.length_cons,List.length_nil];omega
   have z4:Int.NonNeg (0:Int):=Int.NonNeg.mk _
   have z5:(0:Int)<=(j:Int):=by omega
   have z6:(j:Int)<=(b.length:Int):=by omega
   have z7:(b.length:Int)<=(b.length:Int):=Int.le_refl _
   refine λ_=>⟨hg,?_⟩
   refine JOIN.opq λ(K:Bool->Prop) hK=> ?_
   have fin:∀y:Bool,(j<b.length->y=befP (ix b (j:Int)).Claims f.claims)->K y:=λy hy=>by
    rw[hK]
    dsimp only
    refine IFB.mk (λhn=> ?_) (λhn=>JOIN.opq λ(M:List Dbl->List api_Version->Prop) hM=> ?_)
    ·rw[Bool.and_eq_true,decide_eq_true_iff] at hn
     have hj:j<b.length:=by omega
     exact next hj (by rw[<-hy hj];exact hn.2)
    ·have hM2:M ([]++sub b 0 (j:Int)++[(⟨⟨f.rects⟩,f.claims⟩:Dbl)]++sub b (j:Int) (b.length:Int)) mn:=by
      rw[hM]
      refine ins j j2 j3 ?_
      rw[Bool.and_eq_false_iff,decide_eq_false_iff_not] at hn
      by_cases hj:j<b.length
      ·right
       rcases hn with hn|hn
       ·omega
       ·rw[<-hy hj];exact hn
      ·left;omega
     repeat' first
      |exact hM2
      |exact z1
      |exact z2
      |exact z3
      |exact z4
      |exact z5
      |exact z6
      |exact z7
      |with_reducible apply And.intro
   refine IFB.mk (λhn=>⟨⟨?_,?_⟩,fin _ λ_=>rfl⟩) (λhn=>fin _ λhj=> ?_)
   ·rw[gx_t,decide_eq_true_iff] at hn
    have:=hbm2 _ (ix_mem (l:=b) (i:=(j:Int)) (by omega) hn)
    show (ix b (j:Int)).Claims.length<=1000000000
    omega
   ·show f.claims.length<=1000000000
    omega
   ·rw[gx_t,decide_eq_false_iff_not] at hn
    omega
 have hc:¬(k2:Int)<R.length:=of_decide_eq_false hc
 have hk:k2=R.length:=by omega
 rw[hk,List.take_length] at q7
 rw[<-q7] at href
 clear hrec
 refine λ_=>IFB.mk (λhd=>IFB.yes rfl ?_) (λhd _=> ?_)
 ·have hd:(200:Int)<(b.length:Int):=of_decide_eq_true hd
  exact hset [] [] 1 ⟨[],1,.inr ⟨hbm,b,href,.inl ⟨.inl (by omega),rfl,rfl⟩⟩,.inl ⟨by decide,rfl,rfl,rfl⟩⟩
 have hd:¬(200:Int)<(b.length:Int):=of_decide_eq_false hd
 refine LOOP.fuel (λu=>(∃i:Nat,u.1=(i:Int)/\i<=b.length/\∀j:Nat,j<i->(ix b (j:Int)).Region.Rects.length<=120)/\u.2.1=mm) (λu=>b.length-Int.toNat u.1) ⟨⟨0,rfl,Nat.zero_le _,λj hj=>absurd hj (Nat.not_lt_zero j)⟩,rfl⟩ ?_
 rintro rec3 ⟨(z3:Int),(mo:List api_Version),⟨⟩⟩ ⟨⟨i,a1,a2,a3⟩,a4⟩ hrec3
 have a1:z3=(i:Int):=a1
 have a5:mo=mm:=a4
 clear a4
 subst a1 a5
 refine IFB.mk (λhi=> ?_) (λhi=>IFB.no rfl ?_)
 ·have hi:(i:Int)<(b.length:Int):=of_decide_eq_true hi
  refine⟨by show (0:Int)<=(i:Int)/\(i:Int)<(b.length:Int);omega,λ_=>IFB.mk (λhn=>IFB.yes rfl ?_) (λhn=> ?_)⟩
  ·have hn:(120:Int)<((ix b (i:Int)).Region.Rects.length:Int):=of_decide_eq_true hn
   have hn2:120<(ix b (i:Int)).Region.Rects.length:=by omega
   exact hset [] [] 1 ⟨[],1,.inr ⟨hbm,b,href,.inl ⟨.inr ⟨_,ix_mem (l:=b) (i:=(i:Int)) (by omega) (by show (i:Int)<(b.length:Int);omega),hn2⟩,rfl,rfl⟩⟩,.inl ⟨by decide,rfl,rfl,rfl⟩⟩
  ·have hn:¬(120:Int)<((ix b (i:Int)).Region.Rects.length:Int):=of_decide_eq_false hn
   show rec3 (IntKind.i64.wrap ((i:Int)+1)) mo
   rw[wrapS (by omega)]
   refine hrec3 (((i+1:Nat):Int),mo,()) ⟨⟨i+1,rfl,by omega,λj hj=> ?_⟩,rfl⟩ (by show b.length-((i+1:Nat):Int).toNat<b.length-(i:Int).toNat;omega)
   by_cases e:j=i
   ·subst e;omega
   ·exact a3 j (by omega)
 have hi:¬(i:Int)<(b.length:Int):=of_decide_eq_false hi
 have hall:¬dblE b:=λh=>by
  rcases h with h|⟨d,hd2,h⟩
  ·omega
  ·obtain⟨j,hj,rfl⟩:=List.getElem_of_mem hd2
   have:=a3 j (by omega)
   rw[ix_lt hj] at this
   omega
 have hde:dblR mo b 0:= .inr ⟨hbm,b,href,.inr ⟨hall,rfl,rfl⟩⟩
 obtain⟨_,hdd,hd2⟩:=dblR_zero hde
 clear hrec3
 dsimp only
 refine λ_=>LOOP.fuel (λu=>psetI mo b u.1 u.2.1) (λu=>b.length-Int.toNat u.1) ⟨0,rfl,Nat.zero_le _,rfl⟩ ?_
 rintro rec ⟨(z:Int),(c0:List api_Version),⟨⟩⟩ ⟨i,i1,i2,i3⟩ hrec
 have i1:z=(i:Int):=i1
 have q5:c0=setS mo (b.take i):=i3
 clear i3
 subst i1
 refine IFB.mk (λhf=> ?_) (λhf=> ?_)
 ·have hf:(i:Int)<b.length:=of_decide_eq_true hf
  have hi:i<b.length:=by omega
  obtain⟨d,hdx⟩:∃d,b[i]? =some d:=⟨_,List.getElem?_eq_getElem hi⟩
  have hix:ix b (i:Int)=d:=ix_of hdx
  obtain⟨d1,d2,d3,d4⟩:=dbl_small hSm hbm hdd (List.mem_of_getElem? hdx)
  have htk:b.take (i+1)=b.take i++[d]:=by rw[List.take_succ_eq_append_getElem hi,(List.getElem?_eq_some_iff.1 hdx).2]
  dsimp only
  rw[hix]
  refine⟨⟨by omega,hf⟩,λ_=> ?_⟩
  refine LOOP.fuel (λu=>psetJ c0 d u.1 u.2.1) (λu=>d.Claims.length-Int.toNat u.1) ⟨0,rfl,Nat.zero_le _,rfl⟩ ?_
  rintro rec2 ⟨(z2:Int),(c:List api_Version),⟨⟩⟩ ⟨j,j1,j2,j3⟩ hrec2
  have j1:z2=(j:Int):=j1
  have q6:c=((d.Claims.take j).map λp=>(⟨p,d.Region⟩:api_Yield)).foldl give1 c0:=j3
  clear j3
  subst j1
  refine IFB.mk (λhg=> ?_) (λhg=> ?_)
  ·have hg:(j:Int)<d.Claims.length:=of_decide_eq_true hg
   have hj:j<d.Claims.length:=by omega
   obtain⟨p,hpx⟩:∃p,ix d.Claims (j:Int)=p:=⟨_,rfl⟩
   have hpm:p∈d.Claims:=by rw[<-hpx,ix_lt hj];exact List.getElem_mem hj
   obtain⟨s1,s2⟩:=set_mid hSm hbm hdd hdx j
   rw[<-q5,<-q6] at s1 s2
   obtain⟨s3,s4⟩:=s2 p (d4 p hpm)
   obtain⟨m1,m2,m3,m4⟩:=s1.there.2 (d4 p hpm)
   have htj:d.Claims.take (j+1)=d.Claims.take j++[p]:=by rw[List.take_succ_eq_append_getElem hj,<-ix_lt hj,hpx]
   have hg2:(0:Int)<=(j:Int)/\(j:Int)<(d.Claims.length:Int):=⟨by omega,hg⟩
   dsimp only
   rw[hpx]
   refine⟨hg2,⟨m1,m2⟩,⟨m3,m4⟩,⟨?_,?_⟩,?_⟩
   ·show (gat c p).length<=1000
    omega
   ·show d.Region.Rects.length<=1000
    omega
   ·show rec2 (IntKind.i64.wrap ((j:Int)+1)) _
    rw[wrapS (by omega)]
    refine hrec2 (((j+1:Nat):Int),_,()) ⟨j+1,rfl,hj,?_⟩ (by show d.Claims.length-((j+1:Nat):Int).toNat<d.Claims.length-(j:Int).toNat;omega)
    rw[htj,List.map_append,List.foldl_append,<-q6];rfl
  ·have hg:¬(j:Int)<d.Claims.length:=of_decide_eq_false hg
   have hj:j=d.Claims.length:=by omega
   rw[hj,List.take_length] at q6
   show rec (IntKind.i64.wrap ((i:Int)+1)) c
   rw[wrapS (by omega)]
   refine hrec (((i+1:Nat):Int),c,()) ⟨i+1,rfl,hi,?_⟩ (by show b.length-((i+1:Nat):Int).toNat<b.length-(i:Int).toNat;omega)
   show c=_
   rw[htk,setS_app,<-q5];exact q6
 ·have hf:¬(i:Int)<b.length:=of_decide_eq_false hf
  have hi:i=b.length:=by omega
  rw[hi,List.take_length] at q5
  dsimp only
  refine⟨many_like (by rw[q5];exact set_like hdd) hmany,?_⟩
  refine IFB.mk (λhn2=> ?_) (λhn2=> ?_)
  ·have hn2:limitF c0≠0:=by simpa using hn2
   have h1':limitF c0=1:=by unfold limitF at hn2 ⊢;split at hn2<;>first|exact absurd rfl hn2|(rename_i h;rw[if_neg h])
   rw[h1']
   exact hset [] [] 1 ⟨b,0,hde,.inr (.inl ⟨rfl,by rw[<-q5];exact hn2,rfl,rfl,rfl⟩)⟩
  ·have hn2:limitF c0=0:=by simpa using hn2
   exact hset c0 b 0 ⟨b,0,hde,.inr (.inr ⟨rfl,by rw[<-q5];exact hn2,q5,rfl,rfl⟩)⟩
theorem rset_ok:SpecOK Tryz.prog rset_sp:=rset_of rset_h
end RE
end Go.Proofs.YtpeggkeenboacaaGreat
set_option linter.unusedVariables false
namespace Go.Proofs.YtpeggkeenboacaaGreat
open Go.RowKit
namespace RE
open PL
namespace PL
def parI2 (b:List arr2_i64)(n:Nat)(R:arr2_i64->Prop):Prop:=b.Pairwise ltA/\b.length<=n/\∀q,q∈b↔R q
end PL
theorem parI2_iff {b:List arr2_i64}{n m:Nat}{R Q:arr2_i64->Prop}(h:parI2 b n R)(hn:n<=m)(hq:∀q,R q↔Q q):parI2 b m Q:=⟨h.1,Nat.le_trans h.2.1 hn,λq=>(h.2.2 q).trans (hq q)⟩
theorem prP_nil1 {B:List api_Place}{q:arr2_i64}:¬prP [] B q:=λh=>by obtain⟨_,⟨p,hp,_⟩,_⟩:=h;cases hp
theorem prP_nil2 {A:List api_Place}{q:arr2_i64}:¬prP A [] q:=λh=>by obtain⟨_,_,⟨p,hp,_⟩⟩:=h;cases hp
theorem take_sn {α:Type}[Inhabited α]{l:List α}{k:Nat}(hk:k<l.length):l.take (k+1)=l.take k++[ix l (k:Int)]:=by
 rw[List.take_succ_eq_append_getElem hk,ix_lt hk]
def rparts_P (d:List (api_Double))(post:List (arr2_i64)->Int->Prop):Prop:=(d.length<=200/\∀v∈d,v.2.length<=60)/\∀l:List arr2_i64,partP d l->post l 0
def rparts_sp:Spec:=⟨60,false,true,[.sl (.st .api_Double)],.tup [.dat (.sl (.st .arr2_i64)),.dat (.int .i64)],λx post=>rparts_P (x.1:List (api_Double)) (λy0 y1=>post (y0,y1,()))⟩
def rparts_C:CtxR:=⟨tau,[rule1 rputA_sp],lookJ [(0,11,⟨[(16,.dat (.int .i64)),(4,.dat (.sl (.st .arr2_i64)))],[],[17,18,19,6,20,21,22,47,31,30,45,44,43,42,41,40,39,38,37,36,35,34,10,33,32,46,29,28,27,8,26,25,23,24,48],[],[]⟩),(0,17,⟨[(23,.dat (.int .i64)),(4,.dat (.sl (.st .arr2_i64)))],[],[24,25,26,8,27,28,29,46,32,33,10,34,35,36,37,38,39,40,41,42,43,44,45,30,31,47],[],[]⟩),(0,23,⟨[(30,.dat (.int .i64)),(4,.dat (.sl (.st .arr2_i64)))],[],[31,45,44,43,42,41,40,39,38,37,36,35,34,10,33,32,46],[],[]⟩),(0,30,⟨[(4,.dat (.sl (.st .arr2_i64)))],[],[32,33,10,34,35,36,37,38,39,40,41,42,43,44,45],[],[]⟩)]⟩
def rparts_W (d:List (api_Double))(post:List (arr2_i64)->Int->Prop):Prop:=(↑d.length:Int)<=9223372036854775807->IFB (decide ((200:Int)<(↑d.length:Int))) (post [] 1) ((↑d.length:Int)<=9223372036854775807->LOOP [Ty.int IntKind.i64,(Ty.st Sn.arr2_i64).sl] (λ(rec1:Int->List arr2_i64->Prop) (z2:Int) (z3:List arr2_i64)=>IFB (decide (z2<(↑d.length:Int))) (((0:Int)<=z2/\z2<(↑d.length:Int))/\((↑(ix d z2).2.length:Int)<=9223372036854775807->LOOP [Ty.int IntKind.i64,(Ty.st Sn.arr2_i64).sl] (λ(rec4:Int->List arr2_i64->Prop) (z5:Int) (z6:List arr2_i64)=>IFB (decide (z5<(↑(ix d z2).2.length:Int))) (((0:Int)<=z5/\z5<(↑(ix d z2).2.length:Int))/\((↑(ix d z2).2.length:Int)<=9223372036854775807->LOOP [Ty.int IntKind.i64,(Ty.st Sn.arr2_i64).sl] (λ(rec7:Int->List arr2_i64->Prop) (z8:Int) (z9:List arr2_i64)=>IFB (decide (z8<(↑(ix d z2).2.length:Int))) (JOIN [(Ty.st Sn.arr2_i64).sl] (λ(y10:List arr2_i64)=>rec7 (IntKind.i64.wrap (z8+1)) y10) λ(J11:List arr2_i64->Prop)=>((0:Int)<=z8/\z8<(↑(ix d z2).2.length:Int))/\IFB (decide ((ix (ix d z2).2 z5).1<(ix (ix d z2).2 z8).1)) ((z9.length<=1000000/\List.Pairwise ltA z9)/\∀(v12:List arr2_i64),(List.Pairwise ltA v12/\v12.length<=z9.length+1/\∀(z:arr2_i64),z∈v12↔z=(⟨(ix (ix d z2).2 z5).1,(ix (ix d z2).2 z8).1⟩:arr2_i64)\/z∈z9)->J11 v12) (J11 z9)) (rec4 (IntKind.i64.wrap (z5+1)) z9)) ((0:Int),z6,PUnit.unit))) (rec1 (IntKind.i64.wrap (z2+1)) z6)) ((0:Int),z3,PUnit.unit))) (post z3 0)) ((0:Int),[],PUnit.unit))
theorem rparts_w (d:List (api_Double))(post:dens (shT rparts_sp.rs [])->Prop):rparts_W d (λy0 y1=>post (y0,y1,()))=walkG (callR Tryz.prog rparts_C (drawF Tryz.prog tau) 8 0) 60 false [tv (.sl (.st .api_Double)) d] rparts_sp.rs post:=by kernel_rfl
theorem rparts_of (h:∀(d:List (api_Double))(post:List (arr2_i64)->Int->Prop),rparts_P d post->rparts_W d post):SpecOK Tryz.prog rparts_sp:=SpecOK.of_rules (C:=rparts_C) (dr:=drawF Tryz.prog tau) (n:=8) (fk:=0) (.cons (rule1_ok rputA_ok) .nil) (drawF_ok tau) λx post hp=>HoldW.of (rparts_w x.1 post) (h x.1 (λy0 y1=>post (y0,y1,())) hp)
theorem rparts_ok:SpecOK Tryz.prog rparts_sp:=rparts_of λd post hp=>by
 obtain⟨⟨hd,hcl⟩,hp⟩:=hp
 unfold rparts_W
 refine λ_=>IFB.mk (λh=>absurd (of_decide_eq_true h) (by omega)) (λ_ _=> ?_)
 refine LOOP.fuel (λu=>∃k:Nat,u.1=(k:Int)/\k<=d.length/\parI2 u.2.1 (3600 * k) λq=>∃y∈d.take k,prP y.2 y.2 q) (λu=>d.length-Int.toNat u.1) ⟨0,rfl,Nat.zero_le _,List.Pairwise.nil,Nat.le_refl _,λq=>⟨λh=>(by cases h),λ⟨y,h,_⟩=>by cases h⟩⟩ ?_
 rintro rec ⟨(z:Int),(b:List arr2_i64),⟨⟩⟩ ⟨k,i1,i2,i3⟩ hrec
 have i1:z=(k:Int):=i1
 have q3:parI2 b (3600 * k) λq=>∃y∈d.take k,prP y.2 y.2 q:=i3
 clear i3
 subst i1
 refine IFB.mk (λhb=> ?_) (λhb=> ?_)
 rotate_left
 ·have hb:¬(k:Int)<d.length:=of_decide_eq_false hb
  have:k=d.length:=by omega
  subst this
  rw[List.take_length] at q3
  exact hp b ⟨q3.1,q3.2.2⟩
 have hb:(k:Int)<d.length:=of_decide_eq_true hb
 have hk:k<d.length:=by omega
 obtain⟨C,hC⟩:∃C,(ix d (k:Int)).2=C:=⟨_,rfl⟩
 have hcl6:C.length<=60:=by rw[<-hC];exact hcl _ (ix_mem (by omega) hb)
 refine⟨⟨by omega,hb⟩,λ_=> ?_⟩
 dsimp only
 rw[hC]
 have b1:(C.length:Int)<=9223372036854775807:=by omega
 refine LOOP.fuel (λu=>∃j:Nat,u.1=(j:Int)/\j<=C.length/\parI2 u.2.1 (3600 * k+60 * j) λq=>(∃y∈d.take k,prP y.2 y.2 q)\/prP (C.take j) C q) (λu=>C.length-Int.toNat u.1) ⟨0,rfl,Nat.zero_le _,parI2_iff q3 (by omega) λq=>⟨.inl,λh=>h.elim id λh=>absurd h prP_nil1⟩⟩ ?_
 rintro rec2 ⟨(z2:Int),(c:List arr2_i64),⟨⟩⟩ ⟨j,j1,j2,j3⟩ hrec2
 have j1:z2=(j:Int):=j1
 have q4:parI2 c (3600 * k+60 * j) λq=>(∃y∈d.take k,prP y.2 y.2 q)\/prP (C.take j) C q:=j3
 clear j3
 subst j1
 refine IFB.mk (λhd2=> ?_) (λhd2=> ?_)
 rotate_left
 ·have hd2:¬(j:Int)<C.length:=of_decide_eq_false hd2
  have hj:j=C.length:=by omega
  rw[hj,List.take_length] at q4
  show rec (IntKind.i64.wrap ((k:Int)+1)) c
  rw[wrapS (by omega)]
  refine hrec (((k+1:Nat):Int),c,()) ⟨k+1,rfl,hk,?_⟩ (by show d.length-((k+1:Nat):Int).toNat<d.length-(k:Int).toNat;omega)
  refine parI2_iff q4 (by omega) λq=> ?_
  rw[take_sn hk]
  constructor
  ·rintro (⟨y,hy,h⟩|h)
   ·exact⟨y,by simp[hy],h⟩
   ·exact⟨ix d (k:Int),by simp,by rw[hC];exact h⟩
  ·rintro ⟨y,hy,h⟩
   rcases List.mem_append.1 hy with hy|hy
   ·exact .inl ⟨y,hy,h⟩
   ·rw[List.mem_singleton.1 hy,hC] at h;exact .inr h
 have hd2:(j:Int)<C.length:=of_decide_eq_true hd2
 have hj:j<C.length:=by omega
 have hj0:(0:Int)<=(j:Int)/\(j:Int)<(C.length:Int):=⟨by omega,hd2⟩
 refine⟨hj0,λ_=> ?_⟩
 refine LOOP.fuel (λu=>∃i:Nat,u.1=(i:Int)/\i<=C.length/\parI2 u.2.1 (3600 * k+60 * j+i) λq=>((∃y∈d.take k,prP y.2 y.2 q)\/prP (C.take j) C q)\/prP [ix C (j:Int)] (C.take i) q) (λu=>C.length-Int.toNat u.1) ⟨0,rfl,Nat.zero_le _,parI2_iff q4 (by omega) λq=>⟨.inl,λh=>h.elim id λh=>absurd h prP_nil2⟩⟩ ?_
 rintro rec3 ⟨(z3:Int),(e:List arr2_i64),⟨⟩⟩ ⟨i,k1,k2,k3⟩ hrec3
 have k1:z3=(i:Int):=k1
 have q5:parI2 e (3600 * k+60 * j+i) λq=>((∃y∈d.take k,prP y.2 y.2 q)\/prP (C.take j) C q)\/prP [ix C (j:Int)] (C.take i) q:=k3
 clear k3
 subst k1
 have hel:e.length<=1000000:=by have:=q5.2.1;omega
 refine IFB.mk (λhd3=> ?_) (λhd3=> ?_)
 rotate_left
 ·have hd3:¬(i:Int)<C.length:=of_decide_eq_false hd3
  have hi:i=C.length:=by omega
  rw[hi,List.take_length] at q5
  show rec2 (IntKind.i64.wrap ((j:Int)+1)) e
  rw[wrapS (by omega)]
  refine hrec2 (((j+1:Nat):Int),e,()) ⟨j+1,rfl,hj,?_⟩ (by show C.length-((j+1:Nat):Int).toNat<C.length-(j:Int).toNat;omega)
  refine parI2_iff q5 (by omega) λq=> ?_
  rw[take_sn hj,pr_a,or_assoc]
 have hd3:(i:Int)<C.length:=of_decide_eq_true hd3
 have hi:i<C.length:=by omega
 have hi0:(0:Int)<=(i:Int)/\(i:Int)<(C.length:Int):=⟨by omega,hd3⟩
 refine JOIN.opq λ(J:List arr2_i64->Prop) hJ=>⟨hi0,?_⟩
 have nx:∀m:List arr2_i64,(parI2 m (3600 * k+60 * j+(i+1)) λq=>((∃y∈d.take k,prP y.2 y.2 q)\/prP (C.take j) C q)\/prP [ix C (j:Int)] (C.take (i+1)) q)->J m:=λm hm=>by
  rw[hJ]
  show rec3 (IntKind.i64.wrap ((i:Int)+1)) m
  rw[wrapS (by omega)]
  exact hrec3 (((i+1:Nat):Int),m,()) ⟨i+1,rfl,hi,hm⟩ (by show C.length-((i+1:Nat):Int).toNat<C.length-(i:Int).toNat;omega)
 refine IFB.mk (λhlt=>⟨⟨hel,q5.1⟩,λm hm=>nx m ⟨hm.1,?_,λq=> ?_⟩⟩) (λhlt=>nx e (parI2_iff q5 (by omega) λq=> ?_))
 ·have h1:m.length<=e.length+1:=hm.2.1
  have:=q5.2.1
  omega
 ·have hlt:(ix C (j:Int)).1<(ix C (i:Int)).1:=of_decide_eq_true hlt
  have h2:=hm.2.2 q
  rw[h2]
  show (q=(⟨(ix C (j:Int)).1,(ix C (i:Int)).1⟩:arr2_i64)\/q∈e)↔(((∃y∈d.take k,prP y.2 y.2 q)\/prP (C.take j) C q)\/prP [ix C (j:Int)] (C.take (i+1)) q)
  rw[take_sn hi,pr_b,pr_one,<-or_assoc]
  have h3:q∈e↔(((∃y∈d.take k,prP y.2 y.2 q)\/prP (C.take j) C q)\/prP [ix C (j:Int)] (C.take i) q):=q5.2.2 q
  constructor
  ·rintro (h|h)
   ·exact .inr ⟨hlt,h⟩
   ·exact .inl (h3.1 h)
  ·rintro (h|h)
   ·exact .inr (h3.2 h)
   ·exact .inl h.2
 ·have hlt:¬(ix C (j:Int)).1<(ix C (i:Int)).1:=of_decide_eq_false hlt
  show (((∃y∈d.take k,prP y.2 y.2 q)\/prP (C.take j) C q)\/prP [ix C (j:Int)] (C.take i) q)↔(((∃y∈d.take k,prP y.2 y.2 q)\/prP (C.take j) C q)\/prP [ix C (j:Int)] (C.take (i+1)) q)
  rw[take_sn hi,pr_b,pr_one,<-or_assoc]
  exact⟨.inl,λh=>h.elim id λh=>absurd h.1 hlt⟩
end RE
end Go.Proofs.YtpeggkeenboacaaGreat
namespace Go.Proofs.YtpeggkeenboacaaGreat
namespace RE
open Go.RowKit
open PL
def lAns_C:CtxR:=⟨tau,[ruleN 12,rule1 kcrops_sp,kversW_r,rule1 knext_sp,rule1 kregion_sp,rule1 kmod_sp,rule1 kbroken_sp,rule1 pdbl_sp,rule1 rdbl_sp,rule1 pgive_sp,rule1 rgive_sp,rule1 pset_sp,rule1 rset_sp,rule1 rdsame_sp,rule1 rallE_sp,rule1 pparts_sp,rule1 rparts_sp,rule1 pinv_sp,rule1 rinv_sp,rule1 rints_sp,rule1 pawake_sp],lookJ [(0,65,⟨[(204,.dat (.int .i64))],[],(List.range' 30 6++List.range' 205 57++[37]),[],[]⟩),(0,91,⟨[(248,.dat (.int .i64))],[],(List.range' 249 12++[37]),[],[]⟩),(0,79,⟨[(230,.dat (.int .i64))],[],(List.range' 231 12++[35]),[],[]⟩),(0,46,⟨[(14,.own 84 (.st .api_Yield)),(13,.own 96 (.st .api_Version))],[],(List.range' 72 55),[3,2],[]⟩),(0,43,⟨[(13,.own 96 (.st .api_Version))],[],(List.range' 113 14),[2],[]⟩),(11234,7,⟨[(6,.dat (.int .i64)),(5,.own 84 (.st .api_Yield))],[],(List.range' 11 29++[7,8]),[],[(2,96,(.st .api_Version))]⟩),(11234,8,⟨[(5,.own 84 (.st .api_Yield))],[],(List.range' 15 25++[7,8]),[3],[(2,96,(.st .api_Version))]⟩),(11234,1000009,⟨[(5,.own 84 (.st .api_Yield))],[],[33,34,35,36,37,38,39],[3],[(2,96,(.st .api_Version))]⟩),(0,9,⟨[(51,.dat (.int .i64))],[],(List.range' 52 9++[11,62]),[],[]⟩)]⟩
def lAns_W (raw:List (api_Double))(y:api_Yield)(ap:Int)(by0:Int)(l:List (Int))(post:Bool->Prop):Prop:=(↑raw.length:Int)<=9223372036854775807->(gx false (decide ((12:Int)<(↑raw.length:Int)))=true->(↑y.2.1.length:Int)<=9223372036854775807)->IFB (decide ((12:Int)<(↑raw.length:Int))||decide ((5:Int)<(↑y.2.1.length:Int))) (post true) ((↑raw.length:Int)<=9223372036854775807->LOOP [Ty.int IntKind.i64] (λ(rec1:Int->Prop) (z2:Int)=>IFB (decide (z2<(↑raw.length:Int))) (((0:Int)<=z2/\z2<(↑raw.length:Int))/\((↑(ix raw z2).2.length:Int)<=9223372036854775807->IFB (decide ((8:Int)<(↑(ix raw z2).2.length:Int))) (post true) (rec1 (IntKind.i64.wrap (z2+1))))) (∀(v3:List api_Crop),3<=v3.length/\v3.length<=8->((1:Nat)<=v3.length/\v3.length<=1000/\(1:Int)<=3/\(3:Int)<=10)/\∀(v4:List api_Version),madeV (3:Int) v4->Int.NonNeg 9223372036854775803/\∀(v5:Int),0<=v5->v5<4\/v5=0->LOOP [Ty.int IntKind.i64,(Ty.st Sn.api_Yield).sl,(Ty.st Sn.api_Version).sl] (λ(rec6:Int->List api_Yield->List api_Version->Prop) (z7:Int) (z8:List api_Yield) (z9:List api_Version)=>IFB (decide ((0:Int)<z7)) (JOIN [(Ty.st Sn.api_Yield).sl,(Ty.st Sn.api_Version).sl] (λ(y10:List api_Yield) (y11:List api_Version)=>rec6 (IntKind.i64.wrap (z7-1)) y10 y11) λ(J12:List api_Yield->List api_Version->Prop)=>(↑z9.length:Int)<=9223372036854775807->(↑z9.length:Int)<=9223372036854775807/\∀(v13:Int),0<=v13->v13<(↑z9.length:Int)\/v13=0->((0:Int)<=v13/\v13<(↑z9.length:Int))/\((↑(ix z9 v13).2.length:Int)<=9223372036854775807->IFB (decide ((0:Int)<(↑(ix z9 v13).2.length:Int))) ((↑(ix z9 v13).2.length:Int)<=9223372036854775807/\∀(v14:Int),0<=v14->v14<(↑(ix z9 v13).2.length:Int)\/v14=0->JOIN [(Ty.st Sn.api_Yield).sl,(Ty.st Sn.api_Version).sl] (λ(y15:List api_Yield) (y16:List api_Version)=>J12 y15 y16) λ(J17:List api_Yield->List api_Version->Prop)=>(Int.NonNeg 8/\Int.NonNeg 16375/\Int.NonNeg 2/\(2:Int)<=100)/\∀(v18:api_Region),(validP v18.1/\∀(x y:Int),cov v18.1 x y=true->x<9/\y<9)->(z8.length+[{Place:=(⟨v13,v14⟩:api_Place),Region:={Rects:=v18.1:api_Region}:api_Yield}].length) * (40:Nat)<=140737488355328/\J17 (z8++[{Place:=(⟨v13,v14⟩:api_Place),Region:={Rects:=v18.1:api_Region}:api_Yield}]) z9) (J12 z8 z9))) (JOIN [(Ty.st Sn.api_Yield).sl,(Ty.st Sn.api_Version).sl] (λ(y19:List api_Yield) (y20:List api_Version)=>okD y20/\∀(v21:List api_Double)(v22:Int),dblR y20 v21 v22->okD y20/\∀(v23:List api_Double)(v24:Int),dblR y20 v23 v24->((y20.length<=1000/\∀(v25:api_Version),v25∈y20->v25.2.length<=1000)/\(beginF y20=0->∀(v26:Nat),v26<=y19.length->errY y20 (List.take v26 y19)=0->∀(v27:api_Version),v27∈List.foldl give1 y20 (List.take v26 y19)->∀(v28:api_Line),v28∈v27.2->v28.2.1.length<=1000))/\((y20.length<=1000/\∀(v29:api_Version),v29∈y20->v29.2.length<=1000)/\(beginF y20=0->∀(v30:Nat),v30<=y19.length->errY y20 (List.take v30 y19)=0->∀(v31:api_Version),v31∈List.foldl give1 y20 (List.take v30 y19)->∀(v32:api_Line),v32∈v31.2->v32.2.1.length<=1000))/\okS y20/\∀(v33:List api_Version)(v34:List api_Double)(v35:Int),setR y20 y19 v33 v34 v35->okS y20/\∀(v36:List api_Version)(v37:List api_Double)(v38:Int),setR y20 y19 v36 v37 v38->(v21.length<=1000000000/\∀(v39:api_Double),v39∈v21->v39.1.1.length<=1000000000/\v39.2.length<=1000000000)/\∀(v40:Bool),(v40=true↔v21=v23)->JOIN [Ty.bool] (λ(y41:Bool)=>JOIN [Ty.bool] (λ(y42:Bool)=>JOIN [Ty.bool] (λ(y43:Bool)=>IFB (!v40|| !decide (v22=v24)|| !y41|| !decide ((givS y20 y19).2=(givS y20 y19).2)|| !y42|| !y43|| !decide (v35=v38)) (post false) ((↑[raw,v23].length:Int)<=9223372036854775807->LOOP [Ty.int IntKind.i64] (λ(rec44:Int->Prop) (z45:Int)=>IFB (decide (z45<(↑[raw,v23].length:Int))) (((0:Int)<=z45/\z45<(↑[raw,v23].length:Int))/\((ix [raw,v23] z45).length<=200/\∀(v46:api_Double),v46∈ix [raw,v23] z45->v46.2.length<=60)/\∀(v47:List arr2_i64),partP (ix [raw,v23] z45) v47->((ix [raw,v23] z45).length<=200/\∀(v48:api_Double),v48∈ix [raw,v23] z45->v48.2.length<=60)/\∀(v49:List arr2_i64),partP (ix [raw,v23] z45) v49->(↑v47.length:Int)<=9223372036854775807->(↑v49.length:Int)<=9223372036854775807->IFB (!decide ((↑v47.length:Int)=(↑v49.length:Int))|| !decide ((0:Int)=0)) (post false) ((↑v47.length:Int)<=9223372036854775807->LOOP [Ty.int IntKind.i64] (λ(rec50:Int->Prop) (z51:Int)=>IFB (decide (z51<(↑v47.length:Int))) (((0:Int)<=z51/\z51<(↑v47.length:Int))/\((0:Int)<=z51/\z51<(↑v49.length:Int))/\IFB (!(decide ((ix v47 z51).1=(ix v49 z51).1)&&(decide ((ix v47 z51).2=(ix v49 z51).2)&&true))) (post false) (rec50 (IntKind.i64.wrap (z51+1)))) (((1:Int)<=4/\(4:Int)<=1000000)/\∀(v52:Int),0<=v52->v52<4->(↑[ap,v52].length:Int)<=9223372036854775807->LOOP [Ty.int IntKind.i64] (λ(rec53:Int->Prop) (z54:Int)=>IFB (decide (z54<(↑[ap,v52].length:Int))) (((0:Int)<=z54/\z54<(↑[ap,v52].length:Int))/\((ix [raw,v23] z45).length<=1000000/\∀(v55:api_Double),v55∈ix [raw,v23] z45->v55.2.length<=1000000)/\((ix [raw,v23] z45).length<=1000000/\∀(v56:api_Double),v56∈ix [raw,v23] z45->v56.2.length<=1000000)/\∀(v57:Bool),(v57=true↔invN (ix [raw,v23] z45) (ix [ap,v52] z54) (ix [raw,v23] z45).length=invN (ix [raw,v23] z45) (ix [ap,v52] z54) (ix [raw,v23] z45).length)->IFB (!v57) (post false) (rec53 (IntKind.i64.wrap (z54+1)))) (rec44 (IntKind.i64.wrap (z45+1)))) ((0:Int),PUnit.unit))) ((0:Int),PUnit.unit))) (post true)) ((0:Int),PUnit.unit))) λ(J58:Bool->Prop)=>IFB (gx false (!v40|| !decide (v22=v24)|| !y41|| !decide ((givS y20 y19).2=(givS y20 y19).2)|| !y42)) ((v34.length<=1000000000/\∀(v59:api_Double),v59∈v34->v59.1.1.length<=1000000000/\v59.2.length<=1000000000)/\∀(v60:Bool),(v60=true↔v34=v37)->J58 v60) (J58 false)) λ(J61:Bool->Prop)=>IFB (gx false (!v40|| !decide (v22=v24)|| !y41|| !decide ((givS y20 y19).2=(givS y20 y19).2))) ((v33.length<=1000000000/\∀(v62:api_Version),v62∈v33->v62.2.length<=1000000000/\∀(v63:api_Line),v63∈v62.2->v63.2.1.length<=1000000000)/\∀(v64:Bool),(v64=true↔v33=v36)->J61 v64) (J61 false)) λ(J65:Bool->Prop)=>IFB (gx false (!v40|| !decide (v22=v24))) (((givS y20 y19).1.length<=1000000000/\∀(v66:api_Version),v66∈(givS y20 y19).1->v66.2.length<=1000000000/\∀(v67:api_Line),v67∈v66.2->v67.2.1.length<=1000000000)/\∀(v68:Bool),(v68=true↔(givS y20 y19).1=(givS y20 y19).1)->J65 v68) (J65 false)) λ(J69:List api_Yield->List api_Version->Prop)=>Int.NonNeg 9223372036854775799/\∀(v70:Int),0<=v70->v70<8\/v70=0->IFB (decide (v70=0)) ((Int.NonNeg 0/\0<(↑z9.length:Int))/\((↑(ix z9 0).2.length:Int)<=9223372036854775807->IFB (decide ((0:Int)<(↑(ix z9 0).2.length:Int))) ((Int.NonNeg 0/\0<(↑z9.length:Int))/\(Int.NonNeg 8/\Int.NonNeg 15991/\Int.NonNeg 2/\(2:Int)<=100)/\∀(v71:api_Region),(v71.1.length<=121/\∀(r:api_Rect),r∈v71.1->r.3<=10/\r.4<=9)->(Int.NonNeg 0/\0<(↑(ix z9 0).2.length:Int))/\J69 z8 (z9.set ((0:Nat)) {Day:=(ix z9 0).1,Lines:=(ix z9 0).2.set ((0:Nat)) {Parcel:=(ix (ix z9 0).2 0).1,Region:={Rects:=v71.1:api_Region},Crop:=(ix (ix z9 0).2 0).3,Schemes:=(ix (ix z9 0).2 0).4:api_Line}:api_Version})) (J69 z8 z9))) (IFB (decide (v70=1)) ((z8.length+[{Place:={Application:=y.1.1,Line:=y.1.2:api_Place},Region:={Rects:=y.2.1:api_Region}:api_Yield}].length) * (40:Nat)<=140737488355328/\J69 (z8++[{Place:={Application:=y.1.1,Line:=y.1.2:api_Place},Region:={Rects:=y.2.1:api_Region}:api_Yield}]) z9) (IFB (decide (v70=2)) (((1:Int)<=5/\(5:Int)<=1000000)/\∀(v72:Int),0<=v72->v72<5->((1:Int)<=4/\(4:Int)<=1000000)/\∀(v73:Int),0<=v73->v73<4->(Int.NonNeg 8/\Int.NonNeg 15991/\Int.NonNeg 2/\(2:Int)<=100)/\∀(v74:api_Region),(v74.1.length<=121/\∀(r:api_Rect),r∈v74.1->r.3<=10/\r.4<=9)->(z8.length+[{Place:=(⟨IntKind.i64.wrap (v72-1),IntKind.i64.wrap (v73-1)⟩:api_Place),Region:={Rects:=v74.1:api_Region}:api_Yield}].length) * (40:Nat)<=140737488355328/\J69 (z8++[{Place:=(⟨IntKind.i64.wrap (v72-1),IntKind.i64.wrap (v73-1)⟩:api_Place),Region:={Rects:=v74.1:api_Region}:api_Yield}]) z9) (IFB (decide (v70=3)) (LOOP [(Ty.st Sn.api_Version).sl] (λ(rec75:List api_Version->Prop) (z76:List api_Version)=>(↑z76.length:Int)<=9223372036854775807->(gx true (decide ((↑z76.length:Int)<24))=true->(3:Int)=0->False)/\IFB (decide ((↑z76.length:Int)<24)&&decide (by0.tmod (3:Int)=0)) ((Int.NonNeg 0/\0<(↑z76.length:Int))/\(z76.length+[{Day:=(ix z76 0).1,Lines:=(ix z76 0).2:api_Version}].length) * (32:Nat)<=140737488355328/\rec75 (z76++[{Day:=(ix z76 0).1,Lines:=(ix z76 0).2:api_Version}])) (J69 z8 z76)) (z9,PUnit.unit)) (J69 z8 z9)))))) (v5,[],v4,PUnit.unit))) ((0:Int),PUnit.unit))
theorem lAns_w (raw:List (api_Double))(y:api_Yield)(ap:Int)(by0:Int)(l:List (Int))(post:Bool->Prop):lAns_W raw y ap by0 l post=lawG (callR Tryz.prog lAns_C (drawF Tryz.prog tau) 8 0) 10 [tv (.sl (.st .api_Double)) raw,tv (.st .api_Yield) y,tv (.int .i64) ap,tv (.int .i64) by0,tv (.sl (.int .i64)) l] post:=by kernel_rfl
theorem lAns_calls (raw:List (api_Double))(y:api_Yield)(ap:Int)(by0:Int)(l:List (Int))(h:lAns_W raw y ap by0 l λb=>b=true){w:World}{S:Cells}{us:List Value}(h1:∀b o,S b o->b<w.heap.size)(h3:us.length=5)(h4:∀(i:Nat)(d:D)(u:Value),[tv (.sl (.st .api_Double)) raw,tv (.st .api_Yield) y,tv (.int .i64) ap,tv (.int .i64) by0,tv (.sl (.int .i64)) l][i]? =some d->us[i]? =some u->Rd S w d u):Calls Tryz.prog 10 us.toArray w λe w'=>(∃b,e= .returned (.bool b)/\b=true)/\Below w.heap.size w w':=lawG_okH (cp:=callR Tryz.prog lAns_C (drawF Tryz.prog tau) 8 0) (callR_ok (C:=lAns_C) (dr:=drawF Tryz.prog tau) (.cons (ruleN_ok knew_ok) (.cons (rule1_ok kcrops_ok) (.cons kversW_ok (.cons (rule1_ok knext_ok) (.cons (rule1_ok kregion_ok) (.cons (rule1_ok kmod_ok) (.cons (rule1_ok kbroken_ok) (.cons (rule1_ok pdbl_ok) (.cons (rule1_ok rdbl_ok) (.cons (rule1_ok pgive_ok) (.cons (rule1_ok rgive_ok) (.cons (rule1_ok pset_ok) (.cons (rule1_ok rset_ok) (.cons (rule1_ok rdsame_ok) (.cons (rule1_ok rallE_ok) (.cons (rule1_ok pparts_ok) (.cons (rule1_ok rparts_ok) (.cons (rule1_ok pinv_ok) (.cons (rule1_ok rinv_ok) (.cons (rule1_ok rints_ok) (.cons (rule1_ok pawake_ok) .nil))))))))))))))))))))) (drawF_ok tau) 8 0) (HoldW.of (lAns_w raw y ap by0 l λb=>b=true) h) h1 h3 h4
theorem wrapB {k:Nat}(h:(k:Int)+1<=9223372036854775807):IntKind.i64.wrap ((k:Int)+1)=((k+1:Nat):Int):=by
 rw[wrap_in (by omega) (by omega)];omega
theorem loopCmpB {n:Nat}(hn:(n:Int)<=9223372036854775807){B:(Int->Prop)->Int->Prop}{K:Prop}{p:Nat->Prop}(hB:∀(rec:Int->Prop)(k:Nat),k<n->(∀j,j<k->p j)->(p k->rec (IntKind.i64.wrap ((k:Int)+1)))->B rec (k:Int))(hK:(∀j,j<n->p j)->K):
 LOOP [Ty.int IntKind.i64] (λ(rec:Int->Prop) (z:Int)=>IFB (decide (z<(n:Int))) (B rec z) K) ((0:Int),PUnit.unit):=by
 refine LOOP.fuel (λu=>∃k:Nat,u.1=(k:Int)/\k<=n/\∀j,j<k->p j) (λu=>n-Int.toNat u.1) ⟨0,rfl,Nat.zero_le _,λj hj=>by omega⟩ ?_
 rintro rec ⟨(z:Int),⟨⟩⟩ ⟨k,hz,hk,hp⟩ hrec
 have hz:z=(k:Int):=hz
 subst hz
 refine IFB.mk (λhb=> ?_) (λhb=>hK ?_)
 ·have hb:(k:Int)<n:=of_decide_eq_true hb
  have hkn:k<n:=by omega
  refine hB rec k hkn hp λhpk=> ?_
  rw[wrapB (by omega)]
  refine hrec (((k+1:Nat):Int),()) ⟨k+1,rfl,hkn,λj hj=> ?_⟩ (by show n-((k+1:Nat):Int).toNat<n-(k:Int).toNat;omega)
  rcases Nat.lt_or_ge j k with h|h
  ·exact hp j h
  ·have:j=k:=by omega
   subst this;exact hpk
 ·have hb:¬(k:Int)<n:=of_decide_eq_false hb
  have:k=n:=by omega
  subst this;exact hp
theorem dblR_uniq {l:List api_Version}{a b:List Dbl}{e f:Int}(h:dblR l a e)(k:dblR l b f):a=b/\e=f:=by
 rcases h with⟨h1,h2,h3⟩|⟨h1,d,h2,h3⟩
 ·rcases k with⟨k1,k2,k3⟩|⟨k1,_⟩
  ·exact⟨h2.trans k2.symm,h3.trans k3.symm⟩
  ·exact absurd k1 h1
 ·rcases k with⟨k1,_⟩|⟨k1,d',k2,k3⟩
  ·exact absurd h1 k1
  ·have e0:=dbls_uniq h2 k2
   subst e0
   rcases h3 with⟨a1,a2,a3⟩|⟨a1,a2,a3⟩<;>rcases k3 with⟨b1,b2,b3⟩|⟨b1,b2,b3⟩
   ·exact⟨a2.trans b2.symm,a3.trans b3.symm⟩
   ·exact absurd a1 b1
   ·exact absurd b1 a1
   ·exact⟨a2.trans b2.symm,a3.trans b3.symm⟩
theorem setR_uniq {l:List api_Version}{y:List api_Yield}{m n:List api_Version}{a b:List Dbl}{e f:Int}(h:setR l y m a e)(k:setR l y n b f):m=n/\a=b/\e=f:=by
 rcases h with⟨h0,h1,h2,h3⟩|⟨h0,d,e0,h1,h2⟩
 ·rcases k with⟨k0,k1,k2,k3⟩|⟨k0,_⟩
  ·exact⟨h1.trans k1.symm,h2.trans k2.symm,h3.trans k3.symm⟩
  ·exact absurd k0 h0
 ·rcases k with⟨k0,_⟩|⟨k0,d',e0',k1,k2⟩
  ·exact absurd h0 k0
  ·obtain⟨ed,ee⟩:=dblR_uniq h1 k1
   subst ed;subst ee
   rcases h2 with⟨a0,a1,a2,a3⟩|⟨a0,a1,a2,a3,a4⟩|⟨a0,a1,a2,a3,a4⟩<;>rcases k2 with⟨b0,b1,b2,b3⟩|⟨b0,b1,b2,b3,b4⟩|⟨b0,b1,b2,b3,b4⟩
   ·exact⟨a1.trans b1.symm,a2.trans b2.symm,a3.trans b3.symm⟩
   ·exact absurd b0 a0
   ·exact absurd b0 a0
   ·exact absurd a0 b0
   ·exact⟨a2.trans b2.symm,a3.trans b3.symm,a4.trans b4.symm⟩
   ·exact absurd b1 a1
   ·exact absurd a0 b0
   ·exact absurd a1 b1
   ·exact⟨a2.trans b2.symm,a3.trans b3.symm,a4.trans b4.symm⟩
theorem ltA_irr {a:arr2_i64}:¬ltA a a:=by unfold ltA;omega
theorem partP_uniq {d:List api_Double}{a b:List arr2_i64}(h:partP d a)(k:partP d b):a=b:=by
 have nd:∀{c:List arr2_i64},partP d c->c.Nodup:=λh=>h.1.imp λ{x y} hxy e=>by subst e;exact ltA_irr hxy
 exact List.Perm.eq_of_pairwise (λx y _ _ h1 h2=>absurd (ltA_trans h1 h2) ltA_irr) h.1 k.1 ((List.perm_ext_iff_of_nodup (nd h) (nd k)).2 λx=>(h.2 x).trans (k.2 x).symm)
def nearR (l:List Rc):Prop:=∀r∈l,r.Right<=30/\r.High<=10
def nearV (w:List api_Version):Prop:=1<=w.length/\w.length<=24/\∀x∈w,x.Lines.length<=2/\∀y∈x.Lines,nearR y.Region.Rects
theorem nearV_okS {w:List api_Version}(h:nearV w):okS w:=by
 refine⟨⟨by have:=h.2.1;omega,λv hv=>by have:=(h.2.2 v hv).1;omega⟩,λhb x hx=> ?_⟩
 obtain⟨h1,h2⟩:=mem_linV.1 hx
 obtain⟨t1,t2,t3,t4⟩:=h1
 have hn:=(h.2.2 _ (ix_mem t1 t2)).2 _ (ix_mem t3 t4)
 have hv:=((begin_zero hb).2 x hx).2.1
 rw[h2] at hv ⊢
 intro r hr
 have p:=hv r hr
 have q:=hn r hr
 exact⟨p.1,p.2.1,q.1,p.2.2.2.1,p.2.2.2.2.1,q.2⟩
theorem nearV_made {n:Int}(hn:n<=3){v:List api_Version}(h:madeV n v):nearV v:=by
 refine⟨h.1,by have:=h.2.1;omega,λx hx=>⟨(h.2.2 x hx).2,λy hy r hr=> ?_⟩⟩
 obtain⟨p,p0,p1,p2⟩:=(h.2.2 x hx).1 y hy
 have:=boxed_inBox p0 p1 p2 r hr
 exact⟨this.2.2.1,this.2.2.2.2.2⟩
theorem mem_ofset {α:Type}{l:List α}{i:Nat}{x y:α}(h:y∈l.set i x):y=x\/y∈l:=(List.mem_or_eq_of_mem_set h).symm
theorem sizes_like {v m:List api_Version}(hm:manyV v)(hl:likeV v m)(hb:∀p,thereP v p->(gat m p).length<=300):m.length<=1000000000/\∀x∈m,x.2.length<=1000000000/\∀l∈x.2,l.2.1.length<=1000000000:=by
 have h:=many_like hl hm
 refine⟨by have:=h.1;omega,λx hx=>⟨by have:=h.2 x hx;exact Nat.le_trans this (by decide),λl hll=> ?_⟩⟩
 obtain⟨p,hp,e⟩:=line_place hx hll
 have:=hb p (hl.there.1 hp)
 rw[e] at this
 exact Nat.le_trans this (by decide)
theorem dblR_sizes {g:List api_Version}(hk:okS g){d:List Dbl}{e:Int}(h:dblR g d e):d.length<=200/\∀x∈d,x.1.1.length<=300/\x.2.length<=60:=by
 by_cases he:e=0
 ·subst he
  obtain⟨hb,hd,hl⟩:=dblR_zero h
  exact⟨hl,λx hx=>⟨(dbl_small hk hb hd hx).2.1,(dbl_small hk hb hd hx).2.2.1⟩⟩
 ·rw[dblR_begin h he]
  exact⟨Nat.zero_le _,λx hx=>by cases hx⟩
theorem setR_sizes {w:List api_Version}(hk:okS w){ys:List api_Yield}{m:List api_Version}{d:List Dbl}{e:Int}(h:setR w ys m d e):(m.length<=1000000000/\∀x∈m,x.2.length<=1000000000/\∀l∈x.2,l.2.1.length<=1000000000)/\d.length<=1000000000/\∀x∈d,x.1.1.length<=1000000000/\x.2.length<=1000000000:=by
 have nil:∀{m:List api_Version}{d:List Dbl},m=[]->d=[]->(m.length<=1000000000/\∀x∈m,x.2.length<=1000000000/\∀l∈x.2,l.2.1.length<=1000000000)/\d.length<=1000000000/\∀x∈d,x.1.1.length<=1000000000/\x.2.length<=1000000000:=λh1 h2=>by
  rw[h1,h2]
  exact⟨⟨Nat.zero_le _,λx hx=>by cases hx⟩,Nat.zero_le _,λx hx=>by cases hx⟩
 rcases h with⟨_,h1,h2,_⟩|⟨h0,d0,e0,h1,⟨_,h2,h3,_⟩|⟨_,_,h2,h3,_⟩|⟨h2,_,h3,h4,_⟩⟩
 ·exact nil h1 h2
 ·exact nil h2 h3
 ·exact nil h2 h3
 ·obtain⟨hg,_⟩:=okS_give hk h0
  subst h2
  obtain⟨s1,s2⟩:=dblR_sizes hg h1
  obtain⟨hb,hd,_⟩:=dblR_zero h1
  subst h4
  have hy:∀z∈claimsY d,thereP (givS w ys).1 z.1:=λz hz=>by
   obtain⟨x,hx,hp,_⟩:=mem_claimsY.1 hz
   exact claims_there hd hx hp
  subst h3
  refine⟨sizes_like hg.1 (gives_ok hy).1 λp hp=>(gave_box hb hg hy hp).2.1,by omega,λx hx=> ?_⟩
  have:=s2 x hx
  exact⟨by omega,by omega⟩
theorem gave_sizes {w:List api_Version}(h:nearV w)(ys:List api_Yield):(givS w ys).1.length<=1000000000/\∀x∈(givS w ys).1,x.2.length<=1000000000/\∀l∈x.2,l.2.1.length<=1000000000:=by
 have hk:=nearV_okS h
 by_cases he:(givS w ys).2=0
 ·obtain⟨hb,_,hy,_,e⟩:=givS_zero he
  have hl:=(okS_give hk he).2
  refine sizes_like hk.1 hl λp hp=> ?_
  rw[e]
  exact (gave_box hb hk (errY_take hy) hp).2.1
 ·have e:(givS w ys).1=[]:=by
   unfold givS at he ⊢
   split
   ·rfl
   split
   ·rfl
   split
   ·rfl
   split
   ·rfl
   ·rename_i a b c d
    rw[if_neg a,if_neg b,if_neg c,if_neg d] at he
    exact absurd rfl he
  rw[e]
  exact⟨Nat.zero_le _,λx hx=>by cases hx⟩
def yieI (v:List api_Version)(z:Int)(b:List api_Yield)(w:List api_Version):Prop:=(0<=z/\z+(b.length:Int)<=3)/\w=v
def ans2 (raw d:List api_Double):Prop:=∀x∈[raw,d],x.length<=200/\∀y∈x,y.2.length<=60
set_option maxHeartbeats 8000000 in
theorem lAns_h (raw:List api_Double)(y:api_Yield)(ap by0:Int)(l:List Int):lAns_W raw y ap by0 l λb=>b=true:=by
 unfold lAns_W
 refine λ_ _=>IFB.mk (λ_=>rfl) (λhc=>λ_=> ?_)
 rw[Bool.or_eq_false_iff] at hc
 have hr:¬(12:Int)<(raw.length:Int):=of_decide_eq_false hc.1
 refine loopCmp (n:=raw.length) (by omega) (p:=λj=>(ix raw (j:Int)).2.length<=8) (λrec k hk _ hrec=>⟨⟨by omega,by omega⟩,λ_=>IFB.mk (λ_=>rfl) (λhc=>hrec ?_)⟩) (λhraw=> ?_)
 ·have hc:¬(8:Int)<((ix raw (k:Int)).2.length:Int):=of_decide_eq_false hc
  omega
 intro cs h1
 refine⟨⟨by omega,by omega,by omega,by omega⟩,λv hv=>⟨Int.NonNeg.mk _,λn0 n1 n2=> ?_⟩⟩
 have hN:=nearV_made (by omega) hv
 refine LOOP.fuel (λu=>yieI v u.1 u.2.1 u.2.2.1) (λu=>Int.toNat u.1) ⟨⟨n1,by show n0+(([]:List api_Yield).length:Int)<=3;simp only[List.length_nil];omega⟩,rfl⟩ ?_
 rintro rec ⟨(z:Int),(b:List api_Yield),(w:List api_Version),⟨⟩⟩ ⟨⟨i1,i2⟩,i3⟩ hrec
 have i1:0<=z:=i1
 have i2:z+(b.length:Int)<=3:=i2
 have i3:w=v:=i3
 subst i3
 have hw1:=hN.1
 have hw2:=hN.2.1
 dsimp only
 refine IFB.mk (λhb=> ?_) (λhb=> ?_)
 ·have hb:0<z:=of_decide_eq_true hb
  refine JOIN.opq λ(J:List api_Yield->List api_Version->Prop) hJ=>λ_=>⟨by omega,λi a7 b7=> ?_⟩
  have hJ2:∀y:List api_Yield,(y.length:Int)<=(b.length:Int)+1->J y w:=λy hy1=>by
   rw[hJ]
   show rec (IntKind.i64.wrap (z-1)) y w
   rw[wrap_in (by omega) (by omega)]
   refine hrec (z-1,y,w,()) ⟨⟨by show 0<=z-1;omega,?_⟩,rfl⟩ (by show (z-1).toNat<z.toNat;omega)
   show z-1+(y.length:Int)<=3
   omega
  have b7:i<(w.length:Int)\/i=0:=b7
  have hlt:i<(w.length:Int):=by omega
  have hx:=(hN.2.2 _ (ix_mem (l:=w) a7 hlt)).1
  have hx:(ix w i).2.length<=2:=hx
  refine⟨⟨a7,hlt⟩,λ_=>IFB.mk (λhc=>⟨by omega,λj a8 b8=>JOIN.opq λ(K:List api_Yield->List api_Version->Prop) hK=>⟨⟨Int.NonNeg.mk _,Int.NonNeg.mk _,Int.NonNeg.mk _,by omega⟩,λrg hv=>⟨by simp only[List.length_cons,List.length_nil];omega,?_⟩⟩⟩) (λhc=>hJ2 b (by omega))⟩
  rw[hK]
  exact hJ2 _ (by simp)
 have hb:¬0<z:=of_decide_eq_false hb
 have hbl:b.length<=3:=by omega
 clear hrec rec i2
 refine JOIN.opq λ(J:List api_Yield->List api_Version->Prop) hJ=> ?_
 have fin:∀(ys:List api_Yield)(m:List api_Version),nearV m->J ys m:=by
  intro ys m hm
  rw[hJ]
  have hk:=nearV_okS hm
  have hG:(m.length<=1000/\∀x:api_Version,x∈m->x.2.length<=1000)/\okG m ys:=⟨hk.1,okS_G hk ys⟩
  refine⟨okS_D hk,λd e hd=>⟨okS_D hk,λd' e' hd'=>⟨hG,hG,hk,λsm sd se hs=>⟨hk,λsm' sd' se' hs'=> ?_⟩⟩⟩⟩
  obtain⟨q1,q2⟩:=dblR_uniq hd hd'
  obtain⟨q3,q4,q5⟩:=setR_uniq hs hs'
  subst q1;subst q2;subst q3;subst q4;subst q5
  obtain⟨s1,s2⟩:=dblR_sizes hk hd
  obtain⟨s3,s4⟩:=setR_sizes hk hs
  refine⟨⟨by omega,λx hx=>⟨by have:=(s2 x hx).1;omega,by have:=(s2 x hx).2;omega⟩⟩,λb1 hb1=> ?_⟩
  have hb1:b1=true:=hb1.2 rfl
  subst hb1
  refine JOIN.opq λ(J1:Bool->Prop) hJ1=>IFB.yes (by rw[gx_f];simp) ⟨gave_sizes hm ys,λb2 hb2=> ?_⟩
  have hb2:b2=true:=hb2.2 rfl
  subst hb2
  rw[hJ1]
  refine JOIN.opq λ(J2:Bool->Prop) hJ2=>IFB.yes (by rw[gx_f];simp) ⟨s3,λb3 hb3=> ?_⟩
  have hb3:b3=true:=hb3.2 rfl
  subst hb3
  rw[hJ2]
  refine JOIN.opq λ(J3:Bool->Prop) hJ3=>IFB.yes (by rw[gx_f];simp) ⟨s4,λb4 hb4=> ?_⟩
  have hb4:b4=true:=hb4.2 rfl
  subst hb4
  rw[hJ3]
  refine IFB.no (by simp) λ_=> ?_
  have hall:ans2 raw d:=λx hx=>by
   rcases List.mem_cons.1 hx with h|h
   ·subst h
    refine⟨by omega,λc hc=> ?_⟩
    obtain⟨i,hi,rfl⟩:=List.getElem_of_mem hc
    have:=hraw i hi
    rw[ix_lt hi] at this
    omega
   ·rw[List.mem_singleton] at h
    subst h
    exact⟨s1,λc hc=>(s2 c hc).2⟩
  clear hJ1 hJ2 hJ3 J1 J2 J3 s3 s4 hs hs' hd hd'
  refine loopCmp (n:=[raw,d].length) (by show 2<=_;omega) (p:=λ_=>True) (λrec k hk _ hrec=> ?_) (λ_=>rfl)
  obtain⟨t1,t2⟩:=hall _ (ix_mem (l:=[raw,d]) (i:=(k:Int)) (by omega) (by omega))
  refine⟨⟨by omega,by omega⟩,⟨t1,t2⟩,λp1 hp1=>⟨⟨t1,t2⟩,λp2 hp2=>λhpl _=> ?_⟩⟩
  have e:=partP_uniq hp1 hp2
  subst e
  refine IFB.no (by simp) λ_=>loopCmpB (n:=p1.length) hpl (p:=λ_=>True) (λrec2 j hj _ hrec2=>⟨⟨by omega,by omega⟩,⟨by omega,by omega⟩,IFB.no (by simp) (hrec2 trivial)⟩) (λ_=>⟨⟨by omega,by omega⟩,λa4 _ _ _=> ?_⟩)
  refine loopCmp (n:=[ap,a4].length) (by show 2<=_;omega) (p:=λ_=>True) (λrec3 j hj _ hrec3=> ?_) (λ_=>hrec trivial)
  have tb:(ix [raw,d] (k:Int)).length<=1000000/\∀c:api_Double,c∈ix [raw,d] (k:Int)->c.2.length<=1000000:=⟨by omega,λc hc=>by have:=t2 c hc;omega⟩
  refine⟨⟨by omega,by omega⟩,tb,tb,λb5 hb5=> ?_⟩
  have hb5:b5=true:=hb5.2 rfl
  subst hb5
  exact IFB.no rfl (hrec3 trivial)
 clear hJ
 have hw0:(0:Int)<(w.length:Int):=by omega
 refine⟨Int.NonNeg.mk _,λn3 _ _=>IFB.mk (λ_=>⟨⟨Int.NonNeg.mk _,hw0⟩,λ_=>IFB.mk (λh0=>⟨⟨Int.NonNeg.mk _,hw0⟩,⟨Int.NonNeg.mk _,Int.NonNeg.mk _,Int.NonNeg.mk _,by omega⟩,λrg hrg=>⟨⟨Int.NonNeg.mk _,of_decide_eq_true h0⟩,?_⟩⟩) (λ_=>fin b w hN)⟩) (λ_=>IFB.mk (λ_=>⟨by simp only[List.length_cons,List.length_nil];omega,fin _ w hN⟩) (λ_=>IFB.mk (λ_=>⟨by omega,λc1 _ _=>⟨by omega,λc2 _ _=>⟨⟨Int.NonNeg.mk _,Int.NonNeg.mk _,Int.NonNeg.mk _,by omega⟩,λrg hrg=>⟨by simp only[List.length_cons,List.length_nil];omega,fin _ w hN⟩⟩⟩⟩) (λ_=>IFB.mk (λ_=> ?_) (λ_=>fin b w hN))))⟩
 ·refine fin b _ ⟨by rw[List.length_set];exact hN.1,by rw[List.length_set];exact hN.2.1,λx hx=> ?_⟩
  have hx0:=hN.2.2 _ (ix_mem (l:=w) (i:=0) (by omega) (by omega))
  rcases mem_ofset hx with h|h
  ·subst h
   refine⟨by show (List.set _ _ _).length<=2;rw[List.length_set];exact hx0.1,λq hq=> ?_⟩
   rcases mem_ofset hq with h|h
   ·subst h
    exact λr hr=>⟨by have:=(hrg.2 r hr).1;show r.3<=30;omega,by have:=(hrg.2 r hr).2;show r.4<=10;omega⟩
   ·exact hx0.2 q h
  ·exact hN.2.2 x h
 ·refine LOOP.fuel (λu=>nearV u.1) (λu=>24-u.1.length) hN ?_
  rintro rec ⟨(q:List api_Version),⟨⟩⟩ hq hrec
  have hq:nearV q:=hq
  dsimp only at hrec ⊢
  refine λ_=>⟨λ_ h=>by omega,IFB.mk (λhc=> ?_) (λ_=>fin b q hq)⟩
  rw[Bool.and_eq_true] at hc
  have hc:(q.length:Int)<24:=of_decide_eq_true hc.1
  refine⟨⟨Int.NonNeg.mk _,by show (0:Int)<(q.length:Int);have:=hq.1;omega⟩,by show (q.length+1) * 32<=_;omega,?_⟩
  refine hrec (_,()) ⟨by rw[List.length_append];have:=hq.1;omega,by show (q++[_]).length<=24;rw[List.length_append];simp only[List.length_cons,List.length_nil];omega,λx hx=> ?_⟩ (by show 24-(q++[_]).length<24-q.length;rw[List.length_append];simp only[List.length_cons,List.length_nil];omega)
  rcases List.mem_append.1 hx with h|h
  ·exact hq.2.2 x h
  ·rw[List.mem_singleton] at h
   subst h
   exact hq.2.2 _ (ix_mem (l:=q) (i:=0) (by omega) (by have:=hq.1;omega))
end RE
end Go.Proofs.YtpeggkeenboacaaGreat
