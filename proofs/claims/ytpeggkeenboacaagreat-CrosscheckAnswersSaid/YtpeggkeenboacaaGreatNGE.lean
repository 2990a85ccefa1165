/-
  Texts of the proof of CrosscheckAnswers, part GE.
-/
import Derived.Test.YtpeggkeenboacaaGreatNGD
import Derived.Test.YtpeggkeenboacaaGreatNGC
import Derived.Test.YtpeggkeenboacaaGreatProg
import Derived.WalkKit
import Derived.WalkSpells
import Derived.WalkLawsBesides
import Derived.BigQuiet
import Derived.Deep.QuietTactic
import Derived.Lib.Hide
import Derived.Lib.Small
import Derived.Deep.RegionHeld3
import Derived.Deep.DeepCutAuto
import Derived.Deep.CutBlock
import Derived.Shelf.SlSortCmp.NoneTotal
import Derived.Shelf.SlicesG.Cmp
import Derived.Shelf.Spec.SlicesGrow
import Derived.Ground.SlsfProg
import Derived.Ground.SlgcProg
import Derived.Ground.Names8Prog
set_option linter.unusedVariables false
set_option maxRecDepth 100000
noncomputable section
namespace Go.Proofs.YtpeggkeenboacaaGreat
namespace RE
open Go.RowKit
open PL
def pmergeN_P (A:List (region_Span))(B:List (region_Span))(post:List (region_Span)->Prop):Prop:=(A.length<=20000/\B.length<=20000)/\post (mergeS 3 A B)
def pmergeN_sp:Spec:=⟨163,false,true,[.sl (.st .region_Span),.sl (.st .region_Span)],.dat (.sl (.st .region_Span)),λx post=>pmergeN_P (x.1:List (region_Span)) (x.2.1:List (region_Span)) (λy0=>post (y0,()))⟩
def pmergeN_C:CtxR:=⟨tau,[rule1 pconc_sp,rule3 ssort_sp,rule2 scompact_sp,rule1 pins_sp],lookJ [(0,23,⟨[(11,.dat (.int .i64)),(10,.own 232 (.st .region_Span))],[],(List.range' 35 52++[12,13]),[],[]⟩),(0,24,⟨[(10,.own 232 (.st .region_Span))],[],(List.range' 41 46++[12,13]),[3],[]⟩),(0,7,⟨[(19,.dat (.int .i64)),(7,.own 3 (.int .i64))],[],(List.range' 20 11++[9]),[],[]⟩)]⟩
def pmergeN_W (A:List (region_Span))(B:List (region_Span))(post:List (region_Span)->Prop):Prop:=((A.append (B.append [])).length<=100000/\[A,B].length<=10)/\((↑(A.append (B.append [])).length:Int)<=9223372036854775807->LOOP [Ty.int IntKind.i64,(Ty.int IntKind.i64).sl] (λ(rec1:Int->List Int->Prop) (z2:Int) (z3:List Int)=>IFB (decide (z2<(↑(A.append (B.append [])).length:Int))) (((0:Int)<=z2/\z2<(↑(A.append (B.append [])).length:Int))/\(z3.length+[(ix (A.append (B.append [])) z2).1,(ix (A.append (B.append [])) z2).2].length) * (8:Nat)<=140737488355328/\rec1 (IntKind.i64.wrap (z2+1)) (z3++[(ix (A.append (B.append [])) z2).1,(ix (A.append (B.append [])) z2).2])) (z3.length<=1000000/\(sortI z3).length<=1000000/\LOOP [Ty.int IntKind.i64,(Ty.st Sn.region_Span).sl] (λ(rec4:Int->List region_Span->Prop) (z5:Int) (z6:List region_Span)=>(↑(compI (sortI z3)).length:Int)<=9223372036854775807->IFB (decide (z5<(↑(compI (sortI z3)).length:Int))) (JOIN [(Ty.st Sn.region_Span).sl] (λ(y7:List region_Span)=>rec4 (IntKind.i64.wrap (z5+1)) y7) λ(J8:List region_Span->Prop)=>((0:Int)<=IntKind.i64.wrap (z5-1)/\IntKind.i64.wrap (z5-1)<(↑(compI (sortI z3)).length:Int))/\A.length<=1000000/\B.length<=1000000/\IFB (!(insS A (ix (compI (sortI z3)) (IntKind.i64.wrap (z5-1)))&& !insS B (ix (compI (sortI z3)) (IntKind.i64.wrap (z5-1))))) (J8 z6) ((↑z6.length:Int)<=9223372036854775807->(gx true (decide ((0:Int)<(↑z6.length:Int)))=true->0<=IntKind.i64.wrap ((↑z6.length:Int)-1)/\IntKind.i64.wrap ((↑z6.length:Int)-1)<(↑z6.length:Int))/\IFB (decide ((0:Int)<(↑z6.length:Int))&&decide ((ix z6 (IntKind.i64.wrap ((↑z6.length:Int)-1))).2=ix (compI (sortI z3)) (IntKind.i64.wrap (z5-1)))) (((0:Int)<=z5/\z5<(↑(compI (sortI z3)).length:Int))/\((0:Int)<=IntKind.i64.wrap ((↑z6.length:Int)-1)/\IntKind.i64.wrap ((↑z6.length:Int)-1)<(↑z6.length:Int))/\J8 (z6.set (IntKind.i64.wrap ((↑z6.length:Int)-1)).toNat (⟨(ix z6 (IntKind.i64.wrap ((↑z6.length:Int)-1))).1,ix (compI (sortI z3)) z5⟩:region_Span))) (((0:Int)<=z5/\z5<(↑(compI (sortI z3)).length:Int))/\(z6.length+[(⟨ix (compI (sortI z3)) (IntKind.i64.wrap (z5-1)),ix (compI (sortI z3)) z5⟩:region_Span)].length) * (16:Nat)<=140737488355328/\J8 (z6++[(⟨ix (compI (sortI z3)) (IntKind.i64.wrap (z5-1)),ix (compI (sortI z3)) z5⟩:region_Span)])))) (post z6)) ((1:Int),[],PUnit.unit))) ((0:Int),[],PUnit.unit))
theorem pmergeN_w (A:List (region_Span))(B:List (region_Span))(post:dens (shT pmergeN_sp.rs [])->Prop):pmergeN_W A B (λy0=>post (y0,()))=walkG (callR Tryz.prog pmergeN_C (drawR Tryz.prog tau) 10 0) 163 false [tv (.sl (.st .region_Span)) A,tv (.sl (.st .region_Span)) B,.v (clo 122)] pmergeN_sp.rs post:=by kernel_rfl
theorem pmergeN_of (h:∀A B post,pmergeN_P A B post->pmergeN_W A B post):SpecCOK Tryz.prog pmergeN_sp [clo 122]:=SpecCOK.of_rules (C:=pmergeN_C) (dr:=drawR Tryz.prog tau) (n:=10) (fk:=0) (.cons (rule1_ok pconc_ok) (.cons (rule3_ok ssort_ok) (.cons (rule2_ok scompact_ok) (.cons (rule1_ok pins_ok) .nil)))) (drawR_ok tau) λx post hp=>HoldW.of (pmergeN_w x.1 x.2.1 post) (h x.1 x.2.1 (λy0=>post (y0,())) hp)
theorem pmergeN_ok:SpecCOK Tryz.prog pmergeN_sp [clo 122]:=pmergeN_of λA B post hp=>by
 obtain⟨⟨h1,h2⟩,hp⟩:=hp
 unfold pmergeN_W
 have e:A.append (B.append [])=A++B:=by show A++(B++[])=A++B;rw[List.append_nil]
 rw[e]
 refine⟨⟨by rw[List.length_append];omega,by simp⟩,λ_=> ?_⟩
 refine edg_in (l:=A++B) (A:=[]) (K:=λz3=>z3.length<=(1000000:Nat)/\(sortI z3).length<=(1000000:Nat)/\_) (by simp only[List.length_nil,List.length_append];omega) ?_
 rw[List.nil_append]
 have hel:(edgL (A++B)).length<=80000:=by rw[edgL_len,List.length_append];omega
 have hsl:(sortI (edgL (A++B))).length=(edgL (A++B)).length:=by unfold sortI;simp
 refine⟨by omega,by omega,?_⟩
 have hxl:(uniqI (edgL (A++B))).length<=80000:=Nat.le_trans (uniqI_len _) hel
 have hxe:compI (sortI (edgL (A++B)))=uniqI (edgL (A++B)):=rfl
 rw[hxe]
 have hp:post (spansG (λx=>howS 3 (insS A x) (insS B x)) [] (uniqI (edgL (A++B)))):=hp
 generalize uniqI (edgL (A++B))=xs at hxl hp ⊢
 refine LOOP.fuel (λu=>∃(k:Nat)(acc:List Sp),u.1=((k+1:Nat):Int)/\u.2.1=acc/\k<=xs.length/\spansG (λx=>howS 3 (insS A x) (insS B x)) acc (xs.drop k)=spansG (λx=>howS 3 (insS A x) (insS B x)) [] xs/\acc.length<=k) (λu=>xs.length+1-Int.toNat u.1) ⟨0,[],rfl,rfl,Nat.zero_le _,rfl,Nat.le_refl _⟩ ?_
 rintro rec ⟨(z2:Int),(z3:List region_Span),⟨⟩⟩ ⟨k,acc,i1,i2,i3,i4,i5⟩ hrec
 have i1:z2=((k+1:Nat):Int):=i1
 have i2:z3=acc:=i2
 subst i1 i2
 have i5:z3.length<=k:=i5
 intro _
 refine IFB.mk (λhb=> ?_) (λhb=> ?_)
 ·have hb:((k+1:Nat):Int)<xs.length:=of_decide_eq_true hb
  have hb:k+1<xs.length:=by omega
  obtain⟨d1,d2⟩:=drop_two hb
  have w1:IntKind.i64.wrap (((k+1:Nat):Int)-1)=k:=by rw[wrap_in (by omega) (by omega)];omega
  refine JOIN.opq λ(J:List Sp->Prop) hJ=> ?_
  rw[w1]
  have hgo:∀acc',acc'.length<=k+1->spansG (λx=>howS 3 (insS A x) (insS B x)) acc' (xs.drop (k+1))=spansG (λx=>howS 3 (insS A x) (insS B x)) [] xs->J acc':=λacc' hle hG=>by
   rw[hJ]
   show rec (IntKind.i64.wrap (((k+1:Nat):Int)+1)) _
   rw[wrapS (by omega)]
   exact hrec (((k+2:Nat):Int),acc',()) ⟨k+1,acc',rfl,rfl,by omega,hG,hle⟩ (by show xs.length+1-((k+2:Nat):Int).toNat<xs.length+1-((k+1:Nat):Int).toNat;omega)
  have hstep:spansG (λx=>howS 3 (insS A x) (insS B x)) (if howS 3 (insS A (ix xs (k:Int))) (insS B (ix xs (k:Int)))=true then addSp z3 (ix xs (k:Int)) (ix xs ((k+1:Nat):Int)) else z3) (xs.drop (k+1))=spansG (λx=>howS 3 (insS A x) (insS B x)) [] xs:=by
   rw[<-i4,d1,d2]
   rfl
  rw[howS_3] at hstep
  generalize ix xs (k:Int)=u at hstep ⊢
  generalize ix xs ((k+1:Nat):Int)=v at hstep ⊢
  refine⟨by omega,by omega,by omega,IFB.mk (λhn=> ?_) (λhn=> ?_)⟩
  ·have hn:(insS A u&& !insS B u)=false:=by rw[Bool.not_eq_true'] at hn;exact hn
   rw[hn] at hstep
   exact hgo z3 (by omega) hstep
  ·have hn:(insS A u&& !insS B u)=true:=by
    rw[Bool.not_eq_false'] at hn;exact hn
   rw[hn,if_pos rfl] at hstep
   intro _
   rcases List.eq_nil_or_concat z3 with rfl|⟨Z,q,rfl⟩
   ·have hj:addSp [] u v=[⟨u,v⟩]:=rfl
    rw[hj] at hstep
    refine⟨λh=>(by cases h),IFB.mk (λhb=>(by cases hb)) (λ_=>⟨by omega,by simp,hgo _ (by simp) hstep⟩)⟩
   ·rw[List.concat_eq_append] at *
    have hAl:(Z++[q]).length=Z.length+1:=by simp
    have w2:IntKind.i64.wrap (((Z++[q]).length:Int)-1)=Z.length:=by
     rw[hAl,wrap_in (by omega) (by omega)]
     omega
    have hq:ix (Z++[q]) (Z.length:Int)=q:=ix_app rfl
    have hset:∀z,(Z++[q]).set (Z.length:Int).toNat z=Z++[z]:=λz=>set_app (by simp)
    rw[w2,hq,hset]
    have hj:addSp (Z++[q]) u v=if q.2=u then Z++[⟨q.1,v⟩] else Z++[q]++[⟨u,v⟩]:=by
     unfold addSp
     simp
    rw[hj] at hstep
    have hd:decide ((0:Int)<((Z++[q]).length:Int))=true:=decide_eq_true (by omega)
    rw[hd,Bool.true_and]
    refine⟨λ_=>by rw[hAl];omega,IFB.mk (λhc=>⟨by omega,by rw[hAl];omega,?_⟩) (λhc=>⟨by omega,by rw[hAl];simp only[List.length_cons,List.length_nil];omega,?_⟩)⟩
    ·have hc:q.2=u:=of_decide_eq_true hc
     rw[if_pos hc] at hstep
     exact hgo _ (by simp only[List.length_append,List.length_cons,List.length_nil] at *;omega) hstep
    ·have hc:¬q.2=u:=of_decide_eq_false hc
     rw[if_neg hc] at hstep
     exact hgo _ (by simp only[List.length_append,List.length_cons,List.length_nil] at *;omega) hstep
 ·have hb:¬((k+1:Nat):Int)<xs.length:=of_decide_eq_false hb
  rw[short_drop2 (by omega)] at i4
  rw[<-i4] at hp
  exact hp
def pmergeB_P (A:List (region_Span))(B:List (region_Span))(post:List (region_Span)->Prop):Prop:=(A.length<=20000/\B.length<=20000)/\post (mergeS 2 A B)
def pmergeB_sp:Spec:=⟨163,false,true,[.sl (.st .region_Span),.sl (.st .region_Span)],.dat (.sl (.st .region_Span)),λx post=>pmergeB_P (x.1:List (region_Span)) (x.2.1:List (region_Span)) (λy0=>post (y0,()))⟩
def pmergeB_C:CtxR:=⟨tau,[rule1 pconc_sp,rule3 ssort_sp,rule2 scompact_sp,rule1 pins_sp],lookJ [(0,23,⟨[(11,.dat (.int .i64)),(10,.own 232 (.st .region_Span))],[],(List.range' 35 52++[12,13]),[],[]⟩),(0,24,⟨[(10,.own 232 (.st .region_Span))],[],(List.range' 41 46++[12,13]),[3],[]⟩),(0,7,⟨[(19,.dat (.int .i64)),(7,.own 3 (.int .i64))],[],(List.range' 20 11++[9]),[],[]⟩)]⟩
def pmergeB_W (A:List (region_Span))(B:List (region_Span))(post:List (region_Span)->Prop):Prop:=((A.append (B.append [])).length<=100000/\[A,B].length<=10)/\((↑(A.append (B.append [])).length:Int)<=9223372036854775807->LOOP [Ty.int IntKind.i64,(Ty.int IntKind.i64).sl] (λ(rec1:Int->List Int->Prop) (z2:Int) (z3:List Int)=>IFB (decide (z2<(↑(A.append (B.append [])).length:Int))) (((0:Int)<=z2/\z2<(↑(A.append (B.append [])).length:Int))/\(z3.length+[(ix (A.append (B.append [])) z2).1,(ix (A.append (B.append [])) z2).2].length) * (8:Nat)<=140737488355328/\rec1 (IntKind.i64.wrap (z2+1)) (z3++[(ix (A.append (B.append [])) z2).1,(ix (A.append (B.append [])) z2).2])) (z3.length<=1000000/\(sortI z3).length<=1000000/\LOOP [Ty.int IntKind.i64,(Ty.st Sn.region_Span).sl] (λ(rec4:Int->List region_Span->Prop) (z5:Int) (z6:List region_Span)=>(↑(compI (sortI z3)).length:Int)<=9223372036854775807->IFB (decide (z5<(↑(compI (sortI z3)).length:Int))) (JOIN [(Ty.st Sn.region_Span).sl] (λ(y7:List region_Span)=>rec4 (IntKind.i64.wrap (z5+1)) y7) λ(J8:List region_Span->Prop)=>((0:Int)<=IntKind.i64.wrap (z5-1)/\IntKind.i64.wrap (z5-1)<(↑(compI (sortI z3)).length:Int))/\A.length<=1000000/\B.length<=1000000/\IFB (!(insS A (ix (compI (sortI z3)) (IntKind.i64.wrap (z5-1)))&&insS B (ix (compI (sortI z3)) (IntKind.i64.wrap (z5-1))))) (J8 z6) ((↑z6.length:Int)<=9223372036854775807->(gx true (decide ((0:Int)<(↑z6.length:Int)))=true->0<=IntKind.i64.wrap ((↑z6.length:Int)-1)/\IntKind.i64.wrap ((↑z6.length:Int)-1)<(↑z6.length:Int))/\IFB (decide ((0:Int)<(↑z6.length:Int))&&decide ((ix z6 (IntKind.i64.wrap ((↑z6.length:Int)-1))).2=ix (compI (sortI z3)) (IntKind.i64.wrap (z5-1)))) (((0:Int)<=z5/\z5<(↑(compI (sortI z3)).length:Int))/\((0:Int)<=IntKind.i64.wrap ((↑z6.length:Int)-1)/\IntKind.i64.wrap ((↑z6.length:Int)-1)<(↑z6.length:Int))/\J8 (z6.set (IntKind.i64.wrap ((↑z6.length:Int)-1)).toNat (⟨(ix z6 (IntKind.i64.wrap ((↑z6.length:Int)-1))).1,ix (compI (sortI z3)) z5⟩:region_Span))) (((0:Int)<=z5/\z5<(↑(compI (sortI z3)).length:Int))/\(z6.length+[(⟨ix (compI (sortI z3)) (IntKind.i64.wrap (z5-1)),ix (compI (sortI z3)) z5⟩:region_Span)].length) * (16:Nat)<=140737488355328/\J8 (z6++[(⟨ix (compI (sortI z3)) (IntKind.i64.wrap (z5-1)),ix (compI (sortI z3)) z5⟩:region_Span)])))) (post z6)) ((1:Int),[],PUnit.unit))) ((0:Int),[],PUnit.unit))
theorem pmergeB_w (A:List (region_Span))(B:List (region_Span))(post:dens (shT pmergeB_sp.rs [])->Prop):pmergeB_W A B (λy0=>post (y0,()))=walkG (callR Tryz.prog pmergeB_C (drawR Tryz.prog tau) 10 0) 163 false [tv (.sl (.st .region_Span)) A,tv (.sl (.st .region_Span)) B,.v (clo 169)] pmergeB_sp.rs post:=by kernel_rfl
theorem pmergeB_of (h:∀A B post,pmergeB_P A B post->pmergeB_W A B post):SpecCOK Tryz.prog pmergeB_sp [clo 169]:=SpecCOK.of_rules (C:=pmergeB_C) (dr:=drawR Tryz.prog tau) (n:=10) (fk:=0) (.cons (rule1_ok pconc_ok) (.cons (rule3_ok ssort_ok) (.cons (rule2_ok scompact_ok) (.cons (rule1_ok pins_ok) .nil)))) (drawR_ok tau) λx post hp=>HoldW.of (pmergeB_w x.1 x.2.1 post) (h x.1 x.2.1 (λy0=>post (y0,())) hp)
theorem howS_2' (a b:Bool):howS 2 a b=(a&&b):=by unfold howS;simp
theorem pmergeB_ok:SpecCOK Tryz.prog pmergeB_sp [clo 169]:=pmergeB_of λA B post hp=>by
 obtain⟨⟨h1,h2⟩,hp⟩:=hp
 unfold pmergeB_W
 have e:A.append (B.append [])=A++B:=by show A++(B++[])=A++B;rw[List.append_nil]
 rw[e]
 refine⟨⟨by rw[List.length_append];omega,by simp⟩,λ_=> ?_⟩
 refine edg_in (l:=A++B) (A:=[]) (K:=λz3=>z3.length<=(1000000:Nat)/\(sortI z3).length<=(1000000:Nat)/\_) (by simp only[List.length_nil,List.length_append];omega) ?_
 rw[List.nil_append]
 have hel:(edgL (A++B)).length<=80000:=by rw[edgL_len,List.length_append];omega
 have hsl:(sortI (edgL (A++B))).length=(edgL (A++B)).length:=by unfold sortI;simp
 refine⟨by omega,by omega,?_⟩
 have hxl:(uniqI (edgL (A++B))).length<=80000:=Nat.le_trans (uniqI_len _) hel
 have hxe:compI (sortI (edgL (A++B)))=uniqI (edgL (A++B)):=rfl
 rw[hxe]
 have hp:post (spansG (λx=>howS 2 (insS A x) (insS B x)) [] (uniqI (edgL (A++B)))):=hp
 generalize uniqI (edgL (A++B))=xs at hxl hp ⊢
 refine LOOP.fuel (λu=>∃(k:Nat)(acc:List Sp),u.1=((k+1:Nat):Int)/\u.2.1=acc/\k<=xs.length/\spansG (λx=>howS 2 (insS A x) (insS B x)) acc (xs.drop k)=spansG (λx=>howS 2 (insS A x) (insS B x)) [] xs/\acc.length<=k) (λu=>xs.length+1-Int.toNat u.1) ⟨0,[],rfl,rfl,Nat.zero_le _,rfl,Nat.le_refl _⟩ ?_
 rintro rec ⟨(z2:Int),(z3:List region_Span),⟨⟩⟩ ⟨k,acc,i1,i2,i3,i4,i5⟩ hrec
 have i1:z2=((k+1:Nat):Int):=i1
 have i2:z3=acc:=i2
 subst i1 i2
 have i5:z3.length<=k:=i5
 intro _
 refine IFB.mk (λhb=> ?_) (λhb=> ?_)
 ·have hb:((k+1:Nat):Int)<xs.length:=of_decide_eq_true hb
  have hb:k+1<xs.length:=by omega
  obtain⟨d1,d2⟩:=drop_two hb
  have w1:IntKind.i64.wrap (((k+1:Nat):Int)-1)=k:=by rw[wrap_in (by omega) (by omega)];omega
  refine JOIN.opq λ(J:List Sp->Prop) hJ=> ?_
  rw[w1]
  have hgo:∀acc',acc'.length<=k+1->spansG (λx=>howS 2 (insS A x) (insS B x)) acc' (xs.drop (k+1))=spansG (λx=>howS 2 (insS A x) (insS B x)) [] xs->J acc':=λacc' hle hG=>by
   rw[hJ]
   show rec (IntKind.i64.wrap (((k+1:Nat):Int)+1)) _
   rw[wrapS (by omega)]
   exact hrec (((k+2:Nat):Int),acc',()) ⟨k+1,acc',rfl,rfl,by omega,hG,hle⟩ (by show xs.length+1-((k+2:Nat):Int).toNat<xs.length+1-((k+1:Nat):Int).toNat;omega)
  have hstep:spansG (λx=>howS 2 (insS A x) (insS B x)) (if howS 2 (insS A (ix xs (k:Int))) (insS B (ix xs (k:Int)))=true then addSp z3 (ix xs (k:Int)) (ix xs ((k+1:Nat):Int)) else z3) (xs.drop (k+1))=spansG (λx=>howS 2 (insS A x) (insS B x)) [] xs:=by
   rw[<-i4,d1,d2]
   rfl
  rw[howS_2'] at hstep
  generalize ix xs (k:Int)=u at hstep ⊢
  generalize ix xs ((k+1:Nat):Int)=v at hstep ⊢
  refine⟨by omega,by omega,by omega,IFB.mk (λhn=> ?_) (λhn=> ?_)⟩
  ·have hn:(insS A u&&insS B u)=false:=by rw[Bool.not_eq_true'] at hn;exact hn
   rw[hn] at hstep
   exact hgo z3 (by omega) hstep
  ·have hn:(insS A u&&insS B u)=true:=by
    rw[Bool.not_eq_false'] at hn;exact hn
   rw[hn,if_pos rfl] at hstep
   intro _
   rcases List.eq_nil_or_concat z3 with rfl|⟨Z,q,rfl⟩
   ·have hj:addSp [] u v=[⟨u,v⟩]:=rfl
    rw[hj] at hstep
    refine⟨λh=>(by cases h),IFB.mk (λhb=>(by cases hb)) (λ_=>⟨by omega,by simp,hgo _ (by simp) hstep⟩)⟩
   ·rw[List.concat_eq_append] at *
    have hAl:(Z++[q]).length=Z.length+1:=by simp
    have w2:IntKind.i64.wrap (((Z++[q]).length:Int)-1)=Z.length:=by
     rw[hAl,wrap_in (by omega) (by omega)]
     omega
    have hq:ix (Z++[q]) (Z.length:Int)=q:=ix_app rfl
    have hset:∀z,(Z++[q]).set (Z.length:Int).toNat z=Z++[z]:=λz=>set_app (by simp)
    rw[w2,hq,hset]
    have hj:addSp (Z++[q]) u v=if q.2=u then Z++[⟨q.1,v⟩] else Z++[q]++[⟨u,v⟩]:=by
     unfold addSp
     simp
    rw[hj] at hstep
    have hd:decide ((0:Int)<((Z++[q]).length:Int))=true:=decide_eq_true (by omega)
    rw[hd,Bool.true_and]
    refine⟨λ_=>by rw[hAl];omega,IFB.mk (λhc=>⟨by omega,by rw[hAl];omega,?_⟩) (λhc=>⟨by omega,by rw[hAl];simp only[List.length_cons,List.length_nil];omega,?_⟩)⟩
    ·have hc:q.2=u:=of_decide_eq_true hc
     rw[if_pos hc] at hstep
     exact hgo _ (by simp only[List.length_append,List.length_cons,List.length_nil] at *;omega) hstep
    ·have hc:¬q.2=u:=of_decide_eq_false hc
     rw[if_neg hc] at hstep
     exact hgo _ (by simp only[List.length_append,List.length_cons,List.length_nil] at *;omega) hstep
 ·have hb:¬((k+1:Nat):Int)<xs.length:=of_decide_eq_false hb
  rw[short_drop2 (by omega)] at i4
  rw[<-i4] at hp
  exact hp
def pcutsL_P (ls:List (List (api_Rect)))(post:List (Int)->Prop):Prop:=(ls.flatten.length<=20000/\ls.length<=10)/\post (cutsS ls.flatten)
def pcutsL_sp:Spec:=⟨161,false,true,[.sl (.sl (.st .api_Rect))],.dat (.sl (.int .i64)),λx post=>pcutsL_P (x.1:List (List (api_Rect))) (λy0=>post (y0,()))⟩
def pcutsL_C:CtxR:=⟨tau,[rule3 ssort_sp,rule2 scompact_sp],lookJ [(0,7,⟨[(10,.dat (.int .i64)),(3,.own 3 (.int .i64))],[],(List.range' 11 18++[5,7]),[],[]⟩),(0,13,⟨[(16,.dat (.int .i64)),(3,.own 3 (.int .i64))],[],(List.range' 17 11++[7]),[0],[]⟩)]⟩
def pcutsL_W (ls:List (List (api_Rect)))(post:List (Int)->Prop):Prop:=(↑ls.length:Int)<=9223372036854775807->LOOP [Ty.int IntKind.i64,(Ty.int IntKind.i64).sl] (λ(rec1:Int->List Int->Prop) (z2:Int) (z3:List Int)=>IFB (decide (z2<(↑ls.length:Int))) (((0:Int)<=z2/\z2<(↑ls.length:Int))/\((↑(ix ls z2).length:Int)<=9223372036854775807->LOOP [Ty.int IntKind.i64,(Ty.int IntKind.i64).sl] (λ(rec4:Int->List Int->Prop) (z5:Int) (z6:List Int)=>IFB (decide (z5<(↑(ix ls z2).length:Int))) (((0:Int)<=z5/\z5<(↑(ix ls z2).length:Int))/\(z6.length+[(ix (ix ls z2) z5).2,(ix (ix ls z2) z5).4].length) * (8:Nat)<=140737488355328/\rec4 (IntKind.i64.wrap (z5+1)) (z6++[(ix (ix ls z2) z5).2,(ix (ix ls z2) z5).4])) (rec1 (IntKind.i64.wrap (z2+1)) z6)) ((0:Int),z3,PUnit.unit))) (z3.length<=1000000/\(sortI z3).length<=1000000/\post (compI (sortI z3)))) ((0:Int),[],PUnit.unit)
theorem pcutsL_w (ls:List (List (api_Rect)))(post:dens (shT pcutsL_sp.rs [])->Prop):pcutsL_W ls (λy0=>post (y0,()))=walkG (callR Tryz.prog pcutsL_C (drawR Tryz.prog tau) 8 0) 161 false [tv (.sl (.sl (.st .api_Rect))) ls] pcutsL_sp.rs post:=by kernel_rfl
theorem pcutsL_of (h:∀ls post,pcutsL_P ls post->pcutsL_W ls post):SpecOK Tryz.prog pcutsL_sp:=SpecOK.of_rules (C:=pcutsL_C) (dr:=drawR Tryz.prog tau) (n:=8) (fk:=0) (.cons (rule3_ok ssort_ok) (.cons (rule2_ok scompact_ok) .nil)) (drawR_ok tau) λx post hp=>HoldW.of (pcutsL_w x.1 post) (h x.1 (λy0=>post (y0,())) hp)
theorem pcutsL_ok:SpecOK Tryz.prog pcutsL_sp:=pcutsL_of λls post hp=>by
 obtain⟨⟨h1,h2⟩,hp⟩:=hp
 unfold pcutsL_W
 intro _
 refine LOOP.list ls (λk (s:List Int)=>((k:Int),s,())) (λu=>Int.toNat u.1) (λk r (s:List Int)=>s++cutL r.flatten=cutL ls.flatten) [] rfl rfl (λk s h=>by simp) ?_ ?_
 ·intro rec k x r s hd hk hkl g1 hrec
  have hx:=ix_of hk
  have hlen:s.length+(2 * x.length+2 * r.flatten.length)<=40000:=by
   have:=congrArg List.length g1
   rw[List.length_append,cutL_len,cutL_len,List.flatten_cons,List.length_append] at this
   omega
  show IFB _ _ _
  refine IFB.mk (λ_=>⟨by show 0<=(k:Int)/\(k:Int)<ls.length;omega,?_⟩) (λh=>absurd (of_decide_eq_false h) (by show ¬¬((k:Int)<ls.length);omega))
  dsimp only
  rw[hx]
  intro _
  refine cuts_in (l:=x) (A:=s) (K:=λz6=>rec (IntKind.i64.wrap ((k:Int)+1)) z6) (by omega) ?_
  rw[wrapS (by omega)]
  refine hrec _ ?_
  rw[<-g1,List.flatten_cons,cutL_app,List.append_assoc]
 ·intro rec s g1
  show IFB _ _ _
  refine IFB.mk (λh=>absurd (of_decide_eq_true h) (by show ¬((ls.length:Int)<ls.length);omega)) (λ_=> ?_)
  have g1:s=cutL ls.flatten:=by simpa [cutL] using g1
  have hlen:s.length<=40000:=by rw[g1,cutL_len];omega
  have hsl:(sortI s).length=s.length:=by unfold sortI;simp
  dsimp only
  refine⟨by omega,by omega,?_⟩
  rw[<-cuts_uniq,<-g1] at hp
  exact hp
def prowL_P (l:List (api_Rect))(y:Int)(post:List (region_Span)->Prop):Prop:=((∀r∈l,r.Left<r.Right)/\l.length<=20000)/\post (rowS l y)
def prowL_sp:Spec:=⟨164,false,true,[.sl (.st .api_Rect),.int .i64],.dat (.sl (.st .region_Span)),λx post=>prowL_P (x.1:List (api_Rect)) (x.2.1:Int) (λy0=>post (y0,()))⟩
def prowL_C:CtxR:=⟨tau,[rule3 psort_sp],lookJ [(0,23,⟨[(41,.dat (.int .i64)),(8,.own 232 (.st .region_Span))],[],(List.range' 42 37++[10,11]),[],[]⟩),(0,34,⟨[(8,.own 232 (.st .region_Span))],[],(List.range' 43 35++[10,11]),[1],[]⟩),(0,7,⟨[(14,.dat (.int .i64)),(5,.own 232 (.st .region_Span))],[],(List.range' 15 22++[7]),[],[]⟩),(0,14,⟨[(5,.own 232 (.st .region_Span))],[],(List.range' 16 20++[7]),[0],[]⟩)]⟩
def prowL_W (l:List (api_Rect))(y:Int)(post:List (region_Span)->Prop):Prop:=(↑l.length:Int)<=9223372036854775807->LOOP [Ty.int IntKind.i64,(Ty.st Sn.region_Span).sl] (λ(rec1:Int->List region_Span->Prop) (z2:Int) (z3:List region_Span)=>IFB (decide (z2<(↑l.length:Int))) (JOIN [(Ty.st Sn.region_Span).sl] (λ(y4:List region_Span)=>rec1 (IntKind.i64.wrap (z2+1)) y4) λ(J5:List region_Span->Prop)=>((0:Int)<=z2/\z2<(↑l.length:Int))/\IFB (decide ((ix l z2).2<=y)&&decide (y<(ix l z2).4)) ((z3.length+[(⟨(ix l z2).1,(ix l z2).3⟩:region_Span)].length) * (16:Nat)<=140737488355328/\J5 (z3++[(⟨(ix l z2).1,(ix l z2).3⟩:region_Span)])) (J5 z3)) (z3.length<=1000000/\∀(v6:List region_Span),v6.Perm z3->List.Pairwise (λ(s t:region_Span)=>s.1<=t.1) v6->(↑v6.length:Int)<=9223372036854775807->LOOP [Ty.int IntKind.i64,(Ty.st Sn.region_Span).sl] (λ(rec7:Int->List region_Span->Prop) (z8:Int) (z9:List region_Span)=>IFB (decide (z8<(↑v6.length:Int))) (JOIN [(Ty.st Sn.region_Span).sl] (λ(y10:List region_Span)=>rec7 (IntKind.i64.wrap (z8+1)) y10) λ(J11:List region_Span->Prop)=>((0:Int)<=z8/\z8<(↑v6.length:Int))/\((↑z9.length:Int)<=9223372036854775807->(gx true (decide ((0:Int)<(↑z9.length:Int)))=true->0<=IntKind.i64.wrap ((↑z9.length:Int)-1)/\IntKind.i64.wrap ((↑z9.length:Int)-1)<(↑z9.length:Int))/\IFB (decide ((0:Int)<(↑z9.length:Int))&&decide ((ix v6 z8).1<=(ix z9 (IntKind.i64.wrap ((↑z9.length:Int)-1))).2)) (((0:Int)<=IntKind.i64.wrap ((↑z9.length:Int)-1)/\IntKind.i64.wrap ((↑z9.length:Int)-1)<(↑z9.length:Int))/\((0:Int)<=IntKind.i64.wrap ((↑z9.length:Int)-1)/\IntKind.i64.wrap ((↑z9.length:Int)-1)<(↑z9.length:Int))/\J11 (z9.set (IntKind.i64.wrap ((↑z9.length:Int)-1)).toNat (⟨(ix z9 (IntKind.i64.wrap ((↑z9.length:Int)-1))).1,Max.max (ix z9 (IntKind.i64.wrap ((↑z9.length:Int)-1))).2 (ix v6 z8).2⟩:region_Span))) ((z9.length+[{Left:=(ix v6 z8).1,Right:=(ix v6 z8).2:region_Span}].length) * (16:Nat)<=140737488355328/\J11 (z9++[{Left:=(ix v6 z8).1,Right:=(ix v6 z8).2:region_Span}])))) (post z9)) ((0:Int),[],PUnit.unit))) ((0:Int),[],PUnit.unit)
theorem prowL_w (l:List (api_Rect))(y:Int)(post:dens (shT prowL_sp.rs [])->Prop):prowL_W l y (λy0=>post (y0,()))=walkG (callR Tryz.prog prowL_C (drawR Tryz.prog tau) 10 0) 164 false [tv (.sl (.st .api_Rect)) l,tv (.int .i64) y] prowL_sp.rs post:=by kernel_rfl
theorem prowL_of (h:∀l y post,prowL_P l y post->prowL_W l y post):SpecOK Tryz.prog prowL_sp:=SpecOK.of_rules (C:=prowL_C) (dr:=drawR Tryz.prog tau) (n:=10) (fk:=0) (.cons (rule3_ok psort_ok) .nil) (drawR_ok tau) λx post hp=>HoldW.of (prowL_w x.1 x.2.1 post) (h x.1 x.2.1 (λy0=>post (y0,())) hp)
theorem prowL_ok:SpecOK Tryz.prog prowL_sp:=prowL_of λl y post hp=>by
 obtain⟨⟨h1,h2⟩,hp⟩:=hp
 unfold prowL_W
 intro _
 refine LOOP.list l (λk (s:List Sp)=>((k:Int),s,())) (λu=>Int.toNat u.1) (λk r (s:List Sp)=>s++(onRow y r).map spanOf=(onRow y l).map spanOf/\s.length<=k) [] rfl ⟨rfl,Nat.le_refl _⟩ (λk s h=>by simp) ?_ ?_
 ·intro rec k x r s hd hk hkl ⟨g1,g2⟩ hrec
  have hx:=ix_of hk
  show IFB _ _ _
  refine IFB.mk (λ_=> ?_) (λh=>absurd (of_decide_eq_false h) (by show ¬¬((k:Int)<l.length);omega))
  refine JOIN.opq λ(J:List Sp->Prop) hJ=> ?_
  dsimp only
  rw[hx]
  refine⟨by omega,IFB.mk (λhb=> ?_) (λhb=> ?_)⟩
  ·refine⟨by simp only[List.length_cons,List.length_nil];omega,?_⟩
   rw[hJ]
   show rec (IntKind.i64.wrap ((k:Int)+1)) _
   rw[wrapS (by omega)]
   refine hrec _ ⟨?_,by simp only[List.length_append,List.length_cons,List.length_nil];omega⟩
   rw[<-g1,onRow_cons,if_pos hb]
   simp[spanOf]
  ·rw[hJ]
   show rec (IntKind.i64.wrap ((k:Int)+1)) _
   rw[wrapS (by omega)]
   refine hrec _ ⟨?_,by omega⟩
   rw[<-g1,onRow_cons,if_neg (by rw[hb];simp)]
 ·intro rec s ⟨g1,g2⟩
  show IFB _ _ _
  refine IFB.mk (λh=>absurd (of_decide_eq_true h) (by show ¬((l.length:Int)<l.length);omega)) (λ_=> ?_)
  have g1:s=(onRow y l).map spanOf:=by simpa [onRow] using g1
  have hsl:s.length<=20000:=by omega
  refine⟨by show s.length<=1000000;omega,λv hperm hsort _=> ?_⟩
  have hvl:v.length=s.length:=hperm.length_eq
  rw[<-rowS_sorted h1 (g1 ▸ hperm) hsort] at hp
  refine LOOP.list v (λk (s:List Sp)=>((k:Int),s,())) (λu=>Int.toNat u.1) (λk r (s:List Sp)=>rowG s r=rowG [] v/\s.length<=k) [] rfl ⟨rfl,Nat.le_refl _⟩ (λk s h=>by simp) ?_ ?_
  ·intro rec k x r out hd hk hkl ⟨q1,q2⟩ hrec
   have hx:=ix_of hk
   show IFB _ _ _
   refine IFB.mk (λ_=> ?_) (λh=>absurd (of_decide_eq_false h) (by show ¬¬((k:Int)<v.length);omega))
   refine JOIN.opq λ(J:List Sp->Prop) hJ=> ?_
   dsimp only
   rw[hx]
   have hgo:(joinSp out x).length<=k+1->J (joinSp out x):=λhle=>by
    rw[hJ]
    show rec (IntKind.i64.wrap ((k:Int)+1)) _
    rw[wrapS (by omega)]
    exact hrec _ ⟨q1,hle⟩
   refine⟨by omega,λ_=> ?_⟩
   rcases List.eq_nil_or_concat out with rfl|⟨A,q,rfl⟩
   ·have hj:joinSp [] x=[x]:=rfl
    rw[hj] at hgo
    refine⟨λh=> ?_,IFB.mk (λhb=> ?_) (λhb=>⟨by simp,hgo (by simp)⟩)⟩
    ·cases h
    ·cases hb
   ·rw[List.concat_eq_append] at *
    have w1:IntKind.i64.wrap (((A++[q]).length:Int)-1)=A.length:=by
     simp only[List.length_append,List.length_cons,List.length_nil]
     rw[wrap_in (by omega) (by simp only[List.length_append,List.length_cons,List.length_nil] at q2;omega)]
     omega
    have hq:ix (A++[q]) (A.length:Int)=q:=ix_app rfl
    have hset:∀z,(A++[q]).set (A.length:Int).toNat z=A++[z]:=λz=>set_app (by simp)
    rw[w1,hq,hset]
    have hAl:(A++[q]).length=A.length+1:=by simp
    have hj:joinSp (A++[q]) x=if x.Left<=q.Right then A++[⟨q.Left,max q.Right x.Right⟩] else A++[q]++[x]:=by
     unfold joinSp
     simp
    rw[hj] at hgo
    refine⟨λ_=>by omega,IFB.mk (λhb=>⟨by omega,by omega,?_⟩) (λhb=>⟨by simp only[List.length_append,List.length_cons,List.length_nil] at *;omega,?_⟩)⟩
    ·rw[Bool.and_eq_true] at hb
     have hb2:x.Left<=q.Right:=of_decide_eq_true hb.2
     rw[if_pos hb2] at hgo
     exact hgo (by simp only[List.length_append,List.length_cons,List.length_nil] at *;omega)
    ·have hb2:¬x.Left<=q.Right:=by
      intro h
      rw[Bool.and_eq_false_iff] at hb
      rcases hb with hb|hb
      ·have:=of_decide_eq_false hb;omega
      ·exact of_decide_eq_false hb h
     rw[if_neg hb2] at hgo
     exact hgo (by simp only[List.length_append,List.length_cons,List.length_nil] at *;omega)
  ·intro rec out ⟨q1,q2⟩
   show IFB _ _ _
   refine IFB.mk (λh=>absurd (of_decide_eq_true h) (by show ¬((v.length:Int)<v.length);omega)) (λ_=> ?_)
   have q1:out=rowG [] v:=q1
   show post out
   rw[q1];exact hp
def pchoN_P (A:List (api_Rect))(B:List (api_Rect))(post:List (api_Rect)->Prop):Prop:=(((∀r∈A,proper r)/\A.length<=8000)/\(∀r∈B,proper r)/\B.length<=8000)/\post (canonF (comb (howS 3) A B))
def pchoN_sp:Spec:=⟨89,false,true,[.sl (.st .api_Rect),.sl (.st .api_Rect)],.dat (.sl (.st .api_Rect)),λx post=>pchoN_P (x.1:List (api_Rect)) (x.2.1:List (api_Rect)) (λy0=>post (y0,()))⟩
def pchoN_C:CtxR:=⟨tau,[rule1 pcutsL_sp,rule1 prowL_sp,rule1 peqs_sp,rule1 prects_sp,ruleC pmergeN_sp 122],lookJ [(1027,7,⟨[(6,.dat (.int .i64)),(5,.own 229 (.st .region_band))],[],(List.range' 7 62),[],[]⟩),(1027,8,⟨[(5,.own 229 (.st .region_band))],[],(List.range' 15 54++[7,8]),[4],[]⟩),(1070592028,1000001,⟨[(5,.dat (.sl (.st .region_Span)))],[],[6,7,8,9,10,11,12,13],[],[]⟩)]⟩
abbrev pchoN_a0 (z3:List region_band):=(ix z3 (IntKind.i64.wrap ((↑z3.length:Int)-(1:Int))))
abbrev pchoN_a1 (z3:List region_band)(A:List (api_Rect))(B:List (api_Rect))(z2:Int):=(decide ((0:Int)<(↑z3.length:Int))&&decide ((pchoN_a0 z3).2=ix (cutsS (A.append (B.append []))) (IntKind.i64.wrap (z2-(1:Int)))))
abbrev pchoN_a2 (z3:List region_band)(J5:List region_band->Prop)(A:List (api_Rect))(B:List (api_Rect))(z2:Int):=(((0:Int)<=IntKind.i64.wrap ((↑z3.length:Int)-(1:Int))/\IntKind.i64.wrap ((↑z3.length:Int)-(1:Int))<(↑z3.length:Int))/\J5 (z3.set (IntKind.i64.wrap ((↑z3.length:Int)-(1:Int))).toNat {low:=(pchoN_a0 z3).1,high:=ix (cutsS (A.append (B.append []))) z2,spans:=(pchoN_a0 z3).3:region_band}))
abbrev pchoN_a3 (z3:List region_band):=(gx true (decide ((0:Int)<(↑z3.length:Int)))=true->(0:Int)<=IntKind.i64.wrap ((↑z3.length:Int)-(1:Int))/\IntKind.i64.wrap ((↑z3.length:Int)-(1:Int))<(↑z3.length:Int))
abbrev pchoN_a4 (A:List (api_Rect))(B:List (api_Rect))(z2:Int):=(ix (cutsS (A.append (B.append []))) (IntKind.i64.wrap (z2-(1:Int))))
abbrev pchoN_a5 (A:List (api_Rect))(B:List (api_Rect))(z2:Int)(y6:List region_Span):={low:=ix (cutsS (A.append (B.append []))) (IntKind.i64.wrap (z2-(1:Int))),high:=ix (cutsS (A.append (B.append []))) z2,spans:=y6:region_band}
abbrev pchoN_a6 (z3:List region_band)(A:List (api_Rect))(B:List (api_Rect))(z2:Int):=(gx true (pchoN_a1 z3 A B z2)=true->(0:Int)<=IntKind.i64.wrap ((↑z3.length:Int)-(1:Int))/\IntKind.i64.wrap ((↑z3.length:Int)-(1:Int))<(↑z3.length:Int))
def pchoN_W (A:List (api_Rect))(B:List (api_Rect))(post:List (api_Rect)->Prop):Prop:=((A.append (B.append [])).length<=20000/\[A,B].length<=10)/\LOOP [Ty.int IntKind.i64,(Ty.st Sn.region_band).sl] (λ(rec1:Int->List region_band->Prop) (z2:Int) (z3:List region_band)=>(↑(cutsS (A.append (B.append []))).length:Int)<=9223372036854775807->IFB (decide (z2<(↑(cutsS (A.append (B.append []))).length:Int))) (JOIN [(Ty.st Sn.region_band).sl] (λ(y4:List region_band)=>rec1 (IntKind.i64.wrap (z2+1)) y4) λ(J5:List region_band->Prop)=>((0:Int)<=IntKind.i64.wrap (z2-1)/\IntKind.i64.wrap (z2-1)<(↑(cutsS (A.append (B.append []))).length:Int))/\((0:Int)<=z2/\z2<(↑(cutsS (A.append (B.append []))).length:Int))/\((0:Int)<=IntKind.i64.wrap (z2-1)/\IntKind.i64.wrap (z2-1)<(↑(cutsS (A.append (B.append []))).length:Int))/\(JOIN [(Ty.st Sn.region_Span).sl] (λ(y6:List region_Span)=>((↑z3.length:Int)<=9223372036854775807->(pchoN_a3 z3)/\(pchoN_a6 z3 A B z2)/\JOIN [Ty.bool] (λ(y7:Bool)=>IFB (decide ((0:Int)<(↑z3.length:Int))&&decide ((pchoN_a0 z3).2=ix (cutsS (A.append (B.append []))) (IntKind.i64.wrap (z2-1)))&&y7) (pchoN_a2 z3 J5 A B z2) ((z3.length+[(pchoN_a5 A B z2 y6)].length) * (40:Nat)<=140737488355328/\J5 (z3++[(pchoN_a5 A B z2 y6)]))) λ(J8:Bool->Prop)=>IFB (gx true (pchoN_a1 z3 A B z2)) ((pchoN_a0 z3).3.length<=1000000000/\∀(v9:Bool),(v9=true↔(pchoN_a0 z3).3=y6)->J8 v9) (J8 false))/\((↑z3.length:Int)<=9223372036854775807->(pchoN_a3 z3)/\(pchoN_a6 z3 A B z2)/\JOIN [Ty.bool] (λ(y10:Bool)=>IFB (decide ((0:Int)<(↑z3.length:Int))&&decide ((pchoN_a0 z3).2=ix (cutsS (A.append (B.append []))) (IntKind.i64.wrap (z2-1)))&&y10) (pchoN_a2 z3 J5 A B z2) ((z3.length+[(pchoN_a5 A B z2 y6)].length) * (40:Nat)<=140737488355328/\J5 (z3++[(pchoN_a5 A B z2 y6)]))) λ(J11:Bool->Prop)=>IFB (gx true (pchoN_a1 z3 A B z2)) ((pchoN_a0 z3).3.length<=1000000000/\∀(v12:Bool),(v12=true↔(pchoN_a0 z3).3=y6)->J11 v12) (J11 false))) λ(J13:List region_Span->Prop)=>((∀(v14:api_Rect),v14∈A->v14.1<v14.3)/\A.length<=20000)/\((∀(v15:api_Rect),v15∈B->v15.1<v15.3)/\B.length<=20000)/\((rowS A (pchoN_a4 A B z2)).length<=20000/\(rowS B (pchoN_a4 A B z2)).length<=20000)/\J13 (mergeS (3:Int) (rowS A (pchoN_a4 A B z2)) (rowS B (pchoN_a4 A B z2))))/\JOIN [(Ty.st Sn.region_Span).sl] (λ(y16:List region_Span)=>(↑z3.length:Int)<=9223372036854775807->(pchoN_a3 z3)/\(pchoN_a6 z3 A B z2)/\JOIN [Ty.bool] (λ(y17:Bool)=>IFB (decide ((0:Int)<(↑z3.length:Int))&&decide ((pchoN_a0 z3).2=ix (cutsS (A.append (B.append []))) (IntKind.i64.wrap (z2-1)))&&y17) (pchoN_a2 z3 J5 A B z2) ((z3.length+[(⟨ix (cutsS (A.append (B.append []))) (IntKind.i64.wrap (z2-1)),ix (cutsS (A.append (B.append []))) z2,y16⟩:region_band)].length) * (40:Nat)<=140737488355328/\J5 (z3++[(⟨ix (cutsS (A.append (B.append []))) (IntKind.i64.wrap (z2-1)),ix (cutsS (A.append (B.append []))) z2,y16⟩:region_band)]))) λ(J18:Bool->Prop)=>IFB (gx true (pchoN_a1 z3 A B z2)) ((pchoN_a0 z3).3.length<=1000000000/\∀(v19:Bool),(v19=true↔(pchoN_a0 z3).3=y16)->J18 v19) (J18 false)) λ(J20:List region_Span->Prop)=>((∀(v21:api_Rect),v21∈A->v21.1<v21.3)/\A.length<=20000)/\((∀(v22:api_Rect),v22∈B->v22.1<v22.3)/\B.length<=20000)/\((rowS A (pchoN_a4 A B z2)).length<=20000/\(rowS B (pchoN_a4 A B z2)).length<=20000)/\J20 (mergeS (3:Int) (rowS A (pchoN_a4 A B z2)) (rowS B (pchoN_a4 A B z2)))) (((flat z3).length<=1000000000/\z3.length<=1000000000)/\post (flat z3))) ((1:Int),[],PUnit.unit)
theorem pchoN_w (A:List (api_Rect))(B:List (api_Rect))(post:dens (shT pchoN_sp.rs [])->Prop):pchoN_W A B (λy0=>post (y0,()))=walkG (callR Tryz.prog pchoN_C (drawR Tryz.prog tau) 12 0) 89 false [tv (.sl (.st .api_Rect)) A,tv (.sl (.st .api_Rect)) B,.v (clo 122)] pchoN_sp.rs post:=by kernel_rfl
theorem pchoN_of (h:∀A B post,pchoN_P A B post->pchoN_W A B post):SpecCOK Tryz.prog pchoN_sp [clo 122]:=SpecCOK.of_rules (C:=pchoN_C) (dr:=drawR Tryz.prog tau) (n:=12) (fk:=0) (.cons (rule1_ok pcutsL_ok) (.cons (rule1_ok prowL_ok) (.cons (rule1_ok peqs_ok) (.cons (rule1_ok prects_ok) (.cons (ruleC_ok pmergeN_ok) .nil))))) (drawR_ok tau) λx post hp=>HoldW.of (pchoN_w x.1 x.2.1 post) (h x.1 x.2.1 (λy0=>post (y0,())) hp)
theorem pchoN_ok:SpecCOK Tryz.prog pchoN_sp [clo 122]:=pchoN_of λl m post hp=>by
 obtain⟨⟨⟨g1,hl1⟩,g2,hl2⟩,hp⟩:=hp
 unfold pchoN_W pchoN_a6 pchoN_a5 pchoN_a4 pchoN_a3 pchoN_a2 pchoN_a1 pchoN_a0
 have e:l.append (m.append [])=l++m:=by show l++(m++[])=l++m;rw[List.append_nil]
 rw[e]
 have hlm:(l++m).length<=16000:=by rw[List.length_append];omega
 have hcl:=cutsS_len (l:=l++m)
 have hJ4:(flat (buildG (λy=>mergeS 3 (rowS l y) (rowS m y)) [] (cutsS (l++m)))).length<=268435456:=by
  rw[<-choose_build]
  exact box_len (comb_ok (howS_0 3) l m).1 λx y hc=>by
   rw[(comb_ok (howS_0 3) l m).2] at hc
   refine proper_box g1 ?_
   unfold comb howS at hc
   revert hc
   cases cov l x y<;>simp
 rw[choose_build] at hp
 refine⟨⟨by omega,by simp⟩,?_⟩
 have hmlen:∀y,(mergeS 3 (rowS l y) (rowS m y)).length<=100000:=λy=>by
  unfold mergeS spansOf
  have q1:=spansG_len (p:=λx=>howS 3 (insS (rowS l y) x) (insS (rowS m y) x)) (xs:=uniqI (edgL (rowS l y++rowS m y))) (out:=[])
  have q2:=uniqI_len (edgL (rowS l y++rowS m y))
  rw[edgL_len,List.length_append] at q2
  have q3:=rowS_len (l:=l) (y:=y)
  have q4:=rowS_len (l:=m) (y:=y)
  simp only[List.length_nil] at q1
  omega
 refine build_loop (xs:=cutsS (l++m)) (R:=λy=>mergeS 3 (rowS l y) (rowS m y)) hmlen (by omega) (λrec k acc hk hal has hrec=> ?_) (λhlen=>⟨⟨by omega,by omega⟩,hp⟩)
 refine JOIN.opq λ(J9:List Bd->Prop) hJ9=> ?_
 have w1:IntKind.i64.wrap (((k+1:Nat):Int)-1)=k:=by rw[wrap_in (by omega) (by omega)];omega
 rw[w1]
 have hJ9:J9 (addBd acc (ix (cutsS (l++m)) (k:Int)) (ix (cutsS (l++m)) ((k+1:Nat):Int)) (mergeS 3 (rowS l (ix (cutsS (l++m)) (k:Int))) (rowS m (ix (cutsS (l++m)) (k:Int))))):=by
  rw[hJ9]
  show rec (IntKind.i64.wrap (((k+1:Nat):Int)+1)) _
  rw[wrapS (by omega)]
  exact hrec
 have main:=bandM_ok (by omega) (λb hb=>Nat.le_trans (has b hb) (by omega)) hJ9
 have q3:=rowS_len (l:=l) (y:=ix (cutsS (l++m)) (k:Int))
 have q4:=rowS_len (l:=m) (y:=ix (cutsS (l++m)) (k:Int))
 have hD1:(∀v:api_Rect,v∈l->v.1<v.3)/\l.length<=20000:=⟨λr hr=>(g1 r hr).2.1,by omega⟩
 have hD2:(∀v:api_Rect,v∈m->v.1<v.3)/\m.length<=20000:=⟨λr hr=>(g2 r hr).2.1,by omega⟩
 refine⟨by omega,by omega,by omega,?_,?_⟩
 ·refine JOIN.opq λ(J17:List Sp->Prop) hJ17=>⟨hD1,hD2,⟨by omega,by omega⟩,?_⟩
  rw[hJ17]
  exact⟨main,main⟩
 ·refine JOIN.opq λ(J17:List Sp->Prop) hJ17=>⟨hD1,hD2,⟨by omega,by omega⟩,?_⟩
  rw[hJ17]
  exact main
def pchoB_P (A:List (api_Rect))(B:List (api_Rect))(post:List (api_Rect)->Prop):Prop:=(((∀r∈A,proper r)/\A.length<=8000)/\(∀r∈B,proper r)/\B.length<=8000)/\post (canonF (comb (howS 2) A B))
def pchoB_sp:Spec:=⟨89,false,true,[.sl (.st .api_Rect),.sl (.st .api_Rect)],.dat (.sl (.st .api_Rect)),λx post=>pchoB_P (x.1:List (api_Rect)) (x.2.1:List (api_Rect)) (λy0=>post (y0,()))⟩
def pchoB_C:CtxR:=⟨tau,[rule1 pcutsL_sp,rule1 prowL_sp,rule1 peqs_sp,rule1 prects_sp,ruleC pmergeB_sp 169],lookJ [(1027,7,⟨[(6,.dat (.int .i64)),(5,.own 229 (.st .region_band))],[],(List.range' 7 62),[],[]⟩),(1027,8,⟨[(5,.own 229 (.st .region_band))],[],(List.range' 15 54++[7,8]),[4],[]⟩),(1070592028,1000001,⟨[(5,.dat (.sl (.st .region_Span)))],[],[6,7,8,9,10,11,12,13],[],[]⟩)]⟩
abbrev pchoB_a0 (z3:List region_band):=(ix z3 (IntKind.i64.wrap ((↑z3.length:Int)-(1:Int))))
abbrev pchoB_a1 (z3:List region_band)(A:List (api_Rect))(B:List (api_Rect))(z2:Int):=(decide ((0:Int)<(↑z3.length:Int))&&decide ((pchoB_a0 z3).2=ix (cutsS (A.append (B.append []))) (IntKind.i64.wrap (z2-(1:Int)))))
abbrev pchoB_a2 (z3:List region_band)(J5:List region_band->Prop)(A:List (api_Rect))(B:List (api_Rect))(z2:Int):=(((0:Int)<=IntKind.i64.wrap ((↑z3.length:Int)-(1:Int))/\IntKind.i64.wrap ((↑z3.length:Int)-(1:Int))<(↑z3.length:Int))/\J5 (z3.set (IntKind.i64.wrap ((↑z3.length:Int)-(1:Int))).toNat {low:=(pchoB_a0 z3).1,high:=ix (cutsS (A.append (B.append []))) z2,spans:=(pchoB_a0 z3).3:region_band}))
abbrev pchoB_a3 (z3:List region_band):=(gx true (decide ((0:Int)<(↑z3.length:Int)))=true->(0:Int)<=IntKind.i64.wrap ((↑z3.length:Int)-(1:Int))/\IntKind.i64.wrap ((↑z3.length:Int)-(1:Int))<(↑z3.length:Int))
abbrev pchoB_a4 (A:List (api_Rect))(B:List (api_Rect))(z2:Int):=(ix (cutsS (A.append (B.append []))) (IntKind.i64.wrap (z2-(1:Int))))
abbrev pchoB_a5 (A:List (api_Rect))(B:List (api_Rect))(z2:Int)(y6:List region_Span):={low:=ix (cutsS (A.append (B.append []))) (IntKind.i64.wrap (z2-(1:Int))),high:=ix (cutsS (A.append (B.append []))) z2,spans:=y6:region_band}
abbrev pchoB_a6 (z3:List region_band)(A:List (api_Rect))(B:List (api_Rect))(z2:Int):=(gx true (pchoB_a1 z3 A B z2)=true->(0:Int)<=IntKind.i64.wrap ((↑z3.length:Int)-(1:Int))/\IntKind.i64.wrap ((↑z3.length:Int)-(1:Int))<(↑z3.length:Int))
def pchoB_W (A:List (api_Rect))(B:List (api_Rect))(post:List (api_Rect)->Prop):Prop:=((A.append (B.append [])).length<=20000/\[A,B].length<=10)/\LOOP [Ty.int IntKind.i64,(Ty.st Sn.region_band).sl] (λ(rec1:Int->List region_band->Prop) (z2:Int) (z3:List region_band)=>(↑(cutsS (A.append (B.append []))).length:Int)<=9223372036854775807->IFB (decide (z2<(↑(cutsS (A.append (B.append []))).length:Int))) (JOIN [(Ty.st Sn.region_band).sl] (λ(y4:List region_band)=>rec1 (IntKind.i64.wrap (z2+1)) y4) λ(J5:List region_band->Prop)=>((0:Int)<=IntKind.i64.wrap (z2-1)/\IntKind.i64.wrap (z2-1)<(↑(cutsS (A.append (B.append []))).length:Int))/\((0:Int)<=z2/\z2<(↑(cutsS (A.append (B.append []))).length:Int))/\((0:Int)<=IntKind.i64.wrap (z2-1)/\IntKind.i64.wrap (z2-1)<(↑(cutsS (A.append (B.append []))).length:Int))/\(JOIN [(Ty.st Sn.region_Span).sl] (λ(y6:List region_Span)=>((↑z3.length:Int)<=9223372036854775807->(pchoB_a3 z3)/\(pchoB_a6 z3 A B z2)/\JOIN [Ty.bool] (λ(y7:Bool)=>IFB (decide ((0:Int)<(↑z3.length:Int))&&decide ((pchoB_a0 z3).2=ix (cutsS (A.append (B.append []))) (IntKind.i64.wrap (z2-1)))&&y7) (pchoB_a2 z3 J5 A B z2) ((z3.length+[(pchoB_a5 A B z2 y6)].length) * (40:Nat)<=140737488355328/\J5 (z3++[(pchoB_a5 A B z2 y6)]))) λ(J8:Bool->Prop)=>IFB (gx true (pchoB_a1 z3 A B z2)) ((pchoB_a0 z3).3.length<=1000000000/\∀(v9:Bool),(v9=true↔(pchoB_a0 z3).3=y6)->J8 v9) (J8 false))/\((↑z3.length:Int)<=9223372036854775807->(pchoB_a3 z3)/\(pchoB_a6 z3 A B z2)/\JOIN [Ty.bool] (λ(y10:Bool)=>IFB (decide ((0:Int)<(↑z3.length:Int))&&decide ((pchoB_a0 z3).2=ix (cutsS (A.append (B.append []))) (IntKind.i64.wrap (z2-1)))&&y10) (pchoB_a2 z3 J5 A B z2) ((z3.length+[(pchoB_a5 A B z2 y6)].length) * (40:Nat)<=140737488355328/\J5 (z3++[(pchoB_a5 A B z2 y6)]))) λ(J11:Bool->Prop)=>IFB (gx true (pchoB_a1 z3 A B z2)) ((pchoB_a0 z3).3.length<=1000000000/\∀(v12:Bool),(v12=true↔(pchoB_a0 z3).3=y6)->J11 v12) (J11 false))) λ(J13:List region_Span->Prop)=>((∀(v14:api_Rect),v14∈A->v14.1<v14.3)/\A.length<=20000)/\((∀(v15:api_Rect),v15∈B->v15.1<v15.3)/\B.length<=20000)/\((rowS A (pchoB_a4 A B z2)).length<=20000/\(rowS B (pchoB_a4 A B z2)).length<=20000)/\J13 (mergeS (2:Int) (rowS A (pchoB_a4 A B z2)) (rowS B (pchoB_a4 A B z2))))/\JOIN [(Ty.st Sn.region_Span).sl] (λ(y16:List region_Span)=>(↑z3.length:Int)<=9223372036854775807->(pchoB_a3 z3)/\(pchoB_a6 z3 A B z2)/\JOIN [Ty.bool] (λ(y17:Bool)=>IFB (decide ((0:Int)<(↑z3.length:Int))&&decide ((pchoB_a0 z3).2=ix (cutsS (A.append (B.append []))) (IntKind.i64.wrap (z2-1)))&&y17) (pchoB_a2 z3 J5 A B z2) ((z3.length+[(⟨ix (cutsS (A.append (B.append []))) (IntKind.i64.wrap (z2-1)),ix (cutsS (A.append (B.append []))) z2,y16⟩:region_band)].length) * (40:Nat)<=140737488355328/\J5 (z3++[(⟨ix (cutsS (A.append (B.append []))) (IntKind.i64.wrap (z2-1)),ix (cutsS (A.append (B.append []))) z2,y16⟩:region_band)]))) λ(J18:Bool->Prop)=>IFB (gx true (pchoB_a1 z3 A B z2)) ((pchoB_a0 z3).3.length<=1000000000/\∀(v19:Bool),(v19=true↔(pchoB_a0 z3).3=y16)->J18 v19) (J18 false)) λ(J20:List region_Span->Prop)=>((∀(v21:api_Rect),v21∈A->v21.1<v21.3)/\A.length<=20000)/\((∀(v22:api_Rect),v22∈B->v22.1<v22.3)/\B.length<=20000)/\((rowS A (pchoB_a4 A B z2)).length<=20000/\(rowS B (pchoB_a4 A B z2)).length<=20000)/\J20 (mergeS (2:Int) (rowS A (pchoB_a4 A B z2)) (rowS B (pchoB_a4 A B z2)))) (((flat z3).length<=1000000000/\z3.length<=1000000000)/\post (flat z3))) ((1:Int),[],PUnit.unit)
theorem pchoB_w (A:List (api_Rect))(B:List (api_Rect))(post:dens (shT pchoB_sp.rs [])->Prop):pchoB_W A B (λy0=>post (y0,()))=walkG (callR Tryz.prog pchoB_C (drawR Tryz.prog tau) 12 0) 89 false [tv (.sl (.st .api_Rect)) A,tv (.sl (.st .api_Rect)) B,.v (clo 169)] pchoB_sp.rs post:=by kernel_rfl
theorem pchoB_of (h:∀A B post,pchoB_P A B post->pchoB_W A B post):SpecCOK Tryz.prog pchoB_sp [clo 169]:=SpecCOK.of_rules (C:=pchoB_C) (dr:=drawR Tryz.prog tau) (n:=12) (fk:=0) (.cons (rule1_ok pcutsL_ok) (.cons (rule1_ok prowL_ok) (.cons (rule1_ok peqs_ok) (.cons (rule1_ok prects_ok) (.cons (ruleC_ok pmergeB_ok) .nil))))) (drawR_ok tau) λx post hp=>HoldW.of (pchoB_w x.1 x.2.1 post) (h x.1 x.2.1 (λy0=>post (y0,())) hp)
theorem pchoB_ok:SpecCOK Tryz.prog pchoB_sp [clo 169]:=pchoB_of λl m post hp=>by
 obtain⟨⟨⟨g1,hl1⟩,g2,hl2⟩,hp⟩:=hp
 unfold pchoB_W pchoB_a6 pchoB_a5 pchoB_a4 pchoB_a3 pchoB_a2 pchoB_a1 pchoB_a0
 have e:l.append (m.append [])=l++m:=by show l++(m++[])=l++m;rw[List.append_nil]
 rw[e]
 have hlm:(l++m).length<=16000:=by rw[List.length_append];omega
 have hcl:=cutsS_len (l:=l++m)
 have hJ4:(flat (buildG (λy=>mergeS 2 (rowS l y) (rowS m y)) [] (cutsS (l++m)))).length<=268435456:=by
  rw[<-choose_build]
  exact box_len (comb_ok (howS_0 2) l m).1 λx y hc=>by
   rw[(comb_ok (howS_0 2) l m).2] at hc
   refine proper_box g1 ?_
   unfold comb howS at hc
   revert hc
   cases cov l x y<;>simp
 rw[choose_build] at hp
 refine⟨⟨by omega,by simp⟩,?_⟩
 have hmlen:∀y,(mergeS 2 (rowS l y) (rowS m y)).length<=100000:=λy=>by
  unfold mergeS spansOf
  have q1:=spansG_len (p:=λx=>howS 2 (insS (rowS l y) x) (insS (rowS m y) x)) (xs:=uniqI (edgL (rowS l y++rowS m y))) (out:=[])
  have q2:=uniqI_len (edgL (rowS l y++rowS m y))
  rw[edgL_len,List.length_append] at q2
  have q3:=rowS_len (l:=l) (y:=y)
  have q4:=rowS_len (l:=m) (y:=y)
  simp only[List.length_nil] at q1
  omega
 refine build_loop (xs:=cutsS (l++m)) (R:=λy=>mergeS 2 (rowS l y) (rowS m y)) hmlen (by omega) (λrec k acc hk hal has hrec=> ?_) (λhlen=>⟨⟨by omega,by omega⟩,hp⟩)
 refine JOIN.opq λ(J9:List Bd->Prop) hJ9=> ?_
 have w1:IntKind.i64.wrap (((k+1:Nat):Int)-1)=k:=by rw[wrap_in (by omega) (by omega)];omega
 rw[w1]
 have hJ9:J9 (addBd acc (ix (cutsS (l++m)) (k:Int)) (ix (cutsS (l++m)) ((k+1:Nat):Int)) (mergeS 2 (rowS l (ix (cutsS (l++m)) (k:Int))) (rowS m (ix (cutsS (l++m)) (k:Int))))):=by
  rw[hJ9]
  show rec (IntKind.i64.wrap (((k+1:Nat):Int)+1)) _
  rw[wrapS (by omega)]
  exact hrec
 have main:=bandM_ok (by omega) (λb hb=>Nat.le_trans (has b hb) (by omega)) hJ9
 have q3:=rowS_len (l:=l) (y:=ix (cutsS (l++m)) (k:Int))
 have q4:=rowS_len (l:=m) (y:=ix (cutsS (l++m)) (k:Int))
 have hD1:(∀v:api_Rect,v∈l->v.1<v.3)/\l.length<=20000:=⟨λr hr=>(g1 r hr).2.1,by omega⟩
 have hD2:(∀v:api_Rect,v∈m->v.1<v.3)/\m.length<=20000:=⟨λr hr=>(g2 r hr).2.1,by omega⟩
 refine⟨by omega,by omega,by omega,?_,?_⟩
 ·refine JOIN.opq λ(J17:List Sp->Prop) hJ17=>⟨hD1,hD2,⟨by omega,by omega⟩,?_⟩
  rw[hJ17]
  exact⟨main,main⟩
 ·refine JOIN.opq λ(J17:List Sp->Prop) hJ17=>⟨hD1,hD2,⟨by omega,by omega⟩,?_⟩
  rw[hJ17]
  exact main
end RE
end Go.Proofs.YtpeggkeenboacaaGreat
set_option linter.unusedVariables false
namespace Go.Proofs.YtpeggkeenboacaaGreat
open Go.RowKit
namespace RE
open PL
namespace PL
def linesR (l:List api_Version)(L:List Ln)(e:Int):Prop:=(beginF l≠0/\L=[]/\e=beginF l)\/(beginF l=0/\L=linV l/\e=0)
end PL
def plines_P (l:List (api_Version))(post:List (crosscheck_line)->Int->Prop):Prop:=manyV l/\∀(L:List Ln)(e:Int),linesR l L e->post L e
def plines_sp:Spec:=⟨109,false,true,[.sl (.st .api_Version)],.tup [.dat (.sl (.st .crosscheck_line)),.dat (.int .i64)],λx post=>plines_P (x.1:List (api_Version)) (λy0 y1=>post (y0,y1,()))⟩
def plines_C:CtxR:=⟨tau,[rule1 pval_sp],lookJ [(0,9,⟨[(12,.dat (.int .i64)),(5,.dat .bool),(4,.own 210 (.st .crosscheck_line))],[],[13,14,15,16,7,6,17,18,19,41,39,38,37,40,36,35,34,33,32,31,30,29,28,27,26,25,8,9,24,23,22,20,21,42,43,44,45],[],[]⟩),(0,15,⟨[(20,.dat (.int .i64)),(5,.dat .bool),(4,.own 210 (.st .crosscheck_line))],[],[21,22,23,24,9,8,25,26,27,28,29,30,31,32,33,34,35,36,40,37,38,39,41],[0],[]⟩)]⟩
def plines_W (l:List (api_Version))(post:List (crosscheck_line)->Int->Prop):Prop:=(↑l.length:Int)<=9223372036854775807->LOOP [Ty.int IntKind.i64,Ty.bool,(Ty.st Sn.crosscheck_line).sl] (λ(rec1:Int->Bool->List crosscheck_line->Prop) (z2:Int) (z3:Bool) (z4:List crosscheck_line)=>IFB (decide (z2<(↑l.length:Int))) (((0:Int)<=z2/\z2<(↑l.length:Int))/\((↑(ix l z2).2.length:Int)<=9223372036854775807->LOOP [Ty.int IntKind.i64,Ty.bool,(Ty.st Sn.crosscheck_line).sl] (λ(rec5:Int->Bool->List crosscheck_line->Prop) (z6:Int) (z7:Bool) (z8:List crosscheck_line)=>IFB (decide (z6<(↑(ix l z2).2.length:Int))) (((0:Int)<=z6/\z6<(↑(ix l z2).2.length:Int))/\(z8.length+[{place:=(⟨z2,z6⟩:api_Place),rects:=(ix (ix l z2).2 z6).2.1:crosscheck_line}].length) * (40:Nat)<=140737488355328/\JOIN [Ty.bool] (λ(y9:Bool)=>rec5 (IntKind.i64.wrap (z6+1)) (z7&&y9) (z8++[{place:=(⟨z2,z6⟩:api_Place),rects:=(ix (ix l z2).2 z6).2.1:crosscheck_line}])) λ(J10:Bool->Prop)=>IFB (gx true z7) (∀(v11:Bool),(v11=true↔validP (ix (ix l z2).2 z6).2.1)->J10 v11) (J10 false)) ((↑z8.length:Int)<=9223372036854775807->IFB (decide ((60:Int)<(↑z8.length:Int))) (post [] 1) (rec1 (IntKind.i64.wrap (z2+1)) z7 z8))) ((0:Int),z3,z4,PUnit.unit))) (IFB (!z3) (post [] 7) (post z4 0))) ((0:Int),true,[],PUnit.unit)
theorem plines_w (l:List (api_Version))(post:dens (shT plines_sp.rs [])->Prop):plines_W l (λy0 y1=>post (y0,y1,()))=walkG (callR Tryz.prog plines_C (drawR Tryz.prog tau) 6 0) 109 false [tv (.sl (.st .api_Version)) l] plines_sp.rs post:=by kernel_rfl
theorem plines_of (h:∀(l:List (api_Version))(post:List (crosscheck_line)->Int->Prop),plines_P l post->plines_W l post):SpecOK Tryz.prog plines_sp:=SpecOK.of_rules (C:=plines_C) (dr:=drawR Tryz.prog tau) (n:=6) (fk:=0) (.cons (rule1_ok pval_ok) .nil) (drawR_ok tau) λx post hp=>HoldW.of (plines_w x.1 post) (h x.1 (λy0 y1=>post (y0,y1,())) hp)
namespace PL
def plnI (l:List api_Version)(z:Int)(b:Bool)(L:List Ln):Prop:=∃k:Nat,z=(k:Int)/\k<=l.length/\L=linN l k/\L.length<=60/\(b=true↔∀x∈L,validP x.rects)
def plnJ (l:List api_Version)(k:Nat)(z:Int)(b:Bool)(L:List Ln):Prop:=∃j:Nat,z=(j:Int)/\j<=(ix l (k:Int)).Lines.length/\L=linN l k++rowL l k j/\(b=true↔∀x∈L,validP x.rects)
end PL
theorem plines_h (l:List api_Version)(post:List (crosscheck_line)->Int->Prop)(hp:plines_P l post):plines_W l post:=by
 obtain⟨⟨h1,h2⟩,hp⟩:=hp
 unfold plines_W
 refine λ_=>LOOP.fuel (λu=>plnI l u.1 u.2.1 u.2.2.1) (λu=>l.length-Int.toNat u.1) ⟨0,rfl,Nat.zero_le _,rfl,Nat.zero_le _,λ_ x hx=>(by cases hx),λ_=>rfl⟩ ?_
 rintro rec ⟨(z:Int),(b:Bool),(L:List Ln),⟨⟩⟩ ⟨k,i1,i2,i3,i4,i5⟩ hrec
 have i1:z=(k:Int):=i1
 have q3:L=linN l k:=i3
 have q4:L.length<=60:=i4
 have q5:b=true↔∀x∈L,validP x.rects:=i5
 clear i3 i4 i5
 subst i1
 refine IFB.mk (λhb=> ?_) (λhb=> ?_)
 ·have hb:(k:Int)<l.length:=of_decide_eq_true hb
  have hx:(ix l (k:Int)).Lines.length<=1000:=h2 _ (ix_mem (l:=l) (i:=(k:Int)) (by omega) hb)
  refine⟨⟨by omega,hb⟩,λ_=> ?_⟩
  refine LOOP.fuel (λu=>plnJ l k u.1 u.2.1 u.2.2.1) (λu=>(ix l (k:Int)).Lines.length-Int.toNat u.1) ⟨0,rfl,Nat.zero_le _,by show L=linN l k++[];rw[List.append_nil];exact q3,q5⟩ ?_
  rintro rec2 ⟨(z2:Int),(b2:Bool),(L2:List Ln),⟨⟩⟩ ⟨j,j1,j2,j3,j4⟩ hrec2
  have j1:z2=(j:Int):=j1
  have r3:L2=linN l k++rowL l k j:=j3
  have r4:b2=true↔∀x∈L2,validP x.rects:=j4
  clear j3 j4
  subst j1
  have hlen:L2.length<=60+j:=by rw[r3,List.length_append,rowL_len,<-q3];omega
  refine IFB.mk (λhc=> ?_) (λhc=>λ_=> ?_)
  ·have hc:(j:Int)<(ix l (k:Int)).Lines.length:=of_decide_eq_true hc
   refine⟨⟨by omega,hc⟩,by simp only[List.length_cons,List.length_nil];omega,JOIN.opq λ(J:Bool->Prop) hJ=> ?_⟩
   have fin:∀y:Bool,((b2&&y)=true↔∀x∈L2++[(⟨⟨(k:Int),(j:Int)⟩,(ix (ix l (k:Int)).2 (j:Int)).2.1⟩:Ln)],validP x.rects)->J y:=λy hy=>by
    rw[hJ]
    show rec2 (IntKind.i64.wrap ((j:Int)+1)) _ _
    rw[wrapS (by omega)]
    refine hrec2 (((j+1:Nat):Int),b2&&y,_,()) ⟨j+1,rfl,by omega,?_,hy⟩ (by show (ix l (k:Int)).Lines.length-((j+1:Nat):Int).toNat<(ix l (k:Int)).Lines.length-(j:Int).toNat;omega)
    show L2++_=_
    rw[rowL_succ,<-List.append_assoc,<-r3]
   refine IFB.mk (λhn v hv=>fin v ?_) (λhn=>fin false ?_)
   ·have hn:b2=true:=hn
    rw[hn,Bool.true_and,hv]
    have j4:=r4.1 hn
    constructor
    ·intro h x hx
     rcases List.mem_append.1 hx with hx|hx
     ·exact j4 x hx
     ·rw[List.mem_singleton] at hx;rw[hx];exact h
    ·intro h
     exact h ⟨⟨(k:Int),(j:Int)⟩,_⟩ (List.mem_append.2 (.inr (List.mem_singleton.2 rfl)))
   ·have hn:b2=false:=hn
    rw[Bool.and_false]
    constructor
    ·intro h;cases h
    ·intro h
     have:=r4.2 λx hx=>h x (List.mem_append.2 (.inl hx))
     rw[hn] at this;cases this
  ·have hc:¬(j:Int)<(ix l (k:Int)).Lines.length:=of_decide_eq_false hc
   have hj:j=(ix l (k:Int)).Lines.length:=by omega
   have e:L2=linN l (k+1):=by rw[r3,hj,linN_succ]
   refine IFB.mk (λhd=> ?_) (λhd=> ?_)
   ·have hd:(60:Int)<(L2.length:Int):=of_decide_eq_true hd
    have:=begin_lim (l:=l) (k:=k+1) (by omega) (by rw[<-e];omega)
    exact hp [] 1 (.inl ⟨by rw[this];decide,rfl,this.symm⟩)
   ·have hd:¬(60:Int)<(L2.length:Int):=of_decide_eq_false hd
    show rec (IntKind.i64.wrap ((k:Int)+1)) b2 L2
    rw[wrapS (by omega)]
    exact hrec (((k+1:Nat):Int),b2,L2,()) ⟨k+1,rfl,by omega,e,by show L2.length<=60;omega,r4⟩ (by show l.length-((k+1:Nat):Int).toNat<l.length-(k:Int).toNat;omega)
 ·have hb:¬(k:Int)<l.length:=of_decide_eq_false hb
  have hk:k=l.length:=by omega
  have e:L=linV l:=by rw[q3,hk];rfl
  rw[e] at q4 q5
  refine IFB.mk (λhn=> ?_) (λhn=> ?_)
  ·have hn:b=false:=by simpa using hn
   have:=begin_bad q4 (λh=>by have:=q5.2 h;rw[hn] at this;cases this)
   exact hp [] 7 (.inl ⟨by rw[this];decide,rfl,this.symm⟩)
  ·have hn:b=true:=by simpa using hn
   rw[e]
   exact hp _ 0 (.inr ⟨begin_ok q4 (q5.1 hn),rfl,rfl⟩)
theorem plines_ok:SpecOK Tryz.prog plines_sp:=plines_of plines_h
def pthere_P (l:List (api_Version))(p:api_Place)(post:Bool->Prop):Prop:=(l.length<=1000000)/\∀q:Bool,(q=true↔thereP l p)->post q
def pthere_sp:Spec:=⟨119,false,false,[.sl (.st .api_Version),.st .api_Place],.dat (.bool),λx post=>pthere_P (x.1:List (api_Version)) (x.2.1:api_Place) (λy0=>post (y0,()))⟩
def pthere_C:CtxR:=⟨tau,[],lookJ []⟩
abbrev pthere_a0 (p:api_Place)(l:List (api_Version))(post:Bool->Prop):=((gx true (decide ((0:Int)<=p.1)&&decide (p.1<(↑l.length:Int))&&decide ((0:Int)<=p.2))=true->(↑(ix l p.1).2.length:Int)<=(9223372036854775807:Int))->post (decide ((0:Int)<=p.1)&&decide (p.1<(↑l.length:Int))&&decide ((0:Int)<=p.2)&&decide (p.2<(↑(ix l p.1).2.length:Int))))
def pthere_W (l:List (api_Version))(p:api_Place)(post:Bool->Prop):Prop:=(gx true (decide ((0:Int)<=p.1))=true->(↑l.length:Int)<=9223372036854775807)->((gx true (decide ((0:Int)<=p.1)&&decide (p.1<(↑l.length:Int))&&decide ((0:Int)<=p.2))=true->0<=p.1/\p.1<(↑l.length:Int))/\(pthere_a0 p l post))/\(gx true (decide ((0:Int)<=p.1)&&decide (p.1<(↑l.length:Int))&&decide ((0:Int)<=p.2))=true->0<=p.1/\p.1<(↑l.length:Int))/\(pthere_a0 p l post)/\(pthere_a0 p l post)/\(pthere_a0 p l post)
theorem pthere_w (l:List (api_Version))(p:api_Place)(post:dens (shT pthere_sp.rs [])->Prop):pthere_W l p (λy0=>post (y0,()))=walkG (callR Tryz.prog pthere_C (drawR Tryz.prog tau) 6 0) 119 false [tv (.sl (.st .api_Version)) l,tv (.st .api_Place) p] pthere_sp.rs post:=by kernel_rfl
theorem pthere_of (h:∀(l:List (api_Version))(p:api_Place)(post:Bool->Prop),pthere_P l p post->pthere_W l p post):SpecOK Tryz.prog pthere_sp:=SpecOK.of_rules (C:=pthere_C) (dr:=drawR Tryz.prog tau) (n:=6) (fk:=0) .nil (drawR_ok tau) λx post hp=>HoldW.of (pthere_w x.1 x.2.1 post) (h x.1 x.2.1 (λy0=>post (y0,())) hp)
theorem pthere_ok:SpecOK Tryz.prog pthere_sp:=pthere_of λl p post hp=>by
 obtain⟨h1,hp⟩:=hp
 unfold pthere_W pthere_a0
 have hl:(l.length:Int)<=9223372036854775807:=by omega
 have fin:∀q:Bool,q=(decide (0<=p.1)&&decide (p.1<(l.length:Int))&&decide (0<=p.2)&&decide (p.2<((ix l p.1).2.length:Int)))->post q:=λq hq=>hp q (by
  rw[hq]
  simp only[Bool.and_eq_true,decide_eq_true_eq]
  unfold thereP
  constructor
  ·rintro ⟨⟨⟨a,b⟩,c⟩,d⟩;exact⟨a,b,c,d⟩
  ·rintro ⟨a,b,c,d⟩;exact⟨⟨⟨a,b⟩,c⟩,d⟩)
 have hA:gx true (decide (0<=p.1)&&decide (p.1<(l.length:Int))&&decide (0<=p.2))=true->0<=p.1/\p.1<(l.length:Int):=λh=>by
  rw[gx_t] at h
  simp only[Bool.and_eq_true,decide_eq_true_eq] at h
  exact h.1
 repeat' (first|exact hA|exact fin _ rfl|with_reducible apply And.intro|intro _)
def plimit_P (l:List (api_Version))(post:Int->Prop):Prop:=(manyV l)/\post (limitF l)
def plimit_sp:Spec:=⟨123,false,false,[.sl (.st .api_Version)],.dat (.int .i64),λx post=>plimit_P (x.1:List (api_Version)) (λy0=>post (y0,()))⟩
def plimit_C:CtxR:=⟨tau,[],lookJ [(0,5,⟨[(9,.dat (.int .i64))],[],[10,11,12,4,13,14,15,25,24,23,22,21,20,6,19,18,16,17,26],[],[]⟩),(0,11,⟨[(16,.dat (.int .i64))],[],[17,18,19,6,20,21,22,23,24,25],[],[]⟩)]⟩
def plimit_W (l:List (api_Version))(post:Int->Prop):Prop:=(↑l.length:Int)<=9223372036854775807->LOOP [Ty.int IntKind.i64] (λ(rec1:Int->Prop) (z2:Int)=>IFB (decide (z2<(↑l.length:Int))) (((0:Int)<=z2/\z2<(↑l.length:Int))/\((↑(ix l z2).2.length:Int)<=9223372036854775807->LOOP [Ty.int IntKind.i64] (λ(rec3:Int->Prop) (z4:Int)=>IFB (decide (z4<(↑(ix l z2).2.length:Int))) (((0:Int)<=z4/\z4<(↑(ix l z2).2.length:Int))/\((↑(ix (ix l z2).2 z4).2.1.length:Int)<=9223372036854775807->IFB (decide ((120:Int)<(↑(ix (ix l z2).2 z4).2.1.length:Int))) (post 1) (rec3 (IntKind.i64.wrap (z4+1))))) (rec1 (IntKind.i64.wrap (z2+1)))) ((0:Int),PUnit.unit))) (post 0)) ((0:Int),PUnit.unit)
theorem plimit_w (l:List (api_Version))(post:dens (shT plimit_sp.rs [])->Prop):plimit_W l (λy0=>post (y0,()))=walkG (callR Tryz.prog plimit_C (drawR Tryz.prog tau) 6 0) 123 false [tv (.sl (.st .api_Version)) l] plimit_sp.rs post:=by kernel_rfl
theorem plimit_of (h:∀(l:List (api_Version))(post:Int->Prop),plimit_P l post->plimit_W l post):SpecOK Tryz.prog plimit_sp:=SpecOK.of_rules (C:=plimit_C) (dr:=drawR Tryz.prog tau) (n:=6) (fk:=0) .nil (drawR_ok tau) λx post hp=>HoldW.of (plimit_w x.1 post) (h x.1 (λy0=>post (y0,())) hp)
theorem plimit_ok:SpecOK Tryz.prog plimit_sp:=plimit_of λl post hp=>by
 obtain⟨⟨h1,h2⟩,hp⟩:=hp
 unfold plimit_W
 intro _
 refine loopCmp (n:=l.length) (by omega) (p:=λi=>∀j:Nat,j<(ix l (i:Int)).Lines.length->(ix (ix l (i:Int)).Lines (j:Int)).Region.Rects.length<=120) (λrec k hk _ hrec=>⟨by omega,λ_=> ?_⟩) λhall=> ?_
 ·have hx:(ix l (k:Int)).Lines.length<=1000:=h2 _ (ix_mem (l:=l) (i:=(k:Int)) (by omega) (by omega))
  refine loopCmp (n:=(ix l (k:Int)).Lines.length) (by omega) (p:=λj=>(ix (ix l (k:Int)).Lines (j:Int)).Region.Rects.length<=120) (λrec2 j hj _ hrec2=>⟨by omega,λ_=>IFB.mk (λhn=> ?_) (λhn=>hrec2 ?_)⟩) λhall2=>hrec hall2
  ·have hn:(120:Int)<((ix (ix l (k:Int)).Lines (j:Int)).Region.Rects.length:Int):=of_decide_eq_true hn
   rw[limitF_1 (λh=>by have:=limit_row.1 h k hk j hj;omega)] at hp
   exact hp
  ·have hn:¬(120:Int)<((ix (ix l (k:Int)).Lines (j:Int)).Region.Rects.length:Int):=of_decide_eq_false hn
   omega
 ·rw[limitF_0 (limit_row.2 hall)] at hp
  exact hp
end RE
end Go.Proofs.YtpeggkeenboacaaGreat
namespace Go.Proofs.YtpeggkeenboacaaGreat
namespace RE
open Go.RowKit
open PL
def pgive_P (l:List (api_Version))(ys:List (api_Yield))(post:List (api_Version)->Int->Prop):Prop:=(manyV l/\okG l ys)/\post ((givS l ys).1) ((givS l ys).2)
def pgive_sp:Spec:=⟨53,false,true,[.sl (.st .api_Version),.sl (.st .api_Yield)],.tup [.dat (.sl (.st .api_Version)),.dat (.int .i64)],λx post=>pgive_P (x.1:List (api_Version)) (x.2.1:List (api_Yield)) (λy0 y1=>post (y0,y1,()))⟩
def pgive_C:CtxR:=⟨tau,[rule1 plines_sp,rule1 pthere_sp,rule1 pval_sp,ruleW 121 (.st .api_Version) 96 1 98 (.st .api_Line) Nest.Small,ruleC pchoN_sp 122,rule1 plimit_sp],lookJ [(0,33,⟨[(48,.dat (.int .i64))],[],(List.range' 49 27++[12,13]),[],[(0,96,(.st .api_Version))]⟩),(0,15,⟨[(28,.dat (.int .i64))],[],(List.range' 29 15++[9]),[],[]⟩)]⟩
def pgive_W (l:List (api_Version))(ys:List (api_Yield))(post:List (api_Version)->Int->Prop):Prop:=(l.length<=1000/\∀(v1:api_Version),v1∈l->v1.2.length<=1000)/\∀(v2:List crosscheck_line)(v3:Int),linesR l v2 v3->IFB (!decide (v3=0)) (post [] v3) ((↑ys.length:Int)<=9223372036854775807->IFB (decide ((200:Int)<(↑ys.length:Int))) (post [] 1) ((↑ys.length:Int)<=9223372036854775807->LOOP [Ty.int IntKind.i64] (λ(rec4:Int->Prop) (z5:Int)=>IFB (decide (z5<(↑ys.length:Int))) (((0:Int)<=z5/\z5<(↑ys.length:Int))/\l.length<=1000000/\∀(v6:Bool),(v6=true↔thereP l {Application:=(ix ys z5).1.1,Line:=(ix ys z5).1.2:api_Place})->IFB (!v6) (post [] 15) (∀(v7:Bool),(v7=true↔validP (ix ys z5).2.1)->IFB (!v7) (post [] 7) (rec4 (IntKind.i64.wrap (z5+1))))) ((l.length<=4000000/\∀(v8:api_Version),v8∈l->v8.2.length<=4000000/\∀(v9:api_Line),v9∈v8.2->v9.2.1.length<=4000000)/\((↑ys.length:Int)<=9223372036854775807->LOOP [Ty.int IntKind.i64,(Ty.st Sn.api_Version).sl] (λ(rec10:Int->List api_Version->Prop) (z11:Int) (z12:List api_Version)=>IFB (decide (z11<(↑ys.length:Int))) (((0:Int)<=z11/\z11<(↑ys.length:Int))/\((0:Int)<=(ix ys z11).1.1/\(ix ys z11).1.1<(↑z12.length:Int))/\((0:Int)<=(ix ys z11).1.2/\(ix ys z11).1.2<(↑(ix z12 (ix ys z11).1.1).2.length:Int))/\(((∀(v13:api_Rect),v13∈(ix (ix z12 (ix ys z11).1.1).2 (ix ys z11).1.2).2.1->0<=v13.1/\v13.1<v13.3/\v13.3<=16384/\0<=v13.2/\v13.2<v13.4/\v13.4<=16384)/\(ix (ix z12 (ix ys z11).1.1).2 (ix ys z11).1.2).2.1.length<=8000)/\(∀(v14:api_Rect),v14∈(ix ys z11).2.1->0<=v14.1/\v14.1<v14.3/\v14.3<=16384/\0<=v14.2/\v14.2<v14.4/\v14.4<=16384)/\(ix ys z11).2.1.length<=8000)/\rec10 (IntKind.i64.wrap (z11+1)) (z12.set (ix ys z11).1.1.toNat (⟨(ix z12 (ix ys z11).1.1).1,(ix z12 (ix ys z11).1.1).2.set (ix ys z11).1.2.toNat (⟨(ix (ix z12 (ix ys z11).1.1).2 (ix ys z11).1.2).1,(⟨canonF λ(x y:Int)=>howS (3:Int) (cov (ix (ix z12 (ix ys z11).1.1).2 (ix ys z11).1.2).2.1 x y) (cov (ix ys z11).2.1 x y)⟩:api_Region),(ix (ix z12 (ix ys z11).1.1).2 (ix ys z11).1.2).3,(ix (ix z12 (ix ys z11).1.1).2 (ix ys z11).1.2).4⟩:api_Line)⟩:api_Version))) ((z12.length<=1000/\∀(v15:api_Version),v15∈z12->v15.2.length<=1000)/\IFB (!decide (limitF z12=0)) (post [] (limitF z12)) (post z12 0))) ((0:Int),l,PUnit.unit)))) ((0:Int),PUnit.unit)))
theorem pgive_w (l:List (api_Version))(ys:List (api_Yield))(post:dens (shT pgive_sp.rs [])->Prop):pgive_W l ys (λy0 y1=>post (y0,y1,()))=walkG (callR Tryz.prog pgive_C (drawR Tryz.prog tau) 8 0) 53 false [tv (.sl (.st .api_Version)) l,tv (.sl (.st .api_Yield)) ys] pgive_sp.rs post:=by kernel_rfl
theorem pgive_of (h:∀l ys post,pgive_P l ys post->pgive_W l ys post):SpecOK Tryz.prog pgive_sp:=SpecOK.of_rules (C:=pgive_C) (dr:=drawR Tryz.prog tau) (n:=8) (fk:=0) (.cons (rule1_ok plines_ok) (.cons (rule1_ok pthere_ok) (.cons (rule1_ok pval_ok) (.cons (ruleW_ok Nest.copied_mk) (.cons (ruleC_ok pchoN_ok) (.cons (rule1_ok plimit_ok) .nil)))))) (drawR_ok tau) λx post hp=>HoldW.of (pgive_w x.1 x.2.1 post) (h x.1 x.2.1 (λy0 y1=>post (y0,y1,())) hp)
theorem errY_zero {l:List api_Version}:∀{ys:List api_Yield},errY l ys=0->∀z∈ys,thereP l z.1/\validP z.2.1
 |[],_,z,hz=>by cases hz
 |a::ys,h,z,hz=>by
  unfold errY at h
  split at h
  ·cases h
  ·rename_i h1
   split at h
   ·cases h
   ·rename_i h2
    rcases List.mem_cons.1 hz with rfl|hz
    ·exact⟨Classical.not_not.1 h1,Classical.not_not.1 h2⟩
    ·exact errY_zero h z hz
theorem canon_prop {l:List Rc}(h:Canon l)(hb:∀x y,cov l x y=true->0<=x/\x<16384/\0<=y/\y<16384):∀r∈l,proper r:=λr hr=>by
 obtain⟨a,b,c,d,e,f⟩:=canon_box h hb r hr
 exact⟨a,b,c,d,e,f⟩
theorem gave_proper {l:List api_Version}(hv:∀x∈linV l,validP x.rects){ys:List api_Yield}(hy:∀z∈ys,thereP l z.1){p:api_Place}(hp:thereP l p):∀r∈gat (ys.foldl give1 l) p,proper r:=by
 obtain⟨q1,q2⟩:=(gives_ok hy).2 p hp
 obtain⟨_,v2,v3⟩:=hv ⟨p,gat l p⟩ (mem_linV.2 ⟨hp,rfl⟩)
 exact canon_prop (q1 v3) λx y hc=>proper_box v2 ((q2 x y).1 hc).1
def pgvI (l:List api_Version)(y:List api_Yield)(z:Int)(m:List api_Version):Prop:=∃k:Nat,z=(k:Int)/\k<=y.length/\m=(y.take k).foldl give1 l
theorem pgive_ok:SpecOK Tryz.prog pgive_sp:=pgive_of λl ys post hp=>by
 obtain⟨⟨h1,h2⟩,hp⟩:=hp
 unfold pgive_W
 refine⟨h1,λL e he=> ?_⟩
 refine IFB.mk (λhb=> ?_) (λhb=> ?_)
 ·have hb:e≠0:=by simpa using hb
  have e1:beginF l≠0/\e=beginF l:=by
   rcases he with⟨a,_,b⟩|⟨_,_,b⟩
   ·exact⟨a,b⟩
   ·exact absurd b hb
  have e2:givS l ys=([],beginF l):=by unfold givS;rw[if_pos e1.1]
  rw[e2] at hp
  show post [] e
  rw[e1.2];exact hp
 have hb:e=0:=by simpa using hb
 have hb:beginF l=0:=by
  rcases he with⟨a,_,b⟩|⟨a,_,_⟩
  ·exact absurd (b.symm.trans hb) a
  ·exact a
 clear he
 refine λ_=>IFB.mk (λhc=> ?_) (λhc=> ?_)
 ·have hc:(200:Int)<(ys.length:Int):=of_decide_eq_true hc
  have e:givS l ys=([],1):=by unfold givS;rw[if_neg (by simp[hb]),if_pos (by omega)]
  rw[e] at hp;exact hp
 have hc:¬(200:Int)<(ys.length:Int):=of_decide_eq_false hc
 have hc':¬200<ys.length:=by omega
 obtain⟨hlen,hval⟩:=begin_zero hb
 refine λ_=>loopCmp (n:=ys.length) (by omega) (p:=λk=>thereP l (ix ys (k:Int)).1/\validP (ix ys (k:Int)).2.1) (λrec k hk hpre hrec=> ?_) λhall=> ?_
 ·have htk:ys.take (k+1)=ys.take k++[ix ys (k:Int)]:=by rw[List.take_succ_eq_append_getElem hk,ix_lt hk]
  have h0:∀j,j<=k->errY l (ys.take j)=0:=λj=>by
   induction j with
   |zero=>intro _;rfl
   |succ j ih=>
    intro hj
    have hj2:j<ys.length:=by omega
    have htj:ys.take (j+1)=ys.take j++[ix ys (j:Int)]:=by rw[List.take_succ_eq_append_getElem hj2,ix_lt hj2]
    obtain⟨a,b⟩:=hpre j (by omega)
    rw[htj,errY_snoc (ih (by omega)),errY,if_neg (not_not_intro a),if_neg (not_not_intro b)];rfl
  have h0:=h0 k (Nat.le_refl _)
  have hl:l.length<=1000:=h1.1
  refine⟨by omega,by omega,λv6 hv6=>IFB.mk (λhn=> ?_) (λhn v7 hv7=>IFB.mk (λhm=> ?_) (λhm=>hrec ?_))⟩
  ·have hnt:¬thereP l (ix ys (k:Int)).1:=λh=>by have:=hv6.2 h;rw[this] at hn;cases hn
   rw[givS_err hb hc' (k:=k) (e:=15) (by rw[htk,errY_snoc h0,errY,if_pos hnt]) (by decide)] at hp
   exact hp
  ·have ht:thereP l (ix ys (k:Int)).1:=hv6.1 (by cases v6<;>simp_all)
   have hnv:¬validP (ix ys (k:Int)).2.1:=λh=>by have:=hv7.2 h;rw[this] at hm;cases hm
   rw[givS_err hb hc' (k:=k) (e:=7) (by rw[htk,errY_snoc h0,errY,if_neg (not_not_intro ht),if_pos hnv]) (by decide)] at hp
   exact hp
  ·exact⟨hv6.1 (by cases v6<;>simp_all),hv7.1 (by cases v7<;>simp_all)⟩
 have hY:∀z∈ys,thereP l z.1/\validP z.2.1:=λz hz=>by
  obtain⟨j,hj,rfl⟩:=List.getElem_of_mem hz
  have:=hall j hj
  rwa [ix_lt hj] at this
 have hE:∀k,k<=ys.length->errY l (ys.take k)=0:=λk=>by
  induction k with
  |zero=>intro _;rfl
  |succ k ih=>
   intro hk
   have hk2:k<ys.length:=by omega
   have htk:ys.take (k+1)=ys.take k++[ix ys (k:Int)]:=by rw[List.take_succ_eq_append_getElem hk2,ix_lt hk2]
   obtain⟨a,b⟩:=hall k hk2
   rw[htk,errY_snoc (ih (by omega)),errY,if_neg (not_not_intro a),if_neg (not_not_intro b)];rfl
 refine⟨⟨by have:=h1.1;omega,λv hv=>⟨by have:=h1.2 v hv;omega,λx hx=> ?_⟩⟩,λ_=> ?_⟩
 ·have:=hval
  have:=(lin_valid.2 hval _ (regN_mem hv hx)).1
  show x.Region.Rects.length<=4000000;omega
 refine LOOP.fuel (λu=>pgvI l ys u.1 u.2.1) (λu=>ys.length-Int.toNat u.1) ⟨0,rfl,Nat.zero_le _,rfl⟩ ?_
 rintro rec ⟨(z0:Int),(m:List api_Version),⟨⟩⟩ ⟨k,i1,i2,i3⟩ hrec
 have i1:z0=(k:Int):=i1
 have q3:m=(ys.take k).foldl give1 l:=i3
 clear i3
 subst i1
 have hyk:∀z∈ys.take k,thereP l z.1:=λz hz=>(hY z (List.mem_of_mem_take hz)).1
 have hlike:likeV l m:=by rw[q3];exact (gives_ok hyk).1
 refine IFB.mk (λhd=> ?_) (λhd=> ?_)
 ·have hd:(k:Int)<ys.length:=of_decide_eq_true hd
  have hk:k<ys.length:=by omega
  have hok:=h2 hb k i2 (hE k i2)
  rw[<-q3] at hok
  obtain⟨ht,hv⟩:=hall k hk
  have hpr:∀r∈gat m (ix ys (k:Int)).1,proper r:=by rw[q3];exact gave_proper hval hyk ht
  have htm:=hlike.there.2 ht
  obtain⟨m1,m2,m3,m4⟩:=htm
  have htk:ys.take (k+1)=ys.take k++[ix ys (k:Int)]:=by rw[List.take_succ_eq_append_getElem hk,ix_lt hk]
  have hlen1:(gat m (ix ys (k:Int)).1).length<=1000:=hok _ (ix_mem m1 m2) _ (ix_mem m3 m4)
  refine⟨⟨by omega,hd⟩,⟨m1,m2⟩,⟨m3,m4⟩,⟨⟨hpr,?_⟩,hv.2.1,?_⟩,?_⟩
  ·show (gat m (ix ys (k:Int)).1).length<=8000
   omega
  ·have:=hv.1
   show (ix ys (k:Int)).2.1.length<=8000;omega
  ·show rec (IntKind.i64.wrap ((k:Int)+1)) _
   rw[wrapS (by omega)]
   refine hrec (((k+1:Nat):Int),_,()) ⟨k+1,rfl,hk,?_⟩ (by show ys.length-((k+1:Nat):Int).toNat<ys.length-(k:Int).toNat;omega)
   rw[htk,foldl_snoc,<-q3];rfl
 ·have hd:¬(k:Int)<ys.length:=of_decide_eq_false hd
  have hk:k=ys.length:=by omega
  rw[hk,List.take_length] at q3
  have i4:errY l ys=0:=by have:=hE ys.length (Nat.le_refl _);rwa [List.take_length] at this
  have hmany:manyV m:=by
   refine⟨by rw[hlike.1];exact h1.1,λv hv=> ?_⟩
   obtain⟨i,hi,rfl⟩:=List.getElem_of_mem hv
   have:=hlike.shape.2 i
   rw[ix_lt hi,ix_lt (by rw[<-hlike.1];exact hi)] at this
   rw[this];exact h1.2 _ (List.getElem_mem _)
  refine⟨hmany,?_⟩
  refine IFB.mk (λhn=> ?_) (λhn=> ?_)
  ·have hn:limitF m≠0:=by simpa using hn
   have h1':limitF m=1:=by unfold limitF at hn ⊢;split at hn<;>first|exact absurd rfl hn|(rename_i h;rw[if_neg h])
   have e:givS l ys=([],1):=by
    unfold givS
    rw[if_neg (by simp[hb]),if_neg hc',if_neg (by simp[i4]),if_pos (by rw[<-q3];exact hn)]
   rw[e] at hp
   show post [] (limitF m)
   rw[h1'];exact hp
  ·have hn:limitF m=0:=by simpa using hn
   have e:givS l ys=(m,0):=by
    unfold givS
    rw[if_neg (by simp[hb]),if_neg hc',if_neg (by simp[i4]),if_neg (by rw[<-q3];simp[hn]),<-q3]
   rw[e] at hp
   exact hp
end RE
end Go.Proofs.YtpeggkeenboacaaGreat
set_option linter.unusedVariables false
namespace Go.Proofs.YtpeggkeenboacaaGreat
open Go.RowKit
namespace RE
open PL
namespace PL
def inBox (l:List Rc):Prop:=∀r∈l,0<=r.Left/\r.Left<r.Right/\r.Right<=30/\0<=r.Low/\r.Low<r.High/\r.High<=10
def smallF (L:List Ln):Prop:=L.length<=60/\(L.map (·.place)).Nodup/\∀x∈L,inBox x.rects/\x.rects.length<=120
end PL
theorem nodup_lt:∀{n:Nat}{l:List Nat},l.Nodup->(∀a∈l,a<n)->l.length<=n
 |0,l,_,h=>by
  match l with
  |[]=>exact Nat.le_refl _
  |a::_=>exact absurd (h a (List.mem_cons_self ..)) (Nat.not_lt_zero _)
 |n+1,l,hn,h=>by
  have h1:(l.erase n).length<=n:=nodup_lt (hn.erase n) λa ha=>by
   have hm:=(hn.mem_erase_iff).1 ha
   have:=h a hm.2
   have hne:=hm.1
   omega
  have h2:l.length<=(l.erase n).length+1:=by
   by_cases hm:n∈l
   ·have:=List.length_erase_of_mem hm;omega
   ·rw[List.erase_of_not_mem hm];omega
  omega
theorem box_cov2 {l:List Rc}(h:inBox l){x y:Int}(hc:cov l x y=true):0<=x/\x<30/\0<=y/\y<10:=by
 obtain⟨r,hr,h1,h2,h3,h4⟩:=cov_iff.1 hc
 obtain⟨a,b,c,d,e,f⟩:=h r hr
 omega
theorem box_proper {l:List Rc}(h:inBox l):∀r∈l,proper r:=λr hr=>by
 obtain⟨a,b,c,d,e,f⟩:=h r hr
 exact⟨a,b,by omega,d,e,by omega⟩
theorem can_inBox {l:List Rc}(hc:Canon l)(h:∀x y,cov l x y=true->0<=x/\x<30/\0<=y/\y<10):inBox l/\l.length<=300:=by
 refine⟨λr hr=>canon_box hc h r hr,?_⟩
 have:=canon_len hc (x0:=0) (x1:=30) (y0:=0) (y1:=10) (by omega) (by omega) h
 omega
theorem who_cov {L:List Ln}{x y:Int}(h:who L x y≠[])(hb:∀l∈L,inBox l.rects):0<=x/\x<30/\0<=y/\y<10:=by
 obtain⟨p,hp⟩:=List.exists_mem_of_ne_nil _ h
 obtain⟨l,hl,hc,_⟩:=who_mem.1 hp
 exact box_cov2 (hb l hl) hc
theorem who_len {L:List Ln}{x y:Int}:(who L x y).length<=L.length:=by unfold who;rw[List.length_map];exact List.length_filter_le _ _
theorem face_small {L:List Ln}{F:List Fc}(h:FacesOK L F)(hb:∀l∈L,inBox l.rects){f:Fc}(hf:f∈F):inBox f.rects/\f.rects.length<=300/\f.claims.length<=L.length:=by
 obtain⟨h1,h2,h3,h4⟩:=h.each f hf
 obtain⟨q1,q2⟩:=can_inBox h1 λx y hc=>who_cov (L:=L) (by rw[h4 x y hc];exact h3) hb
 obtain⟨x,y,hc⟩:=canon_some h1 h2
 exact⟨q1,q2,by rw[<-h4 x y hc];exact who_len⟩
open Classical in
noncomputable def pick (f:Fc):Nat:=if h:∃xy:Int×Int,cov f.rects xy.1 xy.2=true then ((Classical.choose h).1 * 10+(Classical.choose h).2).toNat else 0
theorem pick_ok {f:Fc}(h1:Canon f.rects)(h2:f.rects≠[]):∃x y,cov f.rects x y=true/\pick f=(x * 10+y).toNat:=by
 obtain⟨x,y,hc⟩:=canon_some h1 h2
 have h:∃xy:Int×Int,cov f.rects xy.1 xy.2=true:=⟨(x,y),hc⟩
 refine⟨(Classical.choose h).1,(Classical.choose h).2,Classical.choose_spec h,?_⟩
 unfold pick
 rw[dif_pos h]
theorem faces_few {L:List Ln}{F:List Fc}(h:FacesOK L F)(hb:∀l∈L,inBox l.rects):F.length<=300:=by
 have e:F.length=(F.map pick).length:=by rw[List.length_map]
 rw[e]
 refine nodup_lt ?_ ?_
 ·rw[List.nodup_iff_pairwise_ne,List.pairwise_map]
  refine h.ne.imp_of_mem λ{f g} hf hg hne he=>hne ?_
  obtain⟨a1,a2,a3,a4⟩:=h.each f hf
  obtain⟨b1,b2,b3,b4⟩:=h.each g hg
  obtain⟨x,y,c1,e1⟩:=pick_ok a1 a2
  obtain⟨u,v,c2,e2⟩:=pick_ok b1 b2
  have w1:=a4 x y c1
  have w2:=b4 u v c2
  have r1:=who_cov (L:=L) (x:=x) (y:=y) (by rw[w1];exact a3) hb
  have r2:=who_cov (L:=L) (x:=u) (y:=v) (by rw[w2];exact b3) hb
  rw[e1,e2] at he
  have ex:x=u:=by omega
  have ey:y=v:=by omega
  rw[<-w1,<-w2,ex,ey]
 ·intro a ha
  obtain⟨f,hf,rfl⟩:=List.mem_map.1 ha
  obtain⟨a1,a2,a3,a4⟩:=h.each f hf
  obtain⟨x,y,c1,e1⟩:=pick_ok a1 a2
  have r1:=who_cov (L:=L) (x:=x) (y:=y) (by rw[a4 x y c1];exact a3) hb
  omega
theorem small_take {L:List Ln}(h:smallF L)(k:Nat):smallF (L.take k):=by
 obtain⟨h1,h2,h3⟩:=h
 refine⟨by rw[List.length_take];omega,?_,λx hx=>h3 x (List.mem_of_mem_take hx)⟩
 rw[List.map_take]
 exact h2.sublist (List.take_sublist _ _)
theorem facesS_take {L:List Ln}{k:Nat}{x:Ln}(hk:L[k]? =some x):facesS (L.take (k+1))=faceStep (facesS (L.take k)) ((L.take k).flatMap (·.rects)) x:=by
 have hl:=(List.getElem?_eq_some_iff.1 hk).1
 have e:L.take (k+1)=L.take k++[x]:=by
  rw[List.take_succ_eq_append_getElem hl]
  congr 2
  exact (List.getElem?_eq_some_iff.1 hk).2
 rw[e]
 unfold facesS
 rw[facesG_app,List.nil_append]
theorem flat_small {L:List Ln}(h3:∀x∈L,inBox x.rects/\x.rects.length<=120):(∀r∈L.flatMap (·.rects),proper r)/\(L.flatMap (·.rects)).length<=120 * L.length:=by
 induction L with
 |nil=>exact⟨λr hr=>(by cases hr),Nat.zero_le _⟩
 |cons a L ih=>
  obtain⟨i1,i2⟩:=ih λx hx=>h3 x (List.mem_cons_of_mem _ hx)
  obtain⟨a1,a2⟩:=h3 a (List.mem_cons_self ..)
  refine⟨λr hr=> ?_,?_⟩
  ·rw[List.flatMap_cons] at hr
   rcases List.mem_append.1 hr with hr|hr
   ·exact box_proper a1 r hr
   ·exact i1 r hr
  ·rw[List.flatMap_cons,List.length_append,List.length_cons];omega
end RE
end Go.Proofs.YtpeggkeenboacaaGreat
namespace Go.Proofs.YtpeggkeenboacaaGreat
namespace RE
open Go.RowKit
variable {P:Program}
def byC2 (s:Spec)(g:FuncId)(q:List SV->MS->(SV->MS->Prop)->Prop)(ss:List SV)(m:MS)(k:SV->MS->Prop):Prop:=match dropCl g ss with
 |some ss'=>byCon s ss' m k
 |none=>q ss m k
def ruleCC (s:Spec)(g:FuncId)(r:Rule):Rule:=⟨s.f,byC2 s g r.cp⟩
theorem ruleCC_ok {s:Spec}{g:FuncId}{r:Rule}(h:SpecCOK P s [clo g])(h2:RuleOK P r)(e:r.f=s.f):RuleOK P (ruleCC s g r):=λss m k hk us w c hox hl hr=>by
 have hk2:byC2 s g r.cp ss m k:=hk
 unfold byC2 at hk2
 split at hk2
 ·rename_i ss' hd
  refine ruleC_ok h ss m k ?_ us w c hox hl hr
  show byConC s g ss m k
  unfold byConC
  rw[hd];exact hk2
 ·have:=h2 ss m k hk2 us w c hox hl hr
  rw[e] at this
  exact this
open PL
def pclrO_P (l:List (api_Rect))(post:List (api_Rect)->Prop):Prop:=(l.length<=4000000)/\post (l)
def pclrO_sp:Spec:=⟨165,false,true,[.sl (.st .api_Rect)],.own 65 (.st .api_Rect),λx post=>pclrO_P (x.1:List (api_Rect)) (λy0=>post (y0,()))⟩
def pclrO_C:CtxR:=⟨tau,[],lookJ []⟩
def pclrO_W (l:List (api_Rect))(post:List (api_Rect)->Prop):Prop:=∀(v1:Bool),(v1=true->l=[])->IFB v1 (post []) (((0:Nat)+l.length) * (32:Nat)<=140737488355328/\post ([]++l))
theorem pclrO_w (l:List (api_Rect))(post:dens (shT pclrO_sp.rs [])->Prop):pclrO_W l (λy0=>post (y0,()))=walkG (callR Tryz.prog pclrO_C (drawR Tryz.prog tau) 6 0) 165 false [tv (.sl (.st .api_Rect)) l] pclrO_sp.rs post:=by kernel_rfl
theorem pclrO_of (h:∀l post,pclrO_P l post->pclrO_W l post):SpecOK Tryz.prog pclrO_sp:=SpecOK.of_rules (C:=pclrO_C) (dr:=drawR Tryz.prog tau) (n:=6) (fk:=0) .nil (drawR_ok tau) λx post hp=>HoldW.of (pclrO_w x.1 post) (h x.1 (λy0=>post (y0,())) hp)
theorem pclrO_ok:SpecOK Tryz.prog pclrO_sp:=pclrO_of λl post hp=>by
 obtain⟨hl,hp⟩:=hp
 unfold pclrO_W
 refine λv hv=>IFB.mk (λh=> ?_) (λ_=>⟨by omega,?_⟩)
 ·rw[hv h] at hp;exact hp
 ·rw[List.nil_append];exact hp
def pclpO_P (l:List (api_Place))(post:List (api_Place)->Prop):Prop:=(l.length<=4000000)/\post (l)
def pclpO_sp:Spec:=⟨170,false,true,[.sl (.st .api_Place)],.own 82 (.st .api_Place),λx post=>pclpO_P (x.1:List (api_Place)) (λy0=>post (y0,()))⟩
def pclpO_C:CtxR:=⟨tau,[],lookJ []⟩
def pclpO_W (l:List (api_Place))(post:List (api_Place)->Prop):Prop:=∀(v1:Bool),(v1=true->l=[])->IFB v1 (post []) (((0:Nat)+l.length) * (16:Nat)<=140737488355328/\post ([]++l))
theorem pclpO_w (l:List (api_Place))(post:dens (shT pclpO_sp.rs [])->Prop):pclpO_W l (λy0=>post (y0,()))=walkG (callR Tryz.prog pclpO_C (drawR Tryz.prog tau) 6 0) 170 false [tv (.sl (.st .api_Place)) l] pclpO_sp.rs post:=by kernel_rfl
theorem pclpO_of (h:∀l post,pclpO_P l post->pclpO_W l post):SpecOK Tryz.prog pclpO_sp:=SpecOK.of_rules (C:=pclpO_C) (dr:=drawR Tryz.prog tau) (n:=6) (fk:=0) .nil (drawR_ok tau) λx post hp=>HoldW.of (pclpO_w x.1 post) (h x.1 (λy0=>post (y0,())) hp)
theorem pclpO_ok:SpecOK Tryz.prog pclpO_sp:=pclpO_of λl post hp=>by
 obtain⟨hl,hp⟩:=hp
 unfold pclpO_W
 refine λv hv=>IFB.mk (λh=> ?_) (λ_=>⟨by omega,?_⟩)
 ·rw[hv h] at hp;exact hp
 ·rw[List.nil_append];exact hp
def pfaces_P (L:List (crosscheck_line))(post:List (crosscheck_face)->Prop):Prop:=(smallF L)/\post (facesS L)
def pfaces_sp:Spec:=⟨110,false,true,[.sl (.st .crosscheck_line)],.dat (.sl (.st .crosscheck_face)),λx post=>pfaces_P (x.1:List (crosscheck_line)) (λy0=>post (y0,()))⟩
def pfaces_C:CtxR:=⟨tau,[rule1 pclrO_sp,rule1 pclpO_sp,ruleCC pchoN_sp 122 (ruleC pchoB_sp 169)],lookJ [(0,9,⟨[(15,.dat (.int .i64)),(4,.own 65 (.st .api_Rect)),(3,.own 164 (.st .crosscheck_face))],[],(List.range' 16 67++[6,7,9,10,11,12]),[],[]⟩),(0,1000021,⟨[(4,.own 65 (.st .api_Rect))],[],[77,78,79,80,81],[],[]⟩),(0,40,⟨[(4,.dat (.sl (.st .api_Rect))),(7,.own 164 (.st .crosscheck_face))],[],(List.range' 61 15++[12]),[0,3],[]⟩),(0,17,⟨[(21,.dat (.int .i64)),(7,.own 164 (.st .crosscheck_face))],[],(List.range' 22 39++[9,10,11]),[],[]⟩),(0,32,⟨[(7,.own 164 (.st .crosscheck_face))],[],(List.range' 23 37++[9,10,11]),[3],[]⟩),(0,26,⟨[(7,.own 164 (.st .crosscheck_face))],[],(List.range' 25 20++[10]),[3],[]⟩),(0,1000012,⟨[(7,.own 164 (.st .crosscheck_face))],[],(List.range' 33 12),[3],[]⟩)]⟩
abbrev pfaces_a0 (z4:List crosscheck_face)(z6:Int)(L:List (crosscheck_line))(z2:Int):={rects:=canonF λ(x y:Int)=>howS (2:Int) (cov (ix z4 z6).1 x y) (cov (ix L z2).2 x y),claims:=(ix z4 z6).2++[{Application:=(ix L z2).1.1,Line:=(ix L z2).1.2:api_Place}]:crosscheck_face}
def pfaces_W (L:List (crosscheck_line))(post:List (crosscheck_face)->Prop):Prop:=(↑L.length:Int)<=9223372036854775807->LOOP [Ty.int IntKind.i64,(Ty.st Sn.api_Rect).sl,(Ty.st Sn.crosscheck_face).sl] (λ(rec1:Int->List api_Rect->List crosscheck_face->Prop) (z2:Int) (z3:List api_Rect) (z4:List crosscheck_face)=>IFB (decide (z2<(↑L.length:Int))) (((0:Int)<=z2/\z2<(↑L.length:Int))/\((↑z4.length:Int)<=9223372036854775807->LOOP [Ty.int IntKind.i64,(Ty.st Sn.crosscheck_face).sl] (λ(rec5:Int->List crosscheck_face->Prop) (z6:Int) (z7:List crosscheck_face)=>IFB (decide (z6<(↑z4.length:Int))) (JOIN [(Ty.st Sn.crosscheck_face).sl] (λ(y8:List crosscheck_face)=>rec5 (IntKind.i64.wrap (z6+1)) y8) λ(J9:List crosscheck_face->Prop)=>((0:Int)<=z6/\z6<(↑z4.length:Int))/\JOIN [(Ty.st Sn.crosscheck_face).sl] (λ(y10:List crosscheck_face)=>(((∀(v11:api_Rect),v11∈(ix z4 z6).1->0<=v11.1/\v11.1<v11.3/\v11.3<=16384/\0<=v11.2/\v11.2<v11.4/\v11.4<=16384)/\(ix z4 z6).1.length<=8000)/\(∀(v12:api_Rect),v12∈(ix L z2).2->0<=v12.1/\v12.1<v12.3/\v12.3<=16384/\0<=v12.2/\v12.2<v12.4/\v12.4<=16384)/\(ix L z2).2.length<=8000)/\((↑(canonF λ(x y:Int)=>howS (3:Int) (cov (ix z4 z6).1 x y) (cov (ix L z2).2 x y)).length:Int)<=9223372036854775807->IFB (decide ((0:Int)<(↑(canonF λ(x y:Int)=>howS (3:Int) (cov (ix z4 z6).1 x y) (cov (ix L z2).2 x y)).length:Int))) ((y10.length+[{rects:=canonF λ(x y:Int)=>howS (3:Int) (cov (ix z4 z6).1 x y) (cov (ix L z2).2 x y),claims:=(ix z4 z6).2:crosscheck_face}].length) * (48:Nat)<=140737488355328/\J9 (y10++[{rects:=canonF λ(x y:Int)=>howS (3:Int) (cov (ix z4 z6).1 x y) (cov (ix L z2).2 x y),claims:=(ix z4 z6).2:crosscheck_face}])) (J9 y10))) λ(J13:List crosscheck_face->Prop)=>(((∀(v14:api_Rect),v14∈(ix z4 z6).1->0<=v14.1/\v14.1<v14.3/\v14.3<=16384/\0<=v14.2/\v14.2<v14.4/\v14.4<=16384)/\(ix z4 z6).1.length<=8000)/\(∀(v15:api_Rect),v15∈(ix L z2).2->0<=v15.1/\v15.1<v15.3/\v15.3<=16384/\0<=v15.2/\v15.2<v15.4/\v15.4<=16384)/\(ix L z2).2.length<=8000)/\((↑(canonF λ(x y:Int)=>howS (2:Int) (cov (ix z4 z6).1 x y) (cov (ix L z2).2 x y)).length:Int)<=9223372036854775807->IFB (decide ((0:Int)<(↑(canonF λ(x y:Int)=>howS (2:Int) (cov (ix z4 z6).1 x y) (cov (ix L z2).2 x y)).length:Int))) (JOIN [(Ty.st Sn.crosscheck_face).sl] (λ(y16:List crosscheck_face)=>J13 y16) λ(J17:List crosscheck_face->Prop)=>((ix z4 z6).2.length<=4000000/\((ix z4 z6).2.length+[{Application:=(ix L z2).1.1,Line:=(ix L z2).1.2:api_Place}].length) * (16:Nat)<=140737488355328/\(z7.length+[(pfaces_a0 z4 z6 L z2)].length) * (48:Nat)<=140737488355328/\J17 (z7++[(pfaces_a0 z4 z6 L z2)]))/\(ix z4 z6).2.length<=4000000/\((ix z4 z6).2.length+[{Application:=(ix L z2).1.1,Line:=(ix L z2).1.2:api_Place}].length) * (16:Nat)<=140737488355328/\(z7.length+[(pfaces_a0 z4 z6 L z2)].length) * (48:Nat)<=140737488355328/\J17 (z7++[(pfaces_a0 z4 z6 L z2)])) (J13 z7))) (JOIN [(Ty.st Sn.api_Rect).sl,(Ty.st Sn.crosscheck_face).sl] (λ(y18:List api_Rect) (y19:List crosscheck_face)=>JOIN [(Ty.st Sn.api_Rect).sl] (λ(y20:List api_Rect)=>rec1 (IntKind.i64.wrap (z2+1)) y20 y19) λ(J21:List api_Rect->Prop)=>y18.length<=4000000/\(y18.length+(ix L z2).2.length) * (32:Nat)<=140737488355328/\J21 (y18++(ix L z2).2)) λ(J22:List api_Rect->List crosscheck_face->Prop)=>(((∀(v23:api_Rect),v23∈(ix L z2).2->0<=v23.1/\v23.1<v23.3/\v23.3<=16384/\0<=v23.2/\v23.2<v23.4/\v23.4<=16384)/\(ix L z2).2.length<=8000)/\(∀(v24:api_Rect),v24∈z3->0<=v24.1/\v24.1<v24.3/\v24.3<=16384/\0<=v24.2/\v24.2<v24.4/\v24.4<=16384)/\z3.length<=8000)/\((↑(canonF λ(x y:Int)=>howS (3:Int) (cov (ix L z2).2 x y) (cov z3 x y)).length:Int)<=9223372036854775807->IFB (decide ((0:Int)<(↑(canonF λ(x y:Int)=>howS (3:Int) (cov (ix L z2).2 x y) (cov z3 x y)).length:Int))) ((z7.length+[{rects:=canonF λ(x y:Int)=>howS (3:Int) (cov (ix L z2).2 x y) (cov z3 x y),claims:=[{Application:=(ix L z2).1.1,Line:=(ix L z2).1.2:api_Place}]:crosscheck_face}].length) * (48:Nat)<=140737488355328/\J22 z3 (z7++[{rects:=canonF λ(x y:Int)=>howS (3:Int) (cov (ix L z2).2 x y) (cov z3 x y),claims:=[{Application:=(ix L z2).1.1,Line:=(ix L z2).1.2:api_Place}]:crosscheck_face}])) (J22 z3 z7)))) ((0:Int),[],PUnit.unit))) (post z4)) ((0:Int),[],[],PUnit.unit)
theorem pfaces_w (L:List (crosscheck_line))(post:dens (shT pfaces_sp.rs [])->Prop):pfaces_W L (λy0=>post (y0,()))=walkG (callR Tryz.prog pfaces_C (drawR Tryz.prog tau) 8 0) 110 false [tv (.sl (.st .crosscheck_line)) L] pfaces_sp.rs post:=by kernel_rfl
theorem pfaces_of (h:∀L post,pfaces_P L post->pfaces_W L post):SpecOK Tryz.prog pfaces_sp:=SpecOK.of_rules (C:=pfaces_C) (dr:=drawR Tryz.prog tau) (n:=8) (fk:=0) (.cons (rule1_ok pclrO_ok) (.cons (rule1_ok pclpO_ok) (.cons (ruleCC_ok pchoN_ok (ruleC_ok pchoB_ok) rfl) .nil))) (drawR_ok tau) λx post hp=>HoldW.of (pfaces_w x.1 post) (h x.1 (λy0=>post (y0,())) hp)
def pfaI (L:List Ln)(z:Int)(a:List Rc)(b:List Fc):Prop:=∃k:Nat,z=(k:Int)/\k<=L.length/\a=(L.take k).flatMap (·.rects)/\b=facesS (L.take k)
def pfaJ (F:List Fc)(x:Ln)(z:Int)(b:List Fc):Prop:=∃j:Nat,z=(j:Int)/\j<=F.length/\b=(F.take j).flatMap (face1 x)/\b.length<=2 * j
theorem pfaces_ok:SpecOK Tryz.prog pfaces_sp:=pfaces_of λL post hp=>by
 obtain⟨hs,hp⟩:=hp
 have hL:L.length<=60:=hs.1
 unfold pfaces_W pfaces_a0
 refine λ_=>LOOP.fuel (λu=>pfaI L u.1 u.2.1 u.2.2.1) (λu=>L.length-Int.toNat u.1) ⟨0,rfl,Nat.zero_le _,rfl,rfl⟩ ?_
 rintro rec ⟨(z:Int),(a:List Rc),(b:List Fc),⟨⟩⟩ ⟨k,i1,i2,i3,i4⟩ hrec
 have i1:z=(k:Int):=i1
 have q3:a=(L.take k).flatMap (·.rects):=i3
 have q4:b=facesS (L.take k):=i4
 clear i3 i4
 subst i1
 refine IFB.mk (λhb=> ?_) (λhb=> ?_)
 rotate_left
 ·have hb:¬(k:Int)<L.length:=of_decide_eq_false hb
  have hk:k=L.length:=by omega
  rw[hk,List.take_length] at q4
  show post b
  rw[q4];exact hp
 have hb:(k:Int)<L.length:=of_decide_eq_true hb
 have hkl:k<L.length:=by omega
 obtain⟨x,hx⟩:∃x,L[k]? =some x:=⟨_,List.getElem?_eq_getElem hkl⟩
 have hix:ix L (k:Int)=x:=ix_of hx
 have hsk:=small_take hs k
 have hok:FacesOK (L.take k) b:=by rw[q4];exact faces_ok hsk.2.1
 have hbk:∀l∈L.take k,inBox l.rects:=λl hl=>(hsk.2.2 l hl).1
 have hlk:(L.take k).length<=60:=hsk.1
 have hfew:=faces_few hok hbk
 obtain⟨hx1,hx2⟩:=hs.2.2 x (List.mem_of_getElem? hx)
 have hxp:=box_proper hx1
 obtain⟨ha1,ha2⟩:=flat_small hsk.2.2
 rw[<-q3] at ha1 ha2
 have hstep:=facesS_take hx
 rw[<-q4,<-q3] at hstep
 refine⟨⟨by omega,hb⟩,λ_=> ?_⟩
 dsimp only
 rw[hix]
 have hX:(∀v:api_Rect,v∈x.2->0<=v.1/\v.1<v.3/\v.3<=16384/\0<=v.2/\v.2<v.4/\v.4<=16384)/\x.2.length<=8000:=⟨hxp,by show x.rects.length<=8000;omega⟩
 refine LOOP.fuel (λu=>pfaJ b x u.1 u.2.1) (λu=>b.length-Int.toNat u.1) ⟨0,rfl,Nat.zero_le _,rfl,Nat.le_refl _⟩ ?_
 rintro rec2 ⟨(z2:Int),(c:List Fc),⟨⟩⟩ ⟨j,j1,j2,j3,j4⟩ hrec2
 have j1:z2=(j:Int):=j1
 have r3:c=(b.take j).flatMap (face1 x):=j3
 have r4:c.length<=2 * j:=j4
 clear j3 j4
 subst j1
 refine IFB.mk (λhc=> ?_) (λhc=> ?_)
 ·have hc:(j:Int)<b.length:=of_decide_eq_true hc
  have hj:j<b.length:=by omega
  obtain⟨f,hf⟩:∃f,b[j]? =some f:=⟨_,List.getElem?_eq_getElem hj⟩
  have hif:ix b (j:Int)=f:=ix_of hf
  obtain⟨f1,f2,f3⟩:=face_small hok hbk (List.mem_of_getElem? hf)
  have hfp:=box_proper f1
  have htk:(b.take (j+1)).flatMap (face1 x)=c++face1 x f:=by
   rw[List.take_succ_eq_append_getElem hj,List.flatMap_append,<-r3,<-(List.getElem?_eq_some_iff.1 hf).2];simp
  have hF:(∀v:api_Rect,v∈f.1->0<=v.1/\v.1<v.3/\v.3<=16384/\0<=v.2/\v.2<v.4/\v.4<=16384)/\f.1.length<=8000:=⟨hfp,by show f.rects.length<=8000;omega⟩
  refine JOIN.opq λ(J:List Fc->Prop) hJ=>⟨⟨by omega,hc⟩,JOIN.opq λ(K:List Fc->Prop) hK=> ?_⟩
  dsimp only
  rw[hif]
  have hfl:f.2.length<=60:=by show f.claims.length<=60;omega
  have hlast:∀y:List Fc,y=c++face1 x f->J y:=λy hy=>by
   rw[hJ]
   show rec2 (IntKind.i64.wrap ((j:Int)+1)) y
   rw[wrapS (by omega)]
   refine hrec2 (((j+1:Nat):Int),y,()) ⟨j+1,rfl,hj,by show y=_;rw[htk,hy],?_⟩ (by show b.length-((j+1:Nat):Int).toNat<b.length-(j:Int).toNat;omega)
   show y.length<=2 * (j+1)
   rw[hy,List.length_append]
   have:(face1 x f).length<=2:=by
    unfold face1
    rw[List.length_append]
    have:=optF_len (r:=andC f.rects x.rects) (c:=f.claims++[x.place])
    have:=optF_len (r:=notC f.rects x.rects) (c:=f.claims)
    omega
   omega
  have hKy:∀y:List Fc,y=c++optF (andC f.rects x.rects) (f.claims++[x.place])->K y:=λy hy=>by
   have hyl:y.length<=2 * j+1:=by
    rw[hy,List.length_append]
    have:=optF_len (r:=andC f.rects x.rects) (c:=f.claims++[x.place])
    omega
   rw[hK]
   dsimp only
   rw[hif]
   have hn:(canonF (comb (howS 3) f.1 x.2)).length<=300:=(can_inBox (can_not f.rects x.rects) λu v hc=>box_cov2 f1 (cov_not.1 hc).1).2
   refine⟨⟨hF,hX⟩,λ_=>IFB.mk (λhd=>⟨by simp only[List.length_cons,List.length_nil];omega,hlast _ ?_⟩) (λhd=>hlast _ ?_)⟩
   ·have hd:(0:Int)<((canonF (comb (howS 3) f.1 x.2)).length:Int):=of_decide_eq_true hd
    have hne:notC f.rects x.rects≠[]:=λe=>by
     have e:canonF (comb (howS 3) f.1 x.2)=[]:=e
     rw[e] at hd;exact absurd hd (by decide)
    rw[hy]
    unfold face1
    rw[<-List.append_assoc]
    congr 1
    conv=>rhs;unfold optF
    rw[if_neg hne];rfl
   ·have hd:¬(0:Int)<((canonF (comb (howS 3) f.1 x.2)).length:Int):=of_decide_eq_false hd
    have hne:notC f.rects x.rects=[]:=List.eq_nil_of_length_eq_zero (by show (canonF (comb (howS 3) f.1 x.2)).length=0;omega)
    rw[hy]
    unfold face1
    rw[<-List.append_assoc]
    conv=>rhs;arg 2;unfold optF
    rw[if_pos hne,List.append_nil]
  have ha:(canonF (comb (howS 2) f.1 x.2)).length<=300:=(can_inBox (can_and f.rects x.rects) λu v hc=>box_cov2 f1 (cov_and.1 hc).1).2
  refine⟨⟨hF,hX⟩,λ_=>IFB.mk (λhd=>JOIN.opq λ(M:List Fc->Prop) hM=> ?_) (λhd=>hKy _ ?_)⟩
  ·have hd:(0:Int)<((canonF (comb (howS 2) f.1 x.2)).length:Int):=of_decide_eq_true hd
   have hne:andC f.rects x.rects≠[]:=λe=>by
    have e:canonF (comb (howS 2) f.1 x.2)=[]:=e
    rw[e] at hd;exact absurd hd (by decide)
   have fin:M (c++[(⟨canonF (comb (howS 2) f.1 x.2),f.2++[⟨x.1.1,x.1.2⟩]⟩:Fc)]):=by
    rw[hM]
    refine hKy _ ?_
    conv=>rhs;unfold optF
    rw[if_neg hne];rfl
   have c1:f.2.length<=4000000:=by omega
   have c2:(f.2.length+[(⟨x.1.1,x.1.2⟩:api_Place)].length) * 16<=140737488355328:=by simp only[List.length_cons,List.length_nil];omega
   have c3:(c.length+[(⟨canonF (comb (howS 2) f.1 x.2),f.2++[⟨x.1.1,x.1.2⟩]⟩:Fc)].length) * 48<=140737488355328:=by simp only[List.length_cons,List.length_nil];omega
   repeat' first
    |exact fin
    |exact c1
    |exact c2
    |exact c3
    |with_reducible apply And.intro
  ·have hd:¬(0:Int)<((canonF (comb (howS 2) f.1 x.2)).length:Int):=of_decide_eq_false hd
   have hne:andC f.rects x.rects=[]:=List.eq_nil_of_length_eq_zero (by show (canonF (comb (howS 2) f.1 x.2)).length=0;omega)
   conv=>rhs;arg 2;unfold optF
   rw[if_pos hne,List.append_nil]
 ·have hc:¬(j:Int)<b.length:=of_decide_eq_false hc
  have hj:j=b.length:=by omega
  rw[hj,List.take_length] at r3
  have hcl:c.length<=600:=by omega
  refine JOIN.opq λ(J:List Rc->List Fc->Prop) hJ=> ?_
  have hA:(∀v:api_Rect,v∈a->0<=v.1/\v.1<v.3/\v.3<=16384/\0<=v.2/\v.2<v.4/\v.4<=16384)/\a.length<=8000:=⟨ha1,by omega⟩
  have hJy:∀y:List Fc,y=facesS (L.take (k+1))->J a y:=λy hy=>by
   rw[hJ]
   dsimp only
   refine JOIN.opq λ(K:List Rc->Prop) hK=>⟨by omega,?_,?_⟩
   ·have:x.2.length<=8000:=hX.2
    omega
   ·rw[hK]
    show rec (IntKind.i64.wrap ((k:Int)+1)) _ y
    rw[wrapS (by omega)]
    refine hrec (((k+1:Nat):Int),_,y,()) ⟨k+1,rfl,hkl,?_,hy⟩ (by show L.length-((k+1:Nat):Int).toNat<L.length-(k:Int).toNat;omega)
    show a++x.2=_
    rw[List.take_succ_eq_append_getElem hkl,List.flatMap_append,<-q3,(List.getElem?_eq_some_iff.1 hx).2];simp
  have hn:(canonF (comb (howS 3) x.2 a)).length<=300:=(can_inBox (can_not x.rects a) λu v hc=>box_cov2 hx1 (cov_not.1 hc).1).2
  refine⟨⟨hX,hA⟩,λ_=>IFB.mk (λhd=>⟨by simp only[List.length_cons,List.length_nil];omega,hJy _ ?_⟩) (λhd=>hJy _ ?_)⟩
  ·have hd:(0:Int)<((canonF (comb (howS 3) x.2 a)).length:Int):=of_decide_eq_true hd
   have hne:notC x.rects a≠[]:=λe=>by
    have e:canonF (comb (howS 3) x.2 a)=[]:=e
    rw[e] at hd;exact absurd hd (by decide)
   rw[hstep]
   unfold faceStep
   rw[<-r3]
   congr 1
   conv=>rhs;unfold optF
   rw[if_neg hne];rfl
  ·have hd:¬(0:Int)<((canonF (comb (howS 3) x.2 a)).length:Int):=of_decide_eq_false hd
   have hne:notC x.rects a=[]:=List.eq_nil_of_length_eq_zero (by show (canonF (comb (howS 3) x.2 a)).length=0;omega)
   rw[hstep]
   unfold faceStep
   rw[<-r3]
   conv=>rhs;arg 2;unfold optF
   rw[if_pos hne,List.append_nil]
end RE
end Go.Proofs.YtpeggkeenboacaaGreat
set_option linter.unusedVariables false
namespace Go.Proofs.YtpeggkeenboacaaGreat
open Go.RowKit Go.Sort Go.Lib
namespace RE
namespace PL
def orI (x y:Int):Int:=if x≠0 then x else y
def cmpP (a b:api_Place):Int:=orI (Lib.compareInt a.1 b.1) (Lib.compareInt a.2 b.2)
def cmpL:List api_Place->List api_Place->Int
 |[],[]=>0
 |[],_::_=> -1
 |_::_,[]=>1
 |a::s,b::t=>if cmpP a b≠0 then cmpP a b else cmpL s t
end PL
open PL
theorem cell_row2 {W:World}{b o:Nat}{x y:Value}{t:TypeId}(h:W.heap[b]? =some (.cells #[x,y] t (0,0))):W.cell? ⟨b,0,none⟩=some x/\W.cell? ⟨b,1,none⟩=some y:=by
 constructor<;>simp[World.cell?,h]
theorem keep_alloc {W:World}{b k:Nat}{v:Value}(o:Obj)(l:b<W.heap.size)(h:W.drew.cell? ⟨b,k,none⟩=some v):(W.alloc o).drew.cell? ⟨b,k,none⟩=some v:=by
 rw[<-h]
 exact World.cell?_of_block (Below.heap_alloc W o b l)
theorem World.cell?_of_new2 {W:World}{x y:Value}(t:TypeId):(W.alloc (.cells #[x,y] t)).drew.cell? ⟨W.heap.size,0,none⟩=some x/\(W.alloc (.cells #[x,y] t)).drew.cell? ⟨W.heap.size,1,none⟩=some y:=
 cell_row2 (o:=0) (W:=(W.alloc (.cells #[x,y] t)).drew) (heap_alloc_new W _)
structure Ahd (W w':World):Prop where
 bl:Below W.heap.size W w'
 dr:W.drawn<=w'.drawn
theorem Ahd.refl (W:World):Ahd W W:=⟨Below.refl _ _,Nat.le_refl _⟩
theorem Ahd.trans {a b c:World}(h:Ahd a b)(k:Ahd b c):Ahd a c:=⟨h.bl.trans (k.bl.mono h.bl.size),Nat.le_trans h.dr k.dr⟩
theorem Ahd.alloc {W w:World}(h:Ahd W w)(o:Obj):Ahd W (w.alloc o):=⟨h.bl.alloc h.bl.size _,h.dr⟩
theorem Ahd.drew {W w:World}(h:Ahd W w):Ahd W w.drew:=⟨h.bl.drew,Nat.le_succ_of_le h.dr⟩
theorem Ahd.cell {W w:World}(h:Ahd W w){a:Addr}{v:Value}(hc:W.cell? a=some v):w.cell? a=some v:=(h.bl.cell (World.block_lt_of_cell? W a hc)).trans hc
theorem Ahd.grow {W w:World}(h:Ahd W w):∃q os,w=grow (W.drewN q) os:=by
 refine⟨w.drawn-W.drawn,w.heap.extract W.heap.size w.heap.size,?_⟩
 obtain⟨⟨h1,h2,h3,h4,h5⟩,h6⟩:=h
 have e1:w.heap=W.heap++w.heap.extract W.heap.size w.heap.size:=by
  apply Array.ext_getElem?
  intro i
  rw[Array.getElem?_append]
  split
  ·rename_i hi;exact h5 i hi
  ·rename_i hi
   rw[Array.getElem?_extract]
   by_cases hw:i<w.heap.size
   ·rw[if_pos (by omega),show W.heap.size+(i-W.heap.size)=i by omega]
   ·rw[if_neg (by omega),Array.getElem?_eq_none (by omega)]
 have e2:w.drawn=W.drawn+(w.drawn-W.drawn):=by omega
 generalize w.heap.extract W.heap.size w.heap.size=ext at *
 generalize w.drawn-W.drawn=q at *
 obtain⟨wh,wt,wd,wo,wu⟩:=w
 obtain⟨Wh,Wt,Wd,Wo,Wu⟩:=W
 simp only at h1 h2 h3 e1 e2
 subst h1 h2 h3 e1 e2
 rfl
set_option maxHeartbeats 1000000 in
theorem or_any (x y:Int)(b:Nat)(W:World)(h0:W.cell? ⟨b,0,none⟩=some (.int .i64 x))(h1:W.cell? ⟨b,1,none⟩=some (.int .i64 y)):
 Calls Tryz.prog 173 #[.slice (some ⟨b,0,none⟩) 2 2] W λe w'=>e= .returned (.int .i64 (orI x y))/\w'=W:=by
 unfold orI
 by_cases hx:x=0
 ·subst hx
  rw[if_neg (λh=>h rfl)]
  by_cases hy:y=0
  ·subst hy
   go_enter Tryz.func173,Tryz.ntmps173
   go_wp2_with fail
   refine wp_loop_rounds 3 ?_
   rw[rounds_succ]
   go_wp2
   rw[rounds_succ]
   go_wp2
   rw[rounds_succ]
   go_wp2
   go_ret
   exact⟨rfl,rfl⟩
  ·have hb:(y==0)=false:=beq_eq_false_iff_ne.2 hy
   go_enter Tryz.func173,Tryz.ntmps173
   go_wp2_with fail
   refine wp_loop_rounds 2 ?_
   rw[rounds_succ]
   go_wp2
   rw[rounds_succ]
   go_wp2
   go_ret
   exact⟨rfl,rfl⟩
 ·rw[if_pos hx]
  have hb:(x==0)=false:=beq_eq_false_iff_ne.2 hx
  go_enter Tryz.func173,Tryz.ntmps173
  go_wp2_with fail
  refine wp_loop_rounds 1 ?_
  rw[rounds_succ]
  go_wp2
  go_ret
  exact⟨rfl,rfl⟩
def CmpOK (P:Program):Prop:=∀(x y:Int)(W:World),Calls P 104 #[.int .i64 x,.int .i64 y] W λe w'=>e= .returned (.int .i64 (Lib.compareInt x y))/\w'=W
set_option maxHeartbeats 2000000 in
theorem compare_any (hc:CmpOK Tryz.prog)(a c:api_Place)(W:World):
 Calls Tryz.prog 115 #[.agg #[.int .i64 a.1,.int .i64 a.2],.agg #[.int .i64 c.1,.int .i64 c.2]] W λe w'=>e= .returned (.int .i64 (cmpP a c))/\Ahd W w':=by
 have hc:=Lib.hid hc
 unfold cmpP
 obtain⟨a1,a2⟩:=a
 obtain⟨d1,d2⟩:=c
 dsimp only
 go_enter Tryz.func115,Tryz.ntmps115
 go_upto_region 1 with fail
 obtain⟨W1,hW1⟩:∃W1,W1=(W.alloc (.cells #[.int .i64 a1,.int .i64 a2] 82)).alloc (.cells #[.int .i64 d1,.int .i64 d2] 82):=⟨_,rfl⟩
 have h1:=Lib.hid (show Ahd W W1 by rw[hW1];exact ((Ahd.refl W).alloc _).alloc _)
 have k1:W1.heap[W.heap.size]? =some (.cells #[.int .i64 a1,.int .i64 a2] 82 (0,0)):=by rw[hW1,Below.heap_alloc _ _ _ (by simp)];exact heap_alloc_new W _
 have k2:W1.heap[(W.alloc (.cells #[.int .i64 a1,.int .i64 a2] 82)).heap.size]? =some (.cells #[.int .i64 d1,.int .i64 d2] 82 (0,0)):=by rw[hW1];exact heap_alloc_new _ _
 rw[<-hW1]
 have e2:(W.alloc (.cells #[.int .i64 a1,.int .i64 a2] 82)).heap.size=W.heap.size+1:=by simp
 rw[e2] at k2
 obtain⟨b1,hb1⟩:∃b1,W.heap.size=b1:=⟨_,rfl⟩
 rw[hb1] at k1 k2 ⊢
 have hb1':=Lib.hid hb1
 have d1':W1.drew.cell? ⟨b1,0,none⟩=some (.int .i64 a1):=(cell_row2 (o:=0) k1).1
 have d2':W1.drew.cell? ⟨b1,1,none⟩=some (.int .i64 a2):=(cell_row2 (o:=0) k1).2
 have d3':W1.drew.cell? ⟨b1+1,0,none⟩=some (.int .i64 d1):=(cell_row2 (o:=0) k2).1
 have d4':W1.drew.cell? ⟨b1+1,1,none⟩=some (.int .i64 d2):=(cell_row2 (o:=0) k2).2
 have hor:=Lib.hid or_any
 have l1:b1<W1.heap.size:=(Array.getElem?_eq_some_iff.1 k1).1
 have l2:b1+1<W1.heap.size:=(Array.getElem?_eq_some_iff.1 k2).1
 clear hW1 k1 k2 e2 hb1
 go_region_held3 (λW'=>W'.cell? ⟨b1,0,none⟩=some (.int .i64 a1)/\W'.cell? ⟨b1,1,none⟩=some (.int .i64 a2)/\W'.cell? ⟨b1+1,0,none⟩=some (.int .i64 d1)/\W'.cell? ⟨b1+1,1,none⟩=some (.int .i64 d2)) (first|exact⟨keep_alloc _ l1 d1',keep_alloc _ l1 d2',keep_alloc _ l2 d3',keep_alloc _ l2 d4'⟩|(refine⟨keep_alloc _ l1 ?_,keep_alloc _ l1 ?_,keep_alloc _ l2 ?_,keep_alloc _ l2 ?_⟩<;>assumption)|go_keep) (first|(go_at_call 104;refine (hc.out _ _ _).mono ?_;rintro e w' ⟨rfl,rfl⟩)|(go_at_call 173;refine (hor.out _ _ _ _ (World.cell?_of_new2 _).1 (World.cell?_of_new2 _).2).mono ?_;rintro e w' ⟨rfl,rfl⟩))
 go_wp2
 go_ret
 exact⟨rfl,((h1.out).alloc _).drew⟩
theorem drop_nil {α:Type}{l:List α}{k:Nat}(h:l.length<=k):l.drop k=[]:=List.drop_eq_nil_of_le h
theorem cmpL_drop {l m:List api_Place}{k:Nat}(h1:k<l.length)(h2:k<m.length):cmpL (l.drop k) (m.drop k)=if cmpP (ix l (k:Int)) (ix m (k:Int))≠0 then cmpP (ix l (k:Int)) (ix m (k:Int)) else cmpL (l.drop (k+1)) (m.drop (k+1)):=by
 rw[List.drop_eq_getElem_cons h1,List.drop_eq_getElem_cons h2,ix_lt h1,ix_lt h2,cmpL]
set_option maxHeartbeats 4000000 in
theorem compF_any (hc:CmpOK Tryz.prog)(l m:List api_Place)(b1 o1 c1 b2 o2 c2:Nat)(W:World)(hl:l.length<=1000000000)(hm:m.length<=1000000000)
 (h1:∀i,i<l.length->W.cell? ⟨b1,o1+i * 2,none⟩=some (.int .i64 (ix l (i:Int)).1)/\W.cell? ⟨b1,o1+i * 2+1,none⟩=some (.int .i64 (ix l (i:Int)).2))
 (h2:∀i,i<m.length->W.cell? ⟨b2,o2+i * 2,none⟩=some (.int .i64 (ix m (i:Int)).1)/\W.cell? ⟨b2,o2+i * 2+1,none⟩=some (.int .i64 (ix m (i:Int)).2)):
 Calls Tryz.prog 114 #[.slice (some ⟨b1,o1,none⟩) l.length c1,.slice (some ⟨b2,o2,none⟩) m.length c2,.func (.func 115) #[] #[]] W λe w'=>e= .returned (.int .i64 (cmpL l m))/\Ahd W w':=by
 obtain⟨n,hn⟩:∃n,l.length=n:=⟨_,rfl⟩
 obtain⟨k2,hk2⟩:∃n,m.length=n:=⟨_,rfl⟩
 rw[hn,hk2]
 rw[hn] at hl h1
 rw[hk2] at hm h2
 have hn':=Lib.hid hn
 have hk2':=Lib.hid hk2
 have h1':=Lib.hid h1
 have h2':=Lib.hid h2
 obtain⟨r,hr⟩:∃r,cmpL l m=r:=⟨_,rfl⟩
 rw[hr]
 have hr':=Lib.hid hr
 have hca:=Lib.hid (compare_any hc)
 clear hn hk2 h1 h2 hr hc
 go_enter Tryz.func114,Tryz.ntmps114
 go_wp2_with fail
 go_loopw [13] (λx wr=>∃k:Nat,k<=n/\k<=k2/\x= .int .i64 k/\cmpL (l.drop k) (m.drop k)=r/\Ahd W wr) (λx _=>n-(intOf x).toNat)
 case atStart=>exact⟨0,by omega,by omega,rfl,hr'.out,Ahd.refl _⟩
 case round=>
  obtain⟨k,hk,hkk,rfl,hd,hA⟩:=hrel
  have hd':=Lib.hid hd
  have hA':=Lib.hid hA
  clear hd hA
  by_cases hlt:k<n
  ·obtain⟨a,ha⟩:∃a,ix l (k:Int)=a:=⟨_,rfl⟩
   obtain⟨q1,q2⟩:=h1'.out k hlt
   rw[ha] at q1 q2
   have q1:=hA'.out.cell q1
   have q2:=hA'.out.cell q2
   have ha':=Lib.hid ha
   have hlx:=Lib.hid hlt
   clear ha
   by_cases hlt2:k<k2
   ·obtain⟨c,hc⟩:∃c,ix m (k:Int)=c:=⟨_,rfl⟩
    obtain⟨q3,q4⟩:=h2'.out k hlt2
    rw[hc] at q3 q4
    have q3:=hA'.out.cell q3
    have q4:=hA'.out.cell q4
    have hc':=Lib.hid hc
    have hlx2:=Lib.hid hlt2
    clear hc
    go_upto_region 6 with fail
    obtain⟨W1,hW1⟩:∃W1,W1=wr.alloc (.cells #[.int .i64 a.1,.int .i64 a.2] 82):=⟨_,rfl⟩
    have g1:Ahd wr W1:=by rw[hW1];exact (Ahd.refl _).alloc _
    have k1:W1.heap[wr.heap.size]? =some (.cells #[.int .i64 a.1,.int .i64 a.2] 82 (0,0)):=by rw[hW1];exact heap_alloc_new wr _
    rw[<-hW1]
    obtain⟨b7,hb7⟩:∃b7,wr.heap.size=b7:=⟨_,rfl⟩
    rw[hb7] at k1 ⊢
    have l7:=(Array.getElem?_eq_some_iff.1 k1).1
    have q5:=g1.cell q3
    have q6:=g1.cell q4
    have g1':=Lib.hid (hA'.out.trans g1)
    clear hW1 g1 q1 q2 q3 q4
    go_upto_region 7 with fail
    obtain⟨W2,hW2⟩:∃W2,W2=W1.alloc (.cells #[.int .i64 c.1,.int .i64 c.2] 82):=⟨_,rfl⟩
    have g2:Ahd W1 W2:=by rw[hW2];exact (Ahd.refl _).alloc _
    have k3:W2.heap[W1.heap.size]? =some (.cells #[.int .i64 c.1,.int .i64 c.2] 82 (0,0)):=by rw[hW2];exact heap_alloc_new W1 _
    rw[<-hW2]
    obtain⟨b8,hb8⟩:∃b8,W1.heap.size=b8:=⟨_,rfl⟩
    rw[hb8] at k3 ⊢
    obtain⟨r1,r2⟩:=cell_row2 (o:=0) k1
    obtain⟨r3,r4⟩:=cell_row2 (o:=0) k3
    have r1:=g2.cell r1
    have r2:=g2.cell r2
    have g2':=Lib.hid (g1'.out.trans g2)
    obtain⟨z,hz⟩:∃z,cmpP a c=z:=⟨_,rfl⟩
    have hz':=Lib.hid hz
    have hcz:∀W3,Calls Tryz.prog 115 #[.agg #[.int .i64 a.1,.int .i64 a.2],.agg #[.int .i64 c.1,.int .i64 c.2]] W3 λe w'=>e= .returned (.int .i64 z)/\Ahd W3 w':=λW3=>hz ▸ hca.out a c W3
    have hcz':=Lib.hid hcz
    have hstep:=Lib.hid (show r=if z≠0 then z else cmpL (l.drop (k+1)) (m.drop (k+1)) by
     rw[<-hd'.out,cmpL_drop (by rw[hn'.out];exact hlx.out) (by rw[hk2'.out];exact hlx2.out),ha'.out,hc'.out,hz])
    clear hW2 g2 k1 k3 hb8 hz hcz q5 q6
    by_cases hz0:z=0
    ·subst hz0
     go_wp2_with (go_at_call 115;refine (hcz'.out _).mono ?_;rintro e W4 ⟨rfl,hA4⟩)
     have hA5:=Lib.hid (g2'.out.trans hA4)
     clear hA4
     go_wp2
     go_round
     case rel=>exact⟨k+1,hlx.out,hlx2.out,by go_num,by rw[hstep.out,if_neg (λh=>h rfl)],hA5.out⟩
     case measure=>have:=hlx.out;simp[intOf];omega
    ·have hb:(z==0)=false:=beq_eq_false_iff_ne.2 hz0
     have hr2:r=z:=by rw[hstep.out,if_pos hz0]
     have hr2':=Lib.hid hr2
     clear hr2
     go_wp2_with (go_at_call 115;refine (hcz'.out _).mono ?_;rintro e W4 ⟨rfl,hA4⟩)
     have hA5:=Lib.hid (g2'.out.trans hA4)
     clear hA4
     go_wp2
     go_ret
     exact⟨by rw[hr2'.out];rfl,hA5.out⟩
   ·have hb:k2<=k:=by omega
    have hr2:=Lib.hid (show r=1 by
     rw[<-hd'.out,List.drop_eq_getElem_cons (by rw[hn'.out];exact hlx.out),drop_nil (l:=m) (by rw[hk2'.out];exact hb)];rfl)
    go_wp2
    go_ret
    exact⟨by rw[hr2.out];rfl,(hA'.out).alloc _⟩
  ·have hkn:k=n:=by omega
   have hl1:l.drop k=[]:=drop_nil (l:=l) (by rw[hn'.out];omega)
   subst hkn
   by_cases hb:k<k2
   ·have hr2:=Lib.hid (show r= -1 by
     rw[<-hd'.out,hl1,List.drop_eq_getElem_cons (by rw[hk2'.out];exact hb)];rfl)
    clear hl1
    go_wp2
    go_ret
    exact⟨by rw[hr2.out];rfl,hA'.out⟩
   ·have hr2:=Lib.hid (show r=0 by
     rw[<-hd'.out,hl1,drop_nil (l:=m) (by rw[hk2'.out];omega)];rfl)
    clear hl1
    go_wp2
    go_ret
    exact⟨by rw[hr2.out];rfl,hA'.out⟩
set_option maxHeartbeats 2000000 in
theorem cmpD_any (hc:CmpOK Tryz.prog)(u v:Value)(l m:List api_Place)(b1 o1 c1 b2 o2 c2:Nat)(W:World)(hl:l.length<=1000000000)(hm:m.length<=1000000000)
 (h1:∀i,i<l.length->W.cell? ⟨b1,o1+i * 2,none⟩=some (.int .i64 (ix l (i:Int)).1)/\W.cell? ⟨b1,o1+i * 2+1,none⟩=some (.int .i64 (ix l (i:Int)).2))
 (h2:∀i,i<m.length->W.cell? ⟨b2,o2+i * 2,none⟩=some (.int .i64 (ix m (i:Int)).1)/\W.cell? ⟨b2,o2+i * 2+1,none⟩=some (.int .i64 (ix m (i:Int)).2)):
 Calls Tryz.prog 113 #[.agg #[u,.slice (some ⟨b1,o1,none⟩) l.length c1],.agg #[v,.slice (some ⟨b2,o2,none⟩) m.length c2]] W λe w'=>e= .returned (.int .i64 (cmpL l m))/\Ahd W w':=by
 obtain⟨n,hn⟩:∃n,l.length=n:=⟨_,rfl⟩
 obtain⟨k2,hk2⟩:∃n,m.length=n:=⟨_,rfl⟩
 have hcf:=Lib.hid (λ(W':World) (hA:Ahd W W')=>compF_any hc l m b1 o1 c1 b2 o2 c2 W' hl hm (λi hi=>⟨hA.cell (h1 i hi).1,hA.cell (h1 i hi).2⟩) λi hi=>⟨hA.cell (h2 i hi).1,hA.cell (h2 i hi).2⟩)
 rw[hn,hk2] at hcf ⊢
 clear hn hk2 h1 h2 hc hl hm
 go_enter Tryz.func113,Tryz.ntmps113
 go_upto_region 1 with fail
 obtain⟨W1,hW1⟩:∃W1,W1=(W.alloc (.cells #[u,.slice (some ⟨b1,o1,none⟩) n c1] 87)).alloc (.cells #[v,.slice (some ⟨b2,o2,none⟩) k2 c2] 87):=⟨_,rfl⟩
 have g1:=Lib.hid (show Ahd W W1 by rw[hW1];exact ((Ahd.refl W).alloc _).alloc _)
 have k1:W1.heap[W.heap.size]? =some (.cells #[u,.slice (some ⟨b1,o1,none⟩) n c1] 87 (0,0)):=by rw[hW1,Below.heap_alloc _ _ _ (by simp)];exact heap_alloc_new W _
 have k3:W1.heap[(W.alloc (.cells #[u,.slice (some ⟨b1,o1,none⟩) n c1] 87)).heap.size]? =some (.cells #[v,.slice (some ⟨b2,o2,none⟩) k2 c2] 87 (0,0)):=by rw[hW1];exact heap_alloc_new _ _
 rw[<-hW1]
 have e2:(W.alloc (.cells #[u,.slice (some ⟨b1,o1,none⟩) n c1] 87)).heap.size=W.heap.size+1:=by simp
 rw[e2] at k3
 obtain⟨b7,hb7⟩:∃b1,W.heap.size=b1:=⟨_,rfl⟩
 rw[hb7] at k1 k3 ⊢
 obtain⟨r1,r2⟩:=cell_row2 (o:=0) k1
 obtain⟨r3,r4⟩:=cell_row2 (o:=0) k3
 clear hW1 k1 k3 e2 hb7
 go_wp2_with (go_at_call 114;refine (hcf.out _ g1.out).mono ?_;rintro e W4 ⟨rfl,hA4⟩)
 have hA5:=Lib.hid (g1.out.trans hA4)
 clear hA4
 go_wp2
 go_ret
 exact⟨rfl,hA5.out⟩
end RE
end Go.Proofs.YtpeggkeenboacaaGreat
namespace Go.Proofs
open Go.Shelf
def Tryz.sortDp_ren:Go.Shelf.Ren:=⟨λ|6=>112|15=>172|14=>171|28=>213|29=>214|20=>205|21=>206|22=>207|23=>208|24=>209|25=>210|26=>211|27=>212|46=>232|47=>233|48=>234|49=>235|50=>236|57=>259|n=>n,λ|22=>80|24=>87|25=>168|3=>3|39=>214|0=>0|53=>250|55=>252|4=>4|46=>243|45=>242|50=>247|5=>5|9=>9|66=>265|70=>269|76=>285|77=>119|n=>n,λ|n=>n⟩
theorem Tryz.sortDp:Go.Proofs.SlLaysF0.n6 Tryz.prog Tryz.sortDp_ren:={
 mixed:=by kernel_rfl
 f6:=⟨Tryz.f112.name,by decide,Tryz.func112.trans (congrArg some (by kernel_rfl))⟩
 f14:=⟨Tryz.f171.name,by decide,Tryz.func171.trans (congrArg some (by kernel_rfl))⟩
 f15:=Tryz.func172.trans (congrArg some (by kernel_rfl))
 f20:=⟨Tryz.f205.name,by decide,Tryz.func205.trans (congrArg some (by kernel_rfl))⟩
 f21:=⟨Tryz.f206.name,by decide,Tryz.func206.trans (congrArg some (by kernel_rfl))⟩
 f22:=⟨Tryz.f207.name,by decide,Tryz.func207.trans (congrArg some (by kernel_rfl))⟩
 f23:=⟨Tryz.f208.name,by decide,Tryz.func208.trans (congrArg some (by kernel_rfl))⟩
 f24:=⟨Tryz.f209.name,by decide,Tryz.func209.trans (congrArg some (by kernel_rfl))⟩
 f25:=⟨Tryz.f210.name,by decide,Tryz.func210.trans (congrArg some (by kernel_rfl))⟩
 f26:=⟨Tryz.f211.name,by decide,Tryz.func211.trans (congrArg some (by kernel_rfl))⟩
 f27:=⟨Tryz.f212.name,by decide,Tryz.func212.trans (congrArg some (by kernel_rfl))⟩
 f28:=Tryz.func213.trans (congrArg some (by kernel_rfl))
 f29:=Tryz.func214.trans (congrArg some (by kernel_rfl))
 f46:=⟨Tryz.f232.name,by decide,Tryz.func232.trans (congrArg some (by kernel_rfl))⟩
 f47:=Tryz.func233.trans (congrArg some (by kernel_rfl))
 f48:=Tryz.func234.trans (congrArg some (by kernel_rfl))
 f49:=⟨Tryz.f235.name,by decide,Tryz.func235.trans (congrArg some (by kernel_rfl))⟩
 f50:=⟨Tryz.f236.name,by decide,Tryz.func236.trans (congrArg some (by kernel_rfl))⟩
 f57:=⟨Tryz.f259.name,by decide,Tryz.func259.trans (congrArg some (by kernel_rfl))⟩
 t0:=Tryz.underlying0
 a0:=Tryz.isAgg0
 z0:=Tryz.sizeOf0
 v0:=Tryz.zeroValue0
 t3:=Tryz.underlying3
 a3:=Tryz.isAgg3
 z3:=Tryz.sizeOf3
 v3:=Tryz.zeroValue3
 t4:=Tryz.underlying4
 a4:=Tryz.isAgg4
 z4:=Tryz.sizeOf4
 v4:=Tryz.zeroValue4
 t5:=Tryz.underlying5
 a5:=Tryz.isAgg5
 z5:=Tryz.sizeOf5
 v5:=Tryz.zeroValue5
 t9:=Tryz.underlying9
 a9:=Tryz.isAgg9
 z9:=Tryz.sizeOf9
 v9:=Tryz.zeroValue9
 t22:=Tryz.underlying80
 a22:=Tryz.isAgg80
 z22:=Tryz.sizeOf80
 v22:=Tryz.zeroValue80
 t25:=Tryz.underlying168
 a25:=Tryz.isAgg168
 z25:=Tryz.sizeOf168
 v25:=Tryz.zeroValue168
 t39:=Tryz.underlying214
 a39:=Tryz.isAgg214
 z39:=Tryz.sizeOf214
 v39:=Tryz.zeroValue214
 t45:=Tryz.underlying242
 a45:=Tryz.isAgg242
 z45:=Tryz.sizeOf242
 v45:=Tryz.zeroValue242
 t46:=Tryz.underlying243
 a46:=Tryz.isAgg243
 z46:=Tryz.sizeOf243
 v46:=Tryz.zeroValue243
 t50:=Tryz.underlying247
 a50:=Tryz.isAgg247
 z50:=Tryz.sizeOf247
 v50:=Tryz.zeroValue247
 t53:=Tryz.underlying250
 a53:=Tryz.isAgg250
 z53:=Tryz.sizeOf250
 v53:=Tryz.zeroValue250
 t55:=Tryz.underlying252
 a55:=Tryz.isAgg252
 z55:=Tryz.sizeOf252
 v55:=Tryz.zeroValue252
 t66:=Tryz.underlying265
 a66:=Tryz.isAgg265
 z66:=Tryz.sizeOf265
 v66:=Tryz.zeroValue265
 t70:=Tryz.underlying269
 a70:=Tryz.isAgg269
 z70:=Tryz.sizeOf269
 v70:=Tryz.zeroValue269
 t76:=Tryz.underlying285
 a76:=Tryz.isAgg285
 z76:=Tryz.sizeOf285
 v76:=Tryz.zeroValue285
 t77:=Tryz.underlying119
 a77:=Tryz.isAgg119
 z77:=Tryz.sizeOf119
 v77:=Tryz.zeroValue119}
def Tryz.sortAp_ren:Go.Shelf.Ren:=⟨λ|6=>127|15=>172|14=>183|28=>213|29=>214|20=>217|21=>218|22=>219|23=>220|24=>221|25=>222|26=>223|27=>224|46=>237|47=>233|48=>234|49=>238|50=>239|57=>260|n=>n,λ|22=>53|24=>59|25=>182|3=>3|39=>214|0=>0|53=>250|55=>252|4=>4|46=>243|45=>242|50=>247|5=>5|9=>9|66=>265|70=>269|76=>285|77=>119|n=>n,λ|n=>n⟩
theorem Tryz.sortAp:Go.Proofs.SlLaysF0.n6 Tryz.prog Tryz.sortAp_ren:={
 mixed:=by kernel_rfl
 f6:=⟨Tryz.f127.name,by decide,Tryz.func127.trans (congrArg some (by kernel_rfl))⟩
 f14:=⟨Tryz.f183.name,by decide,Tryz.func183.trans (congrArg some (by kernel_rfl))⟩
 f15:=Tryz.func172.trans (congrArg some (by kernel_rfl))
 f20:=⟨Tryz.f217.name,by decide,Tryz.func217.trans (congrArg some (by kernel_rfl))⟩
 f21:=⟨Tryz.f218.name,by decide,Tryz.func218.trans (congrArg some (by kernel_rfl))⟩
 f22:=⟨Tryz.f219.name,by decide,Tryz.func219.trans (congrArg some (by kernel_rfl))⟩
 f23:=⟨Tryz.f220.name,by decide,Tryz.func220.trans (congrArg some (by kernel_rfl))⟩
 f24:=⟨Tryz.f221.name,by decide,Tryz.func221.trans (congrArg some (by kernel_rfl))⟩
 f25:=⟨Tryz.f222.name,by decide,Tryz.func222.trans (congrArg some (by kernel_rfl))⟩
 f26:=⟨Tryz.f223.name,by decide,Tryz.func223.trans (congrArg some (by kernel_rfl))⟩
 f27:=⟨Tryz.f224.name,by decide,Tryz.func224.trans (congrArg some (by kernel_rfl))⟩
 f28:=Tryz.func213.trans (congrArg some (by kernel_rfl))
 f29:=Tryz.func214.trans (congrArg some (by kernel_rfl))
 f46:=⟨Tryz.f237.name,by decide,Tryz.func237.trans (congrArg some (by kernel_rfl))⟩
 f47:=Tryz.func233.trans (congrArg some (by kernel_rfl))
 f48:=Tryz.func234.trans (congrArg some (by kernel_rfl))
 f49:=⟨Tryz.f238.name,by decide,Tryz.func238.trans (congrArg some (by kernel_rfl))⟩
 f50:=⟨Tryz.f239.name,by decide,Tryz.func239.trans (congrArg some (by kernel_rfl))⟩
 f57:=⟨Tryz.f260.name,by decide,Tryz.func260.trans (congrArg some (by kernel_rfl))⟩
 t0:=Tryz.underlying0
 a0:=Tryz.isAgg0
 z0:=Tryz.sizeOf0
 v0:=Tryz.zeroValue0
 t3:=Tryz.underlying3
 a3:=Tryz.isAgg3
 z3:=Tryz.sizeOf3
 v3:=Tryz.zeroValue3
 t4:=Tryz.underlying4
 a4:=Tryz.isAgg4
 z4:=Tryz.sizeOf4
 v4:=Tryz.zeroValue4
 t5:=Tryz.underlying5
 a5:=Tryz.isAgg5
 z5:=Tryz.sizeOf5
 v5:=Tryz.zeroValue5
 t9:=Tryz.underlying9
 a9:=Tryz.isAgg9
 z9:=Tryz.sizeOf9
 v9:=Tryz.zeroValue9
 t22:=Tryz.underlying53
 a22:=Tryz.isAgg53
 z22:=Tryz.sizeOf53
 v22:=Tryz.zeroValue53
 t25:=Tryz.underlying182
 a25:=Tryz.isAgg182
 z25:=Tryz.sizeOf182
 v25:=Tryz.zeroValue182
 t39:=Tryz.underlying214
 a39:=Tryz.isAgg214
 z39:=Tryz.sizeOf214
 v39:=Tryz.zeroValue214
 t45:=Tryz.underlying242
 a45:=Tryz.isAgg242
 z45:=Tryz.sizeOf242
 v45:=Tryz.zeroValue242
 t46:=Tryz.underlying243
 a46:=Tryz.isAgg243
 z46:=Tryz.sizeOf243
 v46:=Tryz.zeroValue243
 t50:=Tryz.underlying247
 a50:=Tryz.isAgg247
 z50:=Tryz.sizeOf247
 v50:=Tryz.zeroValue247
 t53:=Tryz.underlying250
 a53:=Tryz.isAgg250
 z53:=Tryz.sizeOf250
 v53:=Tryz.zeroValue250
 t55:=Tryz.underlying252
 a55:=Tryz.isAgg252
 z55:=Tryz.sizeOf252
 v55:=Tryz.zeroValue252
 t66:=Tryz.underlying265
 a66:=Tryz.isAgg265
 z66:=Tryz.sizeOf265
 v66:=Tryz.zeroValue265
 t70:=Tryz.underlying269
 a70:=Tryz.isAgg269
 z70:=Tryz.sizeOf269
 v70:=Tryz.zeroValue269
 t76:=Tryz.underlying285
 a76:=Tryz.isAgg285
 z76:=Tryz.sizeOf285
 v76:=Tryz.zeroValue285
 t77:=Tryz.underlying119
 a77:=Tryz.isAgg119
 z77:=Tryz.sizeOf119
 v77:=Tryz.zeroValue119}
end Go.Proofs
namespace Go.Proofs.YtpeggkeenboacaaGreat
namespace RE
open Go.RowKit
open Go.Sort
open Go.Lib
open PL
theorem cmpOK:CmpOK Tryz.prog:=λx y W=>AnyG.cmp_Compare_int Tryz.cmpSp x y W
theorem cmpI_lt (x y:Int):(Lib.compareInt x y<0↔x<y)/\(Lib.compareInt x y=0↔x=y):=by
 unfold Lib.compareInt
 by_cases h1:x<y
 ·rw[if_pos h1]
  refine⟨⟨λ_=>h1,λ_=>by decide⟩,λh=>absurd h (by decide),λh=>by omega⟩
 ·rw[if_neg h1]
  by_cases h2:x>y
  ·rw[if_pos h2]
   exact⟨⟨λh=>absurd h (by decide),λh=>by omega⟩,λh=>absurd h (by decide),λh=>by omega⟩
  ·rw[if_neg h2]
   exact⟨⟨λh=>absurd h (by decide),λh=>by omega⟩,λh=>by omega,λh=>rfl⟩
theorem cmpL_bef:∀{a b:List api_Place},cmpL a b<0↔befP a b=true
 |[],[]=>by unfold cmpL befP;decide
 |[],_::_=>by unfold cmpL befP;decide
 |_::_,[]=>by unfold cmpL befP;decide
 |a::s,b::t=>by
  have ih:=cmpL_bef (a:=s) (b:=t)
  obtain⟨p1,p2⟩:=cmpI_lt a.1 b.1
  obtain⟨q1,q2⟩:=cmpI_lt a.2 b.2
  unfold cmpL befP cmpP
  have o1:Lib.compareInt a.1 b.1≠0->orI (Lib.compareInt a.1 b.1) (Lib.compareInt a.2 b.2)=Lib.compareInt a.1 b.1:=λh=>if_pos h
  have o2:Lib.compareInt a.1 b.1=0->orI (Lib.compareInt a.1 b.1) (Lib.compareInt a.2 b.2)=Lib.compareInt a.2 b.2:=λh=>if_neg (not_not_intro h)
  by_cases h1:a.1<b.1
  ·have h0:=p1.2 h1
   have h2:Lib.compareInt a.1 b.1≠0:=by omega
   rw[if_pos h1,o1 h2,if_pos h2]
   exact⟨λ_=>rfl,λ_=>h0⟩
  ·by_cases h3:b.1<a.1
   ·have h2:Lib.compareInt a.1 b.1≠0:=λe=>by have:=p2.1 e;omega
    rw[if_neg h1,if_pos h3,o1 h2,if_pos h2]
    exact⟨λh=>absurd (p1.1 h) h1,λh=>by cases h⟩
   ·have h2:Lib.compareInt a.1 b.1=0:=p2.2 (by omega)
    rw[if_neg h1,if_neg h3,o2 h2]
    by_cases h4:a.2<b.2
    ·have h0:=q1.2 h4
     have h5:Lib.compareInt a.2 b.2≠0:=by omega
     rw[if_pos h4,if_pos h5]
     exact⟨λ_=>rfl,λ_=>h0⟩
    ·by_cases h6:b.2<a.2
     ·have h5:Lib.compareInt a.2 b.2≠0:=λe=>by have:=q2.1 e;omega
      rw[if_neg h4,if_pos h6,if_pos h5]
      exact⟨λh=>absurd (q1.1 h) h4,λh=>by cases h⟩
     ·have h5:Lib.compareInt a.2 b.2=0:=q2.2 (by omega)
      rw[if_neg h4,if_neg h6,if_neg (not_not_intro h5)]
      exact ih
def DblAt (S:Cells)(w:World)(q:Value×Value×api_Double):Prop:=
 q.1.oneCell'=true/\q.2.1.oneCell'=true/\Rd S w (.sl (.st .api_Rect) q.2.2.Region.Rects) q.1/\Rd S w (.sl (.st .api_Place) q.2.2.Claims) q.2.1/\q.2.2.Claims≠[]/\q.2.2.Claims.length<=1000000000
abbrev Al (S:Cells)(w:World):Type:={q:Value×Value×api_Double//DblAt S w q}
def encD {S:Cells}{w:World}(x:Al S w):List Value:=[x.1.1,x.1.2.1]
def cfD {S:Cells}{w:World}(x y:Al S w):Int:=cmpL x.1.2.2.Claims y.1.2.2.Claims
theorem ltD {S:Cells}{w:World}(x y:Al S w):ltOf cfD x y=befP x.1.2.2.Claims y.1.2.2.Claims:=by
 refine bool_iff ?_
 unfold ltOf cfD
 rw[decide_eq_true_iff]
 exact cmpL_bef
theorem swoD {S:Cells}{w:World}:SWO (ltOf (cfD (S:=S) (w:=w))) where
 irrefl x:=by rw[ltD];exact bef_irr _
 trans x y z h1 h2:=by rw[ltD] at *;exact bef_trans h1 h2
 ntrans x y z h1 h2:=by
  rw[ltD] at *
  cases e:befP x.1.2.2.Claims z.1.2.2.Claims
  ·rfl
  ·exfalso
   by_cases e1:x.1.2.2.Claims=y.1.2.2.Claims
   ·rw[e1] at e;rw[e] at h2;cases h2
   ·rcases bef_tri e1 with h|h
    ·rw[h] at h1;cases h1
    ·have:=bef_trans h e
     rw[this] at h2;cases h2
theorem placeCells {S:Cells}{w:World}{l:List api_Place}{u:Value}(h:Rd S w (.sl (.st .api_Place) l) u)(hne:l≠[]):∃b off cap,u= .slice (some ⟨b,off,none⟩) l.length cap/\
 ∀i,i<l.length->(S b (off+i * 2)/\w.cell? ⟨b,off+i * 2,none⟩=some (.int .i64 (ix l (i:Int)).1))/\S b (off+i * 2+1)/\w.cell? ⟨b,off+i * 2+1,none⟩=some (.int .i64 (ix l (i:Int)).2):=by
 obtain⟨ad,cap,b,off,f,rfl,hc1,hc2,ha,hx1,hx2⟩:=h.slInv
 rcases ha with ha|ha
 ·exact absurd ha hne
 subst ha
 refine⟨b,off,cap,rfl,λi hi=> ?_⟩
 have h0:=hx1 i hi 0 (by decide)
 have h1:=hx1 i hi 1 (by decide)
 have e0:=rd_v (hx2 i l[i] 0 (.v (.int .i64 l[i].1)) (List.getElem?_eq_getElem hi) rfl)
 have e1:=rd_v (hx2 i l[i] 1 (.v (.int .i64 l[i].2)) (List.getElem?_eq_getElem hi) rfl)
 rw[e0] at h0
 rw[e1] at h1
 rw[ix_lt hi]
 exact⟨⟨h0.1,h0.2.1⟩,h1.1,h1.2.1⟩
theorem cmpLaysD {S:Cells}{w:World}[Inhabited (Al S w)](g:Nat)(hS:∀b o,S b o->b<w.heap.size)(hg:∀o,¬S g o)(size:Nat):CmpLays Tryz.prog 113 #[] (encD (S:=S) (w:=w)) 2 cfD g 0 size w:=by
 intro m os dk hdk x y
 obtain⟨⟨u1,u2,dx⟩,x1,x2,x3,x4,x5,x6⟩:=x
 obtain⟨⟨v1,v2,dy⟩,y1,y2,y3,y4,y5,y6⟩:=y
 dsimp only at x1 x2 x3 x4 x5 x6 y1 y2 y3 y4 y5 y6
 obtain⟨b1,o1,c1,rfl,h1⟩:=placeCells x4 x5
 obtain⟨b2,o2,c2,rfl,h2⟩:=placeCells y4 y5
 have hG:=grownBy_sortedV (w:=w) (n:=m) (g:=g) (os:=os) (flatK encD 2 dk)
 have hk:∀b o,S b o->(sortWorldK encD 2 w g 0 m dk os).cell? ⟨b,o,none⟩=w.cell? ⟨b,o,none⟩:=λb o hs=>World.cell?_of_block (hG.block b (hS b o hs) (λe=>hg o (by injection e with e;rw[<-e];exact hs)))
 refine (cmpD_any cmpOK u1 v1 dx.Claims dy.Claims b1 o1 c1 b2 o2 c2 (sortWorldK encD 2 w g 0 m dk os) x6 y6 (λi hi=> ?_) λi hi=> ?_).mono ?_
 ·obtain⟨⟨s1,e1⟩,s2,e2⟩:=h1 i hi
  exact⟨(hk _ _ s1).trans e1,(hk _ _ s2).trans e2⟩
 ·obtain⟨⟨s1,e1⟩,s2,e2⟩:=h2 i hi
  exact⟨(hk _ _ s1).trans e1,(hk _ _ s2).trans e2⟩
 ·rintro e w' ⟨rfl,hA⟩
  exact⟨rfl,hA.grow⟩
theorem dbl_row {S:Cells}{w:World}{cur:Array Value}:∀(l:List api_Double)(k:Nat),(∀d∈l,d.Claims≠[]/\d.Claims.length<=1000000000)->
 (∀(i:Nat)(x:api_Double),l[i]? =some x->∀(j:Nat)(c:D),(enc (.st .api_Double) x)[j]? =some c->∃u:Value,cur[(k+i) * 2+j]? =some u/\u.oneCell'=true/\Rd S w c u)->
 ∃dl:List (Al S w),dl.map (λq=>q.1.2.2)=l/\∀(i:Nat)(q:Al S w),dl[i]? =some q->cur[(k+i) * 2]? =some q.1.1/\cur[(k+i) * 2+1]? =some q.1.2.1
 |[],k,_,_=>⟨[],rfl,λi q h=>by simp at h⟩
 |x::l,k,hc,h=>by
  obtain⟨dl,h1,h2⟩:=dbl_row l (k+1) (λd hd=>hc d (List.mem_cons_of_mem _ hd)) λi y hy j c hcj=>by
   have:=h (i+1) y (by simpa using hy) j c hcj
   rwa [show k+(i+1)=k+1+i by omega] at this
  obtain⟨u1,a1,a2,a3⟩:=h 0 x rfl 0 (.sl (.st .api_Rect) x.Region.Rects) rfl
  obtain⟨u2,b1,b2,b3⟩:=h 0 x rfl 1 (.sl (.st .api_Place) x.Claims) rfl
  obtain⟨c1,c2⟩:=hc x (List.mem_cons_self ..)
  refine⟨⟨(u1,u2,x),a2,b2,a3,b3,c1,c2⟩::dl,by rw[List.map_cons,h1],λi q hq=> ?_⟩
  match i,hq with
  |0,hq=>
   have hq:some _=some q:=hq
   injection hq with hq
   subst hq
   exact⟨a1,b1⟩
  |i+1,hq=>
   have:=h2 i q (by simpa using hq)
   rwa [show k+1+i=k+(i+1) by omega] at this
def psortD_sp:Spec3:=⟨112,.st .api_Double,some 113,λ(l:List api_Double) post=>(l.length<=1000000/\∀d∈l,d.Claims≠[]/\d.Claims.length<=1000000000)/\∀l2,l2.Perm l->l2.Pairwise (λa b=>befP b.Claims a.Claims=false)->post l2⟩
theorem psortD_row (l:List api_Double)(post:List api_Double->Prop)(hp:(l.length<=1000000/\∀d∈l,d.Claims≠[]/\d.Claims.length<=1000000000)/\∀l2,l2.Perm l->l2.Pairwise (λa b=>befP b.Claims a.Claims=false)->post l2)(w:World)(S:Cells)(v:Value)(F:Nat->Prop)(e:TypeId)(hrow:RowAt w S v F e (.st .api_Double) l)(hS:∀b o,S b o->b<w.heap.size)(hF:∀b,F b->b<w.heap.size/\∀k,¬S b k):
 Calls Tryz.prog 112 #[v,.func (.func 113) #[] #[]] w λe' w'=>∃r,∃l':List api_Double,e'= .returned r/\post l'/\RowAt w' S v F e (.st .api_Double) l'/\w'.os=w.os/\w'.tape=w.tape/\w'.output=w.output/\w.heap.size<=w'.heap.size/\∀b,b<w.heap.size->¬F b->w'.heap[b]? =w.heap[b]? :=by
 obtain⟨⟨hlen,hcl⟩,hp⟩:=hp
 obtain⟨h0,⟨rfl,⟨ad,rfl⟩,hn⟩|⟨g,cap,cur,rfl,hFg,hg,hnl,hcm,hcs,hrr⟩⟩:=hrow
 ·refine (AnyF.slices_SortFunc_none Tryz.sortDp ad 0 _ w).mono ?_
  rintro e' w' ⟨rfl,rfl⟩
  exact⟨_,[],rfl,hp [] (List.Perm.refl _) List.Pairwise.nil,⟨h0,.inl ⟨rfl,⟨ad,rfl⟩,hn⟩⟩,rfl,rfl,rfl,Nat.le_refl _,λ_ _ _=>rfl⟩
 by_cases hne:l=[]
 ·subst hne
  refine (AnyF.slices_SortFunc_none Tryz.sortDp (some ⟨g,0,none⟩) cap _ w).mono ?_
  rintro e' w' ⟨rfl,rfl⟩
  exact⟨_,[],rfl,hp [] (List.Perm.refl _) List.Pairwise.nil,⟨h0,.inr ⟨g,cap,cur,rfl,hFg,hg,hnl,hcm,hcs,hrr⟩⟩,rfl,rfl,rfl,Nat.le_refl _,λ_ _ _=>rfl⟩
 have hgl:=(Array.getElem?_eq_some_iff.1 hg).1
 have hgS:=(hF g ((hFg g).2 rfl)).2
 have hnl:List.length (l:List api_Double)<=cap:=hnl
 have hcs:cur.size=cap * 2:=hcs
 obtain⟨dl,hd1,hd2⟩:=dbl_row (S:=S) (w:=w) (cur:=cur) l 0 hcl λi x hx j c hc=>by
  rw[Nat.zero_add];exact hrr i x hx j c hc
 have hdl:dl.length=l.length:=by rw[<-hd1,List.length_map]
 have hdne:dl≠[]:=λe=>hne (by rw[<-hd1,e];rfl)
 obtain⟨q0,hq0⟩:=List.exists_mem_of_ne_nil _ hdne
 letI:Inhabited (Al S w):=⟨q0⟩
 have eg:∀args w,(callFunc 113 args).run Tryz.prog w= .ok (.enter 113 args) w:=enters_of Tryz.func113 (by kernel_rfl) rfl
 have hone:∀(x:Al S w),∀v∈encD x,v.oneCell'=true:=λx v hv=>by
  unfold encD at hv
  rcases List.mem_cons.1 hv with rfl|hv
  ·exact x.2.1
  ·rw[List.mem_singleton] at hv;subst hv;exact x.2.2.1
 have hH:HoldsK encD 2 w g 0 dl.toArray:=by
  intro t ht
  have ht:t<dl.length * 2:=by simpa using ht
  refine⟨?_,by simp[World.frozen?,hg]⟩
  show w.cell? ⟨g,0+t,none⟩=some (flatK encD 2 dl.toArray)[t]!
  rw[get_flatK _ _ _ t (by simpa using ht),Nat.zero_add,cell_row hg]
  obtain⟨i,hi2⟩:∃i,t=i * 2\/t=i * 2+1:=⟨t/2,by omega⟩
  have hi:i<dl.length:=by omega
  obtain⟨k1,k2⟩:=hd2 i dl[i] (List.getElem?_eq_getElem hi)
  rw[Nat.zero_add] at k1 k2
  have e1:(dl.toArray)[i]! =dl[i]:=by simp[hi]
  rcases hi2 with rfl|rfl
  ·rw[show i * 2/2=i by omega,show i * 2 % 2=0 by omega,e1];exact k1
  ·rw[show (i * 2+1)/2=i by omega,show (i * 2+1) % 2=1 by omega,e1];exact k2
 have hsz:dl.toArray.size=l.length:=by simpa using hdl
 have hcall:=AnyQ.slices_SortFunc Tryz.sortDp 2 Tryz.isAgg87 Tryz.sizeOf87 (encD (S:=S) (w:=w)) (λ_=>rfl) hone cfD swoD 113 #[] g 0 cap dl.toArray w eg (cmpLaysD g hS hgS _) hH hgl (by rw[hsz];omega)
 rw[hsz] at hcall
 refine hcall.mono ?_
 rintro e' w' ⟨rfl,d,n,os,⟨q1,q2,q3⟩,q4,rfl⟩
 have hdsz:d.size=l.length:=by rw[q1];exact hsz
 have hG:=grownBy_sortedV (w:=w) (n:=n) (g:=g) (os:=os) (flatK encD 2 d)
 have hHp:=heap_sortedV (n:=n) (os:=os) (flatK encD 2 d) hg
 have hk:∀b o,S b o->(sortWorldK encD 2 w g 0 n d os).cell? ⟨b,o,none⟩=w.cell? ⟨b,o,none⟩:=λb o hs=>World.cell?_of_block (hG.block b (hS b o hs) (λe=>hgS o (by injection e with e;rw[<-e];exact hs)))
 have hlen2:List.length (d.toList.map (λq:Al S w=>q.1.2.2))=l.length:=by rw[List.length_map,Array.length_toList];exact hdsz
 refine⟨_,d.toList.map (λq=>q.1.2.2),rfl,hp _ ?_ ?_,⟨h0,.inr ⟨g,cap,_,?_,hFg,hHp,Nat.le_trans (Nat.le_of_eq hlen2) hnl,hcm,by simp[putCells,hcs];rfl,λi (x:api_Double) hx j c hc=> ?_⟩⟩,hG.os,hG.tape,hG.output,hG.size,λb hb hnF=>hG.block b hb λe=>hnF ((hFg b).2 (Option.some.inj e))⟩
 ·have e1:d.extract 0 l.length=d:=by rw[<-hdsz];simp
  have e2:dl.toArray.extract 0 l.length=dl.toArray:=by rw[<-hsz];simp
  rw[e1,e2] at q3
  have:=q3.map (λq:Al S w=>q.1.2.2)
  rwa [show dl.toArray.toList=dl by simp,hd1] at this
 ·rw[List.pairwise_map,List.pairwise_iff_getElem]
  intro i j hi hj hij
  have hi':i<d.size:=by simpa using hi
  have hj':j<d.size:=by simpa using hj
  have:=q4 i j (Nat.zero_le _) hij (by rw[<-hdsz];exact hj')
  rw[ltD,getElem!_pos d i hi',getElem!_pos d j hj'] at this
  simpa using this
 ·show Value.slice (some ⟨g,0,none⟩) l.length cap=Value.slice (some ⟨g,0,none⟩) (List.length (d.toList.map (λq:Al S w=>q.1.2.2))) cap
  rw[hlen2]
 ·have hx:(d.toList.map (λq:Al S w=>q.1.2.2))[i]? =some x:=hx
  rw[List.getElem?_map,Array.getElem?_toList,Option.map_eq_some_iff] at hx
  obtain⟨q,hq,rfl⟩:=hx
  have hi:i<d.size:=(Array.getElem?_eq_some_iff.1 hq).1
  have hxe:d[i]! =q:=by
   rw[getElem!_pos d i hi]
   exact (Array.getElem?_eq_some_iff.1 hq).2
  have key:∀k,k<2->(putCells id 0 (flatK encD 2 d) cur)[i * 2+k]? =some (encD q)[k]! :=by
   intro k hk
   have h1:i * 2+k<cur.size:=by omega
   have h2:i * 2+k<d.size * 2:=by omega
   simp only[putCells,Array.getElem?_mapIdx,Array.getElem?_eq_getElem h1,Option.map_some,Nat.zero_le,true_and,Nat.zero_add,size_flatK,if_pos h2,Nat.sub_zero,id]
   rw[get_flatK _ _ _ _ h2,show (i * 2+k)/2=i by omega,show (i * 2+k) % 2=k by omega,hxe]
  obtain⟨⟨u1,u2,dx⟩,x1,x2,x3,x4,x5,x6⟩:=q
  match j,hc with
  |0,hc=>
   have hc:some (D.sl (.st .api_Rect) dx.Region.Rects)=some c:=hc
   injection hc with hc
   subst hc
   exact⟨_,key 0 (by omega),x1,x3.mono (λ_ _ h=>h) hk⟩
  |1,hc=>
   have hc:some (D.sl (.st .api_Place) dx.Claims)=some c:=hc
   injection hc with hc
   subst hc
   exact⟨_,key 1 (by omega),x2,x4.mono (λ_ _ h=>h) hk⟩
  |j+2,hc=>cases (show (none:Option D)=some c from hc)
theorem psortD_ok:Spec3OK Tryz.prog psortD_sp:=λl post hp w S v F e hrow hS hF=>psortD_row l post hp w S v F e hrow hS hF
end RE
end Go.Proofs.YtpeggkeenboacaaGreat
set_option linter.unusedVariables false
namespace Go.Proofs.YtpeggkeenboacaaGreat
open Go.RowKit
namespace RE
open PL
namespace PL
def dblE (ds:List Dbl):Prop:=200<ds.length\/∃d∈ds,120<d.Region.Rects.length
def dblR (l:List api_Version)(ds:List Dbl)(e:Int):Prop:=(beginF l≠0/\ds=[]/\e=beginF l)\/(beginF l=0/\∃d0,dblsP (linV l) d0/\((dblE d0/\ds=[]/\e=1)\/(¬dblE d0/\ds=d0/\e=0)))
structure okD (l:List api_Version):Prop where
 many:manyV l
 small:beginF l=0->smallF (linV l)
end PL
def pdbl_P (l:List (api_Version))(post:List (api_Double)->Int->Prop):Prop:=okD l/\∀(ds:List Dbl)(e:Int),dblR l ds e->post ds e
def pdbl_sp:Spec:=⟨51,false,true,[.sl (.st .api_Version)],.tup [.dat (.sl (.st .api_Double)),.dat (.int .i64)],λx post=>pdbl_P (x.1:List (api_Version)) (λy0 y1=>post (y0,y1,()))⟩
def pdbl_C:CtxR:=⟨tau,[rule1 plines_sp,rule1 pfaces_sp,rule3 psortD_sp],lookJ [(0,13,⟨[(22,.dat (.int .i64)),(6,.own 87 (.st .api_Double))],[],[23,29,28,27,26,8,25,24,45,44,43,42,41,40,39,37,36,10,9,35,34,30,33,32,31,46],[],[]⟩),(0,26,⟨[(6,.own 87 (.st .api_Double))],[],[31,32,33,30,34,35,9,10,36,37,39,40,41,42,43,44,45,24,25,8,26,27,28,29],[0],[]⟩),(9192,0,⟨[(0,.tup [.agg [.dat (.sl (.st .api_Rect))],.dat (.int .i64)])],[],[],[],[]⟩)]⟩
def pdbl_W (l:List (api_Version))(post:List (api_Double)->Int->Prop):Prop:=(l.length<=1000/\∀(v1:api_Version),v1∈l->v1.2.length<=1000)/\∀(v2:List crosscheck_line)(v3:Int),linesR l v2 v3->IFB (!decide (v3=0)) (post [] v3) ((v2.length<=60/\List.Pairwise (λ(x1 x2:api_Place)=>x1=x2->False) (List.map (λ(x:crosscheck_line)=>x.1) v2)/\∀(v4:crosscheck_line),v4∈v2->(∀(v5:api_Rect),v5∈v4.2->0<=v5.1/\v5.1<v5.3/\v5.3<=30/\0<=v5.2/\v5.2<v5.4/\v5.4<=10)/\v4.2.length<=120)/\((↑(facesS v2).length:Int)<=9223372036854775807->LOOP [Ty.int IntKind.i64,(Ty.st Sn.api_Double).sl] (λ(rec6:Int->List api_Double->Prop) (z7:Int) (z8:List api_Double)=>IFB (decide (z7<(↑(facesS v2).length:Int))) (JOIN [(Ty.st Sn.api_Double).sl] (λ(y9:List api_Double)=>rec6 (IntKind.i64.wrap (z7+1)) y9) λ(J10:List api_Double->Prop)=>((0:Int)<=z7/\z7<(↑(facesS v2).length:Int))/\((↑(ix (facesS v2) z7).2.length:Int)<=9223372036854775807->IFB (decide ((↑(ix (facesS v2) z7).2.length:Int)<2)) (J10 z8) (JOIN [(Ty.st Sn.api_Rect).sl,Ty.int IntKind.i64] (λ(y11:List api_Rect) (y12:Int)=>IFB (!decide (y12=0)) (post [] y12) ((z8.length+[(⟨(⟨y11⟩:api_Region),(ix (facesS v2) z7).2⟩:api_Double)].length) * (48:Nat)<=140737488355328/\J10 (z8++[(⟨(⟨y11⟩:api_Region),(ix (facesS v2) z7).2⟩:api_Double)]))) λ(J13:List api_Rect->Int->Prop)=>(↑(ix (facesS v2) z7).1.length:Int)<=9223372036854775807->IFB (decide ((120:Int)<(↑(ix (facesS v2) z7).1.length:Int))) (J13 [] 1) (J13 (ix (facesS v2) z7).1 0)))) ((↑z8.length:Int)<=9223372036854775807->IFB (decide ((200:Int)<(↑z8.length:Int))) (post [] 1) ((z8.length<=1000000/\∀(v14:api_Double),v14∈z8->(v14.2=[]->False)/\v14.2.length<=1000000000)/\∀(v15:List api_Double),v15.Perm z8->List.Pairwise (λ(a b:api_Double)=>befP b.2 a.2=false) v15->post v15 0))) ((0:Int),[],PUnit.unit)))
theorem pdbl_w (l:List (api_Version))(post:dens (shT pdbl_sp.rs [])->Prop):pdbl_W l (λy0 y1=>post (y0,y1,()))=walkG (callR Tryz.prog pdbl_C (drawR Tryz.prog tau) 8 0) 51 false [tv (.sl (.st .api_Version)) l] pdbl_sp.rs post:=by kernel_rfl
theorem pdbl_of (h:∀(l:List (api_Version))(post:List (api_Double)->Int->Prop),pdbl_P l post->pdbl_W l post):SpecOK Tryz.prog pdbl_sp:=SpecOK.of_rules (C:=pdbl_C) (dr:=drawR Tryz.prog tau) (n:=8) (fk:=0) (.cons (rule1_ok plines_ok) (.cons (rule1_ok pfaces_ok) (.cons (rule3_ok psortD_ok) .nil))) (drawR_ok tau) λx post hp=>HoldW.of (pdbl_w x.1 post) (h x.1 (λy0 y1=>post (y0,y1,())) hp)
theorem two_app {F G:List Fc}:two (F++G)=two F++two G:=List.filter_append ..
theorem dbl_ex {L:List Ln}(h:(L.map (·.place)).Nodup):∃d0,dblsP L d0/\d0.Perm ((two (facesS L)).map toD):=by
 obtain⟨q1,q2⟩:=sortD_ok (two_ne (faces_ok h))
 exact⟨_,⟨q1,q2⟩,q1⟩
def pdbI (F:List Fc)(z:Int)(b:List Dbl):Prop:=∃k:Nat,z=(k:Int)/\k<=F.length/\b=(two (F.take k)).map toD/\∀d∈b,d.Region.Rects.length<=120
theorem pdbl_h (l:List api_Version)(post:List (api_Double)->Int->Prop)(hp:pdbl_P l post):pdbl_W l post:=by
 obtain⟨⟨h1,hs⟩,hp⟩:=hp
 unfold pdbl_W
 refine⟨h1,λL e he=> ?_⟩
 refine IFB.mk (λhb=> ?_) (λhb=> ?_)
 ·have hb:e≠0:=by simpa using hb
  rcases he with⟨a,_,c⟩|⟨_,_,c⟩
  ·exact hp [] e (.inl ⟨a,rfl,c⟩)
  ·exact absurd c hb
 have hb:e=0:=by simpa using hb
 subst hb
 have hz:beginF l=0/\L=linV l:=by
  rcases he with⟨a,_,c⟩|⟨a,c,_⟩
  ·exact absurd c.symm a
  ·exact⟨a,c⟩
 clear he
 obtain⟨hz,rfl⟩:=hz
 have hs:=hs hz
 have hbox:∀x∈linV l,inBox x.rects:=λx hx=>(hs.2.2 x hx).1
 have hok:=faces_ok hs.2.1
 have hfew:=faces_few hok hbox
 obtain⟨d0,hd0,hd1⟩:=dbl_ex hs.2.1
 refine⟨hs,λ_=> ?_⟩
 generalize hF:facesS (linV l)=F at *
 refine LOOP.fuel (λu=>pdbI F u.1 u.2.1) (λu=>F.length-Int.toNat u.1) ⟨0,rfl,Nat.zero_le _,rfl,λd hd=>(by cases hd)⟩ ?_
 rintro rec ⟨(z:Int),(b:List Dbl),⟨⟩⟩ ⟨k,i1,i2,i3,i4⟩ hrec
 have i1:z=(k:Int):=i1
 have q3:b=(two (F.take k)).map toD:=i3
 have q4:∀d∈b,d.Region.Rects.length<=120:=i4
 clear i3 i4
 subst i1
 have hbl:b.length<=300:=by
  rw[q3,List.length_map]
  unfold two
  have:=List.length_filter_le (λf:Fc=>decide (2<=f.claims.length)) (F.take k)
  rw[List.length_take] at this
  omega
 refine IFB.mk (λhc=>JOIN.opq λ(J:List Dbl->Prop) hJ=> ?_) (λhc=> ?_)
 ·have hc:(k:Int)<F.length:=of_decide_eq_true hc
  have hk:k<F.length:=by omega
  have hfm:ix F (k:Int)∈F:=by rw[ix_lt hk];exact List.getElem_mem hk
  have etk:two (F.take (k+1))=two (F.take k)++two [ix F (k:Int)]:=by rw[List.take_succ_eq_append_getElem hk,two_app,ix_lt hk]
  have hJ2:∀y:List Dbl,y=(two (F.take (k+1))).map toD->(∀d∈y,d.Region.Rects.length<=120)->J y:=λy hy hy2=>by
   rw[hJ]
   show rec (IntKind.i64.wrap ((k:Int)+1)) y
   rw[wrapS (by omega)]
   exact hrec (((k+1:Nat):Int),y,()) ⟨k+1,rfl,hk,hy,hy2⟩ (by show F.length-((k+1:Nat):Int).toNat<F.length-(k:Int).toNat;omega)
  refine⟨⟨by omega,hc⟩,λ_=>IFB.mk (λhd=> ?_) (λhd=> ?_)⟩
  ·have hd:((ix F (k:Int)).claims.length:Int)<2:=of_decide_eq_true hd
   refine hJ2 b ?_ q4
   rw[etk,q3,show two [ix F (k:Int)]=[] by unfold two;rw[List.filter_cons,if_neg (by simp;omega),List.filter_nil],List.append_nil]
  ·have hd:¬((ix F (k:Int)).claims.length:Int)<2:=of_decide_eq_false hd
   have e2:two [ix F (k:Int)]=[ix F (k:Int)]:=by unfold two;rw[List.filter_cons,if_pos (by simp;omega),List.filter_nil]
   refine JOIN.opq λ(K:List Rc->Int->Prop) hK=>λ_=>IFB.mk (λhn=> ?_) (λhn=> ?_)
   ·have hn:(120:Int)<((ix F (k:Int)).rects.length:Int):=of_decide_eq_true hn
    rw[hK]
    refine IFB.mk (λ_=>hp [] 1 (.inr ⟨hz,d0,hd0,.inl ⟨.inr ?_,rfl,rfl⟩⟩)) (λh=>by cases h)
    refine⟨toD (ix F (k:Int)),hd1.mem_iff.2 (List.mem_map.2 ⟨_,List.mem_filter.2 ⟨hfm,decide_eq_true (by omega)⟩,rfl⟩),?_⟩
    show 120<(ix F (k:Int)).rects.length
    omega
   ·have hn:¬(120:Int)<((ix F (k:Int)).rects.length:Int):=of_decide_eq_false hn
    rw[hK]
    refine IFB.mk (λh=>by cases h) (λ_=>⟨by simp only[List.length_cons,List.length_nil];omega,hJ2 _ ?_ ?_⟩)
    ·rw[etk,e2,List.map_append,<-q3];rfl
    ·intro d hd
     rcases List.mem_append.1 hd with hd|hd
     ·exact q4 d hd
     ·rw[List.mem_singleton] at hd
      subst hd
      show (ix F (k:Int)).rects.length<=120
      omega
 ·have hc:¬(k:Int)<F.length:=of_decide_eq_false hc
  have hk:k=F.length:=by omega
  rw[hk,List.take_length] at q3
  have hpm:d0.Perm b:=by rw[q3];exact hd1
  refine λ_=>IFB.mk (λhd=> ?_) (λhd=>⟨⟨by show b.length<=1000000;omega,λd hd=> ?_⟩,λv hv1 hv2=> ?_⟩)
  ·have hd:(200:Int)<(b.length:Int):=of_decide_eq_true hd
   refine hp [] 1 (.inr ⟨hz,d0,hd0,.inl ⟨.inl ?_,rfl,rfl⟩⟩)
   rw[hpm.length_eq];omega
  ·rw[q3] at hd
   obtain⟨f,hf,rfl⟩:=List.mem_map.1 hd
   obtain⟨hf,h2⟩:=List.mem_filter.1 hf
   have h2:2<=f.claims.length:=of_decide_eq_true h2
   have h3:=(face_small hok hbox hf).2.2
   have h4:(linV l).length<=60:=hs.1
   refine⟨λe=> ?_,?_⟩
   ·have e:f.claims=[]:=e
    rw[e] at h2;exact absurd h2 (by decide)
   ·show f.claims.length<=1000000000
    omega
  ·have hd:¬(200:Int)<(b.length:Int):=of_decide_eq_false hd
   refine hp v 0 (.inr ⟨hz,v,dbls_prog hs.2.1 (by rw[hF,<-q3];exact hv1) hv2,.inr ⟨λh=> ?_,rfl,rfl⟩⟩)
   rcases h with h|⟨d,hd2,h⟩
   ·rw[hv1.length_eq] at h
    have h:200<b.length:=h
    omega
   ·have:=q4 d (hv1.mem_iff.1 hd2);omega
theorem pdbl_ok:SpecOK Tryz.prog pdbl_sp:=pdbl_of pdbl_h
end RE
end Go.Proofs.YtpeggkeenboacaaGreat
set_option linter.unusedVariables false
namespace Go.Proofs.YtpeggkeenboacaaGreat
open Go.RowKit
namespace RE
open PL
namespace PL
def setR (l:List api_Version)(y:List api_Yield)(m:List api_Version)(ds:List Dbl)(e:Int):Prop:=
 ((givS l y).2≠0/\m=[]/\ds=[]/\e=(givS l y).2)\/((givS l y).2=0/\∃d0 e0,dblR (givS l y).1 d0 e0/\((e0≠0/\m=[]/\ds=[]/\e=e0)\/(e0=0/\limitF (setS (givS l y).1 d0)≠0/\m=[]/\ds=[]/\e=1)\/(e0=0/\limitF (setS (givS l y).1 d0)=0/\m=setS (givS l y).1 d0/\ds=d0/\e=0)))
structure okS (l:List api_Version):Prop where
 many:manyV l
 box:beginF l=0->∀x∈linV l,inBox x.rects
end PL
theorem many_like {l m:List api_Version}(h:likeV l m)(hm:manyV l):manyV m:=by
 refine⟨by rw[h.1];exact hm.1,λv hv=> ?_⟩
 obtain⟨i,hi,rfl⟩:=List.getElem_of_mem hv
 have:=h.shape.2 i
 rw[ix_lt hi,ix_lt (by rw[<-h.1];exact hi)] at this
 rw[this];exact hm.2 _ (List.getElem_mem _)
theorem gave_box {l:List api_Version}(hb:beginF l=0)(h:okS l){ys:List api_Yield}(hy:∀z∈ys,thereP l z.1){p:api_Place}(hp:thereP l p):inBox (gat (ys.foldl give1 l) p)/\(gat (ys.foldl give1 l) p).length<=300/\Canon (gat (ys.foldl give1 l) p):=by
 obtain⟨q1,q2⟩:=(gives_ok hy).2 p hp
 have hm:(⟨p,gat l p⟩:Ln)∈linV l:=mem_linV.2 ⟨hp,rfl⟩
 obtain⟨_,v2,v3⟩:=(begin_zero hb).2 ⟨p,gat l p⟩ hm
 have hbx:=h.2 hb ⟨p,gat l p⟩ hm
 obtain⟨r1,r2⟩:=can_inBox (q1 v3) λx y hc=>box_cov2 hbx ((q2 x y).1 hc).1
 exact⟨r1,r2,q1 v3⟩
theorem line_place {m:List api_Version}{v:api_Version}(hv:v∈m){x:api_Line}(hx:x∈v.Lines):∃p,thereP m p/\gat m p=x.Region.Rects:=by
 obtain⟨i,hi,rfl⟩:=List.getElem_of_mem hv
 obtain⟨j,hj,rfl⟩:=List.getElem_of_mem hx
 refine⟨⟨(i:Int),(j:Int)⟩,there_nat.2 ⟨hi,by rw[ix_lt hi];exact hj⟩,?_⟩
 unfold gat
 dsimp only
 rw[ix_lt hi,ix_lt hj]
theorem errY_take {l:List api_Version}{ys:List api_Yield}(h:errY l ys=0):∀z∈ys,thereP l z.1:=λz hz=>(errY_zero h z hz).1
theorem okS_G {l:List api_Version}(h:okS l)(ys:List api_Yield):okG l ys:=λhb k hk he v hv x hx=>by
 have hy:=errY_take he
 obtain⟨p,hp,e⟩:=line_place hv hx
 have hp:=((gives_ok hy).1).there.1 hp
 have:=(gave_box hb h hy hp).2.1
 rw[e] at this
 omega
theorem begin_small {l:List api_Version}(h:okS l)(hb:beginF l=0):smallF (linV l):=by
 obtain⟨h1,h2⟩:=begin_zero hb
 exact⟨h1,linV_nodup l,λx hx=>⟨h.2 hb x hx,(h2 x hx).1⟩⟩
theorem okS_D {l:List api_Version}(h:okS l):okD l:=⟨h.1,begin_small h⟩
theorem givS_zero {l:List api_Version}{ys:List api_Yield}(h:(givS l ys).2=0):beginF l=0/\ys.length<=200/\errY l ys=0/\limitF (ys.foldl give1 l)=0/\(givS l ys).1=ys.foldl give1 l:=by
 unfold givS at h ⊢
 by_cases h1:beginF l≠0
 ·rw[if_pos h1] at h;exact absurd h h1
 rw[if_neg h1] at h ⊢
 by_cases h2:200<ys.length
 ·rw[if_pos h2] at h;cases h
 rw[if_neg h2] at h ⊢
 by_cases h3:errY l ys≠0
 ·rw[if_pos h3] at h;exact absurd h h3
 rw[if_neg h3] at h ⊢
 by_cases h4:limitF (ys.foldl give1 l)≠0
 ·rw[if_pos h4] at h;cases h
 rw[if_neg h4]
 exact⟨Classical.not_not.1 h1,by omega,Classical.not_not.1 h3,Classical.not_not.1 h4,rfl⟩
theorem okS_like {l m:List api_Version}(hl:likeV l m)(h:okS l)(hb:beginF l=0)(hbx:∀p,thereP l p->inBox (gat m p)):okS m:=by
 refine⟨many_like hl h.1,λ_ x hx=> ?_⟩
 obtain⟨h1,h2⟩:=mem_linV.1 hx
 rw[h2]
 exact hbx _ (hl.there.1 h1)
theorem okS_give {l:List api_Version}(h:okS l){ys:List api_Yield}(he:(givS l ys).2=0):okS (givS l ys).1/\likeV l (givS l ys).1:=by
 obtain⟨hb,_,hy,_,e⟩:=givS_zero he
 rw[e]
 have hy:=errY_take hy
 have hl:=(gives_ok hy).1
 exact⟨okS_like hl h hb λp hp=>(gave_box hb h hy hp).1,hl⟩
theorem setS_app (g:List api_Version)(a:List Dbl)(d:Dbl):setS g (a++[d])=(d.Claims.map λp=>(⟨p,d.Region⟩:api_Yield)).foldl give1 (setS g a):=by
 unfold setS claimsY
 rw[List.flatMap_append,List.foldl_append]
 simp
theorem set_mid {g:List api_Version}(h:okS g)(hb:beginF g=0){ds:List Dbl}(hd:dblsP (linV g) ds){i:Nat}{d:Dbl}(hi:ds[i]? =some d)(j:Nat):
 likeV g (((d.Claims.take j).map λp=>(⟨p,d.Region⟩:api_Yield)).foldl give1 (setS g (ds.take i)))/\∀p,thereP g p->inBox (gat (((d.Claims.take j).map λp=>(⟨p,d.Region⟩:api_Yield)).foldl give1 (setS g (ds.take i))) p)/\(gat (((d.Claims.take j).map λp=>(⟨p,d.Region⟩:api_Yield)).foldl give1 (setS g (ds.take i))) p).length<=300:=by
 have e:((d.Claims.take j).map λp=>(⟨p,d.Region⟩:api_Yield)).foldl give1 (setS g (ds.take i))=(claimsY (ds.take i)++(d.Claims.take j).map λp=>(⟨p,d.Region⟩:api_Yield)).foldl give1 g:=by
  rw[List.foldl_append];rfl
 have hy:∀z∈claimsY (ds.take i)++(d.Claims.take j).map λp=>(⟨p,d.Region⟩:api_Yield),thereP g z.1:=λz hz=>by
  rcases List.mem_append.1 hz with hz|hz
  ·obtain⟨d',hd',hp,_⟩:=mem_claimsY.1 hz
   exact claims_there hd (List.mem_of_mem_take hd') hp
  ·obtain⟨p,hp,rfl⟩:=List.mem_map.1 hz
   exact claims_there hd (List.mem_of_getElem? hi) (List.mem_of_mem_take hp)
 rw[e]
 exact⟨(gives_ok hy).1,λp hp=>⟨(gave_box hb h hy hp).1,(gave_box hb h hy hp).2.1⟩⟩
theorem dbl_small {g:List api_Version}(h:okS g)(hb:beginF g=0){ds:List Dbl}(hd:dblsP (linV g) ds){d:Dbl}(hm:d∈ds):inBox d.Region.Rects/\d.Region.Rects.length<=300/\d.Claims.length<=60/\∀p∈d.Claims,thereP g p:=by
 have hs:=begin_small h hb
 obtain⟨f,hf,rfl⟩:=List.mem_map.1 (hd.1.mem_iff.1 hm)
 have hf:=(List.mem_filter.1 hf).1
 obtain⟨q1,q2,q3⟩:=face_small (faces_ok hs.2.1) (λx hx=>(hs.2.2 x hx).1) hf
 have h6:(linV g).length<=60:=hs.1
 exact⟨q1,q2,Nat.le_trans q3 h6,λp hp=>claims_there hd hm hp⟩
theorem dblR_zero {l:List api_Version}{ds:List Dbl}(h:dblR l ds 0):beginF l=0/\dblsP (linV l) ds/\ds.length<=200:=by
 rcases h with⟨a,_,b⟩|⟨a,d0,h1,⟨_,_,b⟩|⟨h2,rfl,_⟩⟩
 ·exact absurd b.symm a
 ·cases b
 ·refine⟨a,h1,?_⟩
  apply Classical.byContradiction
  intro hn
  exact h2 (.inl (by omega))
theorem dblR_begin {l:List api_Version}{ds:List Dbl}{e:Int}(h:dblR l ds e)(he:e≠0):ds=[]:=by
 rcases h with⟨_,b,_⟩|⟨a,d0,h1,⟨_,b,_⟩|⟨h2,_,b⟩⟩
 ·exact b
 ·exact b
 ·exact absurd b he
end RE
end Go.Proofs.YtpeggkeenboacaaGreat
set_option linter.unusedVariables false
namespace Go.Proofs.YtpeggkeenboacaaGreat
open Go.RowKit
namespace RE
open PL
namespace PL
def madeV (n:Int)(v:List api_Version):Prop:=1<=v.length/\(v.length:Int)<=n/\∀x∈v,linesOK x.Lines/\x.Lines.length<=2
end PL
def kveI (v1 z:Int)(b:List api_Version):Prop:=0<=z/\z+(b.length:Int)=v1/\∀x∈b,linesOK x.Lines/\x.Lines.length<=2
end RE
end Go.Proofs.YtpeggkeenboacaaGreat
namespace Go.Proofs.YtpeggkeenboacaaGreat
namespace RE
open Go.RowKit
open PL
def klinesO_P (cs:List (api_Crop))(m:Int)(post:List (api_Line)->List (Int)->List (api_Region)->Prop):Prop:=(1<=cs.length/\cs.length<=1000/\0<=m/\m<=10)/\∀(a:List api_Line)(b:List Int)(c:List api_Region),(linesOK a/\(a.length:Int)<=m)->post a b c
def klinesO_sp:Spec:=⟨108,true,true,[.sl (.st .api_Crop),.int .i64],.tup [.own 98 (.st .api_Line),.dat (.sl (.int .i64)),.dat (.sl (.st .api_Region))],λx post=>klinesO_P (x.1:List (api_Crop)) (x.2.1:Int) (λy0 y1 y2=>post (y0,y1,y2,()))⟩
def klinesO_C:CtxR:=⟨tau,[rule1 knext_sp,rule1 krange_sp,rule1 klandO_sp,rule1 rcomb_sp],lookJ [(0,21,⟨[(14,.dat (.int .i64)),(11,.own 98 (.st .api_Line))],[],(List.range' 53 83++[15,16,17,18,20]),[],[]⟩),(0,22,⟨[(11,.own 98 (.st .api_Line))],[],(List.range' 57 79++[15,16,17,18,20]),[2],[]⟩),(0,43,⟨[(108,.dat (.int .i64)),(18,.dat (.sl (.st .api_Rect)))],[],(List.range' 109 9++[20]),[],[]⟩),(0,31,⟨[(66,.dat (.int .i64))],[],(List.range' 67 31++[17]),[],[(3,65,(.st .api_Rect))]⟩),(0,11,⟨[(12,.dat (.int .i64)),(10,.own 29 (.st .api_Region)),(9,.own 3 (.int .i64))],[],(List.range' 23 26++[13]),[],[]⟩)]⟩
abbrev klinesO_a0 (z18:List api_Rect)(z17:Int)(v14:Int):=(z18.set z17.toNat {Left:=IntKind.i64.wrap ((ix z18 z17).1+IntKind.i64.wrap ((10:Int) * v14)),Low:=(ix z18 z17).2,Right:=(ix z18 z17).3,High:=(ix z18 z17).4:api_Rect})
def klinesO_W (cs:List (api_Crop))(m:Int)(post:List (api_Line)->List (Int)->List (api_Region)->Prop):Prop:=(Int.NonNeg 1099511627777/\Int.NonNeg 1099511627775/\Int.NonNeg 1099511627779/\(3:Int)<=1099511627776)/\∀(v1:Int),1<=v1->v1<=3\/v1=1->LOOP [Ty.int IntKind.i64,(Ty.st Sn.api_Region).sl,(Ty.int IntKind.i64).sl] (λ(rec2:Int->List api_Region->List Int->Prop) (z3:Int) (z4:List api_Region) (z5:List Int)=>IFB (decide ((0:Int)<z3)) ((↑z5.length:Int)<=9223372036854775807->(z5.length+[IntKind.i64.wrap ((↑z5.length:Int)+1)].length) * (8:Nat)<=140737488355328/\(Int.NonNeg 1099511627778/\Int.NonNeg 1099511627774/\Int.NonNeg 1099511627785/\(9:Int)<=1099511627776)/\∀(v6:Int),2<=v6->v6<=9\/v6=2->(Int.NonNeg 1099511627778/\Int.NonNeg 1099511627774/\Int.NonNeg 1099511627785/\(9:Int)<=1099511627776)/\∀(v7:Int),2<=v7->v7<=9\/v7=2->(z4.length+[(⟨[(⟨IntKind.i64.wrap ((10:Int) * (↑z5.length:Int)),(0:Int),IntKind.i64.wrap (IntKind.i64.wrap ((10:Int) * (↑z5.length:Int))+v6),v7⟩:api_Rect)]⟩:api_Region)].length) * (24:Nat)<=140737488355328/\rec2 (IntKind.i64.wrap (z3-1)) (z4++[(⟨[(⟨IntKind.i64.wrap ((10:Int) * (↑z5.length:Int)),(0:Int),IntKind.i64.wrap (IntKind.i64.wrap ((10:Int) * (↑z5.length:Int))+v6),v7⟩:api_Rect)]⟩:api_Region)]) (z5++[IntKind.i64.wrap ((↑z5.length:Int)+1)])) (IntKind.i64.wrap (m+1)<=9223372036854775807/\∀(v8:Int),0<=v8->v8<IntKind.i64.wrap (m+1)\/v8=0->LOOP [Ty.int IntKind.i64,(Ty.st Sn.api_Line).sl] (λ(rec9:Int->List api_Line->Prop) (z10:Int) (z11:List api_Line)=>IFB (decide ((0:Int)<z10)) (JOIN [(Ty.st Sn.api_Line).sl] (λ(y12:List api_Line)=>rec9 (IntKind.i64.wrap (z10-1)) y12) λ(J13:List api_Line->Prop)=>(↑z5.length:Int)<=9223372036854775807->(↑z5.length:Int)<=9223372036854775807/\∀(v14:Int),0<=v14->v14<(↑z5.length:Int)\/v14=0->(Int.NonNeg 8/\Int.NonNeg 16375/\Int.NonNeg 2/\(2:Int)<=100)/\∀(v15:List api_Rect),(validP v15/\(v15=[]->False)/\∀(x y:Int),cov v15 x y=true->x<9/\y<9)->(↑v15.length:Int)<=9223372036854775807->LOOP [Ty.int IntKind.i64,(Ty.st Sn.api_Rect).sl] (λ(rec16:Int->List api_Rect->Prop) (z17:Int) (z18:List api_Rect)=>IFB (decide (z17<(↑v15.length:Int))) (((0:Int)<=z17/\z17<(↑z18.length:Int))/\((0:Int)<=z17/\z17<(↑z18.length:Int))/\((0:Int)<=z17/\z17<(↑z18.length:Int))/\((0:Int)<=z17/\z17<(↑(klinesO_a0 z18 z17 v14).length:Int))/\rec16 (IntKind.i64.wrap (z17+1)) ((klinesO_a0 z18 z17 v14).set z17.toNat (⟨(ix (klinesO_a0 z18 z17 v14) z17).1,(ix (klinesO_a0 z18 z17 v14) z17).2,IntKind.i64.wrap ((ix z18 z17).3+IntKind.i64.wrap ((10:Int) * v14)),(ix (klinesO_a0 z18 z17 v14) z17).4⟩:api_Rect))) (((0:Int)<=v14/\v14<(↑z4.length:Int))/\(z18.length<=1000/\(ix z4 v14).1.length<=1000)/\((↑z11.length:Int)<=9223372036854775807->LOOP [Ty.int IntKind.i64,(Ty.st Sn.api_Rect).sl] (λ(rec19:Int->List api_Rect->Prop) (z20:Int) (z21:List api_Rect)=>IFB (decide (z20<(↑z11.length:Int))) (((0:Int)<=z20/\z20<(↑z11.length:Int))/\(z21.length<=1000/\(ix z11 z20).2.1.length<=1000)/\rec19 (IntKind.i64.wrap (z20+1)) (canonF λ(x y:Int)=>howS (3:Int) (cov z21 x y) (cov (ix z11 z20).2.1 x y))) ((↑z21.length:Int)<=9223372036854775807->IFB (decide ((0:Int)<(↑z21.length:Int))) ((↑cs.length:Int)<=9223372036854775807->(↑cs.length:Int)<=9223372036854775807/\∀(v22:Int),0<=v22->v22<(↑cs.length:Int)\/v22=0->Int.NonNeg 9223372036854775792/\∀(v23:Int),0<=v23->v23<15\/v23=0->(z11.length+[(⟨IntKind.i64.wrap (v14+1),(⟨z21⟩:api_Region),v22,IntKind.i64.wrap ((1:Int)+v23)⟩:api_Line)].length) * (48:Nat)<=140737488355328/\J13 (z11++[(⟨IntKind.i64.wrap (v14+1),(⟨z21⟩:api_Region),v22,IntKind.i64.wrap ((1:Int)+v23)⟩:api_Line)])) (J13 z11))) ((0:Int),canonF λ(x y:Int)=>howS (2:Int) (cov z18 x y) (cov (ix z4 v14).1 x y),PUnit.unit)))) ((0:Int),v15,PUnit.unit)) (post z11 z5 z4)) (v8,[],PUnit.unit))) (v1,[],[],PUnit.unit)
theorem klinesO_w (cs:List (api_Crop))(m:Int)(post:dens (shT klinesO_sp.rs [])->Prop):klinesO_W cs m (λy0 y1 y2=>post (y0,y1,y2,()))=walkG (callR Tryz.prog klinesO_C (drawR Tryz.prog tau) 8 0) 108 true [tv (.sl (.st .api_Crop)) cs,tv (.int .i64) m] klinesO_sp.rs post:=by kernel_rfl
theorem klinesO_of (h:∀cs m post,klinesO_P cs m post->klinesO_W cs m post):SpecOK Tryz.prog klinesO_sp:=SpecOK.of_rules (C:=klinesO_C) (dr:=drawR Tryz.prog tau) (n:=8) (fk:=0) (.cons (rule1_ok knext_ok) (.cons (rule1_ok krange_ok) (.cons (rule1_ok klandO_ok) (.cons (rule1_ok rcomb_ok) .nil)))) (drawR_ok tau) λx post hp=>HoldW.of (klinesO_w x.1 x.2.1 post) (h x.1 x.2.1 (λy0 y1 y2=>post (y0,y1,y2,())) hp)
theorem klinesO_ok:SpecOK Tryz.prog klinesO_sp:=klinesO_of λcs m post hp=>by
 obtain⟨⟨h1,h2,h3,h4⟩,hp⟩:=hp
 unfold klinesO_W klinesO_a0
 refine⟨⟨Int.NonNeg.mk _,Int.NonNeg.mk _,Int.NonNeg.mk _,by omega⟩,λv1 a1 b1=> ?_⟩
 refine LOOP.fuel (λu=>parI v1 u.1 u.2.1 u.2.2.1) (λu=>Int.toNat u.1) ⟨by show 0<=v1;omega,by show v1+(([]:List Int).length:Int)=v1;simp only[List.length_nil];omega,rfl,λj hj=>absurd hj (Nat.not_lt_zero j)⟩ ?_
 rintro rec ⟨(z3:Int),(z4:List api_Region),(z5:List Int),⟨⟩⟩ ⟨i1,i2,i3,i4⟩ hrec
 have i1:0<=z3:=i1
 have i2:z3+(z5.length:Int)=v1:=i2
 have i3:z4.length=z5.length:=i3
 have i4:regsOK z4:=i4
 refine IFB.mk (λhb _=> ?_) (λhb=> ?_)
 ·have hb:0<z3:=of_decide_eq_true hb
  refine⟨by simp only[List.length_cons,List.length_nil];omega,⟨Int.NonNeg.mk _,Int.NonNeg.mk _,Int.NonNeg.mk _,by omega⟩,λv6 a6 b6=>⟨⟨Int.NonNeg.mk _,Int.NonNeg.mk _,Int.NonNeg.mk _,by omega⟩,λv7 a7 b7=>⟨by simp only[List.length_cons,List.length_nil];omega,?_⟩⟩⟩
  rw[wrap_in (z:=z3-1) (by omega) (by omega),wrap_in (z:=10 * (z5.length:Int)) (by omega) (by omega),wrap_in (z:=10 * (z5.length:Int)+v6) (by omega) (by omega)]
  refine hrec (z3-1,_,_,()) ⟨?_,?_,?_,?_⟩ (by show (z3-1).toNat<z3.toNat;omega)
  ·show 0<=z3-1;omega
  ·show z3-1+(List.length (z5++[_]):Int)=v1
   simp only[List.length_append,List.length_cons,List.length_nil];omega
  ·show List.length (z4++[_])=List.length (z5++[_])
   simp only[List.length_append,List.length_cons,List.length_nil];omega
  ·refine regs_snoc i4 ?_ ?_ ?_ ?_<;>dsimp only<;>omega
 have hb:¬0<z3:=of_decide_eq_false hb
 have hz5:(z5.length:Int)=v1:=by omega
 have w1:IntKind.i64.wrap (m+1)=m+1:=wrap_in (by omega) (by omega)
 rw[w1]
 refine⟨by omega,λv8 a8 b8=> ?_⟩
 clear hrec
 refine LOOP.fuel (λu=>linI m u.1 u.2.1) (λu=>Int.toNat u.1) ⟨a8,by show v8+(([]:List api_Line).length:Int)<=m;simp only[List.length_nil];omega,λx hx=>(by cases hx)⟩ ?_
 rintro rec9 ⟨(z10:Int),(z11:List api_Line),⟨⟩⟩ ⟨j1,j2,j3⟩ hrec9
 have j1:0<=z10:=j1
 have j2:z10+(z11.length:Int)<=m:=j2
 have j3:linesOK z11:=j3
 refine IFB.mk (λhb2=> ?_) (λhb2=>hp _ _ _ ⟨j3,by omega⟩)
 have hb2:0<z10:=of_decide_eq_true hb2
 refine JOIN.opq λ(J:List api_Line->Prop) hJ=> ?_
 have hJ:∀l,linI m (z10-1) l->J l:=λl hl=>by
  rw[hJ]
  show rec9 (IntKind.i64.wrap (z10-1)) l
  rw[wrap_in (by omega) (by omega)]
  exact hrec9 (z10-1,l,()) hl (by show (z10-1).toNat<z10.toNat;omega)
 clear hrec9
 refine λ_=>⟨by omega,λv14 a14 b14=>⟨⟨Int.NonNeg.mk _,Int.NonNeg.mk _,Int.NonNeg.mk _,by omega⟩,λv15 h15 _=> ?_⟩⟩
 obtain⟨p,rfl⟩:∃p:Nat,v14=(p:Int):=⟨v14.toNat,by omega⟩
 have hp4:p<z4.length:=by omega
 have h15l:=h15.1.1
 refine LOOP.fuel (λu=>shI v15.length u.1 u.2.1) (λu=>v15.length-Int.toNat u.1) ⟨0,rfl,Nat.zero_le _,rfl⟩ ?_
 rintro rec16 ⟨(z17:Int),(z18:List Rc),⟨⟩⟩ ⟨k,s1,s2,s3⟩ hrec16
 have s1:z17=(k:Int):=s1
 subst s1
 have s3:z18.length=v15.length:=s3
 refine IFB.mk (λhb3=> ?_) (λhb3=> ?_)
 ·have hb3:(k:Int)<v15.length:=of_decide_eq_true hb3
  refine⟨by omega,by omega,by omega,by rw[List.length_set];omega,?_⟩
  rw[wrapS (by omega)]
  refine hrec16 (((k+1:Nat):Int),_,()) ⟨k+1,rfl,by omega,?_⟩ (by show v15.length-((k+1:Nat):Int).toNat<v15.length-(k:Int).toNat;omega)
  exact (List.length_set ..).trans ((List.length_set ..).trans s3)
 clear hrec16
 obtain⟨r,e1,e2,e3,e4,e5⟩:=i4 p hp4
 rw[e1]
 have hbx:=boxed_and (p:=p) (l:=z18) e2 e3 e4 e5
 refine⟨by omega,⟨by omega,by simp⟩,λ_=> ?_⟩
 refine LOOP.fuel (λu=>cutI z11.length p u.1 u.2.1) (λu=>z11.length-Int.toNat u.1) ⟨0,rfl,Nat.zero_le _,hbx⟩ ?_
 rintro rec19 ⟨(z20:Int),(z21:List Rc),⟨⟩⟩ ⟨q,t1,t2,t3⟩ hrec19
 have t1:z20=(q:Int):=t1
 subst t1
 have t3:boxed p z21:=t3
 have hl21:=boxed_len t3
 refine IFB.mk (λhb4=> ?_) (λhb4=> ?_)
 ·have hb4:(q:Int)<z11.length:=of_decide_eq_true hb4
  obtain⟨p',_,_,hbp⟩:=j3 _ (ix_mem (l:=z11) (i:=(q:Int)) (by omega) hb4)
  have hl2:=boxed_len hbp
  refine⟨by show 0<=(q:Int)/\(q:Int)<z11.length;omega,⟨by show z21.length<=1000;omega,Nat.le_trans hl2 (by omega)⟩,?_⟩
  rw[wrapS (by omega)]
  exact hrec19 (((q+1:Nat):Int),_,()) ⟨q+1,rfl,by omega,boxed_not t3⟩ (by show z11.length-((q+1:Nat):Int).toNat<z11.length-(q:Int).toNat;omega)
 ·refine λ_=>IFB.mk (λhb5 _=> ?_) (λhb5=>hJ _ ⟨by omega,by omega,j3⟩)
  refine⟨by omega,λv22 a22 b22=>⟨Int.NonNeg.mk _,λv23 a23 b23=>⟨by simp only[List.length_cons,List.length_nil];omega,hJ _ ⟨by omega,by simp only[List.length_append,List.length_cons,List.length_nil];omega,λx hx=> ?_⟩⟩⟩⟩
  rcases List.mem_append.1 hx with hx|hx
  ·exact j3 x hx
  ·rw[List.mem_singleton] at hx
   subst hx
   exact⟨p,by omega,by omega,t3⟩
def kversD_P (cs:List (api_Crop))(n:Int)(post:List (api_Version)->Prop):Prop:=(1<=cs.length/\cs.length<=1000/\1<=n/\n<=10)/\∀v:List api_Version,madeV n v->post v
def kversD_sp:Spec:=⟨48,true,true,[.sl (.st .api_Crop),.int .i64],.own 1000096 (.st .api_Version),λx post=>kversD_P (x.1:List (api_Crop)) (x.2.1:Int) (λy0=>post (y0,()))⟩
def kversD_C:CtxR:=⟨tauD,[rule1 klinesO_sp,rule1 krange_sp,rule1 knext_sp],lookJ [(0,7,⟨[(8,.dat (.int .i64)),(7,.own 1000096 (.st .api_Version))],[],(List.range' 15 18++[9,10,11]),[],[]⟩)]⟩
def kversD_W (cs:List (api_Crop))(n:Int)(post:List (api_Version)->Prop):Prop:=((-1099511627776:Int)<=1/\(1:Int)<=1099511627776/\(-1099511627776:Int)<=n/\n<=1099511627776)/\∀(v1:Int),1<=v1->v1<=n\/v1=1->LOOP [Ty.int IntKind.i64,(Ty.st Sn.api_Version).sl] (λ(rec2:Int->List api_Version->Prop) (z3:Int) (z4:List api_Version)=>IFB (decide ((0:Int)<z3)) (((1:Nat)<=cs.length/\cs.length<=1000/\(0:Int)<=2/\(2:Int)<=10)/\∀(v5:List api_Line)(v6:List Int)(v7:List api_Region),linesOK v5/\(↑v5.length:Int)<=2->Int.NonNeg 9223372036854775777/\∀(v8:Int),0<=v8->v8<30\/v8=0->(z4.length+[(⟨v8,v5⟩:api_Version)].length) * (32:Nat)<=140737488355328/\rec2 (IntKind.i64.wrap (z3-1)) (z4++[(⟨v8,v5⟩:api_Version)])) (post z4)) (v1,[],PUnit.unit)
theorem kversD_w (cs:List (api_Crop))(n:Int)(post:dens (shT kversD_sp.rs [])->Prop):kversD_W cs n (λy0=>post (y0,()))=walkG (callR Tryz.prog kversD_C (drawF Tryz.prog tauD) 8 0) 48 true [tv (.sl (.st .api_Crop)) cs,tv (.int .i64) n] kversD_sp.rs post:=by kernel_rfl
theorem kversD_of (h:∀cs n post,kversD_P cs n post->kversD_W cs n post):SpecOK Tryz.prog kversD_sp:=SpecOK.of_rules (C:=kversD_C) (dr:=drawF Tryz.prog tauD) (n:=8) (fk:=0) (.cons (rule1_ok klinesO_ok) (.cons (rule1_ok krange_ok) (.cons (rule1_ok knext_ok) .nil))) (drawF_ok tauD) λx post hp=>HoldW.of (kversD_w x.1 x.2.1 post) (h x.1 x.2.1 (λy0=>post (y0,())) hp)
theorem kversD_ok:SpecOK Tryz.prog kversD_sp:=kversD_of λcs n post hp=>by
 obtain⟨⟨h1,h2,h3,h4⟩,hp⟩:=hp
 unfold kversD_W
 refine⟨⟨by omega,by omega,by omega,by omega⟩,λv1 a1 b1=> ?_⟩
 refine LOOP.fuel (λu=>kveI v1 u.1 u.2.1) (λu=>Int.toNat u.1) ⟨by show 0<=v1;omega,by show v1+(([]:List api_Version).length:Int)=v1;simp only[List.length_nil];omega,λx hx=>(by cases hx)⟩ ?_
 rintro rec ⟨(z:Int),(b:List api_Version),⟨⟩⟩ ⟨i1,i2,i3⟩ hrec
 have i1:0<=z:=i1
 have i2:z+(b.length:Int)=v1:=i2
 have i3:∀x∈b,linesOK x.Lines/\x.Lines.length<=2:=i3
 refine IFB.mk (λhb=> ?_) (λhb=> ?_)
 ·have hb:0<z:=of_decide_eq_true hb
  refine⟨⟨h1,h2,by omega,by omega⟩,λv5 v6 v7 hv=>⟨Int.NonNeg.mk _,λv8 a8 b8=>⟨by simp only[List.length_cons,List.length_nil];omega,?_⟩⟩⟩
  rw[wrap_in (by omega) (by omega)]
  have hlen:(List.length (b++[(⟨v8,v5⟩:api_Version)]):Int)=(b.length:Int)+1:=by simp
  refine hrec (z-1,_,()) ⟨by show 0<=z-1;omega,?_,λx hx=> ?_⟩ (by show (z-1).toNat<z.toNat;omega)
  ·show z-1+(List.length (b++[(⟨v8,v5⟩:api_Version)]):Int)=v1
   omega
  ·have hx:x∈b++[(⟨v8,v5⟩:api_Version)]:=hx
   rcases List.mem_append.1 hx with hx|hx
   ·exact i3 x hx
   ·rw[List.mem_singleton] at hx;subst hx
    exact⟨hv.1,by have:=hv.2;show v5.length<=2;omega⟩
 ·have hb:¬0<z:=of_decide_eq_false hb
  exact hp b ⟨by omega,by omega,i3⟩
def kversW_r:Rule:=ruleDN (rule1 kversD_sp) 96 (.st .api_Version) 1 98 (.st .api_Line)
theorem kversW_ok:RuleOK Tryz.prog kversW_r:=ruleDN_ok (rule1_ok kversD_ok) (by decide) rfl (λj h=>match j,h with
 |0,_=>rfl
 |1,h=>absurd rfl h
 |j+2,_=>rfl) λx=>by rw[enc_len];decide
def rints_P (x:List (Int))(y:List (Int))(post:Bool->Prop):Prop:=∀b:Bool,(b=true↔x=y)->post b
def rints_sp:Spec:=⟨28,false,false,[.sl (.int .i64),.sl (.int .i64)],.dat (.bool),λx post=>rints_P (x.1:List (Int)) (x.2.1:List (Int)) (λy0=>post (y0,()))⟩
def rints_C:CtxR:=⟨tau,[],lookJ [(0,9,⟨[(13,.dat (.int .i64))],[],(List.range' 14 12++[5]),[],[]⟩)]⟩
def rints_W (x:List (Int))(y:List (Int))(post:Bool->Prop):Prop:=(↑x.length:Int)<=9223372036854775807->(↑y.length:Int)<=9223372036854775807->IFB (!decide ((↑x.length:Int)=(↑y.length:Int))) (post false) ((↑x.length:Int)<=9223372036854775807->LOOP [Ty.int IntKind.i64] (λ(rec1:Int->Prop) (z2:Int)=>IFB (decide (z2<(↑x.length:Int))) (((0:Int)<=z2/\z2<(↑x.length:Int))/\((0:Int)<=z2/\z2<(↑y.length:Int))/\IFB (!decide (ix x z2=ix y z2)) (post false) (rec1 (IntKind.i64.wrap (z2+1)))) (post true)) ((0:Int),PUnit.unit))
theorem rints_w (x:List (Int))(y:List (Int))(post:dens (shT rints_sp.rs [])->Prop):rints_W x y (λy0=>post (y0,()))=walkG (callR Tryz.prog rints_C (drawR Tryz.prog tau) 8 0) 28 false [tv (.sl (.int .i64)) x,tv (.sl (.int .i64)) y] rints_sp.rs post:=by kernel_rfl
theorem rints_of (h:∀x y post,rints_P x y post->rints_W x y post):SpecOK Tryz.prog rints_sp:=SpecOK.of_rules (C:=rints_C) (dr:=drawR Tryz.prog tau) (n:=8) (fk:=0) .nil (drawR_ok tau) λx post hp=>HoldW.of (rints_w x.1 x.2.1 post) (h x.1 x.2.1 (λy0=>post (y0,())) hp)
theorem rints_ok:SpecOK Tryz.prog rints_sp:=rints_of λl1 l2 post hp=>by
 unfold rints_W
 intro _ _
 refine IFB.mk (λh=>hp _ ?_) (λh=> ?_)
 ·constructor
  ·intro h';cases h'
  ·intro h';subst h';simp at h
 have h3:l1.length=l2.length:=by simp at h;omega
 intro _
 refine LOOP.list l1 (λk (s:Unit)=>((k:Int),())) (λu=>u.1.toNat) (λk r (s:Unit)=>l1.take k=l2.take k) () rfl rfl (λk s h=>by simp) ?_ ?_
 ·intro rec k y r s hd hk hkl hG hrec
  have hx:=ix_of hk
  have hk2:=List.getElem?_eq_getElem (show k<l2.length by omega)
  have hx2:=ix_of hk2
  have w1:IntKind.i64.wrap ((k:Int)+1)=((k+1:Nat):Int):=by rw[wrap_in (by omega) (by omega)];rfl
  show IFB _ _ _
  obtain⟨v,hv⟩:∃v,l2[k]=v:=⟨_,rfl⟩
  rw[hv] at hx2 hk2
  simp only[w1,hx,hx2]
  refine IFB.mk (λ_=>⟨⟨by omega,by omega⟩,⟨by omega,by omega⟩,IFB.mk (λhb=>hp _ ?_) (λhb=>hrec () ?_)⟩) (λh=>absurd (of_decide_eq_false h) (by omega))
  ·constructor
   ·intro h';cases h'
   ·intro h'
    subst h'
    rw[hk] at hk2
    injection hk2 with hk2
    subst hk2
    simp at hb
  ·have hb:y=v:=by simpa using hb
   subst hb
   rw[List.take_add_one,List.take_add_one,hG,hk,hk2]
 ·intro rec s hG
  show IFB _ _ _
  refine IFB.mk (λh=>absurd (of_decide_eq_true h) (by omega)) (λ_=>hp _ ?_)
  rw[List.take_length,h3,List.take_length] at hG
  simp[hG]
def kmod_P (k:Int)(n:Int)(post:Int->Prop):Prop:=(1<=n/\n<=1000000)/\∀q:Int,0<=q->q<n->post q
def kmod_sp:Spec:=⟨18,false,false,[.int .i64,.int .i64],.dat (.int .i64),λx post=>kmod_P (x.1:Int) (x.2.1:Int) (λy0=>post (y0,()))⟩
def kmod_C:CtxR:=⟨tau,[],lookJ [(0,12,⟨[(0,.dat (.int .i64))],[],[10,11,12,13,14],[],[]⟩)]⟩
def kmod_W (k:Int)(n:Int)(post:Int->Prop):Prop:=IFB (decide (n<1)) (post 0) ((n=0->False)/\JOIN [Ty.int IntKind.i64] (λ(y1:Int)=>post y1) λ(J2:Int->Prop)=>IFB (decide (k.tmod n<0)) (J2 (IntKind.i64.wrap (k.tmod n+n))) (J2 (k.tmod n)))
theorem kmod_w (k:Int)(n:Int)(post:dens (shT kmod_sp.rs [])->Prop):kmod_W k n (λy0=>post (y0,()))=walkG (callR Tryz.prog kmod_C (drawR Tryz.prog tau) 8 0) 18 false [tv (.int .i64) k,tv (.int .i64) n] kmod_sp.rs post:=by kernel_rfl
theorem kmod_of (h:∀k n post,kmod_P k n post->kmod_W k n post):SpecOK Tryz.prog kmod_sp:=SpecOK.of_rules (C:=kmod_C) (dr:=drawR Tryz.prog tau) (n:=8) (fk:=0) .nil (drawR_ok tau) λx post hp=>HoldW.of (kmod_w x.1 x.2.1 post) (h x.1 x.2.1 (λy0=>post (y0,())) hp)
theorem kmod_ok:SpecOK Tryz.prog kmod_sp:=kmod_of λk n post hp=>by
 obtain⟨⟨hn,hn2⟩,hp⟩:=hp
 unfold kmod_W
 refine IFB.mk (λh=>absurd (of_decide_eq_true h) (by omega)) (λh=>⟨λe=>by omega,JOIN.opq λ(J2:Int->Prop) hJ2=>IFB.mk (λh2=> ?_) (λh2=> ?_)⟩)
 all_goals rw[hJ2]
 ·have h2:k.tmod n<0:=of_decide_eq_true h2
  have h3:=Int.lt_tmod_of_pos k (show 0<n by omega)
  rw[wrap_in (by omega) (by omega)]
  exact hp _ (by omega) (by omega)
 ·have h2:¬k.tmod n<0:=of_decide_eq_false h2
  have h3:=Int.tmod_lt_of_pos k (show 0<n by omega)
  exact hp _ (by omega) h3
def kbroken_P (side:Int)(most:Int)(post:api_Region->Prop):Prop:=(1<=side/\side<=16000/\0<=most/\most<=100)/\∀a:api_Region,(a.Rects.length<=121/\∀r∈a.Rects,r.Right<=side+1/\r.High<=side)->post a
def kbroken_sp:Spec:=⟨19,true,true,[.int .i64,.int .i64],.dat (.st .api_Region),λx post=>kbroken_P (x.1:Int) (x.2.1:Int) (λy0=>post (y0,()))⟩
def kbroken_C:CtxR:=⟨tau,[rule1 kregion_sp,rule1 knext_sp,rule1 kone_sp],lookJ [(0,32,⟨[(8,.own 65 (.st .api_Rect))],[],(List.range' 32 50),[3],[]⟩)]⟩
abbrev kbroken_a0 (v1:api_Region)(v3:Int):={Left:=(ix ([]++v1.1) v3).1,Low:=(ix ([]++v1.1) v3).2,Right:=(ix ([]++v1.1) v3).3,High:=(ix ([]++v1.1) v3).4:api_Rect}
abbrev kbroken_a1 (v3:Int)(v1:api_Region):=((0:Int)<=v3/\v3<(↑([]++v1.1).length:Int))
def kbroken_W (side:Int)(most:Int)(post:api_Region->Prop):Prop:=((1:Int)<=side/\side<=16384/\0<=most/\most<=100)/\∀(v1:api_Region),(validP v1.1/\∀(x y:Int),cov v1.1 x y=true->x<side/\y<side)->(↑v1.1.length:Int)<=9223372036854775807->JOIN [Ty.bool] (λ(y2:Bool)=>IFB (decide ((↑v1.1.length:Int)=0)|| !y2) (post {Rects:=v1.1:api_Region}) (((0:Nat)+v1.1.length) * (32:Nat)<=140737488355328/\((↑([]++v1.1).length:Int)<=9223372036854775807->(↑([]++v1.1).length:Int)<=9223372036854775807/\∀(v3:Int),0<=v3->v3<(↑([]++v1.1).length:Int)\/v3=0->JOIN [(Ty.st Sn.api_Rect).sl] (λ(y4:List api_Rect)=>post (⟨y4⟩:api_Region)) λ(J5:List api_Rect->Prop)=>Int.NonNeg 9223372036854775802/\∀(v6:Int),0<=v6->v6<5\/v6=0->IFB (decide (v6=0)) ((kbroken_a1 v3 v1)/\(kbroken_a1 v3 v1)/\J5 (([]++v1.1).set v3.toNat (⟨(ix ([]++v1.1) v3).1,(ix ([]++v1.1) v3).2,IntKind.i64.wrap ((ix ([]++v1.1) v3).3+1),(ix ([]++v1.1) v3).4⟩:api_Rect))) (IFB (decide (v6=1)) ((kbroken_a1 v3 v1)/\J5 (([]++v1.1).set v3.toNat (⟨(-1:Int),(ix ([]++v1.1) v3).2,(ix ([]++v1.1) v3).3,(ix ([]++v1.1) v3).4⟩:api_Rect))) (IFB (decide (v6=2)) ((kbroken_a1 v3 v1)/\(([]++v1.1).length+[(kbroken_a0 v1 v3)].length) * (32:Nat)<=140737488355328/\J5 ([]++v1.1++[(kbroken_a0 v1 v3)])) (IFB (decide (v6=3)) ((kbroken_a1 v3 v1)/\(Int.NonNeg 0/\0<(↑([]++v1.1).length:Int))/\(Int.NonNeg 0/\0<(↑([]++v1.1).length:Int))/\((0:Int)<=v3/\v3<(↑(([]++v1.1).set ((0:Nat)) (kbroken_a0 v1 v3)).length:Int))/\J5 ((([]++v1.1).set ((0:Nat)) (kbroken_a0 v1 v3)).set v3.toNat {Left:=(ix ([]++v1.1) 0).1,Low:=(ix ([]++v1.1) 0).2,Right:=(ix ([]++v1.1) 0).3,High:=(ix ([]++v1.1) 0).4:api_Rect})) ((kbroken_a1 v3 v1)/\(kbroken_a1 v3 v1)/\J5 (([]++v1.1).set v3.toNat (⟨(ix ([]++v1.1) v3).1,(ix ([]++v1.1) v3).2,(ix ([]++v1.1) v3).3,(ix ([]++v1.1) v3).2⟩:api_Rect))))))))) λ(J7:Bool->Prop)=>IFB (gx false (decide ((↑v1.1.length:Int)=0))) (Int.NonNeg 1099511627770/\∀(v8:Bool),J7 v8) (J7 false)
theorem kbroken_w (side:Int)(most:Int)(post:dens (shT kbroken_sp.rs [])->Prop):kbroken_W side most (λy0=>post (y0,()))=walkG (callR Tryz.prog kbroken_C (drawF Tryz.prog tau) 8 0) 19 true [tv (.int .i64) side,tv (.int .i64) most] kbroken_sp.rs post:=by kernel_rfl
theorem kbroken_of (h:∀side most post,kbroken_P side most post->kbroken_W side most post):SpecOK Tryz.prog kbroken_sp:=SpecOK.of_rules (C:=kbroken_C) (dr:=drawF Tryz.prog tau) (n:=8) (fk:=0) (.cons (rule1_ok kregion_ok) (.cons (rule1_ok knext_ok) (.cons (rule1_ok kone_ok) .nil))) (drawF_ok tau) λx post hp=>HoldW.of (kbroken_w x.1 x.2.1 post) (h x.1 x.2.1 (λy0=>post (y0,())) hp)
theorem kbroken_ok:SpecOK Tryz.prog kbroken_sp:=kbroken_of λside most post hp=>by
 obtain⟨⟨s0,s1,m0,m1⟩,hp⟩:=hp
 unfold kbroken_W kbroken_a1 kbroken_a0
 refine⟨⟨s0,by omega,m0,m1⟩,λv hv _=>JOIN.opq λ(J2:Bool->Prop) hJ2=> ?_⟩
 obtain⟨hval,hbox⟩:=hv
 have hb:∀r∈v.1,r.Right<=side/\r.High<=side/\r.Low<r.High:=λr hr=>by
  have:=canon_box hval.2.2 (x0:=0) (x1:=side) (y0:=0) (y1:=side) (λx y hxy=>by
   obtain⟨b1,b2⟩:=hbox x y hxy
   obtain⟨s,hs,t1,t2,t3,t4⟩:=cov_iff.1 hxy
   obtain⟨p1,_,_,p4,_,_⟩:=hval.2.1 s hs
   omega) r hr
  omega
 have hlen:=hval.1
 have main:∀b:Bool,J2 b:=λb=>by
  rw[hJ2]
  refine IFB.mk (λ_=>hp _ ⟨by show v.1.length<=121;omega,λr hr=>by have:=hb r hr;omega⟩) (λhc=> ?_)
  rw[Bool.or_eq_false_iff] at hc
  have hne:¬(v.1.length:Int)=0:=of_decide_eq_false hc.1
  simp only[List.nil_append]
  refine⟨by omega,λ_=>⟨by omega,λk k0 k1=>JOIN.opq λ(J5:List api_Rect->Prop) hJ5=>⟨.mk _,λw w0 w1=> ?_⟩⟩⟩
  have hk:0<=k/\k<(v.1.length:Int):=by omega
  have hx:=hb _ (ix_mem (l:=v.1) (i:=k) hk.1 hk.2)
  have fin:∀z:List Rc,z.length<=121->(∀r∈z,r.Right<=side+1/\r.High<=side)->J5 z:=λz h1 h2=>by rw[hJ5];exact hp _ ⟨h1,h2⟩
  have hall:∀r∈v.1,r.Right<=side+1/\r.High<=side:=λr hr=>by have:=hb r hr;omega
  have hset:∀(z:List Rc)(i:Nat)(r':Rc),z.length<=121->(∀r∈z,r.Right<=side+1/\r.High<=side)->(r'.Right<=side+1/\r'.High<=side)->(z.set i r').length<=121/\∀r∈z.set i r',r.Right<=side+1/\r.High<=side:=λz i r' h1 h2 h3=>⟨by rw[List.length_set];exact h1,λr hr=>by
   rcases List.mem_or_eq_of_mem_set hr with h|h
   ·exact h2 r h
   ·rw[h];exact h3⟩
  have hp0:=hval.2.1 _ (ix_mem (l:=v.1) (i:=k) hk.1 hk.2)
  refine IFB.mk (λ_=> ?_) (λ_=>IFB.mk (λ_=> ?_) (λ_=>IFB.mk (λ_=> ?_) (λ_=>IFB.mk (λ_=> ?_) (λ_=> ?_))))
  ·have w9:IntKind.i64.wrap ((ix v.1 k).3+1)=(ix v.1 k).3+1:=by
    obtain⟨a1,a2,a3,a4,a5,a6⟩:=hp0
    exact wrap_in (by omega) (by omega)
   rw[w9]
   obtain⟨g1,g2⟩:=hset v.1 k.toNat {Left:=(ix v.1 k).1,Low:=(ix v.1 k).2,Right:=(ix v.1 k).3+1,High:=(ix v.1 k).4} (by omega) hall ⟨by show (ix v.1 k).3+1<=_;omega,hx.2.1⟩
   exact⟨hk,hk,fin _ g1 g2⟩
  ·obtain⟨g1,g2⟩:=hset v.1 k.toNat {Left:= -1,Low:=(ix v.1 k).2,Right:=(ix v.1 k).3,High:=(ix v.1 k).4} (by omega) hall ⟨by show (ix v.1 k).3<=_;omega,hx.2.1⟩
   exact⟨hk,fin _ g1 g2⟩
  ·refine⟨hk,by rw[List.length_singleton];omega,fin _ (by rw[List.length_append];simp;omega) λr hr=> ?_⟩
   rcases List.mem_append.1 hr with h|h
   ·exact hall r h
   ·rw[List.mem_singleton] at h
    subst h
    exact⟨by show (ix v.1 k).3<=_;omega,hx.2.1⟩
  ·have hx0:=hb _ (ix_mem (l:=v.1) (i:=0) (by omega) (by omega))
   obtain⟨g1,g2⟩:=hset v.1 (0:Int).toNat {Left:=(ix v.1 k).1,Low:=(ix v.1 k).2,Right:=(ix v.1 k).3,High:=(ix v.1 k).4} (by omega) hall ⟨by show (ix v.1 k).3<=_;omega,hx.2.1⟩
   obtain⟨g3,g4⟩:=hset _ k.toNat {Left:=(ix v.1 0).1,Low:=(ix v.1 0).2,Right:=(ix v.1 0).3,High:=(ix v.1 0).4} g1 g2 ⟨by show (ix v.1 0).3<=_;omega,hx0.2.1⟩
   refine⟨hk,⟨.mk _,by omega⟩,⟨.mk _,by omega⟩,⟨hk.1,by rw[List.length_set];exact hk.2⟩,fin _ g3 g4⟩
  ·obtain⟨g1,g2⟩:=hset v.1 k.toNat {Left:=(ix v.1 k).1,Low:=(ix v.1 k).2,Right:=(ix v.1 k).3,High:=(ix v.1 k).2} (by omega) hall ⟨by show (ix v.1 k).3<=_;omega,by show (ix v.1 k).2<=_;have:=hx.2.2;have:=hx.2.1;omega⟩
   exact⟨hk,hk,fin _ g1 g2⟩
 first
 |exact IFB.mk (λ_=>⟨.mk _,main⟩) (λ_=>main false)
 |exact IFB.mk (λ_=>⟨.mk _,main⟩) (λ_=>main true)
variable {P:Program}
structure SpecN where
 f:FuncId
 e:TypeId
 t:Ty
 k:Nat
 e':TypeId
 t':Ty
 r:Ty
 pt:List (den t)->(den r->Prop)->Prop
def SpecNOK (P:Program)(s:SpecN):Prop:=∀l post,s.pt l post->∀(w:World)(S:Cells)(H:Value)(F:Nat->Prop)(v:Value)(vs:List Value),H= .tuple (v::vs).toArray->NstAt w S H F s.e s.t s.k s.e' s.t' l->(∀b o,S b o->b<w.heap.size)->(∀b,F b->b<w.heap.size/\∀o,¬S b o)->
 Calls P s.f #[v] w λex w'=>∃(y:den s.r)(rv:Value)(S':Cells),ex= .returned rv/\post y/\Rd S' w' (tv s.r y) rv/\(∀b o,S b o->S' b o)/\(∀b o,S' b o->b<w'.heap.size/\(S b o\/w.heap.size<=b))/\w'.os=w.os/\w'.tape=w.tape/\w'.output=w.output/\w.heap.size<=w'.heap.size/\(∀b,b<w.heap.size->¬F b->w'.heap[b]? =w.heap[b]?)/\NstAt w' S' H F s.e s.t s.k s.e' s.t' l
def nstN (s:SpecN)(l:List (den s.t)):MS:=⟨[(0,some (.nst s.e s.t s.k s.e' s.t' l))],1,false⟩
def shN (s:SpecN):Shape:=⟨[(0,.dat s.r)],[],[],[],[(0,s.e,s.t)]⟩
def baseN (s:SpecN)(l:List (den s.t)):St:=⟨[],nstN s l,1,[],[]⟩
def postN (s:SpecN)(l:List (den s.t))(post:den s.r->Prop)(y:dens [s.r,.sl s.t]):Prop:=(y.2.1:List (den s.t))=l/\post y.1
def fitN (s:SpecN)(l:List (den s.t))(post:den s.r->Prop)(r:SV)(m:MS):Prop:=match (shN s).fit (baseN s l) ⟨[(0,noC r)],m,1,[],[]⟩ with
 |some y=>postN s l post y
 |none=>False
def walkN (cp:CP)(s:SpecN)(l:List (den s.t))(post:den s.r->Prop):Prop:=cp s.f [.ns 0] (nstN s l) (fitN s l post)
theorem SpecNOK.of_cp {cp:CP}(hcp:CallOK P cp){s:SpecN}(h:∀l post,s.pt l post->walkN cp s l post):SpecNOK P s:=by
 intro l post hp w S H F v vs hH hat hS hF
 let c0:Cx:=⟨S,λ_=>H,λ_=>F,none⟩
 have hobs:∀id x,(nstN s l).obs id=some x->id=0/\x= .nst s.e s.t s.k s.e' s.t' l:=λid x hx=>by
  have hx:lookO [(0,some (.nst s.e s.t s.k s.e' s.t' l))] id=some x:=hx
  rw[lookO_cons] at hx
  by_cases e:id=0
  ·subst e;rw[put_same] at hx;injection hx with hx;exact⟨rfl,hx.symm⟩
  ·rw[put_ne _ _ e] at hx;cases hx
 have hox:OXM (nstN s l) w c0:=by
  refine⟨hS,λid x hx=> ?_,λid x hx ho b hb=> ?_,λi j x y hx ho hy ho' hne=> ?_,λT hT=>(by cases hT),λe=>(by cases e),λ_=>rfl⟩
  ·obtain⟨rfl,rfl⟩:=hobs id x hx
   exact⟨by show 0<1;omega,trivial,hat⟩
  ·exact⟨(hF b hb).1,(hF b hb).2,λe=>by cases e⟩
  ·obtain⟨rfl,_⟩:=hobs i x hx
   obtain⟨rfl,_⟩:=hobs j y hy
   exact absurd rfl hne
 have hargs:∀(i:Nat)(q:SV)(u:Value),[SV.ns 0][i]? =some q->[v][i]? =some u->SRel c0 w q u/\q.inU (nstN s l).U:=λi q u hq hu=>by
  cases i with
  |zero=>
   simp at hq hu
   subst hq hu
   exact⟨.ns 0 v vs hH,by show 0<1;omega⟩
  |succ i=>simp at hq
 refine (hcp _ _ _ _ (h l post hp) [v] w c0 hox rfl hargs).mono ?_
 rintro ex w' ⟨rv,r,m',c',rfl,hfit,hfr,hox',htr,hsr,hu⟩
 unfold fitN at hfit
 split at hfit
 rotate_left
 ·exact hfit.elim
 rename_i y0 hy
 obtain⟨y,hy0⟩:∃y:dens [s.r,.sl s.t],y=y0:=⟨y0,rfl⟩
 subst hy0
 obtain⟨hyl,hpost⟩:=hfit
 have hb0:RX (baseN s l) {tmps:= #[undef],defers:=[]} w c0:=⟨hox,rfl,λx u _=> .un u,λx=>trivial,λx q wt g y hx=>by cases hx⟩
 have hst:Step (baseN s l) {tmps:= #[undef],defers:=[]} w c0 ⟨[(0,noC r)],m',1,[],[]⟩ {tmps:= #[rv],defers:=[]} w' c':=by
  refine⟨⟨hox',rfl,λx u hx=> ?_,λx=> ?_,λx q wt g y hx=> ?_⟩,htr,rfl,rfl,⟨[(0,noC r)],rfl⟩,hfr⟩
  ·show SRel c' w' (look [(0,noC r)] x) u
   rw[look_cons]
   split
   ·rename_i e
    subst e
    have:rv=u:=by simpa using hx
    subst this
    exact noC_rel hsr
   ·exact .un u
  ·show (look [(0,noC r)] x).inU _
   rw[look_cons]
   split
   ·exact noC_inU hu
   ·trivial
  ·have hx:look [(0,noC r)] x= .cnd q wt g y:=hx
   rw[look_cons] at hx
   split at hx
   ·exact absurd hx noC_ne
   ·cases hx
 obtain⟨c2,k⟩:=Shape.fit_ok hy hb0 hst
 have hob:((shN s).inst (baseN s l) y).ms.obs 0=some (.nst s.e s.t s.k s.e' s.t' l):=by
  have e:((shN s).inst (baseN s l) y).ms.obs 0=some (.nst s.e s.t s.k s.e' s.t' (listOf s.t (.d (.sl s.t y.2.1)))):=rfl
  rw[e]
  have:listOf s.t (.d (.sl s.t (y.2.1:List (den s.t))))=l:=by
   rw[<-hyl]
   exact congrArg (·.getD []) (castL_same s.t _)
  rw[this]
 obtain⟨hU0,_,hat2⟩:=k.rx.ox.objs 0 _ hob
 have hHF:=k.tr.hH 0 (show 0<1 by omega)
 have hat2:NstAt w' c2.S (c2.H 0) (c2.F 0) s.e s.t s.k s.e' s.t' l:=hat2
 rw[hHF.1,hHF.2] at hat2
 have hrs:SRel c2 w' (.d (tv s.r y.1)) rv:=k.rx.sl 0 rv rfl
 have hFS:∀b,F b->∀o,¬c2.S b o:=λb hb=>(k.rx.ox.fb 0 _ hob rfl b (by rw[hHF.2];exact hb)).2.1
 have hFP:∀b,FP (nstN s l).obs c0 b->F b:=λb ⟨id,x,hx,ho,hb⟩=>hb
 refine⟨y.1,rv,c2.S,rfl,hpost,srel_d hrs,k.tr.sS,λb o hb=>⟨k.rx.ox.sb b o hb,?_⟩,k.tr.os,k.tr.tape,k.tr.output,k.tr.sz,λb hb hf=>k.tr.blk b hb (λhq=>hf (hFP b hq)) (λe=>by cases e),hat2⟩
 rcases k.tr.sN b o hb with hb'|hb'|hb'
 ·exact .inl hb'
 ·exact absurd hb (hFS b (hFP b hb') o)
 ·exact .inr hb'
theorem SpecNOK.of_rules {C:CtxR}{dr:DR}(hR:RulesOK P C.rs)(hdr:DrOK P dr){n fk:Nat}{s:SpecN}(h:∀l post,s.pt l post->HoldW (walkN (callR P C dr n fk) s l post)):SpecNOK P s:=
 SpecNOK.of_cp (callR_ok hR hdr n fk) λl post hp=>(h l post hp).h
def nstLk (m:MS)(s:SpecN)(id:Nat):Option (List (den s.t)):=match m.obs id with
 |some (.nst e t k e' t' l)=>bif Nat.beq e s.e&&Nat.beq k s.k&&Nat.beq e' s.e'&&t'.beq s.t' then castL s.t t l else none
 |_=>none
def lookNCp (s:SpecN)(ss:List SV)(m:MS)(k:SV->MS->Prop):Prop:=match ss with
 |[.ns id]=>match nstLk m s id with
  |some l=>s.pt l λy=>k (.d (tv s.r y)) m
  |none=>False
 |_=>False
def ruleNl (s:SpecN):Rule:=⟨s.f,lookNCp s⟩
theorem ruleNl_ok {s:SpecN}(hs:SpecNOK P s):RuleOK P (ruleNl s):=by
 intro ss m k hk us w c hox hl hr
 replace hk:lookNCp s ss m k:=hk
 unfold lookNCp at hk
 split at hk
 rotate_left
 ·exact hk.elim
 rename_i id
 split at hk
 rotate_left
 ·exact hk.elim
 rename_i l hlk
 have hob:m.obs id=some (.nst s.e s.t s.k s.e' s.t' l):=by
  unfold nstLk at hlk
  split at hlk
  ·rename_i e t k' e' t' l' hob
   cases hb:(Nat.beq e s.e&&Nat.beq k' s.k&&Nat.beq e' s.e'&&t'.beq s.t') with
   |false=>rw[hb] at hlk;cases hlk
   |true=>
    rw[hb] at hlk
    simp only[Bool.and_eq_true] at hb
    obtain⟨⟨⟨b1,b2⟩,b3⟩,b4⟩:=hb
    have b1:=beq_eq b1
    have b2:=beq_eq b2
    have b3:=beq_eq b3
    have b4:=Ty.beq_eq b4
    subst b1 b2 b3 b4
    simp only[cond_true] at hlk
    obtain⟨a1,a2⟩:=castL_eq hlk
    subst a1
    have a2:=eq_of_heq a2
    subst a2
    exact hob
  ·cases hlk
 match us,hl with
 |[u],hl=>
 obtain⟨hsr,hu⟩:=hr 0 (.ns id) u rfl rfl
 obtain⟨hUid,_,hat⟩:=hox.objs id _ hob
 have hat:NstAt w c.S (c.H id) (c.F id) s.e s.t s.k s.e' s.t' l:=hat
 obtain⟨vs,hH⟩:∃vs,c.H id= .tuple (u::vs).toArray:=by
  cases hsr with
  |ns _ _ vs h=>exact⟨vs,h⟩
 have hfb:=λb hb=>hox.fb id _ hob rfl b hb
 refine (hs l _ hk w c.S (c.H id) (c.F id) u vs hH hat hox.sb λb hb=>⟨(hfb b hb).1,(hfb b hb).2.1⟩).mono ?_
 rintro ex w' ⟨y,rv,S',rfl,hq,hrd,g1,g2,g3,g4,g5,g6,g7,g8⟩
 have hcell:∀b' o,c.S b' o->w'.cell? ⟨b',o,none⟩=w.cell? ⟨b',o,none⟩:=λb' o hs'=>World.cell?_of_block (g7 b' (hox.sb b' o hs') λe=>(hfb b' e).2.1 o hs')
 have hnS:∀b,b<w.heap.size->(∀o,¬c.S b o)->∀o,¬S' b o:=λb hb hn o hS'=>by
  rcases (g2 b o hS').2 with h|h
  ·exact hn o h
  ·omega
 refine⟨rv,.d (tv s.r y),m,⟨S',c.H,c.F,c.T⟩,rfl,hq,.refl m,⟨λb o hb=>(g2 b o hb).1,λj z hz=> ?_,λj z hz ho b hb=> ?_,hox.dj,λT0 hT=> ?_,λe=> ?_,hox.tF⟩,⟨g3,g4,g5,g6,λ_ h=>h,λ_ h=> .inl h,λ_ h=>h,λ_ _=>⟨rfl,rfl⟩,g1,λb o hb=>((g2 b o hb).2).imp (λh=>h) .inr,λb hb hf hT=>g7 b hb λe=>hf ⟨id,_,hob,rfl,e⟩,λb hb=> .inl hb⟩,.d _ _ hrd,trivial⟩
 ·obtain⟨u1,u2,u3⟩:=hox.objs j z hz
  refine⟨u1,u2,?_⟩
  by_cases e:j=id
  ·subst e
   rw[hob] at hz
   injection hz with hz
   subst hz
   exact g8
  ·exact u3.keep (U:=m.U) u2 g1 hcell (λ_ h=>h) (λ_ _=>rfl) ⟨rfl,rfl⟩ λho b hb=>g7 b (hox.fb j z hz ho b hb).1 λe'=>hox.dj j id z _ hz ho hob rfl e b hb e'
 ·obtain⟨u1,u2,u3⟩:=hox.fb j z hz ho b hb
  exact⟨Nat.lt_of_lt_of_le u1 g6,hnS b u1 u2,u3⟩
 ·obtain⟨t1,t2⟩:=hox.nT T0 hT
  exact⟨Nat.lt_of_lt_of_le t1 g6,hnS T0 t1 t2⟩
 ·obtain⟨T0,hT,ht⟩:=hox.tpe e
  exact⟨T0,hT,ht.mono g1 hcell (g7 T0 ht.lt λe'=>(hfb T0 e').2.2 hT)⟩
def rfaces_P (l:List (api_Version))(post:List (landaidref22_face)->Prop):Prop:=(manyV l/\smallF (linV l))/\post (facesRG [] [] (linV l))
def rfaces_sp:Spec:=⟨117,false,true,[.sl (.st .api_Version)],.dat (.sl (.st .landaidref22_face)),λx post=>rfaces_P (x.1:List (api_Version)) (λy0=>post (y0,()))⟩
def rfaces_C:CtxR:=⟨tau,[rule1 rplaces_sp,rule1 rcomb_sp],lookJ [(0,11,⟨[(21,.dat (.int .i64)),(5,.own 173 (.st .landaidref22_face)),(6,.dat (.sl (.st .api_Rect)))],[],(List.range' 22 71++[7,8,9,11,13]),[],[]⟩),(0,35,⟨[(79,.dat (.int .i64)),(5,.own 173 (.st .landaidref22_face))],[],(List.range' 80 12++[13]),[],[]⟩),(0,42,⟨[(5,.own 173 (.st .landaidref22_face))],[],(List.range' 81 10++[13]),[4],[]⟩),(0,1000013,⟨[(9,.own 173 (.st .landaidref22_face))],[],(List.range' 60 13),[2],[]⟩),(0,19,⟨[(28,.dat (.int .i64)),(9,.own 173 (.st .landaidref22_face))],[],(List.range' 29 31++[11]),[],[]⟩),(0,1000011,⟨[(9,.own 173 (.st .landaidref22_face))],[],(List.range' 32 27),[2],[]⟩)]⟩
abbrev rfaces_a0 (z4:List landaidref22_face)(z7:Int)(l:List (api_Version))(z3:Int):={claims:=[]++(ix z4 z7).1++[{Application:=(ix (plcN l l.length) z3).1,Line:=(ix (plcN l l.length) z3).2:api_Place}],rects:=canonF λ(x y:Int)=>howS (2:Int) (cov (ix z4 z7).2 x y) (cov (ix (regN l l.length) z3).1 x y):landaidref22_face}
abbrev rfaces_a1 (z4:List landaidref22_face)(z7:Int)(l:List (api_Version))(z3:Int):={claims:=(ix z4 z7).1,rects:=canonF λ(x y:Int)=>howS (3:Int) (cov (ix z4 z7).2 x y) (cov (ix (regN l l.length) z3).1 x y):landaidref22_face}
abbrev rfaces_a2 (z4:List landaidref22_face)(z7:Int)(l:List (api_Version))(z3:Int)(z8:List landaidref22_face)(J10:List landaidref22_face->Prop):=(((0:Nat)+(ix z4 z7).1.length) * (16:Nat)<=(140737488355328:Nat)/\(([]++(ix z4 z7).1).length+[{Application:=(ix (plcN l l.length) z3).1,Line:=(ix (plcN l l.length) z3).2:api_Place}].length) * (16:Nat)<=(140737488355328:Nat)/\((ix z4 z7).2.length<=(1000:Nat)/\(ix (regN l l.length) z3).1.length<=(1000:Nat))/\(z8.length+[(rfaces_a1 z4 z7 l z3),(rfaces_a0 z4 z7 l z3)].length) * (48:Nat)<=(140737488355328:Nat)/\J10 (z8++[(rfaces_a1 z4 z7 l z3),(rfaces_a0 z4 z7 l z3)]))
abbrev rfaces_a3 (z4:List landaidref22_face)(z7:Int)(l:List (api_Version))(z3:Int)(z8:List landaidref22_face)(J10:List landaidref22_face->Prop):=((([]++(ix z4 z7).1).length+[{Application:=(ix (plcN l l.length) z3).1,Line:=(ix (plcN l l.length) z3).2:api_Place}].length) * (16:Nat)<=(140737488355328:Nat)/\((ix z4 z7).2.length<=(1000:Nat)/\(ix (regN l l.length) z3).1.length<=(1000:Nat))/\(z8.length+[(rfaces_a1 z4 z7 l z3),(rfaces_a0 z4 z7 l z3)].length) * (48:Nat)<=(140737488355328:Nat)/\J10 (z8++[(rfaces_a1 z4 z7 l z3),(rfaces_a0 z4 z7 l z3)]))
abbrev rfaces_a4 (z4:List landaidref22_face)(z7:Int)(l:List (api_Version))(z3:Int):=((ix z4 z7).2.length<=(1000:Nat)/\(ix (regN l l.length) z3).1.length<=(1000:Nat))
abbrev rfaces_a5 (z4:List landaidref22_face)(z7:Int)(l:List (api_Version))(z3:Int):=(([]++(ix z4 z7).1).length+[{Application:=(ix (plcN l l.length) z3).1,Line:=(ix (plcN l l.length) z3).2:api_Place}].length)
abbrev rfaces_a6 (z8:List landaidref22_face)(z4:List landaidref22_face)(z7:Int)(l:List (api_Version))(z3:Int):=(z8.length+[(rfaces_a1 z4 z7 l z3),(rfaces_a0 z4 z7 l z3)].length)
abbrev rfaces_a7 (z4:List landaidref22_face)(z7:Int)(l:List (api_Version))(z3:Int)(z8:List landaidref22_face)(J10:List landaidref22_face->Prop):=((rfaces_a4 z4 z7 l z3)/\(rfaces_a6 z8 z4 z7 l z3) * (48:Nat)<=(140737488355328:Nat)/\J10 (z8++[(rfaces_a1 z4 z7 l z3),(rfaces_a0 z4 z7 l z3)]))
abbrev rfaces_a8 (l:List (api_Version))(z3:Int)(z5:List api_Rect):={claims:=[{Application:=(ix (plcN l l.length) z3).1,Line:=(ix (plcN l l.length) z3).2:api_Place}],rects:=canonF λ(x y:Int)=>howS (3:Int) (cov (ix (regN l l.length) z3).1 x y) (cov z5 x y):landaidref22_face}
abbrev rfaces_a9 (z8:List landaidref22_face)(z4:List landaidref22_face)(z7:Int)(l:List (api_Version))(z3:Int)(J10:List landaidref22_face->Prop):=((rfaces_a6 z8 z4 z7 l z3) * (48:Nat)<=(140737488355328:Nat)/\J10 (z8++[(rfaces_a1 z4 z7 l z3),(rfaces_a0 z4 z7 l z3)]))
abbrev rfaces_a10 (z4:List landaidref22_face)(z7:Int)(l:List (api_Version))(z3:Int)(z8:List landaidref22_face)(J10:List landaidref22_face->Prop):=((rfaces_a2 z4 z7 l z3 z8 J10)/\((0:Nat)+(ix z4 z7).1.length) * (16:Nat)<=(140737488355328:Nat)/\(rfaces_a5 z4 z7 l z3) * (16:Nat)<=(140737488355328:Nat)/\(rfaces_a4 z4 z7 l z3)/\(rfaces_a6 z8 z4 z7 l z3) * (48:Nat)<=(140737488355328:Nat)/\J10 (z8++[(rfaces_a1 z4 z7 l z3),(rfaces_a0 z4 z7 l z3)]))
abbrev rfaces_a11 (z4:List landaidref22_face)(z7:Int)(l:List (api_Version))(z3:Int)(z8:List landaidref22_face)(J10:List landaidref22_face->Prop):=(((0:Nat)+(ix z4 z7).1.length) * (16:Nat)<=(140737488355328:Nat)/\(rfaces_a3 z4 z7 l z3 z8 J10)/\(rfaces_a3 z4 z7 l z3 z8 J10)/\(rfaces_a5 z4 z7 l z3) * (16:Nat)<=(140737488355328:Nat)/\(rfaces_a7 z4 z7 l z3 z8 J10)/\(rfaces_a4 z4 z7 l z3)/\(rfaces_a9 z8 z4 z7 l z3 J10)/\(rfaces_a6 z8 z4 z7 l z3) * (48:Nat)<=(140737488355328:Nat)/\J10 (z8++[(rfaces_a1 z4 z7 l z3),(rfaces_a0 z4 z7 l z3)]))
def rfaces_W (l:List (api_Version))(post:List (landaidref22_face)->Prop):Prop:=(l.length<=1000/\∀(v1:api_Version),v1∈l->v1.2.length<=1000)/\((↑(regN l l.length).length:Int)<=9223372036854775807->LOOP [Ty.int IntKind.i64,(Ty.st Sn.landaidref22_face).sl,(Ty.st Sn.api_Rect).sl] (λ(rec2:Int->List landaidref22_face->List api_Rect->Prop) (z3:Int) (z4:List landaidref22_face) (z5:List api_Rect)=>IFB (decide (z3<(↑(regN l l.length).length:Int))) (((0:Int)<=z3/\z3<(↑(regN l l.length).length:Int))/\((↑z4.length:Int)<=9223372036854775807->LOOP [Ty.int IntKind.i64,(Ty.st Sn.landaidref22_face).sl] (λ(rec6:Int->List landaidref22_face->Prop) (z7:Int) (z8:List landaidref22_face)=>IFB (decide (z7<(↑z4.length:Int))) (((0:Int)<=z7/\z7<(↑z4.length:Int))/\JOIN [(Ty.st Sn.landaidref22_face).sl] (λ(y9:List landaidref22_face)=>rec6 (IntKind.i64.wrap (z7+1)) y9) λ(J10:List landaidref22_face->Prop)=>((0:Int)<=z3/\z3<(↑(plcN l l.length).length:Int))/\((rfaces_a4 z4 z7 l z3)/\((rfaces_a10 z4 z7 l z3 z8 J10)/\((0:Nat)+(ix z4 z7).1.length) * (16:Nat)<=140737488355328/\(rfaces_a5 z4 z7 l z3) * (16:Nat)<=140737488355328/\(rfaces_a4 z4 z7 l z3)/\(rfaces_a6 z8 z4 z7 l z3) * (48:Nat)<=140737488355328/\J10 (z8++[(rfaces_a1 z4 z7 l z3),(rfaces_a0 z4 z7 l z3)]))/\((rfaces_a10 z4 z7 l z3 z8 J10)/\(rfaces_a11 z4 z7 l z3 z8 J10)/\(rfaces_a2 z4 z7 l z3 z8 J10)/\((0:Nat)+(ix z4 z7).1.length) * (16:Nat)<=140737488355328/\(rfaces_a3 z4 z7 l z3 z8 J10)/\(rfaces_a5 z4 z7 l z3) * (16:Nat)<=140737488355328/\(rfaces_a7 z4 z7 l z3 z8 J10)/\(rfaces_a4 z4 z7 l z3)/\(rfaces_a9 z8 z4 z7 l z3 J10)/\(rfaces_a6 z8 z4 z7 l z3) * (48:Nat)<=140737488355328/\J10 (z8++[(rfaces_a1 z4 z7 l z3),(rfaces_a0 z4 z7 l z3)]))/\(rfaces_a2 z4 z7 l z3 z8 J10)/\(rfaces_a2 z4 z7 l z3 z8 J10)/\((0:Nat)+(ix z4 z7).1.length) * (16:Nat)<=140737488355328/\(rfaces_a3 z4 z7 l z3 z8 J10)/\(rfaces_a5 z4 z7 l z3) * (16:Nat)<=140737488355328/\(rfaces_a7 z4 z7 l z3 z8 J10)/\(rfaces_a4 z4 z7 l z3)/\(rfaces_a9 z8 z4 z7 l z3 J10)/\(rfaces_a6 z8 z4 z7 l z3) * (48:Nat)<=140737488355328/\J10 (z8++[(rfaces_a1 z4 z7 l z3),(rfaces_a0 z4 z7 l z3)]))/\(((rfaces_a4 z4 z7 l z3)/\(rfaces_a10 z4 z7 l z3 z8 J10)/\(rfaces_a11 z4 z7 l z3 z8 J10)/\(rfaces_a2 z4 z7 l z3 z8 J10)/\((0:Nat)+(ix z4 z7).1.length) * (16:Nat)<=140737488355328/\(rfaces_a3 z4 z7 l z3 z8 J10)/\(rfaces_a5 z4 z7 l z3) * (16:Nat)<=140737488355328/\(rfaces_a7 z4 z7 l z3 z8 J10)/\(rfaces_a4 z4 z7 l z3)/\(rfaces_a9 z8 z4 z7 l z3 J10)/\(rfaces_a6 z8 z4 z7 l z3) * (48:Nat)<=140737488355328/\J10 (z8++[(rfaces_a1 z4 z7 l z3),(rfaces_a0 z4 z7 l z3)]))/\(rfaces_a4 z4 z7 l z3)/\(rfaces_a2 z4 z7 l z3 z8 J10)/\((0:Nat)+(ix z4 z7).1.length) * (16:Nat)<=140737488355328/\(rfaces_a3 z4 z7 l z3 z8 J10)/\(rfaces_a5 z4 z7 l z3) * (16:Nat)<=140737488355328/\(rfaces_a7 z4 z7 l z3 z8 J10)/\(rfaces_a4 z4 z7 l z3)/\(rfaces_a9 z8 z4 z7 l z3 J10)/\(rfaces_a6 z8 z4 z7 l z3) * (48:Nat)<=140737488355328/\J10 (z8++[(rfaces_a1 z4 z7 l z3),(rfaces_a0 z4 z7 l z3)]))/\((rfaces_a4 z4 z7 l z3)/\(rfaces_a2 z4 z7 l z3 z8 J10)/\(rfaces_a2 z4 z7 l z3 z8 J10)/\((0:Nat)+(ix z4 z7).1.length) * (16:Nat)<=140737488355328/\(rfaces_a3 z4 z7 l z3 z8 J10)/\(rfaces_a5 z4 z7 l z3) * (16:Nat)<=140737488355328/\(rfaces_a7 z4 z7 l z3 z8 J10)/\(rfaces_a4 z4 z7 l z3)/\(rfaces_a9 z8 z4 z7 l z3 J10)/\(rfaces_a6 z8 z4 z7 l z3) * (48:Nat)<=140737488355328/\J10 (z8++[(rfaces_a1 z4 z7 l z3),(rfaces_a0 z4 z7 l z3)]))/\(rfaces_a4 z4 z7 l z3)/\(rfaces_a2 z4 z7 l z3 z8 J10)/\((0:Nat)+(ix z4 z7).1.length) * (16:Nat)<=140737488355328/\(rfaces_a3 z4 z7 l z3 z8 J10)/\(rfaces_a5 z4 z7 l z3) * (16:Nat)<=140737488355328/\(rfaces_a7 z4 z7 l z3 z8 J10)/\(rfaces_a4 z4 z7 l z3)/\(rfaces_a9 z8 z4 z7 l z3 J10)/\(rfaces_a6 z8 z4 z7 l z3) * (48:Nat)<=140737488355328/\J10 (z8++[(rfaces_a1 z4 z7 l z3),(rfaces_a0 z4 z7 l z3)])) (JOIN [(Ty.st Sn.landaidref22_face).sl] (λ(y11:List landaidref22_face)=>(z5.length<=1000/\(ix (regN l l.length) z3).1.length<=1000)/\((↑y11.length:Int)<=9223372036854775807->LOOP [Ty.int IntKind.i64,(Ty.st Sn.landaidref22_face).sl] (λ(rec12:Int->List landaidref22_face->Prop) (z13:Int) (z14:List landaidref22_face)=>IFB (decide (z13<(↑y11.length:Int))) (JOIN [(Ty.st Sn.landaidref22_face).sl] (λ(y15:List landaidref22_face)=>rec12 (IntKind.i64.wrap (z13+1)) y15) λ(J16:List landaidref22_face->Prop)=>((0:Int)<=z13/\z13<(↑y11.length:Int))/\((↑(ix y11 z13).2.length:Int)<=9223372036854775807->IFB (decide ((0:Int)<(↑(ix y11 z13).2.length:Int))) ((z14.length+[{claims:=(ix y11 z13).1,rects:=(ix y11 z13).2:landaidref22_face}].length) * (48:Nat)<=140737488355328/\J16 (z14++[{claims:=(ix y11 z13).1,rects:=(ix y11 z13).2:landaidref22_face}])) (J16 z14))) (rec2 (IntKind.i64.wrap (z3+1)) z14 (canonF λ(x y:Int)=>howS (1:Int) (cov z5 x y) (cov (ix (regN l l.length) z3).1 x y)))) ((0:Int),[],PUnit.unit))) λ(J17:List landaidref22_face->Prop)=>((0:Int)<=z3/\z3<(↑(plcN l l.length).length:Int))/\(((ix (regN l l.length) z3).1.length<=1000/\z5.length<=1000)/\(z8.length+[(rfaces_a8 l z3 z5)].length) * (48:Nat)<=140737488355328/\J17 (z8++[(rfaces_a8 l z3 z5)]))/\((ix (regN l l.length) z3).1.length<=1000/\z5.length<=1000)/\(z8.length+[(rfaces_a8 l z3 z5)].length) * (48:Nat)<=140737488355328/\J17 (z8++[(rfaces_a8 l z3 z5)]))) ((0:Int),[],PUnit.unit))) (post z4)) ((0:Int),[],[],PUnit.unit))
theorem rfaces_w (l:List (api_Version))(post:dens (shT rfaces_sp.rs [])->Prop):rfaces_W l (λy0=>post (y0,()))=walkG (callR Tryz.prog rfaces_C (drawR Tryz.prog tau) 8 0) 117 false [tv (.sl (.st .api_Version)) l] rfaces_sp.rs post:=by kernel_rfl
theorem rfaces_of (h:∀l post,rfaces_P l post->rfaces_W l post):SpecOK Tryz.prog rfaces_sp:=SpecOK.of_rules (C:=rfaces_C) (dr:=drawR Tryz.prog tau) (n:=8) (fk:=0) (.cons (rule1_ok rplaces_ok) (.cons (rule1_ok rcomb_ok) .nil)) (drawR_ok tau) λx post hp=>HoldW.of (rfaces_w x.1 post) (h x.1 (λy0=>post (y0,())) hp)
namespace PL
noncomputable def allR (a:List Rc) (L:List Ln):List Rc:=L.foldl (λa x=>orC a x.rects) a
def rfaI (L:List Ln)(z:Int)(b:List FaceR)(a:List Rc):Prop:=∃k:Nat,z=(k:Int)/\k<=L.length/\b=facesRG [] [] (L.take k)/\a=allR [] (L.take k)
def rfaJ (F:List FaceR)(x:Ln)(z:Int)(b:List FaceR):Prop:=∃j:Nat,z=(j:Int)/\j<=F.length/\b=(F.take j).flatMap (nextR x)
def rfaK (F:List FaceR)(z:Int)(b:List FaceR):Prop:=∃j:Nat,z=(j:Int)/\j<=F.length/\b=(F.take j).filter (λf=> !f.rects.isEmpty)
end PL
theorem facesRG_app:∀{M:List Ln}{F:List FaceR}{a:List Rc}{x:Ln},facesRG F a (M++[x])=stepR (facesRG F a M) (allR a M) x
 |[],F,a,x=>rfl
 |m::M,F,a,x=>by
  show facesRG _ _ (M++[x])=_
  rw[facesRG_app];rfl
theorem allR_app {M:List Ln}{a:List Rc}{x:Ln}:allR a (M++[x])=orC (allR a M) x.rects:=by unfold allR;rw[List.foldl_append];rfl
theorem allR_cov:∀{M:List Ln}{a:List Rc}{u v:Int},cov (allR a M) u v=(cov a u v||cov (M.flatMap (·.rects)) u v)
 |[],a,u,v=>by show cov a u v=_;rw[List.flatMap_nil,cov_nil,Bool.or_false]
 |m::M,a,u,v=>by
  show cov (allR (orC a m.rects) M) u v=_
  rw[allR_cov,cov_or,List.flatMap_cons,cov_app,Bool.or_assoc]
theorem allR_can:∀{M:List Ln}{a:List Rc},Canon a->Canon (allR a M)
 |[],a,h=>h
 |m::M,a,_=>allR_can (M:=M) (can_or a m.rects)
theorem faces_perm {L:List Ln}{F G:List Fc}(h:FacesOK L F)(p:F.Perm G):FacesOK L G:=
 ⟨λf hf=>h.each f (p.mem_iff.2 hf),λx y hw=>by
  obtain⟨f,hf,hc⟩:=h.all x y hw
  exact⟨f,p.mem_iff.1 hf,hc⟩,p.pairwise h.ne λ{a b} h e=>h e.symm⟩
theorem nextR_len (x:Ln)(F:List FaceR):(F.flatMap (nextR x)).length=2 * F.length:=by
 induction F with
 |nil=>rfl
 |cons f F ih=>
  rw[List.flatMap_cons,List.length_append,ih,List.length_cons]
  have:(nextR x f).length=2:=rfl
  omega
theorem ix_map {α β:Type}[Inhabited α][Inhabited β]{f:α->β}{l:List α}{k:Nat}(h:k<l.length):ix (l.map f) (k:Int)=f (ix l (k:Int)):=by
 rw[ix_lt (by rw[List.length_map];exact h),ix_lt h,List.getElem_map]
theorem rfaces_h (l:List api_Version)(post:List (landaidref22_face)->Prop)(hp:rfaces_P l post):rfaces_W l post:=by
 obtain⟨⟨h1,hs⟩,hp⟩:=hp
 unfold rfaces_W rfaces_a11 rfaces_a10 rfaces_a9 rfaces_a8 rfaces_a7 rfaces_a6 rfaces_a5 rfaces_a4 rfaces_a3 rfaces_a2 rfaces_a1 rfaces_a0
 refine⟨h1,?_⟩
 have eR:regN l l.length=(linV l).map (λx=>(⟨x.rects⟩:api_Region)):=(lin_reg l l.length).symm
 have eP:plcN l l.length=(linV l).map (·.place):=(linN_places l l.length).symm
 rw[eR,eP]
 generalize linV l=L at *
 clear eR eP h1
 have hL:L.length<=60:=hs.1
 have eRl:(L.map (λx=>(⟨x.rects⟩:api_Region))).length=L.length:=List.length_map ..
 have ePl:(L.map (λx:Ln=>x.place)).length=L.length:=List.length_map ..
 rw[eRl,ePl]
 refine λ_=>LOOP.fuel (λu=>rfaI L u.1 u.2.1 u.2.2.1) (λu=>L.length-Int.toNat u.1) ⟨0,rfl,Nat.zero_le _,rfl,rfl⟩ ?_
 rintro rec ⟨(z:Int),(b:List FaceR),(a:List Rc),⟨⟩⟩ ⟨k,i1,i2,i3,i4⟩ hrec
 have i1:z=(k:Int):=i1
 have q3:b=facesRG [] [] (L.take k):=i3
 have q4:a=allR [] (L.take k):=i4
 clear i3 i4
 subst i1
 refine IFB.mk (λhb=> ?_) (λhb=> ?_)
 rotate_left
 ·have hb:¬(k:Int)<L.length:=of_decide_eq_false hb
  have hk:k=L.length:=by omega
  rw[hk,List.take_length] at q3
  show post b
  rw[q3];exact hp
 have hb:(k:Int)<L.length:=of_decide_eq_true hb
 have hkl:k<L.length:=by omega
 obtain⟨x,hx⟩:∃x,L[k]? =some x:=⟨_,List.getElem?_eq_getElem hkl⟩
 have hix:ix L (k:Int)=x:=ix_of hx
 have hiR:ix (L.map (λx=>(⟨x.rects⟩:api_Region))) (k:Int)=⟨x.rects⟩:=by rw[ix_map hkl,hix]
 have hiP:ix (L.map (λx:Ln=>x.place)) (k:Int)=x.place:=by rw[ix_map hkl,hix]
 have hsk:=small_take hs k
 have hok:FacesOK (L.take k) (b.map cv):=by rw[q3];exact faces_perm (faces_ok hsk.2.1) (facesR_perm _).symm
 have hbk:∀l∈L.take k,inBox l.rects:=λl hl=>(hsk.2.2 l hl).1
 have hlk:(L.take k).length<=60:=hsk.1
 have hfew:=faces_few hok hbk
 rw[List.length_map] at hfew
 obtain⟨hx1,hx2⟩:=hs.2.2 x (List.mem_of_getElem? hx)
 have ha:a.length<=300:=(can_inBox (by rw[q4];exact allR_can canon_nil) λu v hc=>by
  rw[q4,allR_cov,cov_nil,Bool.false_or] at hc
  exact who_cov (L:=L.take k) (λe=>by rw[who_nil.1 e] at hc;cases hc) hbk).2
 have etk:L.take (k+1)=L.take k++[x]:=by rw[List.take_succ_eq_append_getElem hkl,(List.getElem?_eq_some_iff.1 hx).2]
 refine⟨⟨by omega,hb⟩,λ_=> ?_⟩
 dsimp only
 rw[hiR,hiP]
 refine LOOP.fuel (λu=>rfaJ b x u.1 u.2.1) (λu=>b.length-Int.toNat u.1) ⟨0,rfl,Nat.zero_le _,rfl⟩ ?_
 rintro rec2 ⟨(z2:Int),(c:List FaceR),⟨⟩⟩ ⟨j,j1,j2,j3⟩ hrec2
 have j1:z2=(j:Int):=j1
 have r3:c=(b.take j).flatMap (nextR x):=j3
 clear j3
 subst j1
 have hcl:c.length<=600:=by rw[r3,nextR_len,List.length_take];omega
 have hxl:x.rects.length<=1000:=by omega
 refine IFB.mk (λhc=> ?_) (λhc=> ?_)
 ·have hc:(j:Int)<b.length:=of_decide_eq_true hc
  have hj:j<b.length:=by omega
  obtain⟨f,hf⟩:∃f,b[j]? =some f:=⟨_,List.getElem?_eq_getElem hj⟩
  have hif:ix b (j:Int)=f:=ix_of hf
  obtain⟨f1,f2,f3⟩:=face_small hok hbk (List.mem_map.2 ⟨f,List.mem_of_getElem? hf,rfl⟩)
  have f2:f.rects.length<=300:=f2
  have f3:f.claims.length<=(L.take k).length:=f3
  refine⟨⟨by omega,hc⟩,JOIN.opq λ(J:List FaceR->Prop) hJ=> ?_⟩
  dsimp only
  rw[hif]
  have c0:(0:Int)<=(k:Int)/\(k:Int)<(L.length:Int):=⟨by omega,hb⟩
  have c1:(0+f.claims.length) * 16<=140737488355328:=by omega
  have c2:(([]++f.claims:List api_Place).length+[(⟨x.place.1,x.place.2⟩:api_Place)].length) * 16<=140737488355328:=by simp only[List.nil_append,List.length_cons,List.length_nil];omega
  have c3:f.rects.length<=1000:=by omega
  have c4:∀u v:FaceR,(c.length+[u,v].length) * 48<=140737488355328:=λu v=>by simp only[List.length_cons,List.length_nil];omega
  have fin:J (c++[(⟨f.claims,canonF (comb (howS 3) f.rects x.rects)⟩:FaceR),⟨[]++f.claims++[⟨x.place.1,x.place.2⟩],canonF (comb (howS 2) f.rects x.rects)⟩]):=by
   rw[hJ]
   show rec2 (IntKind.i64.wrap ((j:Int)+1)) _
   rw[wrapS (by omega)]
   refine hrec2 (((j+1:Nat):Int),_,()) ⟨j+1,rfl,hj,?_⟩ (by show b.length-((j+1:Nat):Int).toNat<b.length-(j:Int).toNat;omega)
   show c++_=_
   rw[List.take_succ_eq_append_getElem hj,List.flatMap_append,<-r3,(List.getElem?_eq_some_iff.1 hf).2]
   simp only[List.flatMap_cons,List.flatMap_nil,List.append_nil]
   rfl
  repeat' first
   |exact fin
   |exact c0
   |exact c1
   |exact c2
   |exact c3
   |exact hxl
   |exact c4 _ _
   |with_reducible apply And.intro
 ·have hc:¬(j:Int)<b.length:=of_decide_eq_false hc
  have hj:j=b.length:=by omega
  rw[hj,List.take_length] at r3
  refine JOIN.opq λ(J:List FaceR->Prop) hJ=> ?_
  have c0:(0:Int)<=(k:Int)/\(k:Int)<(L.length:Int):=⟨by omega,hb⟩
  have c3:a.length<=1000:=by omega
  have c4:∀u:FaceR,(c.length+[u].length) * 48<=140737488355328:=λu=>by simp only[List.length_cons,List.length_nil];omega
  have fin:J (c++[(⟨[⟨x.place.1,x.place.2⟩],canonF (comb (howS 3) x.rects a)⟩:FaceR)]):=by
   rw[hJ]
   dsimp only
   have hst:(c++[(⟨[⟨x.place.1,x.place.2⟩],canonF (comb (howS 3) x.rects a)⟩:FaceR)]).filter (λf=> !f.rects.isEmpty)=facesRG [] [] (L.take (k+1)):=by
    rw[etk,facesRG_app,<-q3,<-q4,r3];rfl
   have hlen:(c++[(⟨[⟨x.place.1,x.place.2⟩],canonF (comb (howS 3) x.rects a)⟩:FaceR)]).length<=601:=by simp only[List.length_append,List.length_cons,List.length_nil];omega
   generalize (c++[(⟨[⟨x.place.1,x.place.2⟩],canonF (comb (howS 3) x.rects a)⟩:FaceR)])=Y at *
   refine⟨⟨c3,hxl⟩,λ_=> ?_⟩
   refine LOOP.fuel (λu=>rfaK Y u.1 u.2.1) (λu=>Y.length-Int.toNat u.1) ⟨0,rfl,Nat.zero_le _,rfl⟩ ?_
   rintro rec3 ⟨(z3:Int),(d:List FaceR),⟨⟩⟩ ⟨m,m1,m2,m3⟩ hrec3
   have m1:z3=(m:Int):=m1
   have s3:d=(Y.take m).filter (λf=> !f.rects.isEmpty):=m3
   clear m3
   subst m1
   have hdl:d.length<=601:=by
    rw[s3]
    have:=List.length_filter_le (λf:FaceR=> !f.rects.isEmpty) (Y.take m)
    rw[List.length_take] at this
    omega
   refine IFB.mk (λhd=>JOIN.opq λ(K:List FaceR->Prop) hK=> ?_) (λhd=> ?_)
   ·have hd:(m:Int)<Y.length:=of_decide_eq_true hd
    have hm:m<Y.length:=by omega
    have hK2:∀y:List FaceR,y=(Y.take (m+1)).filter (λf=> !f.rects.isEmpty)->K y:=λy hy=>by
     rw[hK]
     show rec3 (IntKind.i64.wrap ((m:Int)+1)) y
     rw[wrapS (by omega)]
     exact hrec3 (((m+1:Nat):Int),y,()) ⟨m+1,rfl,hm,hy⟩ (by show Y.length-((m+1:Nat):Int).toNat<Y.length-(m:Int).toNat;omega)
    have ef:(Y.take (m+1)).filter (λf=> !f.rects.isEmpty)=d++([Y[m]].filter (λf=> !f.rects.isEmpty)):=by rw[List.take_succ_eq_append_getElem hm,List.filter_append,<-s3]
    refine⟨⟨by omega,hd⟩,λ_=>IFB.mk (λhn=>⟨by simp only[List.length_cons,List.length_nil];omega,hK2 _ ?_⟩) (λhn=>hK2 _ ?_)⟩
    ·have hn:(0:Int)<((ix Y (m:Int)).rects.length:Int):=of_decide_eq_true hn
     rw[ef]
     rw[ix_lt hm] at hn ⊢
     congr 1
     rw[List.filter_cons,if_pos (by cases h:Y[m].rects with
      |nil=>rw[h] at hn;exact absurd hn (by decide)
      |cons _ _=>rfl)]
     rfl
    ·have hn:¬(0:Int)<((ix Y (m:Int)).rects.length:Int):=of_decide_eq_false hn
     rw[ef]
     rw[ix_lt hm] at hn
     have h0:Y[m].rects=[]:=List.eq_nil_of_length_eq_zero (by omega)
     rw[List.filter_cons,if_neg (by rw[h0];decide),List.filter_nil,List.append_nil]
   ·have hd:¬(m:Int)<Y.length:=of_decide_eq_false hd
    have hm:m=Y.length:=by omega
    rw[hm,List.take_length,hst] at s3
    show rec (IntKind.i64.wrap ((k:Int)+1)) d _
    rw[wrapS (by omega)]
    refine hrec (((k+1:Nat):Int),d,_,()) ⟨k+1,rfl,hkl,s3,?_⟩ (by show L.length-((k+1:Nat):Int).toNat<L.length-(k:Int).toNat;omega)
    show canonF (comb (howS 1) a x.rects)=_
    rw[etk,allR_app,<-q4];rfl
  repeat' first
   |exact fin
   |exact c0
   |exact c3
   |exact hxl
   |exact c4 _
   |with_reducible apply And.intro
theorem rfaces_ok:SpecOK Tryz.prog rfaces_sp:=rfaces_of rfaces_h
def nfaces_P (l:List (api_Version))(post:List (landaidref22_face)->Prop):Prop:=(manyV l/\smallF (linV l))/\post (facesRG [] [] (linV l))
def nfaces_sp:SpecN:=⟨117,96,.st .api_Version,1,98,.st .api_Line,.sl (.st .landaidref22_face),λl post=>nfaces_P l post⟩
def nfaces_C:CtxR:=⟨tau,[rule1 rcomb_sp],lookJ [(0,11,⟨[(21,.dat (.int .i64)),(5,.own 173 (.st .landaidref22_face)),(6,.dat (.sl (.st .api_Rect)))],[],(List.range' 22 71++[7,8,9,11,13]),[],[(0,96,(.st .api_Version))]⟩),(0,35,⟨[(79,.dat (.int .i64)),(5,.own 173 (.st .landaidref22_face))],[],(List.range' 80 12++[13]),[],[(0,96,(.st .api_Version))]⟩),(0,42,⟨[(5,.own 173 (.st .landaidref22_face))],[],(List.range' 81 10++[13]),[7],[(0,96,(.st .api_Version))]⟩),(0,1000013,⟨[(9,.own 173 (.st .landaidref22_face))],[],(List.range' 60 13),[5],[(0,96,(.st .api_Version))]⟩),(0,19,⟨[(28,.dat (.int .i64)),(9,.own 173 (.st .landaidref22_face))],[],(List.range' 29 31++[11]),[],[(0,96,(.st .api_Version))]⟩),(0,1000011,⟨[(9,.own 173 (.st .landaidref22_face))],[],(List.range' 32 27),[5],[(0,96,(.st .api_Version))]⟩),(1023,9,⟨[(12,.dat (.int .i64)),(5,.own 29 (.st .api_Region)),(4,.own 82 (.st .api_Place))],[],(List.range' 13 25++[6,7,8,9]),[],[(0,96,(.st .api_Version))]⟩),(1023,15,⟨[(20,.dat (.int .i64)),(5,.own 29 (.st .api_Region)),(4,.own 82 (.st .api_Place))],[],(List.range' 21 16++[8,9]),[1,2],[(0,96,(.st .api_Version))]⟩),(1023,1000009,⟨[(5,.own 29 (.st .api_Region)),(4,.own 82 (.st .api_Place))],[],(List.range' 25 11),[5,4],[(0,96,(.st .api_Version))]⟩)]⟩
abbrev nfaces_a0 (z17:List landaidref22_face)(z21:Int)(z4:List api_Place)(z16:Int)(z3:List api_Region):={claims:=[]++(ix z17 z21).1++[{Application:=(ix z4 z16).1,Line:=(ix z4 z16).2:api_Place}],rects:=canonF λ(x y:Int)=>howS (2:Int) (cov (ix z17 z21).2 x y) (cov (ix z3 z16).1 x y):landaidref22_face}
abbrev nfaces_a1 (z17:List landaidref22_face)(z21:Int)(z3:List api_Region)(z16:Int):={claims:=(ix z17 z21).1,rects:=canonF λ(x y:Int)=>howS (3:Int) (cov (ix z17 z21).2 x y) (cov (ix z3 z16).1 x y):landaidref22_face}
abbrev nfaces_a2 (z17:List landaidref22_face)(z21:Int)(z4:List api_Place)(z16:Int)(z3:List api_Region)(z22:List landaidref22_face)(J26:List landaidref22_face->List api_Version->Prop)(z23:List api_Version):=(((0:Nat)+(ix z17 z21).1.length) * (16:Nat)<=(140737488355328:Nat)/\(([]++(ix z17 z21).1).length+[{Application:=(ix z4 z16).1,Line:=(ix z4 z16).2:api_Place}].length) * (16:Nat)<=(140737488355328:Nat)/\((ix z17 z21).2.length<=(1000:Nat)/\(ix z3 z16).1.length<=(1000:Nat))/\(z22.length+[(nfaces_a1 z17 z21 z3 z16),(nfaces_a0 z17 z21 z4 z16 z3)].length) * (48:Nat)<=(140737488355328:Nat)/\J26 (z22++[(nfaces_a1 z17 z21 z3 z16),(nfaces_a0 z17 z21 z4 z16 z3)]) z23)
abbrev nfaces_a3 (z17:List landaidref22_face)(z21:Int)(z4:List api_Place)(z16:Int)(z3:List api_Region)(z22:List landaidref22_face)(J26:List landaidref22_face->List api_Version->Prop)(z23:List api_Version):=((([]++(ix z17 z21).1).length+[{Application:=(ix z4 z16).1,Line:=(ix z4 z16).2:api_Place}].length) * (16:Nat)<=(140737488355328:Nat)/\((ix z17 z21).2.length<=(1000:Nat)/\(ix z3 z16).1.length<=(1000:Nat))/\(z22.length+[(nfaces_a1 z17 z21 z3 z16),(nfaces_a0 z17 z21 z4 z16 z3)].length) * (48:Nat)<=(140737488355328:Nat)/\J26 (z22++[(nfaces_a1 z17 z21 z3 z16),(nfaces_a0 z17 z21 z4 z16 z3)]) z23)
abbrev nfaces_a4 (z17:List landaidref22_face)(z21:Int)(z3:List api_Region)(z16:Int)(z22:List landaidref22_face)(z4:List api_Place)(J26:List landaidref22_face->List api_Version->Prop)(z23:List api_Version):=(((ix z17 z21).2.length<=(1000:Nat)/\(ix z3 z16).1.length<=(1000:Nat))/\(z22.length+[(nfaces_a1 z17 z21 z3 z16),(nfaces_a0 z17 z21 z4 z16 z3)].length) * (48:Nat)<=(140737488355328:Nat)/\J26 (z22++[(nfaces_a1 z17 z21 z3 z16),(nfaces_a0 z17 z21 z4 z16 z3)]) z23)
abbrev nfaces_a5 (z22:List landaidref22_face)(z17:List landaidref22_face)(z21:Int)(z3:List api_Region)(z16:Int)(z4:List api_Place)(J26:List landaidref22_face->List api_Version->Prop)(z23:List api_Version):=((z22.length+[(nfaces_a1 z17 z21 z3 z16),(nfaces_a0 z17 z21 z4 z16 z3)].length) * (48:Nat)<=(140737488355328:Nat)/\J26 (z22++[(nfaces_a1 z17 z21 z3 z16),(nfaces_a0 z17 z21 z4 z16 z3)]) z23)
abbrev nfaces_a6 (z17:List landaidref22_face)(z21:Int)(z4:List api_Place)(z16:Int):=(([]++(ix z17 z21).1).length+[{Application:=(ix z4 z16).1,Line:=(ix z4 z16).2:api_Place}].length)
abbrev nfaces_a7 (z17:List landaidref22_face)(z21:Int)(z3:List api_Region)(z16:Int):=((ix z17 z21).2.length<=(1000:Nat)/\(ix z3 z16).1.length<=(1000:Nat))
abbrev nfaces_a8 (z17:List landaidref22_face)(z21:Int)(z4:List api_Place)(z16:Int)(z3:List api_Region)(z22:List landaidref22_face)(J26:List landaidref22_face->List api_Version->Prop)(z23:List api_Version):=((nfaces_a2 z17 z21 z4 z16 z3 z22 J26 z23)/\((0:Nat)+(ix z17 z21).1.length) * (16:Nat)<=(140737488355328:Nat)/\(nfaces_a6 z17 z21 z4 z16) * (16:Nat)<=(140737488355328:Nat)/\(nfaces_a7 z17 z21 z3 z16)/\(z22.length+[(nfaces_a1 z17 z21 z3 z16),(nfaces_a0 z17 z21 z4 z16 z3)].length) * (48:Nat)<=(140737488355328:Nat)/\J26 (z22++[(nfaces_a1 z17 z21 z3 z16),(nfaces_a0 z17 z21 z4 z16 z3)]) z23)
abbrev nfaces_a9 (z4:List api_Place)(z16:Int)(z3:List api_Region)(z18:List api_Rect):={claims:=[{Application:=(ix z4 z16).1,Line:=(ix z4 z16).2:api_Place}],rects:=canonF λ(x y:Int)=>howS (3:Int) (cov (ix z3 z16).1 x y) (cov z18 x y):landaidref22_face}
abbrev nfaces_a10 (z17:List landaidref22_face)(z21:Int)(z4:List api_Place)(z16:Int)(z3:List api_Region)(z22:List landaidref22_face)(J26:List landaidref22_face->List api_Version->Prop)(z23:List api_Version):=(((0:Nat)+(ix z17 z21).1.length) * (16:Nat)<=(140737488355328:Nat)/\(nfaces_a3 z17 z21 z4 z16 z3 z22 J26 z23)/\(nfaces_a3 z17 z21 z4 z16 z3 z22 J26 z23)/\(nfaces_a6 z17 z21 z4 z16) * (16:Nat)<=(140737488355328:Nat)/\(nfaces_a4 z17 z21 z3 z16 z22 z4 J26 z23)/\(nfaces_a7 z17 z21 z3 z16)/\(nfaces_a5 z22 z17 z21 z3 z16 z4 J26 z23)/\(z22.length+[(nfaces_a1 z17 z21 z3 z16),(nfaces_a0 z17 z21 z4 z16 z3)].length) * (48:Nat)<=(140737488355328:Nat)/\J26 (z22++[(nfaces_a1 z17 z21 z3 z16),(nfaces_a0 z17 z21 z4 z16 z3)]) z23)
def nfaces_W (l:List (api_Version))(post:List (landaidref22_face)->Prop):Prop:=(↑l.length:Int)<=9223372036854775807->LOOP [Ty.int IntKind.i64,(Ty.st Sn.api_Region).sl,(Ty.st Sn.api_Place).sl,(Ty.st Sn.api_Version).sl] (λ(rec1:Int->List api_Region->List api_Place->List api_Version->Prop) (z2:Int) (z3:List api_Region) (z4:List api_Place) (z5:List api_Version)=>IFB (decide (z2<(↑l.length:Int))) (((0:Int)<=z2/\z2<(↑z5.length:Int))/\((↑(ix z5 z2).2.length:Int)<=9223372036854775807->LOOP [Ty.int IntKind.i64,(Ty.st Sn.api_Region).sl,(Ty.st Sn.api_Place).sl,(Ty.st Sn.api_Version).sl] (λ(rec6:Int->List api_Region->List api_Place->List api_Version->Prop) (z7:Int) (z8:List api_Region) (z9:List api_Place) (z10:List api_Version)=>IFB (decide (z7<(↑(ix z5 z2).2.length:Int))) (((0:Int)<=z7/\z7<(↑(ix z10 z2).2.length:Int))/\JOIN [(Ty.st Sn.api_Region).sl,(Ty.st Sn.api_Place).sl,(Ty.st Sn.api_Version).sl] (λ(y11:List api_Region) (y12:List api_Place) (y13:List api_Version)=>rec6 (IntKind.i64.wrap (z7+1)) y11 y12 y13) λ(J14:List api_Region->List api_Place->List api_Version->Prop)=>((((z9.length+[(⟨z2,z7⟩:api_Place)].length) * (16:Nat)<=140737488355328/\(z8.length+[{Rects:=(ix (ix z10 z2).2 z7).2.1:api_Region}].length) * (24:Nat)<=140737488355328/\J14 (z8++[{Rects:=(ix (ix z10 z2).2 z7).2.1:api_Region}]) (z9++[(⟨z2,z7⟩:api_Place)]) z10)/\(z9.length+[(⟨z2,z7⟩:api_Place)].length) * (16:Nat)<=140737488355328/\(z8.length+[{Rects:=(ix (ix z10 z2).2 z7).2.1:api_Region}].length) * (24:Nat)<=140737488355328/\J14 (z8++[{Rects:=(ix (ix z10 z2).2 z7).2.1:api_Region}]) (z9++[(⟨z2,z7⟩:api_Place)]) z10)/\(z9.length+[(⟨z2,z7⟩:api_Place)].length) * (16:Nat)<=140737488355328/\(z8.length+[{Rects:=(ix (ix z10 z2).2 z7).2.1:api_Region}].length) * (24:Nat)<=140737488355328/\J14 (z8++[{Rects:=(ix (ix z10 z2).2 z7).2.1:api_Region}]) (z9++[(⟨z2,z7⟩:api_Place)]) z10)/\(z9.length+[(⟨z2,z7⟩:api_Place)].length) * (16:Nat)<=140737488355328/\(z8.length+[{Rects:=(ix (ix z10 z2).2 z7).2.1:api_Region}].length) * (24:Nat)<=140737488355328/\J14 (z8++[{Rects:=(ix (ix z10 z2).2 z7).2.1:api_Region}]) (z9++[(⟨z2,z7⟩:api_Place)]) z10) (rec1 (IntKind.i64.wrap (z2+1)) z8 z9 z10)) ((0:Int),z3,z4,z5,PUnit.unit))) ((↑z3.length:Int)<=9223372036854775807->LOOP [Ty.int IntKind.i64,(Ty.st Sn.landaidref22_face).sl,(Ty.st Sn.api_Rect).sl,(Ty.st Sn.api_Version).sl] (λ(rec15:Int->List landaidref22_face->List api_Rect->List api_Version->Prop) (z16:Int) (z17:List landaidref22_face) (z18:List api_Rect) (z19:List api_Version)=>IFB (decide (z16<(↑z3.length:Int))) (((0:Int)<=z16/\z16<(↑z3.length:Int))/\((↑z17.length:Int)<=9223372036854775807->LOOP [Ty.int IntKind.i64,(Ty.st Sn.landaidref22_face).sl,(Ty.st Sn.api_Version).sl] (λ(rec20:Int->List landaidref22_face->List api_Version->Prop) (z21:Int) (z22:List landaidref22_face) (z23:List api_Version)=>IFB (decide (z21<(↑z17.length:Int))) (((0:Int)<=z21/\z21<(↑z17.length:Int))/\JOIN [(Ty.st Sn.landaidref22_face).sl,(Ty.st Sn.api_Version).sl] (λ(y24:List landaidref22_face) (y25:List api_Version)=>rec20 (IntKind.i64.wrap (z21+1)) y24 y25) λ(J26:List landaidref22_face->List api_Version->Prop)=>((0:Int)<=z16/\z16<(↑z4.length:Int))/\((nfaces_a7 z17 z21 z3 z16)/\((nfaces_a8 z17 z21 z4 z16 z3 z22 J26 z23)/\((0:Nat)+(ix z17 z21).1.length) * (16:Nat)<=140737488355328/\(nfaces_a6 z17 z21 z4 z16) * (16:Nat)<=140737488355328/\(nfaces_a7 z17 z21 z3 z16)/\(z22.length+[(nfaces_a1 z17 z21 z3 z16),(nfaces_a0 z17 z21 z4 z16 z3)].length) * (48:Nat)<=140737488355328/\J26 (z22++[(nfaces_a1 z17 z21 z3 z16),(nfaces_a0 z17 z21 z4 z16 z3)]) z23)/\((nfaces_a8 z17 z21 z4 z16 z3 z22 J26 z23)/\(nfaces_a10 z17 z21 z4 z16 z3 z22 J26 z23)/\(nfaces_a2 z17 z21 z4 z16 z3 z22 J26 z23)/\((0:Nat)+(ix z17 z21).1.length) * (16:Nat)<=140737488355328/\(nfaces_a3 z17 z21 z4 z16 z3 z22 J26 z23)/\(nfaces_a6 z17 z21 z4 z16) * (16:Nat)<=140737488355328/\(nfaces_a4 z17 z21 z3 z16 z22 z4 J26 z23)/\(nfaces_a7 z17 z21 z3 z16)/\(nfaces_a5 z22 z17 z21 z3 z16 z4 J26 z23)/\(z22.length+[(nfaces_a1 z17 z21 z3 z16),(nfaces_a0 z17 z21 z4 z16 z3)].length) * (48:Nat)<=140737488355328/\J26 (z22++[(nfaces_a1 z17 z21 z3 z16),(nfaces_a0 z17 z21 z4 z16 z3)]) z23)/\(nfaces_a2 z17 z21 z4 z16 z3 z22 J26 z23)/\(nfaces_a2 z17 z21 z4 z16 z3 z22 J26 z23)/\((0:Nat)+(ix z17 z21).1.length) * (16:Nat)<=140737488355328/\(nfaces_a3 z17 z21 z4 z16 z3 z22 J26 z23)/\(nfaces_a6 z17 z21 z4 z16) * (16:Nat)<=140737488355328/\(nfaces_a4 z17 z21 z3 z16 z22 z4 J26 z23)/\(nfaces_a7 z17 z21 z3 z16)/\(nfaces_a5 z22 z17 z21 z3 z16 z4 J26 z23)/\(z22.length+[(nfaces_a1 z17 z21 z3 z16),(nfaces_a0 z17 z21 z4 z16 z3)].length) * (48:Nat)<=140737488355328/\J26 (z22++[(nfaces_a1 z17 z21 z3 z16),(nfaces_a0 z17 z21 z4 z16 z3)]) z23)/\(((nfaces_a7 z17 z21 z3 z16)/\(nfaces_a8 z17 z21 z4 z16 z3 z22 J26 z23)/\(nfaces_a10 z17 z21 z4 z16 z3 z22 J26 z23)/\(nfaces_a2 z17 z21 z4 z16 z3 z22 J26 z23)/\((0:Nat)+(ix z17 z21).1.length) * (16:Nat)<=140737488355328/\(nfaces_a3 z17 z21 z4 z16 z3 z22 J26 z23)/\(nfaces_a6 z17 z21 z4 z16) * (16:Nat)<=140737488355328/\(nfaces_a4 z17 z21 z3 z16 z22 z4 J26 z23)/\(nfaces_a7 z17 z21 z3 z16)/\(nfaces_a5 z22 z17 z21 z3 z16 z4 J26 z23)/\(z22.length+[(nfaces_a1 z17 z21 z3 z16),(nfaces_a0 z17 z21 z4 z16 z3)].length) * (48:Nat)<=140737488355328/\J26 (z22++[(nfaces_a1 z17 z21 z3 z16),(nfaces_a0 z17 z21 z4 z16 z3)]) z23)/\(nfaces_a7 z17 z21 z3 z16)/\(nfaces_a2 z17 z21 z4 z16 z3 z22 J26 z23)/\((0:Nat)+(ix z17 z21).1.length) * (16:Nat)<=140737488355328/\(nfaces_a3 z17 z21 z4 z16 z3 z22 J26 z23)/\(nfaces_a6 z17 z21 z4 z16) * (16:Nat)<=140737488355328/\(nfaces_a4 z17 z21 z3 z16 z22 z4 J26 z23)/\(nfaces_a7 z17 z21 z3 z16)/\(nfaces_a5 z22 z17 z21 z3 z16 z4 J26 z23)/\(z22.length+[(nfaces_a1 z17 z21 z3 z16),(nfaces_a0 z17 z21 z4 z16 z3)].length) * (48:Nat)<=140737488355328/\J26 (z22++[(nfaces_a1 z17 z21 z3 z16),(nfaces_a0 z17 z21 z4 z16 z3)]) z23)/\((nfaces_a7 z17 z21 z3 z16)/\(nfaces_a2 z17 z21 z4 z16 z3 z22 J26 z23)/\(nfaces_a2 z17 z21 z4 z16 z3 z22 J26 z23)/\((0:Nat)+(ix z17 z21).1.length) * (16:Nat)<=140737488355328/\(nfaces_a3 z17 z21 z4 z16 z3 z22 J26 z23)/\(nfaces_a6 z17 z21 z4 z16) * (16:Nat)<=140737488355328/\(nfaces_a4 z17 z21 z3 z16 z22 z4 J26 z23)/\(nfaces_a7 z17 z21 z3 z16)/\(nfaces_a5 z22 z17 z21 z3 z16 z4 J26 z23)/\(z22.length+[(nfaces_a1 z17 z21 z3 z16),(nfaces_a0 z17 z21 z4 z16 z3)].length) * (48:Nat)<=140737488355328/\J26 (z22++[(nfaces_a1 z17 z21 z3 z16),(nfaces_a0 z17 z21 z4 z16 z3)]) z23)/\(nfaces_a7 z17 z21 z3 z16)/\(nfaces_a2 z17 z21 z4 z16 z3 z22 J26 z23)/\((0:Nat)+(ix z17 z21).1.length) * (16:Nat)<=140737488355328/\(nfaces_a3 z17 z21 z4 z16 z3 z22 J26 z23)/\(nfaces_a6 z17 z21 z4 z16) * (16:Nat)<=140737488355328/\(nfaces_a4 z17 z21 z3 z16 z22 z4 J26 z23)/\(nfaces_a7 z17 z21 z3 z16)/\(nfaces_a5 z22 z17 z21 z3 z16 z4 J26 z23)/\(z22.length+[(nfaces_a1 z17 z21 z3 z16),(nfaces_a0 z17 z21 z4 z16 z3)].length) * (48:Nat)<=140737488355328/\J26 (z22++[(nfaces_a1 z17 z21 z3 z16),(nfaces_a0 z17 z21 z4 z16 z3)]) z23) (JOIN [(Ty.st Sn.landaidref22_face).sl,(Ty.st Sn.api_Version).sl] (λ(y27:List landaidref22_face) (y28:List api_Version)=>(z18.length<=1000/\(ix z3 z16).1.length<=1000)/\((↑y27.length:Int)<=9223372036854775807->LOOP [Ty.int IntKind.i64,(Ty.st Sn.landaidref22_face).sl,(Ty.st Sn.api_Version).sl] (λ(rec29:Int->List landaidref22_face->List api_Version->Prop) (z30:Int) (z31:List landaidref22_face) (z32:List api_Version)=>IFB (decide (z30<(↑y27.length:Int))) (JOIN [(Ty.st Sn.landaidref22_face).sl,(Ty.st Sn.api_Version).sl] (λ(y33:List landaidref22_face) (y34:List api_Version)=>rec29 (IntKind.i64.wrap (z30+1)) y33 y34) λ(J35:List landaidref22_face->List api_Version->Prop)=>((0:Int)<=z30/\z30<(↑y27.length:Int))/\((↑(ix y27 z30).2.length:Int)<=9223372036854775807->IFB (decide ((0:Int)<(↑(ix y27 z30).2.length:Int))) ((z31.length+[{claims:=(ix y27 z30).1,rects:=(ix y27 z30).2:landaidref22_face}].length) * (48:Nat)<=140737488355328/\J35 (z31++[{claims:=(ix y27 z30).1,rects:=(ix y27 z30).2:landaidref22_face}]) z32) (J35 z31 z32))) (rec15 (IntKind.i64.wrap (z16+1)) z31 (canonF λ(x y:Int)=>howS (1:Int) (cov z18 x y) (cov (ix z3 z16).1 x y)) z32)) ((0:Int),[],y28,PUnit.unit))) λ(J36:List landaidref22_face->List api_Version->Prop)=>((0:Int)<=z16/\z16<(↑z4.length:Int))/\(((ix z3 z16).1.length<=1000/\z18.length<=1000)/\(z22.length+[(nfaces_a9 z4 z16 z3 z18)].length) * (48:Nat)<=140737488355328/\J36 (z22++[(nfaces_a9 z4 z16 z3 z18)]) z23)/\((ix z3 z16).1.length<=1000/\z18.length<=1000)/\(z22.length+[(nfaces_a9 z4 z16 z3 z18)].length) * (48:Nat)<=140737488355328/\J36 (z22++[(nfaces_a9 z4 z16 z3 z18)]) z23)) ((0:Int),[],z19,PUnit.unit))) (z19=l/\post z17)) ((0:Int),[],[],z5,PUnit.unit))) ((0:Int),[],[],l,PUnit.unit)
theorem nfaces_w (l:List (api_Version))(post:List (landaidref22_face)->Prop):nfaces_W l post=walkN (callR Tryz.prog nfaces_C (drawF Tryz.prog tau) 8 0) nfaces_sp l post:=by kernel_rfl
theorem nfaces_of (h:∀l post,nfaces_P l post->nfaces_W l post):SpecNOK Tryz.prog nfaces_sp:=SpecNOK.of_rules (C:=nfaces_C) (dr:=(drawF Tryz.prog tau)) (n:=8) (fk:=0) (.cons (rule1_ok rcomb_ok) .nil) (drawF_ok tau) λl post hp=>HoldW.of (nfaces_w l post) (h l post hp)
set_option maxHeartbeats 4000000 in
theorem nfaces_h (l:List api_Version)(post:List (landaidref22_face)->Prop)(hp:nfaces_P l post):nfaces_W l post:=by
 obtain⟨⟨h1,hs⟩,hp⟩:=hp
 unfold nfaces_W nfaces_a10 nfaces_a9 nfaces_a8 nfaces_a7 nfaces_a6 nfaces_a5 nfaces_a4 nfaces_a3 nfaces_a2 nfaces_a1 nfaces_a0
 refine λ_=> ?_
 refine LOOP.fuel (λu=>plcI l u.1 u.2.1 u.2.2.1/\u.2.2.2.1=l) (λu=>l.length-Int.toNat u.1) ⟨⟨0,rfl,Nat.zero_le _,rfl,rfl,Nat.zero_le _,Nat.zero_le _⟩,rfl⟩ ?_
 rintro rec0 ⟨(z:Int),(a:List api_Region),(b:List api_Place),(n0:List api_Version),⟨⟩⟩ ⟨⟨k,i1,i2,i3,i4,i5,i6⟩,i9⟩ hrec0
 have i1:z=(k:Int):=i1
 have q3:a=regN l k:=i3
 have q4:b=plcN l k:=i4
 have q5:a.length<=1000 * k:=i5
 have q6:b.length<=1000 * k:=i6
 have i8:n0=l:=i9
 clear i3 i4 i5 i6 i9
 have hll:=h1.1
 subst i1 i8
 refine IFB.mk (λhb=> ?_) (λhb=> ?_)
 ·have hb:(k:Int)<n0.length:=of_decide_eq_true hb
  have hx:=h1.2 _ (ix_mem (l:=n0) (i:=(k:Int)) (by omega) hb)
  refine⟨⟨by omega,hb⟩,λ_=> ?_⟩
  refine LOOP.fuel (λu=>plcJ n0 k u.1 u.2.1 u.2.2.1/\u.2.2.2.1=n0) (λu=>(ix n0 (k:Int)).Lines.length-Int.toNat u.1) ⟨⟨0,rfl,Nat.zero_le _,by rw[List.take_zero,List.map_nil,List.append_nil];exact q3,by rw[List.range_zero,List.map_nil,List.append_nil];exact q4⟩,rfl⟩ ?_
  rintro rec2 ⟨(z2:Int),(a2:List api_Region),(b2:List api_Place),(n2:List api_Version),⟨⟩⟩ ⟨⟨k2,j1,j2,j3,j4⟩,j9⟩ hrec2
  have j1:z2=(k2:Int):=j1
  have r3:a2=regN n0 k++((ix n0 (k:Int)).Lines.take k2).map (·.Region):=j3
  have r4:b2=plcN n0 k++(List.range k2).map λ(j:Nat)=>(⟨(k:Int),(j:Int)⟩:api_Place):=j4
  have j8:n2=n0:=j9
  clear j3 j4 j9
  subst j1 j8
  have la:List.length a2<=1000000+1000:=by
   have e:List.length a2=List.length a+min k2 (ix n2 (k:Int)).Lines.length:=by rw[r3,List.length_append,List.length_map,List.length_take,<-q3]
   rw[e];omega
  have lb:List.length b2<=1000000+1000:=by
   have e:List.length b2=List.length b+k2:=by rw[r4,List.length_append,List.length_map,List.length_range,<-q4]
   rw[e];omega
  refine IFB.mk (λhc=> ?_) (λhc=> ?_)
  ·have hc:(k2:Int)<(ix n2 (k:Int)).Lines.length:=of_decide_eq_true hc
   have hk2:k2<(ix n2 (k:Int)).Lines.length:=by omega
   refine⟨⟨by omega,hc⟩,?_⟩
   dsimp only
   refine JOIN.opq λ(J:List api_Region->List api_Place->List api_Version->Prop) hJ=> ?_
   have fin:J (a2++[(⟨(ix (ix n2 (k:Int)).2 (k2:Int)).2.1⟩:api_Region)]) (b2++[(⟨(k:Int),(k2:Int)⟩:api_Place)]) n2:=by
    rw[hJ]
    show rec2 (IntKind.i64.wrap ((k2:Int)+1)) _ _ _
    rw[wrapS (by omega)]
    refine hrec2 (((k2+1:Nat):Int),_,_,n2,()) ⟨⟨k2+1,rfl,hk2,?_,?_⟩,rfl⟩ (by show (ix n2 (k:Int)).Lines.length-((k2+1:Nat):Int).toNat<(ix n2 (k:Int)).Lines.length-(k2:Int).toNat;omega)
    ·show a2++_=_
     rw[r3,List.take_succ_eq_append_getElem hk2,List.map_append,<-List.append_assoc,ix_lt hk2];rfl
    ·show b2++_=_
     rw[r4,List.range_succ,List.map_append,<-List.append_assoc];rfl
   have p1:(List.length b2+List.length [(⟨(k:Int),(k2:Int)⟩:api_Place)]) * 16<=140737488355328:=by rw[List.length_singleton];omega
   have p2:(List.length a2+List.length [(⟨(ix (ix n2 (k:Int)).2 (k2:Int)).2.1⟩:api_Region)]) * 24<=140737488355328:=by rw[List.length_singleton];omega
   exact⟨⟨⟨⟨p1,p2,fin⟩,p1,p2,fin⟩,p1,p2,fin⟩,p1,p2,fin⟩
  ·have hc:¬(k2:Int)<(ix n2 (k:Int)).Lines.length:=of_decide_eq_false hc
   have hk2:k2=(ix n2 (k:Int)).Lines.length:=by omega
   show rec0 (IntKind.i64.wrap ((k:Int)+1)) a2 b2 n2
   rw[wrapS (by omega)]
   have e1:a2=regN n2 (k+1):=by rw[r3,hk2,List.take_length,regN_succ]
   have e2:b2=plcN n2 (k+1):=by rw[r4,hk2,plcN_succ]
   have hlx:(ix n2 (k:Int)).Lines.length<=1000:=hx
   refine hrec0 (((k+1:Nat):Int),a2,b2,n2,()) ⟨⟨k+1,rfl,by omega,e1,e2,?_,?_⟩,rfl⟩ (by show n2.length-((k+1:Nat):Int).toNat<n2.length-(k:Int).toNat;omega)
   ·show List.length a2<=_
    have e:List.length a2=List.length a+min k2 (ix n2 (k:Int)).Lines.length:=by rw[r3,List.length_append,List.length_map,List.length_take,<-q3]
    rw[e];omega
   ·show List.length b2<=_
    have e:List.length b2=List.length b+k2:=by rw[r4,List.length_append,List.length_map,List.length_range,<-q4]
    rw[e];omega
 replace hb:¬(k:Int)<n0.length:=of_decide_eq_false hb
 have hk:k=n0.length:=by omega
 have e1:a=regN n0 n0.length:=by rw[q3,hk]
 have e2:b=plcN n0 n0.length:=by rw[q4,hk]
 clear q3 q4 q5 q6 i2 hb hk hll
 dsimp only
 have eR:regN n0 n0.length=(linV n0).map (λx=>(⟨x.rects⟩:api_Region)):=(lin_reg n0 n0.length).symm
 have eP:plcN n0 n0.length=(linV n0).map (·.place):=(linN_places n0 n0.length).symm
 rw[e1,e2,eR,eP]
 clear hrec0
 generalize linV n0=L at *
 have hL:L.length<=60:=hs.1
 have eRl:(L.map (λx=>(⟨x.rects⟩:api_Region))).length=L.length:=List.length_map ..
 have ePl:(L.map (λx:Ln=>x.place)).length=L.length:=List.length_map ..
 rw[eRl,ePl]
 refine λ_=>LOOP.fuel (λu=>rfaI L u.1 u.2.1 u.2.2.1/\u.2.2.2.1=n0) (λu=>L.length-Int.toNat u.1) ⟨⟨0,rfl,Nat.zero_le _,rfl,rfl⟩,rfl⟩ ?_
 rintro rec ⟨(z:Int),(b:List FaceR),(a:List Rc),(n1:List api_Version),⟨⟩⟩ ⟨⟨k,i1,i2,i3,i4⟩,i9⟩ hrec
 have i1:z=(k:Int):=i1
 have i8:n1=n0:=i9
 clear i9
 have q3:b=facesRG [] [] (L.take k):=i3
 have q4:a=allR [] (L.take k):=i4
 clear i3 i4
 subst i1 i8
 refine IFB.mk (λhb=> ?_) (λhb=> ?_)
 rotate_left
 ·replace hb:¬(k:Int)<L.length:=of_decide_eq_false hb
  have hk:k=L.length:=by omega
  rw[hk,List.take_length] at q3
  show n1=n1/\post b
  exact⟨rfl,by rw[q3];exact hp⟩
 replace hb:(k:Int)<L.length:=of_decide_eq_true hb
 have hkl:k<L.length:=by omega
 obtain⟨x,hx⟩:∃x,L[k]? =some x:=⟨_,List.getElem?_eq_getElem hkl⟩
 have hix:ix L (k:Int)=x:=ix_of hx
 have hiR:ix (L.map (λx=>(⟨x.rects⟩:api_Region))) (k:Int)=⟨x.rects⟩:=by rw[ix_map hkl,hix]
 have hiP:ix (L.map (λx:Ln=>x.place)) (k:Int)=x.place:=by rw[ix_map hkl,hix]
 have hsk:=small_take hs k
 have hok:FacesOK (L.take k) (b.map cv):=by rw[q3];exact faces_perm (faces_ok hsk.2.1) (facesR_perm _).symm
 have hbk:∀l∈L.take k,inBox l.rects:=λl hl=>(hsk.2.2 l hl).1
 have hlk:(L.take k).length<=60:=hsk.1
 have hfew:=faces_few hok hbk
 rw[List.length_map] at hfew
 obtain⟨hx1,hx2⟩:=hs.2.2 x (List.mem_of_getElem? hx)
 have ha:a.length<=300:=(can_inBox (by rw[q4];exact allR_can canon_nil) λu v hc=>by
  rw[q4,allR_cov,cov_nil,Bool.false_or] at hc
  exact who_cov (L:=L.take k) (λe=>by rw[who_nil.1 e] at hc;cases hc) hbk).2
 have etk:L.take (k+1)=L.take k++[x]:=by rw[List.take_succ_eq_append_getElem hkl,(List.getElem?_eq_some_iff.1 hx).2]
 refine⟨⟨by omega,hb⟩,λ_=> ?_⟩
 dsimp only
 rw[hiR,hiP]
 refine LOOP.fuel (λu=>rfaJ b x u.1 u.2.1/\u.2.2.1=n1) (λu=>b.length-Int.toNat u.1) ⟨⟨0,rfl,Nat.zero_le _,rfl⟩,rfl⟩ ?_
 rintro rec2 ⟨(z2:Int),(c:List FaceR),(n2:List api_Version),⟨⟩⟩ ⟨⟨j,j1,j2,j3⟩,j9⟩ hrec2
 have j8:n2=n1:=j9
 clear j9
 have j1:z2=(j:Int):=j1
 have r3:c=(b.take j).flatMap (nextR x):=j3
 clear j3
 subst j1 j8
 have hcl:c.length<=600:=by rw[r3,nextR_len,List.length_take];omega
 have hxl:x.rects.length<=1000:=by omega
 refine IFB.mk (λhc=> ?_) (λhc=> ?_)
 ·replace hc:(j:Int)<b.length:=of_decide_eq_true hc
  have hj:j<b.length:=by omega
  obtain⟨f,hf⟩:∃f,b[j]? =some f:=⟨_,List.getElem?_eq_getElem hj⟩
  have hif:ix b (j:Int)=f:=ix_of hf
  obtain⟨f1,f2,f3⟩:=face_small hok hbk (List.mem_map.2 ⟨f,List.mem_of_getElem? hf,rfl⟩)
  have f2:f.rects.length<=300:=f2
  have f3:f.claims.length<=(L.take k).length:=f3
  refine⟨⟨by omega,hc⟩,JOIN.opq λ(J:List FaceR->List api_Version->Prop) hJ=> ?_⟩
  dsimp only
  rw[hif]
  have c0:(0:Int)<=(k:Int)/\(k:Int)<(L.length:Int):=⟨by omega,hb⟩
  have c1:(0+f.claims.length) * 16<=140737488355328:=by omega
  have c2:(([]++f.claims:List api_Place).length+[(⟨x.place.1,x.place.2⟩:api_Place)].length) * 16<=140737488355328:=by simp only[List.nil_append,List.length_cons,List.length_nil];omega
  have c3:f.rects.length<=1000:=by omega
  have c4:∀u v:FaceR,(c.length+[u,v].length) * 48<=140737488355328:=λu v=>by simp only[List.length_cons,List.length_nil];omega
  have fin:J (c++[(⟨f.claims,canonF (comb (howS 3) f.rects x.rects)⟩:FaceR),⟨[]++f.claims++[⟨x.place.1,x.place.2⟩],canonF (comb (howS 2) f.rects x.rects)⟩]) n2:=by
   rw[hJ]
   show rec2 (IntKind.i64.wrap ((j:Int)+1)) _ _
   rw[wrapS (by omega)]
   refine hrec2 (((j+1:Nat):Int),_,n2,()) ⟨⟨j+1,rfl,hj,?_⟩,rfl⟩ (by show b.length-((j+1:Nat):Int).toNat<b.length-(j:Int).toNat;omega)
   show c++_=_
   rw[List.take_succ_eq_append_getElem hj,List.flatMap_append,<-r3,(List.getElem?_eq_some_iff.1 hf).2]
   simp only[List.flatMap_cons,List.flatMap_nil,List.append_nil]
   rfl
  repeat' first
   |exact fin
   |exact c0
   |exact c1
   |exact c2
   |exact c3
   |exact hxl
   |exact c4 _ _
   |with_reducible apply And.intro
 ·replace hc:¬(j:Int)<b.length:=of_decide_eq_false hc
  have hj:j=b.length:=by omega
  rw[hj,List.take_length] at r3
  refine JOIN.opq λ(J:List FaceR->List api_Version->Prop) hJ=> ?_
  have c0:(0:Int)<=(k:Int)/\(k:Int)<(L.length:Int):=⟨by omega,hb⟩
  have c3:a.length<=1000:=by omega
  have c4:∀u:FaceR,(c.length+[u].length) * 48<=140737488355328:=λu=>by simp only[List.length_cons,List.length_nil];omega
  have fin:J (c++[(⟨[⟨x.place.1,x.place.2⟩],canonF (comb (howS 3) x.rects a)⟩:FaceR)]) n2:=by
   rw[hJ]
   dsimp only
   have hst:(c++[(⟨[⟨x.place.1,x.place.2⟩],canonF (comb (howS 3) x.rects a)⟩:FaceR)]).filter (λf=> !f.rects.isEmpty)=facesRG [] [] (L.take (k+1)):=by
    rw[etk,facesRG_app,<-q3,<-q4,r3];rfl
   have hlen:(c++[(⟨[⟨x.place.1,x.place.2⟩],canonF (comb (howS 3) x.rects a)⟩:FaceR)]).length<=601:=by simp only[List.length_append,List.length_cons,List.length_nil];omega
   generalize (c++[(⟨[⟨x.place.1,x.place.2⟩],canonF (comb (howS 3) x.rects a)⟩:FaceR)])=Y at *
   refine⟨⟨c3,hxl⟩,λ_=> ?_⟩
   refine LOOP.fuel (λu=>rfaK Y u.1 u.2.1/\u.2.2.1=n2) (λu=>Y.length-Int.toNat u.1) ⟨⟨0,rfl,Nat.zero_le _,rfl⟩,rfl⟩ ?_
   rintro rec3 ⟨(z3:Int),(d:List FaceR),(n3:List api_Version),⟨⟩⟩ ⟨⟨m,m1,m2,m3⟩,m9⟩ hrec3
   have m8:n3=n2:=m9
   clear m9
   have m1:z3=(m:Int):=m1
   have s3:d=(Y.take m).filter (λf=> !f.rects.isEmpty):=m3
   clear m3
   subst m1 m8
   have hdl:d.length<=601:=by
    rw[s3]
    have:=List.length_filter_le (λf:FaceR=> !f.rects.isEmpty) (Y.take m)
    rw[List.length_take] at this
    omega
   refine IFB.mk (λhd=>JOIN.opq λ(K:List FaceR->List api_Version->Prop) hK=> ?_) (λhd=> ?_)
   ·replace hd:(m:Int)<Y.length:=of_decide_eq_true hd
    have hm:m<Y.length:=by omega
    have hK2:∀y:List FaceR,y=(Y.take (m+1)).filter (λf=> !f.rects.isEmpty)->K y n3:=λy hy=>by
     rw[hK]
     show rec3 (IntKind.i64.wrap ((m:Int)+1)) y n3
     rw[wrapS (by omega)]
     exact hrec3 (((m+1:Nat):Int),y,n3,()) ⟨⟨m+1,rfl,hm,hy⟩,rfl⟩ (by show Y.length-((m+1:Nat):Int).toNat<Y.length-(m:Int).toNat;omega)
    have ef:(Y.take (m+1)).filter (λf=> !f.rects.isEmpty)=d++([Y[m]].filter (λf=> !f.rects.isEmpty)):=by rw[List.take_succ_eq_append_getElem hm,List.filter_append,<-s3]
    refine⟨⟨by omega,hd⟩,λ_=>IFB.mk (λhn=>⟨by simp only[List.length_cons,List.length_nil];omega,hK2 _ ?_⟩) (λhn=>hK2 _ ?_)⟩
    ·have hn:(0:Int)<((ix Y (m:Int)).rects.length:Int):=of_decide_eq_true hn
     rw[ef]
     rw[ix_lt hm] at hn ⊢
     congr 1
     rw[List.filter_cons,if_pos (by cases h:Y[m].rects with
      |nil=>rw[h] at hn;exact absurd hn (by decide)
      |cons _ _=>rfl)]
     rfl
    ·have hn:¬(0:Int)<((ix Y (m:Int)).rects.length:Int):=of_decide_eq_false hn
     rw[ef]
     rw[ix_lt hm] at hn
     have h0:Y[m].rects=[]:=List.eq_nil_of_length_eq_zero (by omega)
     rw[List.filter_cons,if_neg (by rw[h0];decide),List.filter_nil,List.append_nil]
   ·replace hd:¬(m:Int)<Y.length:=of_decide_eq_false hd
    have hm:m=Y.length:=by omega
    rw[hm,List.take_length,hst] at s3
    show rec (IntKind.i64.wrap ((k:Int)+1)) d _ n3
    rw[wrapS (by omega)]
    refine hrec (((k+1:Nat):Int),d,_,n3,()) ⟨⟨k+1,rfl,hkl,s3,?_⟩,rfl⟩ (by show L.length-((k+1:Nat):Int).toNat<L.length-(k:Int).toNat;omega)
    show canonF (comb (howS 1) a x.rects)=_
    rw[etk,allR_app,<-q4];rfl
  repeat' first
   |exact fin
   |exact c0
   |exact c3
   |exact hxl
   |exact c4 _
   |with_reducible apply And.intro
theorem nfaces_ok:SpecNOK Tryz.prog nfaces_sp:=nfaces_of nfaces_h
def pset_P (l:List (api_Version))(ys:List (api_Yield))(post:List (api_Version)->List (api_Double)->Int->Prop):Prop:=okS l/\∀m ds e,setR l ys m ds e->post m ds e
def pset_sp:Spec:=⟨55,false,true,[.sl (.st .api_Version),.sl (.st .api_Yield)],.tup [.dat (.sl (.st .api_Version)),.dat (.sl (.st .api_Double)),.dat (.int .i64)],λx post=>pset_P (x.1:List (api_Version)) (x.2.1:List (api_Yield)) (λy0 y1 y2=>post (y0,y1,y2,()))⟩
def pset_C:CtxR:=⟨tau,[rule1 pthere_sp,rule1 pval_sp,ruleW 121 (.st .api_Version) 96 1 98 (.st .api_Line) Nest.Small,ruleC pchoN_sp 122,rule1 plimit_sp,rule1 pfaces_sp,rule3 psortD_sp],lookJ [(0,17,⟨[(35,.dat (.int .i64))],[],(List.range' 36 33++[11,13,14]),[],[(1,96,(.st .api_Version))]⟩),(0,23,⟨[(42,.dat (.int .i64))],[],(List.range' 43 25++[13,14]),[],[(1,96,(.st .api_Version))]⟩),(4086,0,⟨[(0,.tup [.own 87 (.st .api_Double),.dat (.int .i64)])],[],[],[],[]⟩),(4086,13,⟨[(22,.dat (.int .i64)),(6,.own 87 (.st .api_Double))],[],(List.range' 23 15++List.range' 39 8++[8,9,10]),[],[]⟩),(4086,26,⟨[(6,.own 87 (.st .api_Double))],[],(List.range' 24 14++List.range' 39 7++[8,9,10]),[3],[]⟩),(4259423118,0,⟨[(0,.tup [.agg [.dat (.sl (.st .api_Rect))],.dat (.int .i64)])],[],[],[],[]⟩),(4259414949,0,⟨[(0,.tup [.own 210 (.st .crosscheck_line),.dat (.int .i64)])],[],[],[],[]⟩),(4259414949,9,⟨[(12,.dat (.int .i64)),(5,.dat .bool),(4,.own 210 (.st .crosscheck_line))],[],(List.range' 13 33++[6,7,8,9]),[],[]⟩),(4259414949,15,⟨[(20,.dat (.int .i64)),(5,.dat .bool),(4,.own 210 (.st .crosscheck_line))],[],(List.range' 21 21++[8,9]),[2],[]⟩),(1024,33,⟨[(48,.dat (.int .i64))],[],(List.range' 49 27++[12,13]),[],[(1,96,(.st .api_Version))]⟩),(1024,15,⟨[(28,.dat (.int .i64))],[],(List.range' 29 15++[9]),[],[]⟩),(1067460607,0,⟨[(0,.tup [.own 210 (.st .crosscheck_line),.dat (.int .i64)])],[],[],[],[]⟩),(1067460607,9,⟨[(12,.dat (.int .i64)),(5,.dat .bool),(4,.own 210 (.st .crosscheck_line))],[],(List.range' 13 33++[6,7,8,9]),[],[]⟩),(1067460607,15,⟨[(20,.dat (.int .i64)),(5,.dat .bool),(4,.own 210 (.st .crosscheck_line))],[],(List.range' 21 21++[8,9]),[0],[]⟩)]⟩
def pset_W (l:List (api_Version))(ys:List (api_Yield))(post:List (api_Version)->List (api_Double)->Int->Prop):Prop:=JOIN [(Ty.st Sn.crosscheck_line).sl,Ty.int IntKind.i64] (λ(y1:List crosscheck_line) (y2:Int)=>IFB (!decide (y2=0)) (IFB (!decide (y2=0)) (post [] [] y2) (JOIN [(Ty.st Sn.api_Double).sl,Ty.int IntKind.i64] (λ(y3:List api_Double) (y4:Int)=>IFB (!decide (y4=0)) (post [] [] y4) ((↑y3.length:Int)<=9223372036854775807->False)) λ(J5:List api_Double->Int->Prop)=>JOIN [(Ty.st Sn.crosscheck_line).sl,Ty.int IntKind.i64] (λ(y6:List crosscheck_line) (y7:Int)=>IFB (!decide (y7=0)) (J5 [] y7) ((y6.length<=60/\List.Pairwise (λ(x1 x2:api_Place)=>x1=x2->False) (List.map (λ(x:crosscheck_line)=>x.1) y6)/\∀(v8:crosscheck_line),v8∈y6->(∀(v9:api_Rect),v9∈v8.2->0<=v9.1/\v9.1<v9.3/\v9.3<=30/\0<=v9.2/\v9.2<v9.4/\v9.4<=10)/\v8.2.length<=120)/\((↑(facesS y6).length:Int)<=9223372036854775807->LOOP [Ty.int IntKind.i64,(Ty.st Sn.api_Double).sl] (λ(rec10:Int->List api_Double->Prop) (z11:Int) (z12:List api_Double)=>IFB (decide (z11<(↑(facesS y6).length:Int))) (JOIN [(Ty.st Sn.api_Double).sl] (λ(y13:List api_Double)=>rec10 (IntKind.i64.wrap (z11+1)) y13) λ(J14:List api_Double->Prop)=>((0:Int)<=z11/\z11<(↑(facesS y6).length:Int))/\((↑(ix (facesS y6) z11).2.length:Int)<=9223372036854775807->IFB (decide ((↑(ix (facesS y6) z11).2.length:Int)<2)) False (JOIN [(Ty.st Sn.api_Rect).sl,Ty.int IntKind.i64] (λ(y15:List api_Rect) (y16:Int)=>IFB (!decide (y16=0)) (J5 [] y16) ((z12.length+[(⟨(⟨y15⟩:api_Region),(ix (facesS y6) z11).2⟩:api_Double)].length) * (48:Nat)<=140737488355328/\False)) λ(J17:List api_Rect->Int->Prop)=>(↑(ix (facesS y6) z11).1.length:Int)<=9223372036854775807->IFB (decide ((120:Int)<(↑(ix (facesS y6) z11).1.length:Int))) (J17 [] 1) (J17 (ix (facesS y6) z11).1 0)))) ((↑z12.length:Int)<=9223372036854775807->IFB (decide ((200:Int)<(↑z12.length:Int))) (J5 [] 1) ((z12.length<=1000000/\∀(v18:api_Double),v18∈z12->(v18.2=[]->False)/\v18.2.length<=1000000000)/\∀(v19:List api_Double),v19.Perm z12->List.Pairwise (λ(a b:api_Double)=>befP b.2 a.2=false) v19->J5 v19 0))) ((0:Int),[],PUnit.unit)))) λ(J20:List crosscheck_line->Int->Prop)=>LOOP [Ty.int IntKind.i64,Ty.bool,(Ty.st Sn.crosscheck_line).sl] (λ(rec21:Int->Bool->List crosscheck_line->Prop) (z22:Int) (z23:Bool) (z24:List crosscheck_line)=>IFB (decide (z22<0)) False (IFB (!z23) (J20 [] 7) (J20 z24 0))) ((0:Int),true,[],PUnit.unit))) ((↑ys.length:Int)<=9223372036854775807->IFB (decide ((200:Int)<(↑ys.length:Int))) (IFB true (post [] [] 1) (JOIN [(Ty.st Sn.api_Double).sl,Ty.int IntKind.i64] (λ(y25:List api_Double) (y26:Int)=>IFB (!decide (y26=0)) (post [] [] y26) ((↑y25.length:Int)<=9223372036854775807->False)) λ(J27:List api_Double->Int->Prop)=>JOIN [(Ty.st Sn.crosscheck_line).sl,Ty.int IntKind.i64] (λ(y28:List crosscheck_line) (y29:Int)=>IFB (!decide (y29=0)) (J27 [] y29) ((y28.length<=60/\List.Pairwise (λ(x1 x2:api_Place)=>x1=x2->False) (List.map (λ(x:crosscheck_line)=>x.1) y28)/\∀(v30:crosscheck_line),v30∈y28->(∀(v31:api_Rect),v31∈v30.2->0<=v31.1/\v31.1<v31.3/\v31.3<=30/\0<=v31.2/\v31.2<v31.4/\v31.4<=10)/\v30.2.length<=120)/\((↑(facesS y28).length:Int)<=9223372036854775807->LOOP [Ty.int IntKind.i64,(Ty.st Sn.api_Double).sl] (λ(rec32:Int->List api_Double->Prop) (z33:Int) (z34:List api_Double)=>IFB (decide (z33<(↑(facesS y28).length:Int))) (JOIN [(Ty.st Sn.api_Double).sl] (λ(y35:List api_Double)=>rec32 (IntKind.i64.wrap (z33+1)) y35) λ(J36:List api_Double->Prop)=>((0:Int)<=z33/\z33<(↑(facesS y28).length:Int))/\((↑(ix (facesS y28) z33).2.length:Int)<=9223372036854775807->IFB (decide ((↑(ix (facesS y28) z33).2.length:Int)<2)) False (JOIN [(Ty.st Sn.api_Rect).sl,Ty.int IntKind.i64] (λ(y37:List api_Rect) (y38:Int)=>IFB (!decide (y38=0)) (J27 [] y38) ((z34.length+[(⟨(⟨y37⟩:api_Region),(ix (facesS y28) z33).2⟩:api_Double)].length) * (48:Nat)<=140737488355328/\False)) λ(J39:List api_Rect->Int->Prop)=>(↑(ix (facesS y28) z33).1.length:Int)<=9223372036854775807->IFB (decide ((120:Int)<(↑(ix (facesS y28) z33).1.length:Int))) (J39 [] 1) (J39 (ix (facesS y28) z33).1 0)))) ((↑z34.length:Int)<=9223372036854775807->IFB (decide ((200:Int)<(↑z34.length:Int))) (J27 [] 1) ((z34.length<=1000000/\∀(v40:api_Double),v40∈z34->(v40.2=[]->False)/\v40.2.length<=1000000000)/\∀(v41:List api_Double),v41.Perm z34->List.Pairwise (λ(a b:api_Double)=>befP b.2 a.2=false) v41->J27 v41 0))) ((0:Int),[],PUnit.unit)))) λ(J42:List crosscheck_line->Int->Prop)=>LOOP [Ty.int IntKind.i64,Ty.bool,(Ty.st Sn.crosscheck_line).sl] (λ(rec43:Int->Bool->List crosscheck_line->Prop) (z44:Int) (z45:Bool) (z46:List crosscheck_line)=>IFB (decide (z44<0)) False (IFB (!z45) (J42 [] 7) (J42 z46 0))) ((0:Int),true,[],PUnit.unit))) ((↑ys.length:Int)<=9223372036854775807->LOOP [Ty.int IntKind.i64] (λ(rec47:Int->Prop) (z48:Int)=>IFB (decide (z48<(↑ys.length:Int))) (((0:Int)<=z48/\z48<(↑ys.length:Int))/\l.length<=1000000/\∀(v49:Bool),(v49=true↔thereP l {Application:=(ix ys z48).1.1,Line:=(ix ys z48).1.2:api_Place})->IFB (!v49) (IFB true (post [] [] 15) (JOIN [(Ty.st Sn.api_Double).sl,Ty.int IntKind.i64] (λ(y50:List api_Double) (y51:Int)=>IFB (!decide (y51=0)) (post [] [] y51) ((↑y50.length:Int)<=9223372036854775807->False)) λ(J52:List api_Double->Int->Prop)=>JOIN [(Ty.st Sn.crosscheck_line).sl,Ty.int IntKind.i64] (λ(y53:List crosscheck_line) (y54:Int)=>IFB (!decide (y54=0)) (J52 [] y54) ((y53.length<=60/\List.Pairwise (λ(x1 x2:api_Place)=>x1=x2->False) (List.map (λ(x:crosscheck_line)=>x.1) y53)/\∀(v55:crosscheck_line),v55∈y53->(∀(v56:api_Rect),v56∈v55.2->0<=v56.1/\v56.1<v56.3/\v56.3<=30/\0<=v56.2/\v56.2<v56.4/\v56.4<=10)/\v55.2.length<=120)/\((↑(facesS y53).length:Int)<=9223372036854775807->LOOP [Ty.int IntKind.i64,(Ty.st Sn.api_Double).sl] (λ(rec57:Int->List api_Double->Prop) (z58:Int) (z59:List api_Double)=>IFB (decide (z58<(↑(facesS y53).length:Int))) (JOIN [(Ty.st Sn.api_Double).sl] (λ(y60:List api_Double)=>rec57 (IntKind.i64.wrap (z58+1)) y60) λ(J61:List api_Double->Prop)=>((0:Int)<=z58/\z58<(↑(facesS y53).length:Int))/\((↑(ix (facesS y53) z58).2.length:Int)<=9223372036854775807->IFB (decide ((↑(ix (facesS y53) z58).2.length:Int)<2)) (J61 z59) (JOIN [(Ty.st Sn.api_Rect).sl,Ty.int IntKind.i64] (λ(y62:List api_Rect) (y63:Int)=>IFB (!decide (y63=0)) (J52 [] y63) ((z59.length+[(⟨(⟨y62⟩:api_Region),(ix (facesS y53) z58).2⟩:api_Double)].length) * (48:Nat)<=140737488355328/\J61 (z59++[(⟨(⟨y62⟩:api_Region),(ix (facesS y53) z58).2⟩:api_Double)]))) λ(J64:List api_Rect->Int->Prop)=>(↑(ix (facesS y53) z58).1.length:Int)<=9223372036854775807->IFB (decide ((120:Int)<(↑(ix (facesS y53) z58).1.length:Int))) (J64 [] 1) (J64 (ix (facesS y53) z58).1 0)))) ((↑z59.length:Int)<=9223372036854775807->IFB (decide ((200:Int)<(↑z59.length:Int))) (J52 [] 1) ((z59.length<=1000000/\∀(v65:api_Double),v65∈z59->(v65.2=[]->False)/\v65.2.length<=1000000000)/\∀(v66:List api_Double),v66.Perm z59->List.Pairwise (λ(a b:api_Double)=>befP b.2 a.2=false) v66->J52 v66 0))) ((0:Int),[],PUnit.unit)))) λ(J67:List crosscheck_line->Int->Prop)=>LOOP [Ty.int IntKind.i64,Ty.bool,(Ty.st Sn.crosscheck_line).sl] (λ(rec68:Int->Bool->List crosscheck_line->Prop) (z69:Int) (z70:Bool) (z71:List crosscheck_line)=>IFB (decide (z69<0)) False (IFB (!z70) (J67 [] 7) (J67 z71 0))) ((0:Int),true,[],PUnit.unit))) (∀(v72:Bool),(v72=true↔validP (ix ys z48).2.1)->IFB (!v72) (IFB true (post [] [] 7) (JOIN [(Ty.st Sn.api_Double).sl,Ty.int IntKind.i64] (λ(y73:List api_Double) (y74:Int)=>IFB (!decide (y74=0)) (post [] [] y74) ((↑y73.length:Int)<=9223372036854775807->False)) λ(J75:List api_Double->Int->Prop)=>JOIN [(Ty.st Sn.crosscheck_line).sl,Ty.int IntKind.i64] (λ(y76:List crosscheck_line) (y77:Int)=>IFB (!decide (y77=0)) (J75 [] y77) ((y76.length<=60/\List.Pairwise (λ(x1 x2:api_Place)=>x1=x2->False) (List.map (λ(x:crosscheck_line)=>x.1) y76)/\∀(v78:crosscheck_line),v78∈y76->(∀(v79:api_Rect),v79∈v78.2->0<=v79.1/\v79.1<v79.3/\v79.3<=30/\0<=v79.2/\v79.2<v79.4/\v79.4<=10)/\v78.2.length<=120)/\((↑(facesS y76).length:Int)<=9223372036854775807->LOOP [Ty.int IntKind.i64,(Ty.st Sn.api_Double).sl] (λ(rec80:Int->List api_Double->Prop) (z81:Int) (z82:List api_Double)=>IFB (decide (z81<(↑(facesS y76).length:Int))) (JOIN [(Ty.st Sn.api_Double).sl] (λ(y83:List api_Double)=>rec80 (IntKind.i64.wrap (z81+1)) y83) λ(J84:List api_Double->Prop)=>((0:Int)<=z81/\z81<(↑(facesS y76).length:Int))/\((↑(ix (facesS y76) z81).2.length:Int)<=9223372036854775807->IFB (decide ((↑(ix (facesS y76) z81).2.length:Int)<2)) (J84 z82) (JOIN [(Ty.st Sn.api_Rect).sl,Ty.int IntKind.i64] (λ(y85:List api_Rect) (y86:Int)=>IFB (!decide (y86=0)) (J75 [] y86) ((z82.length+[(⟨(⟨y85⟩:api_Region),(ix (facesS y76) z81).2⟩:api_Double)].length) * (48:Nat)<=140737488355328/\J84 (z82++[(⟨(⟨y85⟩:api_Region),(ix (facesS y76) z81).2⟩:api_Double)]))) λ(J87:List api_Rect->Int->Prop)=>(↑(ix (facesS y76) z81).1.length:Int)<=9223372036854775807->IFB (decide ((120:Int)<(↑(ix (facesS y76) z81).1.length:Int))) (J87 [] 1) (J87 (ix (facesS y76) z81).1 0)))) ((↑z82.length:Int)<=9223372036854775807->IFB (decide ((200:Int)<(↑z82.length:Int))) (J75 [] 1) ((z82.length<=1000000/\∀(v88:api_Double),v88∈z82->(v88.2=[]->False)/\v88.2.length<=1000000000)/\∀(v89:List api_Double),v89.Perm z82->List.Pairwise (λ(a b:api_Double)=>befP b.2 a.2=false) v89->J75 v89 0))) ((0:Int),[],PUnit.unit)))) λ(J90:List crosscheck_line->Int->Prop)=>LOOP [Ty.int IntKind.i64,Ty.bool,(Ty.st Sn.crosscheck_line).sl] (λ(rec91:Int->Bool->List crosscheck_line->Prop) (z92:Int) (z93:Bool) (z94:List crosscheck_line)=>IFB (decide (z92<0)) False (IFB (!z93) (J90 [] 7) (J90 z94 0))) ((0:Int),true,[],PUnit.unit))) (rec47 (IntKind.i64.wrap (z48+1))))) ((l.length<=4000000/\∀(v95:api_Version),v95∈l->v95.2.length<=4000000/\∀(v96:api_Line),v96∈v95.2->v96.2.1.length<=4000000)/\((↑ys.length:Int)<=9223372036854775807->LOOP [Ty.int IntKind.i64,(Ty.st Sn.api_Version).sl] (λ(rec97:Int->List api_Version->Prop) (z98:Int) (z99:List api_Version)=>IFB (decide (z98<(↑ys.length:Int))) (((0:Int)<=z98/\z98<(↑ys.length:Int))/\((0:Int)<=(ix ys z98).1.1/\(ix ys z98).1.1<(↑z99.length:Int))/\((0:Int)<=(ix ys z98).1.2/\(ix ys z98).1.2<(↑(ix z99 (ix ys z98).1.1).2.length:Int))/\(((∀(v100:api_Rect),v100∈(ix (ix z99 (ix ys z98).1.1).2 (ix ys z98).1.2).2.1->0<=v100.1/\v100.1<v100.3/\v100.3<=16384/\0<=v100.2/\v100.2<v100.4/\v100.4<=16384)/\(ix (ix z99 (ix ys z98).1.1).2 (ix ys z98).1.2).2.1.length<=8000)/\(∀(v101:api_Rect),v101∈(ix ys z98).2.1->0<=v101.1/\v101.1<v101.3/\v101.3<=16384/\0<=v101.2/\v101.2<v101.4/\v101.4<=16384)/\(ix ys z98).2.1.length<=8000)/\rec97 (IntKind.i64.wrap (z98+1)) (z99.set (ix ys z98).1.1.toNat (⟨(ix z99 (ix ys z98).1.1).1,(ix z99 (ix ys z98).1.1).2.set (ix ys z98).1.2.toNat (⟨(ix (ix z99 (ix ys z98).1.1).2 (ix ys z98).1.2).1,(⟨canonF λ(x y:Int)=>howS (3:Int) (cov (ix (ix z99 (ix ys z98).1.1).2 (ix ys z98).1.2).2.1 x y) (cov (ix ys z98).2.1 x y)⟩:api_Region),(ix (ix z99 (ix ys z98).1.1).2 (ix ys z98).1.2).3,(ix (ix z99 (ix ys z98).1.1).2 (ix ys z98).1.2).4⟩:api_Line)⟩:api_Version))) ((z99.length<=1000/\∀(v102:api_Version),v102∈z99->v102.2.length<=1000)/\IFB (!decide (limitF z99=0)) (IFB (!decide (limitF z99=0)) (post [] [] (limitF z99)) (JOIN [(Ty.st Sn.api_Double).sl,Ty.int IntKind.i64] (λ(y103:List api_Double) (y104:Int)=>IFB (!decide (y104=0)) (post [] [] y104) ((↑y103.length:Int)<=9223372036854775807->LOOP [Ty.int IntKind.i64,(Ty.st Sn.api_Version).sl] (λ(rec105:Int->List api_Version->Prop) (z106:Int) (z107:List api_Version)=>IFB (decide (z106<(↑y103.length:Int))) (((0:Int)<=z106/\z106<(↑y103.length:Int))/\((↑(ix y103 z106).2.length:Int)<=9223372036854775807->LOOP [Ty.int IntKind.i64,(Ty.st Sn.api_Version).sl] (λ(rec108:Int->List api_Version->Prop) (z109:Int) (z110:List api_Version)=>IFB (decide (z109<(↑(ix y103 z106).2.length:Int))) (((0:Int)<=z109/\z109<(↑(ix y103 z106).2.length:Int))/\False) (rec105 (IntKind.i64.wrap (z106+1)) z110)) ((0:Int),z107,PUnit.unit))) ((Nat.le ((0:Nat)) ((1000:Nat))/\∀(v111:api_Version),v111∈[]->v111.2.length<=1000)/\IFB false (post [] [] 0) (post [] y103 0))) ((0:Int),z99,PUnit.unit))) λ(J112:List api_Double->Int->Prop)=>JOIN [(Ty.st Sn.crosscheck_line).sl,Ty.int IntKind.i64] (λ(y113:List crosscheck_line) (y114:Int)=>IFB (!decide (y114=0)) (J112 [] y114) ((y113.length<=60/\List.Pairwise (λ(x1 x2:api_Place)=>x1=x2->False) (List.map (λ(x:crosscheck_line)=>x.1) y113)/\∀(v115:crosscheck_line),v115∈y113->(∀(v116:api_Rect),v116∈v115.2->0<=v116.1/\v116.1<v116.3/\v116.3<=30/\0<=v116.2/\v116.2<v116.4/\v116.4<=10)/\v115.2.length<=120)/\((↑(facesS y113).length:Int)<=9223372036854775807->LOOP [Ty.int IntKind.i64,(Ty.st Sn.api_Double).sl] (λ(rec117:Int->List api_Double->Prop) (z118:Int) (z119:List api_Double)=>IFB (decide (z118<(↑(facesS y113).length:Int))) (JOIN [(Ty.st Sn.api_Double).sl] (λ(y120:List api_Double)=>rec117 (IntKind.i64.wrap (z118+1)) y120) λ(J121:List api_Double->Prop)=>((0:Int)<=z118/\z118<(↑(facesS y113).length:Int))/\((↑(ix (facesS y113) z118).2.length:Int)<=9223372036854775807->IFB (decide ((↑(ix (facesS y113) z118).2.length:Int)<2)) (J121 z119) (JOIN [(Ty.st Sn.api_Rect).sl,Ty.int IntKind.i64] (λ(y122:List api_Rect) (y123:Int)=>IFB (!decide (y123=0)) (J112 [] y123) ((z119.length+[(⟨(⟨y122⟩:api_Region),(ix (facesS y113) z118).2⟩:api_Double)].length) * (48:Nat)<=140737488355328/\J121 (z119++[(⟨(⟨y122⟩:api_Region),(ix (facesS y113) z118).2⟩:api_Double)]))) λ(J124:List api_Rect->Int->Prop)=>(↑(ix (facesS y113) z118).1.length:Int)<=9223372036854775807->IFB (decide ((120:Int)<(↑(ix (facesS y113) z118).1.length:Int))) (J124 [] 1) (J124 (ix (facesS y113) z118).1 0)))) ((↑z119.length:Int)<=9223372036854775807->IFB (decide ((200:Int)<(↑z119.length:Int))) (J112 [] 1) ((z119.length<=1000000/\∀(v125:api_Double),v125∈z119->(v125.2=[]->False)/\v125.2.length<=1000000000)/\∀(v126:List api_Double),v126.Perm z119->List.Pairwise (λ(a b:api_Double)=>befP b.2 a.2=false) v126->J112 v126 0))) ((0:Int),[],PUnit.unit)))) λ(J127:List crosscheck_line->Int->Prop)=>LOOP [Ty.int IntKind.i64,Ty.bool,(Ty.st Sn.crosscheck_line).sl] (λ(rec128:Int->Bool->List crosscheck_line->Prop) (z129:Int) (z130:Bool) (z131:List crosscheck_line)=>IFB (decide (z129<0)) False (IFB (!z130) (J127 [] 7) (J127 z131 0))) ((0:Int),true,[],PUnit.unit))) (IFB false (post [] [] 0) (JOIN [(Ty.st Sn.api_Double).sl,Ty.int IntKind.i64] (λ(y132:List api_Double) (y133:Int)=>IFB (!decide (y133=0)) (post [] [] y133) ((↑y132.length:Int)<=9223372036854775807->LOOP [Ty.int IntKind.i64,(Ty.st Sn.api_Version).sl] (λ(rec134:Int->List api_Version->Prop) (z135:Int) (z136:List api_Version)=>IFB (decide (z135<(↑y132.length:Int))) (((0:Int)<=z135/\z135<(↑y132.length:Int))/\((↑(ix y132 z135).2.length:Int)<=9223372036854775807->LOOP [Ty.int IntKind.i64,(Ty.st Sn.api_Version).sl] (λ(rec137:Int->List api_Version->Prop) (z138:Int) (z139:List api_Version)=>IFB (decide (z138<(↑(ix y132 z135).2.length:Int))) (((0:Int)<=z138/\z138<(↑(ix y132 z135).2.length:Int))/\((0:Int)<=(ix (ix y132 z135).2 z138).1/\(ix (ix y132 z135).2 z138).1<(↑z139.length:Int))/\((0:Int)<=(ix (ix y132 z135).2 z138).2/\(ix (ix y132 z135).2 z138).2<(↑(ix z139 (ix (ix y132 z135).2 z138).1).2.length:Int))/\(((∀(v140:api_Rect),v140∈(ix (ix z139 (ix (ix y132 z135).2 z138).1).2 (ix (ix y132 z135).2 z138).2).2.1->0<=v140.1/\v140.1<v140.3/\v140.3<=16384/\0<=v140.2/\v140.2<v140.4/\v140.4<=16384)/\(ix (ix z139 (ix (ix y132 z135).2 z138).1).2 (ix (ix y132 z135).2 z138).2).2.1.length<=8000)/\(∀(v141:api_Rect),v141∈(ix y132 z135).1.1->0<=v141.1/\v141.1<v141.3/\v141.3<=16384/\0<=v141.2/\v141.2<v141.4/\v141.4<=16384)/\(ix y132 z135).1.1.length<=8000)/\rec137 (IntKind.i64.wrap (z138+1)) (z139.set (ix (ix y132 z135).2 z138).1.toNat (⟨(ix z139 (ix (ix y132 z135).2 z138).1).1,(ix z139 (ix (ix y132 z135).2 z138).1).2.set (ix (ix y132 z135).2 z138).2.toNat (⟨(ix (ix z139 (ix (ix y132 z135).2 z138).1).2 (ix (ix y132 z135).2 z138).2).1,(⟨canonF λ(x y:Int)=>howS (3:Int) (cov (ix (ix z139 (ix (ix y132 z135).2 z138).1).2 (ix (ix y132 z135).2 z138).2).2.1 x y) (cov (ix y132 z135).1.1 x y)⟩:api_Region),(ix (ix z139 (ix (ix y132 z135).2 z138).1).2 (ix (ix y132 z135).2 z138).2).3,(ix (ix z139 (ix (ix y132 z135).2 z138).1).2 (ix (ix y132 z135).2 z138).2).4⟩:api_Line)⟩:api_Version))) (rec134 (IntKind.i64.wrap (z135+1)) z139)) ((0:Int),z136,PUnit.unit))) ((z136.length<=1000/\∀(v142:api_Version),v142∈z136->v142.2.length<=1000)/\IFB (!decide (limitF z136=0)) (post [] [] (limitF z136)) (post z136 y132 0))) ((0:Int),z99,PUnit.unit))) λ(J143:List api_Double->Int->Prop)=>JOIN [(Ty.st Sn.crosscheck_line).sl,Ty.int IntKind.i64] (λ(y144:List crosscheck_line) (y145:Int)=>IFB (!decide (y145=0)) (J143 [] y145) ((y144.length<=60/\List.Pairwise (λ(x1 x2:api_Place)=>x1=x2->False) (List.map (λ(x:crosscheck_line)=>x.1) y144)/\∀(v146:crosscheck_line),v146∈y144->(∀(v147:api_Rect),v147∈v146.2->0<=v147.1/\v147.1<v147.3/\v147.3<=30/\0<=v147.2/\v147.2<v147.4/\v147.4<=10)/\v146.2.length<=120)/\((↑(facesS y144).length:Int)<=9223372036854775807->LOOP [Ty.int IntKind.i64,(Ty.st Sn.api_Double).sl] (λ(rec148:Int->List api_Double->Prop) (z149:Int) (z150:List api_Double)=>IFB (decide (z149<(↑(facesS y144).length:Int))) (JOIN [(Ty.st Sn.api_Double).sl] (λ(y151:List api_Double)=>rec148 (IntKind.i64.wrap (z149+1)) y151) λ(J152:List api_Double->Prop)=>((0:Int)<=z149/\z149<(↑(facesS y144).length:Int))/\((↑(ix (facesS y144) z149).2.length:Int)<=9223372036854775807->IFB (decide ((↑(ix (facesS y144) z149).2.length:Int)<2)) (J152 z150) (JOIN [(Ty.st Sn.api_Rect).sl,Ty.int IntKind.i64] (λ(y153:List api_Rect) (y154:Int)=>IFB (!decide (y154=0)) (J143 [] y154) ((z150.length+[(⟨(⟨y153⟩:api_Region),(ix (facesS y144) z149).2⟩:api_Double)].length) * (48:Nat)<=140737488355328/\J152 (z150++[(⟨(⟨y153⟩:api_Region),(ix (facesS y144) z149).2⟩:api_Double)]))) λ(J155:List api_Rect->Int->Prop)=>(↑(ix (facesS y144) z149).1.length:Int)<=9223372036854775807->IFB (decide ((120:Int)<(↑(ix (facesS y144) z149).1.length:Int))) (J155 [] 1) (J155 (ix (facesS y144) z149).1 0)))) ((↑z150.length:Int)<=9223372036854775807->IFB (decide ((200:Int)<(↑z150.length:Int))) (J143 [] 1) ((z150.length<=1000000/\∀(v156:api_Double),v156∈z150->(v156.2=[]->False)/\v156.2.length<=1000000000)/\∀(v157:List api_Double),v157.Perm z150->List.Pairwise (λ(a b:api_Double)=>befP b.2 a.2=false) v157->J143 v157 0))) ((0:Int),[],PUnit.unit)))) λ(J158:List crosscheck_line->Int->Prop)=>(↑z99.length:Int)<=9223372036854775807->LOOP [Ty.int IntKind.i64,Ty.bool,(Ty.st Sn.crosscheck_line).sl] (λ(rec159:Int->Bool->List crosscheck_line->Prop) (z160:Int) (z161:Bool) (z162:List crosscheck_line)=>IFB (decide (z160<(↑z99.length:Int))) (((0:Int)<=z160/\z160<(↑z99.length:Int))/\((↑(ix z99 z160).2.length:Int)<=9223372036854775807->LOOP [Ty.int IntKind.i64,Ty.bool,(Ty.st Sn.crosscheck_line).sl] (λ(rec163:Int->Bool->List crosscheck_line->Prop) (z164:Int) (z165:Bool) (z166:List crosscheck_line)=>IFB (decide (z164<(↑(ix z99 z160).2.length:Int))) (((0:Int)<=z164/\z164<(↑(ix z99 z160).2.length:Int))/\(z166.length+[{place:=(⟨z160,z164⟩:api_Place),rects:=(ix (ix z99 z160).2 z164).2.1:crosscheck_line}].length) * (40:Nat)<=140737488355328/\JOIN [Ty.bool] (λ(y167:Bool)=>rec163 (IntKind.i64.wrap (z164+1)) (z165&&y167) (z166++[{place:=(⟨z160,z164⟩:api_Place),rects:=(ix (ix z99 z160).2 z164).2.1:crosscheck_line}])) λ(J168:Bool->Prop)=>IFB (gx true z165) (∀(v169:Bool),(v169=true↔validP (ix (ix z99 z160).2 z164).2.1)->J168 v169) (J168 false)) ((↑z166.length:Int)<=9223372036854775807->IFB (decide ((60:Int)<(↑z166.length:Int))) (J158 [] 1) (rec159 (IntKind.i64.wrap (z160+1)) z165 z166))) ((0:Int),z161,z162,PUnit.unit))) (IFB (!z161) (J158 [] 7) (J158 z162 0))) ((0:Int),true,[],PUnit.unit))))) ((0:Int),l,PUnit.unit)))) ((0:Int),PUnit.unit)))) λ(J170:List crosscheck_line->Int->Prop)=>(↑l.length:Int)<=9223372036854775807->LOOP [Ty.int IntKind.i64,Ty.bool,(Ty.st Sn.crosscheck_line).sl] (λ(rec171:Int->Bool->List crosscheck_line->Prop) (z172:Int) (z173:Bool) (z174:List crosscheck_line)=>IFB (decide (z172<(↑l.length:Int))) (((0:Int)<=z172/\z172<(↑l.length:Int))/\((↑(ix l z172).2.length:Int)<=9223372036854775807->LOOP [Ty.int IntKind.i64,Ty.bool,(Ty.st Sn.crosscheck_line).sl] (λ(rec175:Int->Bool->List crosscheck_line->Prop) (z176:Int) (z177:Bool) (z178:List crosscheck_line)=>IFB (decide (z176<(↑(ix l z172).2.length:Int))) (((0:Int)<=z176/\z176<(↑(ix l z172).2.length:Int))/\(z178.length+[{place:=(⟨z172,z176⟩:api_Place),rects:=(ix (ix l z172).2 z176).2.1:crosscheck_line}].length) * (40:Nat)<=140737488355328/\JOIN [Ty.bool] (λ(y179:Bool)=>rec175 (IntKind.i64.wrap (z176+1)) (z177&&y179) (z178++[{place:=(⟨z172,z176⟩:api_Place),rects:=(ix (ix l z172).2 z176).2.1:crosscheck_line}])) λ(J180:Bool->Prop)=>IFB (gx true z177) (∀(v181:Bool),(v181=true↔validP (ix (ix l z172).2 z176).2.1)->J180 v181) (J180 false)) ((↑z178.length:Int)<=9223372036854775807->IFB (decide ((60:Int)<(↑z178.length:Int))) (J170 [] 1) (rec171 (IntKind.i64.wrap (z172+1)) z177 z178))) ((0:Int),z173,z174,PUnit.unit))) (IFB (!z173) (J170 [] 7) (J170 z174 0))) ((0:Int),true,[],PUnit.unit)
theorem pset_w (l:List (api_Version))(ys:List (api_Yield))(post:dens (shT pset_sp.rs [])->Prop):pset_W l ys (λy0 y1 y2=>post (y0,y1,y2,()))=walkG (callR Tryz.prog pset_C (drawR Tryz.prog tau) 10 0) 55 false [tv (.sl (.st .api_Version)) l,tv (.sl (.st .api_Yield)) ys] pset_sp.rs post:=by kernel_rfl
theorem pset_of (h:∀l ys post,pset_P l ys post->pset_W l ys post):SpecOK Tryz.prog pset_sp:=SpecOK.of_rules (C:=pset_C) (dr:=drawR Tryz.prog tau) (n:=10) (fk:=0) (.cons (rule1_ok pthere_ok) (.cons (rule1_ok pval_ok) (.cons (ruleW_ok Nest.copied_mk) (.cons (ruleC_ok pchoN_ok) (.cons (rule1_ok plimit_ok) (.cons (rule1_ok pfaces_ok) (.cons (rule3_ok psortD_ok) .nil))))))) (drawR_ok tau) λx post hp=>HoldW.of (pset_w x.1 x.2.1 post) (h x.1 x.2.1 (λy0 y1 y2=>post (y0,y1,y2,())) hp)
theorem IFB.yes {c:Bool}{A B:Prop}(hc:c=true)(h:A):IFB c A B:=IFB.mk (λ_=>h) (λe=>by rw[hc] at e;cases e)
theorem IFB.no {c:Bool}{A B:Prop}(hc:c=false)(h:B):IFB c A B:=IFB.mk (λe=>by rw[hc] at e;cases e) (λ_=>h)
def psetI (g:List api_Version)(ds:List Dbl)(z:Int)(m:List api_Version):Prop:=∃k:Nat,z=(k:Int)/\k<=ds.length/\m=setS g (ds.take k)
def psetJ (b:List api_Version)(d:Dbl)(z:Int)(m:List api_Version):Prop:=∃j:Nat,z=(j:Int)/\j<=d.Claims.length/\m=((d.Claims.take j).map λp=>(⟨p,d.Region⟩:api_Yield)).foldl give1 b
theorem pset_h (l:List api_Version)(ys:List api_Yield)(post:List (api_Version)->List (api_Double)->Int->Prop)(hp:pset_P l ys post):pset_W l ys post:=by
 obtain⟨hS,hp⟩:=hp
 have h1:=hS.1
 have perr:∀e:Int,givS l ys=([],e)->e≠0->post [] [] e:=λe h he=>hp [] [] e (.inl ⟨by rw[h];exact he,rfl,rfl,by rw[h]⟩)
 unfold pset_W
 refine JOIN.opq λ(J:List Ln->Int->Prop) hJ=> ?_
 refine plines_h l J ⟨h1,λL e he=> ?_⟩
 rw[hJ]
 dsimp only
 refine IFB.mk (λhb=>IFB.yes hb ?_) (λhb=> ?_)
 ·have hb:e≠0:=by simpa using hb
  have e1:beginF l≠0/\e=beginF l:=by
   rcases he with⟨a,_,b⟩|⟨_,_,b⟩
   ·exact⟨a,b⟩
   ·exact absurd b hb
  exact perr e (by unfold givS;rw[if_pos e1.1,e1.2]) hb
 have hb:e=0:=by simpa using hb
 have hb:beginF l=0:=by
  rcases he with⟨a,_,b⟩|⟨a,_,_⟩
  ·exact absurd (b.symm.trans hb) a
  ·exact a
 clear he hJ
 refine λ_=>IFB.mk (λhc=>IFB.yes rfl ?_) (λhc=> ?_)
 ·have hc:(200:Int)<(ys.length:Int):=of_decide_eq_true hc
  exact perr 1 (by unfold givS;rw[if_neg (by simp[hb]),if_pos (by omega)]) (by decide)
 have hc:¬(200:Int)<(ys.length:Int):=of_decide_eq_false hc
 have hc':¬200<ys.length:=by omega
 obtain⟨hlen,hval⟩:=begin_zero hb
 refine λ_=>loopCmp (n:=ys.length) (by omega) (p:=λk=>thereP l (ix ys (k:Int)).1/\validP (ix ys (k:Int)).2.1) (λrec k hk hpre hrec=> ?_) λhall=> ?_
 ·have htk:ys.take (k+1)=ys.take k++[ix ys (k:Int)]:=by rw[List.take_succ_eq_append_getElem hk,ix_lt hk]
  have h0:∀j,j<=k->errY l (ys.take j)=0:=λj=>by
   induction j with
   |zero=>intro _;rfl
   |succ j ih=>
    intro hj
    have hj2:j<ys.length:=by omega
    have htj:ys.take (j+1)=ys.take j++[ix ys (j:Int)]:=by rw[List.take_succ_eq_append_getElem hj2,ix_lt hj2]
    obtain⟨a,b⟩:=hpre j (by omega)
    rw[htj,errY_snoc (ih (by omega)),errY,if_neg (not_not_intro a),if_neg (not_not_intro b)];rfl
  have h0:=h0 k (Nat.le_refl _)
  have hl:l.length<=1000:=h1.1
  refine⟨by omega,by omega,λv6 hv6=>IFB.mk (λhn=>IFB.yes rfl ?_) (λhn v7 hv7=>IFB.mk (λhm=>IFB.yes rfl ?_) (λhm=>hrec ?_))⟩
  ·have hnt:¬thereP l (ix ys (k:Int)).1:=λh=>by have:=hv6.2 h;rw[this] at hn;cases hn
   exact perr 15 (givS_err hb hc' (k:=k) (e:=15) (by rw[htk,errY_snoc h0,errY,if_pos hnt]) (by decide)) (by decide)
  ·have ht:thereP l (ix ys (k:Int)).1:=hv6.1 (by cases v6<;>simp_all)
   have hnv:¬validP (ix ys (k:Int)).2.1:=λh=>by have:=hv7.2 h;rw[this] at hm;cases hm
   exact perr 7 (givS_err hb hc' (k:=k) (e:=7) (by rw[htk,errY_snoc h0,errY,if_neg (not_not_intro ht),if_pos hnv]) (by decide)) (by decide)
  ·exact⟨hv6.1 (by cases v6<;>simp_all),hv7.1 (by cases v7<;>simp_all)⟩
 have hY:∀z∈ys,thereP l z.1/\validP z.2.1:=λz hz=>by
  obtain⟨j,hj,rfl⟩:=List.getElem_of_mem hz
  have:=hall j hj
  rwa [ix_lt hj] at this
 have hE:∀k,k<=ys.length->errY l (ys.take k)=0:=λk=>by
  induction k with
  |zero=>intro _;rfl
  |succ k ih=>
   intro hk
   have hk2:k<ys.length:=by omega
   have htk:ys.take (k+1)=ys.take k++[ix ys (k:Int)]:=by rw[List.take_succ_eq_append_getElem hk2,ix_lt hk2]
   obtain⟨a,b⟩:=hall k hk2
   rw[htk,errY_snoc (ih (by omega)),errY,if_neg (not_not_intro a),if_neg (not_not_intro b)];rfl
 refine⟨⟨by have:=h1.1;omega,λv hv=>⟨by have:=h1.2 v hv;omega,λx hx=> ?_⟩⟩,λ_=> ?_⟩
 ·have:=(lin_valid.2 hval _ (regN_mem hv hx)).1
  show x.Region.Rects.length<=4000000;omega
 refine LOOP.fuel (λu=>pgvI l ys u.1 u.2.1) (λu=>ys.length-Int.toNat u.1) ⟨0,rfl,Nat.zero_le _,rfl⟩ ?_
 rintro rec ⟨(z0:Int),(m:List api_Version),⟨⟩⟩ ⟨k,i1,i2,i3⟩ hrec
 have i1:z0=(k:Int):=i1
 have q3:m=(ys.take k).foldl give1 l:=i3
 clear i3
 subst i1
 have hyk:∀z∈ys.take k,thereP l z.1:=λz hz=>(hY z (List.mem_of_mem_take hz)).1
 have hlike:likeV l m:=by rw[q3];exact (gives_ok hyk).1
 refine IFB.mk (λhd=> ?_) (λhd=> ?_)
 ·have hd:(k:Int)<ys.length:=of_decide_eq_true hd
  have hk:k<ys.length:=by omega
  obtain⟨ht,hv⟩:=hall k hk
  have hpr:∀r∈gat m (ix ys (k:Int)).1,proper r:=by rw[q3];exact gave_proper hval hyk ht
  have htm:=hlike.there.2 ht
  obtain⟨m1,m2,m3,m4⟩:=htm
  have htk:ys.take (k+1)=ys.take k++[ix ys (k:Int)]:=by rw[List.take_succ_eq_append_getElem hk,ix_lt hk]
  have hlen1:(gat m (ix ys (k:Int)).1).length<=300:=by rw[q3];exact (gave_box hb hS hyk ht).2.1
  refine⟨⟨by omega,hd⟩,⟨m1,m2⟩,⟨m3,m4⟩,⟨⟨hpr,?_⟩,hv.2.1,?_⟩,?_⟩
  ·show (gat m (ix ys (k:Int)).1).length<=8000
   omega
  ·have:=hv.1
   show (ix ys (k:Int)).2.1.length<=8000;omega
  ·show rec (IntKind.i64.wrap ((k:Int)+1)) _
   rw[wrapS (by omega)]
   refine hrec (((k+1:Nat):Int),_,()) ⟨k+1,rfl,hk,?_⟩ (by show ys.length-((k+1:Nat):Int).toNat<ys.length-(k:Int).toNat;omega)
   rw[htk,foldl_snoc,<-q3];rfl
 ·have hd:¬(k:Int)<ys.length:=of_decide_eq_false hd
  have hk:k=ys.length:=by omega
  rw[hk,List.take_length] at q3
  have i4:errY l ys=0:=by have:=hE ys.length (Nat.le_refl _);rwa [List.take_length] at this
  have hmany:manyV m:=many_like hlike h1
  refine⟨hmany,?_⟩
  refine IFB.mk (λhn=>IFB.yes hn ?_) (λhn=>IFB.no rfl ?_)
  ·have hn:limitF m≠0:=by simpa using hn
   have h1':limitF m=1:=by unfold limitF at hn ⊢;split at hn<;>first|exact absurd rfl hn|(rename_i h;rw[if_neg h])
   rw[h1']
   exact perr 1 (by
    unfold givS
    rw[if_neg (by simp[hb]),if_neg hc',if_neg (by simp[i4]),if_pos (by rw[<-q3];exact hn)]) (by decide)
  have hn:limitF m=0:=by simpa using hn
  have e:givS l ys=(m,0):=by
   unfold givS
   rw[if_neg (by simp[hb]),if_neg hc',if_neg (by simp[i4]),if_neg (by rw[<-q3];simp[hn]),<-q3]
  have hSm:okS m:=by
   have:=(okS_give (ys:=ys) hS (by rw[e])).1
   rwa [e] at this
  have hset:∀m' ds' e',(∃d0 e0,dblR m d0 e0/\((e0≠0/\m'=[]/\ds'=[]/\e'=e0)\/(e0=0/\limitF (setS m d0)≠0/\m'=[]/\ds'=[]/\e'=1)\/(e0=0/\limitF (setS m d0)=0/\m'=setS m d0/\ds'=d0/\e'=0)))->post m' ds' e':=λm' ds' e' h=>hp m' ds' e' (.inr (by rw[e];exact⟨rfl,h⟩))
  clear hrec perr
  refine JOIN.opq λ(D:List Dbl->Int->Prop) hD=> ?_
  refine JOIN.opq λ(K:List Ln->Int->Prop) hK=> ?_
  refine plines_h m K ⟨hmany,λL e0 he0=> ?_⟩
  rw[hK]
  refine (pdbl_h m D ⟨okS_D hSm,λds e1 hde=> ?_⟩).2 L e0 he0
  rw[hD]
  dsimp only
  refine IFB.mk (λhn1=> ?_) (λhn1 _=> ?_)
  ·have hn1:e1≠0:=by simpa using hn1
   exact hset [] [] e1 ⟨ds,e1,hde,.inl ⟨hn1,rfl,rfl,rfl⟩⟩
  have hn1:e1=0:=by simpa using hn1
  subst hn1
  obtain⟨hbm,hdd,hd2⟩:=dblR_zero hde
  refine LOOP.fuel (λu=>psetI m ds u.1 u.2.1) (λu=>ds.length-Int.toNat u.1) ⟨0,rfl,Nat.zero_le _,rfl⟩ ?_
  rintro rec ⟨(z:Int),(b:List api_Version),⟨⟩⟩ ⟨i,i1,i2,i3⟩ hrec
  have i1:z=(i:Int):=i1
  have q5:b=setS m (ds.take i):=i3
  clear i3
  subst i1
  refine IFB.mk (λhf=> ?_) (λhf=> ?_)
  ·have hf:(i:Int)<ds.length:=of_decide_eq_true hf
   have hi:i<ds.length:=by omega
   obtain⟨d,hdx⟩:∃d,ds[i]? =some d:=⟨_,List.getElem?_eq_getElem hi⟩
   have hix:ix ds (i:Int)=d:=ix_of hdx
   obtain⟨d1,d2,d3,d4⟩:=dbl_small hSm hbm hdd (List.mem_of_getElem? hdx)
   have htk:ds.take (i+1)=ds.take i++[d]:=by rw[List.take_succ_eq_append_getElem hi,(List.getElem?_eq_some_iff.1 hdx).2]
   dsimp only
   rw[hix]
   refine⟨⟨by omega,hf⟩,λ_=> ?_⟩
   refine LOOP.fuel (λu=>psetJ b d u.1 u.2.1) (λu=>d.Claims.length-Int.toNat u.1) ⟨0,rfl,Nat.zero_le _,rfl⟩ ?_
   rintro rec2 ⟨(z2:Int),(c:List api_Version),⟨⟩⟩ ⟨j,j1,j2,j3⟩ hrec2
   have j1:z2=(j:Int):=j1
   have q6:c=((d.Claims.take j).map λp=>(⟨p,d.Region⟩:api_Yield)).foldl give1 b:=j3
   clear j3
   subst j1
   refine IFB.mk (λhg=> ?_) (λhg=> ?_)
   ·have hg:(j:Int)<d.Claims.length:=of_decide_eq_true hg
    have hj:j<d.Claims.length:=by omega
    obtain⟨p,hpx⟩:∃p,ix d.Claims (j:Int)=p:=⟨_,rfl⟩
    have hpm:p∈d.Claims:=by rw[<-hpx,ix_lt hj];exact List.getElem_mem hj
    obtain⟨s1,s2⟩:=set_mid hSm hbm hdd hdx j
    rw[<-q5,<-q6] at s1 s2
    obtain⟨s3,s4⟩:=s2 p (d4 p hpm)
    obtain⟨m1,m2,m3,m4⟩:=s1.there.2 (d4 p hpm)
    have htj:d.Claims.take (j+1)=d.Claims.take j++[p]:=by rw[List.take_succ_eq_append_getElem hj,<-ix_lt hj,hpx]
    have hg2:(0:Int)<=(j:Int)/\(j:Int)<(d.Claims.length:Int):=⟨by omega,hg⟩
    have hd3:j+1<=1000000000:=by omega
    dsimp only
    rw[hpx]
    refine⟨hg2,⟨m1,m2⟩,⟨m3,m4⟩,⟨⟨box_proper s3,?_⟩,box_proper d1,?_⟩,?_⟩
    ·show (gat c p).length<=8000
     omega
    ·show d.Region.Rects.length<=8000
     omega
    ·show rec2 (IntKind.i64.wrap ((j:Int)+1)) _
     rw[wrapS (by omega)]
     refine hrec2 (((j+1:Nat):Int),_,()) ⟨j+1,rfl,hj,?_⟩ (by show d.Claims.length-((j+1:Nat):Int).toNat<d.Claims.length-(j:Int).toNat;omega)
     rw[htj,List.map_append,List.foldl_append,<-q6];rfl
   ·have hg:¬(j:Int)<d.Claims.length:=of_decide_eq_false hg
    have hj:j=d.Claims.length:=by omega
    rw[hj,List.take_length] at q6
    show rec (IntKind.i64.wrap ((i:Int)+1)) c
    rw[wrapS (by omega)]
    refine hrec (((i+1:Nat):Int),c,()) ⟨i+1,rfl,hi,?_⟩ (by show ds.length-((i+1:Nat):Int).toNat<ds.length-(i:Int).toNat;omega)
    show c=_
    rw[htk,setS_app,<-q5];exact q6
  ·have hf:¬(i:Int)<ds.length:=of_decide_eq_false hf
   have hi:i=ds.length:=by omega
   rw[hi,List.take_length] at q5
   refine⟨many_like (by rw[q5];exact set_like hdd) hmany,?_⟩
   refine IFB.mk (λhn2=> ?_) (λhn2=> ?_)
   ·have hn2:limitF b≠0:=by simpa using hn2
    have h1':limitF b=1:=by unfold limitF at hn2 ⊢;split at hn2<;>first|exact absurd rfl hn2|(rename_i h;rw[if_neg h])
    rw[h1']
    exact hset [] [] 1 ⟨ds,0,hde,.inr (.inl ⟨rfl,by rw[<-q5];exact hn2,rfl,rfl,rfl⟩)⟩
   ·have hn2:limitF b=0:=by simpa using hn2
    exact hset b ds 0 ⟨ds,0,hde,.inr (.inr ⟨rfl,by rw[<-q5];exact hn2,q5,rfl,rfl⟩)⟩
theorem pset_ok:SpecOK Tryz.prog pset_sp:=pset_of pset_h
end RE
end Go.Proofs.YtpeggkeenboacaaGreat
