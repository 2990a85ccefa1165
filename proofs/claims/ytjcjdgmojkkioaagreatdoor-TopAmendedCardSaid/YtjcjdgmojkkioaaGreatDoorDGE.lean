/-
  Texts of the proof of TopAmended, part GE.
-/
import Derived.Test.YtjcjdgmojkkioaaGreatDoorDGD
import Derived.Test.YtjcjdgmojkkioaaGreatDoorDGC
import Derived.Test.YtjcjdgmojkkioaaGreatDoorProg
import Derived.WalkKit
import Derived.WalkSpells
import Derived.WalkLawsBesides
import Derived.BigQuiet
import Derived.Deep.QuietTactic
import Derived.Lib.Hide
import Derived.Lib.Small
import Derived.Deep.RegionHeld3
import Derived.Deep.DeepCutAuto
import Derived.Deep.CutBlock
import Derived.Shelf.SlSortCmp.NoneTotal
import Derived.Shelf.SlicesG.Cmp
import Derived.Shelf.Spec.SlicesGrow
import Derived.Ground.SlsfProg
import Derived.Ground.SlgcProg
import Derived.Ground.Names8Prog
import Derived.Test.YtjcjdgmojkkioaaGreatDoorDGB
import Derived.RegionTactic
import Derived.Lib.Bytealg
import Derived.KernelRfl
import Derived.RangeFuncNested
import Derived.RangeFuncBound
import Derived.RangeFuncCalls
import Derived.RangeFuncLeaves
import Derived.Shelf.Abstract
import Derived.Shelf.RegionOpen
import Derived.OwnWalkIn
import Derived.TacticsInMore
import Derived.LoopNIn
import Derived.LoopIn
import Derived.BigRegionIn
set_option linter.unusedVariables false
noncomputable section
set_option maxRecDepth 100000
set_option linter.unusedVariables false
namespace Go.Proofs.YtjcjdgmojkkioaaGreatDoor
open Go.RowKit
namespace RE
open PL
namespace PL
def linesR (l:List api_Version)(L:List Ln)(e:Int):Prop:=(beginF l≠0/\L=[]/\e=beginF l)\/(beginF l=0/\L=linV l/\e=0)
end PL
def plines_P (l:List (api_Version))(post:List (crosscheck_line)->Int->Prop):Prop:=manyV l/\∀(L:List Ln)(e:Int),linesR l L e->post L e
def plines_sp:Spec:=⟨38,false,true,[.sl (.st .api_Version)],.tup [.dat (.sl (.st .crosscheck_line)),.dat (.int .i64)],λx post=>plines_P (x.1:List (api_Version)) (λy0 y1=>post (y0,y1,()))⟩
def plines_C:CtxR:=⟨tau,[rule1 pval_sp],lookJ [(0,9,⟨[(12,.dat (.int .i64)),(5,.dat .bool),(4,.own 209 (.st .crosscheck_line))],[],[13,14,15,16,7,6,17,18,19,41,39,38,37,40,36,35,34,33,32,31,30,29,28,27,26,25,8,9,24,23,22,20,21,42,43,44,45],[],[]⟩),(0,15,⟨[(20,.dat (.int .i64)),(5,.dat .bool),(4,.own 209 (.st .crosscheck_line))],[],[21,22,23,24,9,8,25,26,27,28,29,30,31,32,33,34,35,36,40,37,38,39,41],[0],[]⟩)]⟩
def plines_W (l:List (api_Version))(post:List (crosscheck_line)->Int->Prop):Prop:=(↑l.length:Int)<=9223372036854775807->LOOP [Ty.int IntKind.i64,Ty.bool,(Ty.st Sn.crosscheck_line).sl] (λ(rec1:Int->Bool->List crosscheck_line->Prop) (z2:Int) (z3:Bool) (z4:List crosscheck_line)=>IFB (decide (z2<(↑l.length:Int))) (((0:Int)<=z2/\z2<(↑l.length:Int))/\((↑(ix l z2).2.length:Int)<=9223372036854775807->LOOP [Ty.int IntKind.i64,Ty.bool,(Ty.st Sn.crosscheck_line).sl] (λ(rec5:Int->Bool->List crosscheck_line->Prop) (z6:Int) (z7:Bool) (z8:List crosscheck_line)=>IFB (decide (z6<(↑(ix l z2).2.length:Int))) (((0:Int)<=z6/\z6<(↑(ix l z2).2.length:Int))/\(z8.length+[{place:=(⟨z2,z6⟩:api_Place),rects:=(ix (ix l z2).2 z6).2.1:crosscheck_line}].length) * (40:Nat)<=140737488355328/\JOIN [Ty.bool] (λ(y9:Bool)=>rec5 (IntKind.i64.wrap (z6+1)) (z7&&y9) (z8++[{place:=(⟨z2,z6⟩:api_Place),rects:=(ix (ix l z2).2 z6).2.1:crosscheck_line}])) λ(J10:Bool->Prop)=>IFB (gx true z7) (∀(v11:Bool),(v11=true↔validP (ix (ix l z2).2 z6).2.1)->J10 v11) (J10 false)) ((↑z8.length:Int)<=9223372036854775807->IFB (decide ((60:Int)<(↑z8.length:Int))) (post [] 1) (rec1 (IntKind.i64.wrap (z2+1)) z7 z8))) ((0:Int),z3,z4,PUnit.unit))) (IFB (!z3) (post [] 7) (post z4 0))) ((0:Int),true,[],PUnit.unit)
theorem plines_w (l:List (api_Version))(post:dens (shT plines_sp.rs [])->Prop):plines_W l (λy0 y1=>post (y0,y1,()))=walkG (callR Tryz.prog plines_C (drawR Tryz.prog tau) 6 0) 38 false [tv (.sl (.st .api_Version)) l] plines_sp.rs post:=by kernel_rfl
theorem plines_of (h:∀(l:List (api_Version))(post:List (crosscheck_line)->Int->Prop),plines_P l post->plines_W l post):SpecOK Tryz.prog plines_sp:=SpecOK.of_rules (C:=plines_C) (dr:=drawR Tryz.prog tau) (n:=6) (fk:=0) (.cons (rule1_ok pval_ok) .nil) (drawR_ok tau) λx post hp=>HoldW.of (plines_w x.1 post) (h x.1 (λy0 y1=>post (y0,y1,())) hp)
namespace PL
def plnI (l:List api_Version)(z:Int)(b:Bool)(L:List Ln):Prop:=∃k:Nat,z=(k:Int)/\k<=l.length/\L=linN l k/\L.length<=60/\(b=true↔∀x∈L,validP x.rects)
def plnJ (l:List api_Version)(k:Nat)(z:Int)(b:Bool)(L:List Ln):Prop:=∃j:Nat,z=(j:Int)/\j<=(ix l (k:Int)).Lines.length/\L=linN l k++rowL l k j/\(b=true↔∀x∈L,validP x.rects)
end PL
theorem plines_h (l:List api_Version)(post:List (crosscheck_line)->Int->Prop)(hp:plines_P l post):plines_W l post:=by
 obtain⟨⟨h1,h2⟩,hp⟩:=hp
 unfold plines_W
 refine λ_=>LOOP.fuel (λu=>plnI l u.1 u.2.1 u.2.2.1) (λu=>l.length-Int.toNat u.1) ⟨0,rfl,Nat.zero_le _,rfl,Nat.zero_le _,λ_ x hx=>(by cases hx),λ_=>rfl⟩ ?_
 rintro rec ⟨(z:Int),(b:Bool),(L:List Ln),⟨⟩⟩ ⟨k,i1,i2,i3,i4,i5⟩ hrec
 have i1:z=(k:Int):=i1
 have q3:L=linN l k:=i3
 have q4:L.length<=60:=i4
 have q5:b=true↔∀x∈L,validP x.rects:=i5
 clear i3 i4 i5
 subst i1
 refine IFB.mk (λhb=> ?_) (λhb=> ?_)
 ·have hb:(k:Int)<l.length:=of_decide_eq_true hb
  have hx:(ix l (k:Int)).Lines.length<=1000:=h2 _ (ix_mem (l:=l) (i:=(k:Int)) (by omega) hb)
  refine⟨⟨by omega,hb⟩,λ_=> ?_⟩
  refine LOOP.fuel (λu=>plnJ l k u.1 u.2.1 u.2.2.1) (λu=>(ix l (k:Int)).Lines.length-Int.toNat u.1) ⟨0,rfl,Nat.zero_le _,by show L=linN l k++[];rw[List.append_nil];exact q3,q5⟩ ?_
  rintro rec2 ⟨(z2:Int),(b2:Bool),(L2:List Ln),⟨⟩⟩ ⟨j,j1,j2,j3,j4⟩ hrec2
  have j1:z2=(j:Int):=j1
  have r3:L2=linN l k++rowL l k j:=j3
  have r4:b2=true↔∀x∈L2,validP x.rects:=j4
  clear j3 j4
  subst j1
  have hlen:L2.length<=60+j:=by rw[r3,List.length_append,rowL_len,<-q3];omega
  refine IFB.mk (λhc=> ?_) (λhc=>λ_=> ?_)
  ·have hc:(j:Int)<(ix l (k:Int)).Lines.length:=of_decide_eq_true hc
   refine⟨⟨by omega,hc⟩,by simp only[List.length_cons,List.length_nil];omega,JOIN.opq λ(J:Bool->Prop) hJ=> ?_⟩
   have fin:∀y:Bool,((b2&&y)=true↔∀x∈L2++[(⟨⟨(k:Int),(j:Int)⟩,(ix (ix l (k:Int)).2 (j:Int)).2.1⟩:Ln)],validP x.rects)->J y:=λy hy=>by
    rw[hJ]
    show rec2 (IntKind.i64.wrap ((j:Int)+1)) _ _
    rw[wrapS (by omega)]
    refine hrec2 (((j+1:Nat):Int),b2&&y,_,()) ⟨j+1,rfl,by omega,?_,hy⟩ (by show (ix l (k:Int)).Lines.length-((j+1:Nat):Int).toNat<(ix l (k:Int)).Lines.length-(j:Int).toNat;omega)
    show L2++_=_
    rw[rowL_succ,<-List.append_assoc,<-r3]
   refine IFB.mk (λhn v hv=>fin v ?_) (λhn=>fin false ?_)
   ·have hn:b2=true:=hn
    rw[hn,Bool.true_and,hv]
    have j4:=r4.1 hn
    constructor
    ·intro h x hx
     rcases List.mem_append.1 hx with hx|hx
     ·exact j4 x hx
     ·rw[List.mem_singleton] at hx;rw[hx];exact h
    ·intro h
     exact h ⟨⟨(k:Int),(j:Int)⟩,_⟩ (List.mem_append.2 (.inr (List.mem_singleton.2 rfl)))
   ·have hn:b2=false:=hn
    rw[Bool.and_false]
    constructor
    ·intro h;cases h
    ·intro h
     have:=r4.2 λx hx=>h x (List.mem_append.2 (.inl hx))
     rw[hn] at this;cases this
  ·have hc:¬(j:Int)<(ix l (k:Int)).Lines.length:=of_decide_eq_false hc
   have hj:j=(ix l (k:Int)).Lines.length:=by omega
   have e:L2=linN l (k+1):=by rw[r3,hj,linN_succ]
   refine IFB.mk (λhd=> ?_) (λhd=> ?_)
   ·have hd:(60:Int)<(L2.length:Int):=of_decide_eq_true hd
    have:=begin_lim (l:=l) (k:=k+1) (by omega) (by rw[<-e];omega)
    exact hp [] 1 (.inl ⟨by rw[this];decide,rfl,this.symm⟩)
   ·have hd:¬(60:Int)<(L2.length:Int):=of_decide_eq_false hd
    show rec (IntKind.i64.wrap ((k:Int)+1)) b2 L2
    rw[wrapS (by omega)]
    exact hrec (((k+1:Nat):Int),b2,L2,()) ⟨k+1,rfl,by omega,e,by show L2.length<=60;omega,r4⟩ (by show l.length-((k+1:Nat):Int).toNat<l.length-(k:Int).toNat;omega)
 ·have hb:¬(k:Int)<l.length:=of_decide_eq_false hb
  have hk:k=l.length:=by omega
  have e:L=linV l:=by rw[q3,hk];rfl
  rw[e] at q4 q5
  refine IFB.mk (λhn=> ?_) (λhn=> ?_)
  ·have hn:b=false:=by simpa using hn
   have:=begin_bad q4 (λh=>by have:=q5.2 h;rw[hn] at this;cases this)
   exact hp [] 7 (.inl ⟨by rw[this];decide,rfl,this.symm⟩)
  ·have hn:b=true:=by simpa using hn
   rw[e]
   exact hp _ 0 (.inr ⟨begin_ok q4 (q5.1 hn),rfl,rfl⟩)
theorem plines_ok:SpecOK Tryz.prog plines_sp:=plines_of plines_h
end RE
end Go.Proofs.YtjcjdgmojkkioaaGreatDoor
set_option linter.unusedVariables false
set_option maxRecDepth 100000
namespace Go.Proofs.YtjcjdgmojkkioaaGreatDoor
open Go.RowKit
namespace RE
open PL
namespace PL
def inBox (l:List Rc):Prop:=∀r∈l,0<=r.Left/\r.Left<r.Right/\r.Right<=30/\0<=r.Low/\r.Low<r.High/\r.High<=10
def smallF (L:List Ln):Prop:=L.length<=60/\(L.map (·.place)).Nodup/\∀x∈L,inBox x.rects/\x.rects.length<=120
end PL
theorem nodup_lt:∀{n:Nat}{l:List Nat},l.Nodup->(∀a∈l,a<n)->l.length<=n
 |0,l,_,h=>by
  match l with
  |[]=>exact Nat.le_refl _
  |a::_=>exact absurd (h a (List.mem_cons_self ..)) (Nat.not_lt_zero _)
 |n+1,l,hn,h=>by
  have h1:(l.erase n).length<=n:=nodup_lt (hn.erase n) λa ha=>by
   have hm:=(hn.mem_erase_iff).1 ha
   have:=h a hm.2
   have hne:=hm.1
   omega
  have h2:l.length<=(l.erase n).length+1:=by
   by_cases hm:n∈l
   ·have:=List.length_erase_of_mem hm;omega
   ·rw[List.erase_of_not_mem hm];omega
  omega
theorem box_cov2 {l:List Rc}(h:inBox l){x y:Int}(hc:cov l x y=true):0<=x/\x<30/\0<=y/\y<10:=by
 obtain⟨r,hr,h1,h2,h3,h4⟩:=cov_iff.1 hc
 obtain⟨a,b,c,d,e,f⟩:=h r hr
 omega
theorem box_proper {l:List Rc}(h:inBox l):∀r∈l,proper r:=λr hr=>by
 obtain⟨a,b,c,d,e,f⟩:=h r hr
 exact⟨a,b,by omega,d,e,by omega⟩
theorem can_inBox {l:List Rc}(hc:Canon l)(h:∀x y,cov l x y=true->0<=x/\x<30/\0<=y/\y<10):inBox l/\l.length<=300:=by
 refine⟨λr hr=>canon_box hc h r hr,?_⟩
 have:=canon_len hc (x0:=0) (x1:=30) (y0:=0) (y1:=10) (by omega) (by omega) h
 omega
theorem who_cov {L:List Ln}{x y:Int}(h:who L x y≠[])(hb:∀l∈L,inBox l.rects):0<=x/\x<30/\0<=y/\y<10:=by
 obtain⟨p,hp⟩:=List.exists_mem_of_ne_nil _ h
 obtain⟨l,hl,hc,_⟩:=who_mem.1 hp
 exact box_cov2 (hb l hl) hc
theorem who_len {L:List Ln}{x y:Int}:(who L x y).length<=L.length:=by unfold who;rw[List.length_map];exact List.length_filter_le _ _
theorem face_small {L:List Ln}{F:List Fc}(h:FacesOK L F)(hb:∀l∈L,inBox l.rects){f:Fc}(hf:f∈F):inBox f.rects/\f.rects.length<=300/\f.claims.length<=L.length:=by
 obtain⟨h1,h2,h3,h4⟩:=h.each f hf
 obtain⟨q1,q2⟩:=can_inBox h1 λx y hc=>who_cov (L:=L) (by rw[h4 x y hc];exact h3) hb
 obtain⟨x,y,hc⟩:=canon_some h1 h2
 exact⟨q1,q2,by rw[<-h4 x y hc];exact who_len⟩
open Classical in
noncomputable def pick (f:Fc):Nat:=if h:∃xy:Int×Int,cov f.rects xy.1 xy.2=true then ((Classical.choose h).1 * 10+(Classical.choose h).2).toNat else 0
theorem pick_ok {f:Fc}(h1:Canon f.rects)(h2:f.rects≠[]):∃x y,cov f.rects x y=true/\pick f=(x * 10+y).toNat:=by
 obtain⟨x,y,hc⟩:=canon_some h1 h2
 have h:∃xy:Int×Int,cov f.rects xy.1 xy.2=true:=⟨(x,y),hc⟩
 refine⟨(Classical.choose h).1,(Classical.choose h).2,Classical.choose_spec h,?_⟩
 unfold pick
 rw[dif_pos h]
theorem faces_few {L:List Ln}{F:List Fc}(h:FacesOK L F)(hb:∀l∈L,inBox l.rects):F.length<=300:=by
 have e:F.length=(F.map pick).length:=by rw[List.length_map]
 rw[e]
 refine nodup_lt ?_ ?_
 ·rw[List.nodup_iff_pairwise_ne,List.pairwise_map]
  refine h.ne.imp_of_mem λ{f g} hf hg hne he=>hne ?_
  obtain⟨a1,a2,a3,a4⟩:=h.each f hf
  obtain⟨b1,b2,b3,b4⟩:=h.each g hg
  obtain⟨x,y,c1,e1⟩:=pick_ok a1 a2
  obtain⟨u,v,c2,e2⟩:=pick_ok b1 b2
  have w1:=a4 x y c1
  have w2:=b4 u v c2
  have r1:=who_cov (L:=L) (x:=x) (y:=y) (by rw[w1];exact a3) hb
  have r2:=who_cov (L:=L) (x:=u) (y:=v) (by rw[w2];exact b3) hb
  rw[e1,e2] at he
  have ex:x=u:=by omega
  have ey:y=v:=by omega
  rw[<-w1,<-w2,ex,ey]
 ·intro a ha
  obtain⟨f,hf,rfl⟩:=List.mem_map.1 ha
  obtain⟨a1,a2,a3,a4⟩:=h.each f hf
  obtain⟨x,y,c1,e1⟩:=pick_ok a1 a2
  have r1:=who_cov (L:=L) (x:=x) (y:=y) (by rw[a4 x y c1];exact a3) hb
  omega
theorem small_take {L:List Ln}(h:smallF L)(k:Nat):smallF (L.take k):=by
 obtain⟨h1,h2,h3⟩:=h
 refine⟨by rw[List.length_take];omega,?_,λx hx=>h3 x (List.mem_of_mem_take hx)⟩
 rw[List.map_take]
 exact h2.sublist (List.take_sublist _ _)
theorem facesS_take {L:List Ln}{k:Nat}{x:Ln}(hk:L[k]? =some x):facesS (L.take (k+1))=faceStep (facesS (L.take k)) ((L.take k).flatMap (·.rects)) x:=by
 have hl:=(List.getElem?_eq_some_iff.1 hk).1
 have e:L.take (k+1)=L.take k++[x]:=by
  rw[List.take_succ_eq_append_getElem hl]
  congr 2
  exact (List.getElem?_eq_some_iff.1 hk).2
 rw[e]
 unfold facesS
 rw[facesG_app,List.nil_append]
theorem flat_small {L:List Ln}(h3:∀x∈L,inBox x.rects/\x.rects.length<=120):(∀r∈L.flatMap (·.rects),proper r)/\(L.flatMap (·.rects)).length<=120 * L.length:=by
 induction L with
 |nil=>exact⟨λr hr=>(by cases hr),Nat.zero_le _⟩
 |cons a L ih=>
  obtain⟨i1,i2⟩:=ih λx hx=>h3 x (List.mem_cons_of_mem _ hx)
  obtain⟨a1,a2⟩:=h3 a (List.mem_cons_self ..)
  refine⟨λr hr=> ?_,?_⟩
  ·rw[List.flatMap_cons] at hr
   rcases List.mem_append.1 hr with hr|hr
   ·exact box_proper a1 r hr
   ·exact i1 r hr
  ·rw[List.flatMap_cons,List.length_append,List.length_cons];omega
end RE
end Go.Proofs.YtjcjdgmojkkioaaGreatDoor
namespace Go.Proofs.YtjcjdgmojkkioaaGreatDoor
namespace RE
open Go.RowKit
variable {P:Program}
def byC2 (s:Spec)(g:FuncId)(q:List SV->MS->(SV->MS->Prop)->Prop)(ss:List SV)(m:MS)(k:SV->MS->Prop):Prop:=match dropCl g ss with
 |some ss'=>byCon s ss' m k
 |none=>q ss m k
def ruleCC (s:Spec)(g:FuncId)(r:Rule):Rule:=⟨s.f,byC2 s g r.cp⟩
theorem ruleCC_ok {s:Spec}{g:FuncId}{r:Rule}(h:SpecCOK P s [clo g])(h2:RuleOK P r)(e:r.f=s.f):RuleOK P (ruleCC s g r):=λss m k hk us w c hox hl hr=>by
 have hk2:byC2 s g r.cp ss m k:=hk
 unfold byC2 at hk2
 split at hk2
 ·rename_i ss' hd
  refine ruleC_ok h ss m k ?_ us w c hox hl hr
  show byConC s g ss m k
  unfold byConC
  rw[hd];exact hk2
 ·have:=h2 ss m k hk2 us w c hox hl hr
  rw[e] at this
  exact this
set_option maxRecDepth 100000
open PL
def pclrO_P (l:List (api_Rect))(post:List (api_Rect)->Prop):Prop:=(l.length<=4000000)/\post (l)
def pclrO_sp:Spec:=⟨119,false,true,[.sl (.st .api_Rect)],.own 78 (.st .api_Rect),λx post=>pclrO_P (x.1:List (api_Rect)) (λy0=>post (y0,()))⟩
def pclrO_C:CtxR:=⟨tau,[],lookJ []⟩
def pclrO_W (l:List (api_Rect))(post:List (api_Rect)->Prop):Prop:=∀(v1:Bool),(v1=true->l=[])->IFB v1 (post []) (((0:Nat)+l.length) * (32:Nat)<=140737488355328/\post ([]++l))
theorem pclrO_w (l:List (api_Rect))(post:dens (shT pclrO_sp.rs [])->Prop):pclrO_W l (λy0=>post (y0,()))=walkG (callR Tryz.prog pclrO_C (drawR Tryz.prog tau) 6 0) 119 false [tv (.sl (.st .api_Rect)) l] pclrO_sp.rs post:=by kernel_rfl
theorem pclrO_of (h:∀l post,pclrO_P l post->pclrO_W l post):SpecOK Tryz.prog pclrO_sp:=SpecOK.of_rules (C:=pclrO_C) (dr:=drawR Tryz.prog tau) (n:=6) (fk:=0) .nil (drawR_ok tau) λx post hp=>HoldW.of (pclrO_w x.1 post) (h x.1 (λy0=>post (y0,())) hp)
theorem pclrO_ok:SpecOK Tryz.prog pclrO_sp:=pclrO_of λl post hp=>by
 obtain⟨hl,hp⟩:=hp
 unfold pclrO_W
 refine λv hv=>IFB.mk (λh=> ?_) (λ_=>⟨by omega,?_⟩)
 ·rw[hv h] at hp;exact hp
 ·rw[List.nil_append];exact hp
def pclpO_P (l:List (api_Place))(post:List (api_Place)->Prop):Prop:=(l.length<=4000000)/\post (l)
def pclpO_sp:Spec:=⟨122,false,true,[.sl (.st .api_Place)],.own 123 (.st .api_Place),λx post=>pclpO_P (x.1:List (api_Place)) (λy0=>post (y0,()))⟩
def pclpO_C:CtxR:=⟨tau,[],lookJ []⟩
def pclpO_W (l:List (api_Place))(post:List (api_Place)->Prop):Prop:=∀(v1:Bool),(v1=true->l=[])->IFB v1 (post []) (((0:Nat)+l.length) * (16:Nat)<=140737488355328/\post ([]++l))
theorem pclpO_w (l:List (api_Place))(post:dens (shT pclpO_sp.rs [])->Prop):pclpO_W l (λy0=>post (y0,()))=walkG (callR Tryz.prog pclpO_C (drawR Tryz.prog tau) 6 0) 122 false [tv (.sl (.st .api_Place)) l] pclpO_sp.rs post:=by kernel_rfl
theorem pclpO_of (h:∀l post,pclpO_P l post->pclpO_W l post):SpecOK Tryz.prog pclpO_sp:=SpecOK.of_rules (C:=pclpO_C) (dr:=drawR Tryz.prog tau) (n:=6) (fk:=0) .nil (drawR_ok tau) λx post hp=>HoldW.of (pclpO_w x.1 post) (h x.1 (λy0=>post (y0,())) hp)
theorem pclpO_ok:SpecOK Tryz.prog pclpO_sp:=pclpO_of λl post hp=>by
 obtain⟨hl,hp⟩:=hp
 unfold pclpO_W
 refine λv hv=>IFB.mk (λh=> ?_) (λ_=>⟨by omega,?_⟩)
 ·rw[hv h] at hp;exact hp
 ·rw[List.nil_append];exact hp
def pfaces_P (L:List (crosscheck_line))(post:List (crosscheck_face)->Prop):Prop:=(smallF L)/\post (facesS L)
def pfaces_sp:Spec:=⟨39,false,true,[.sl (.st .crosscheck_line)],.dat (.sl (.st .crosscheck_face)),λx post=>pfaces_P (x.1:List (crosscheck_line)) (λy0=>post (y0,()))⟩
def pfaces_C:CtxR:=⟨tau,[rule1 pclrO_sp,rule1 pclpO_sp,ruleCC pchoN_sp 123 (ruleC pchoB_sp 121)],lookJ [(0,9,⟨[(15,.dat (.int .i64)),(4,.own 78 (.st .api_Rect)),(3,.own 117 (.st .crosscheck_face))],[],(List.range' 16 67++[6,7,9,10,11,12]),[],[]⟩),(0,1000021,⟨[(4,.own 78 (.st .api_Rect))],[],[77,78,79,80,81],[],[]⟩),(0,40,⟨[(4,.dat (.sl (.st .api_Rect))),(7,.own 117 (.st .crosscheck_face))],[],(List.range' 61 15++[12]),[0,3],[]⟩),(0,17,⟨[(21,.dat (.int .i64)),(7,.own 117 (.st .crosscheck_face))],[],(List.range' 22 39++[9,10,11]),[],[]⟩),(0,32,⟨[(7,.own 117 (.st .crosscheck_face))],[],(List.range' 23 37++[9,10,11]),[3],[]⟩),(0,26,⟨[(7,.own 117 (.st .crosscheck_face))],[],(List.range' 25 20++[10]),[3],[]⟩),(0,1000012,⟨[(7,.own 117 (.st .crosscheck_face))],[],(List.range' 33 12),[3],[]⟩)]⟩
abbrev pfaces_a0 (z4:List crosscheck_face)(z6:Int)(L:List (crosscheck_line))(z2:Int):={rects:=canonF λ(x y:Int)=>howS (2:Int) (cov (ix z4 z6).1 x y) (cov (ix L z2).2 x y),claims:=(ix z4 z6).2++[{Application:=(ix L z2).1.1,Line:=(ix L z2).1.2:api_Place}]:crosscheck_face}
def pfaces_W (L:List (crosscheck_line))(post:List (crosscheck_face)->Prop):Prop:=(↑L.length:Int)<=9223372036854775807->LOOP [Ty.int IntKind.i64,(Ty.st Sn.api_Rect).sl,(Ty.st Sn.crosscheck_face).sl] (λ(rec1:Int->List api_Rect->List crosscheck_face->Prop) (z2:Int) (z3:List api_Rect) (z4:List crosscheck_face)=>IFB (decide (z2<(↑L.length:Int))) (((0:Int)<=z2/\z2<(↑L.length:Int))/\((↑z4.length:Int)<=9223372036854775807->LOOP [Ty.int IntKind.i64,(Ty.st Sn.crosscheck_face).sl] (λ(rec5:Int->List crosscheck_face->Prop) (z6:Int) (z7:List crosscheck_face)=>IFB (decide (z6<(↑z4.length:Int))) (JOIN [(Ty.st Sn.crosscheck_face).sl] (λ(y8:List crosscheck_face)=>rec5 (IntKind.i64.wrap (z6+1)) y8) λ(J9:List crosscheck_face->Prop)=>((0:Int)<=z6/\z6<(↑z4.length:Int))/\JOIN [(Ty.st Sn.crosscheck_face).sl] (λ(y10:List crosscheck_face)=>(((∀(v11:api_Rect),v11∈(ix z4 z6).1->0<=v11.1/\v11.1<v11.3/\v11.3<=16384/\0<=v11.2/\v11.2<v11.4/\v11.4<=16384)/\(ix z4 z6).1.length<=8000)/\(∀(v12:api_Rect),v12∈(ix L z2).2->0<=v12.1/\v12.1<v12.3/\v12.3<=16384/\0<=v12.2/\v12.2<v12.4/\v12.4<=16384)/\(ix L z2).2.length<=8000)/\((↑(canonF λ(x y:Int)=>howS (3:Int) (cov (ix z4 z6).1 x y) (cov (ix L z2).2 x y)).length:Int)<=9223372036854775807->IFB (decide ((0:Int)<(↑(canonF λ(x y:Int)=>howS (3:Int) (cov (ix z4 z6).1 x y) (cov (ix L z2).2 x y)).length:Int))) ((y10.length+[{rects:=canonF λ(x y:Int)=>howS (3:Int) (cov (ix z4 z6).1 x y) (cov (ix L z2).2 x y),claims:=(ix z4 z6).2:crosscheck_face}].length) * (48:Nat)<=140737488355328/\J9 (y10++[{rects:=canonF λ(x y:Int)=>howS (3:Int) (cov (ix z4 z6).1 x y) (cov (ix L z2).2 x y),claims:=(ix z4 z6).2:crosscheck_face}])) (J9 y10))) λ(J13:List crosscheck_face->Prop)=>(((∀(v14:api_Rect),v14∈(ix z4 z6).1->0<=v14.1/\v14.1<v14.3/\v14.3<=16384/\0<=v14.2/\v14.2<v14.4/\v14.4<=16384)/\(ix z4 z6).1.length<=8000)/\(∀(v15:api_Rect),v15∈(ix L z2).2->0<=v15.1/\v15.1<v15.3/\v15.3<=16384/\0<=v15.2/\v15.2<v15.4/\v15.4<=16384)/\(ix L z2).2.length<=8000)/\((↑(canonF λ(x y:Int)=>howS (2:Int) (cov (ix z4 z6).1 x y) (cov (ix L z2).2 x y)).length:Int)<=9223372036854775807->IFB (decide ((0:Int)<(↑(canonF λ(x y:Int)=>howS (2:Int) (cov (ix z4 z6).1 x y) (cov (ix L z2).2 x y)).length:Int))) (JOIN [(Ty.st Sn.crosscheck_face).sl] (λ(y16:List crosscheck_face)=>J13 y16) λ(J17:List crosscheck_face->Prop)=>((ix z4 z6).2.length<=4000000/\((ix z4 z6).2.length+[{Application:=(ix L z2).1.1,Line:=(ix L z2).1.2:api_Place}].length) * (16:Nat)<=140737488355328/\(z7.length+[(pfaces_a0 z4 z6 L z2)].length) * (48:Nat)<=140737488355328/\J17 (z7++[(pfaces_a0 z4 z6 L z2)]))/\(ix z4 z6).2.length<=4000000/\((ix z4 z6).2.length+[{Application:=(ix L z2).1.1,Line:=(ix L z2).1.2:api_Place}].length) * (16:Nat)<=140737488355328/\(z7.length+[(pfaces_a0 z4 z6 L z2)].length) * (48:Nat)<=140737488355328/\J17 (z7++[(pfaces_a0 z4 z6 L z2)])) (J13 z7))) (JOIN [(Ty.st Sn.api_Rect).sl,(Ty.st Sn.crosscheck_face).sl] (λ(y18:List api_Rect) (y19:List crosscheck_face)=>JOIN [(Ty.st Sn.api_Rect).sl] (λ(y20:List api_Rect)=>rec1 (IntKind.i64.wrap (z2+1)) y20 y19) λ(J21:List api_Rect->Prop)=>y18.length<=4000000/\(y18.length+(ix L z2).2.length) * (32:Nat)<=140737488355328/\J21 (y18++(ix L z2).2)) λ(J22:List api_Rect->List crosscheck_face->Prop)=>(((∀(v23:api_Rect),v23∈(ix L z2).2->0<=v23.1/\v23.1<v23.3/\v23.3<=16384/\0<=v23.2/\v23.2<v23.4/\v23.4<=16384)/\(ix L z2).2.length<=8000)/\(∀(v24:api_Rect),v24∈z3->0<=v24.1/\v24.1<v24.3/\v24.3<=16384/\0<=v24.2/\v24.2<v24.4/\v24.4<=16384)/\z3.length<=8000)/\((↑(canonF λ(x y:Int)=>howS (3:Int) (cov (ix L z2).2 x y) (cov z3 x y)).length:Int)<=9223372036854775807->IFB (decide ((0:Int)<(↑(canonF λ(x y:Int)=>howS (3:Int) (cov (ix L z2).2 x y) (cov z3 x y)).length:Int))) ((z7.length+[{rects:=canonF λ(x y:Int)=>howS (3:Int) (cov (ix L z2).2 x y) (cov z3 x y),claims:=[{Application:=(ix L z2).1.1,Line:=(ix L z2).1.2:api_Place}]:crosscheck_face}].length) * (48:Nat)<=140737488355328/\J22 z3 (z7++[{rects:=canonF λ(x y:Int)=>howS (3:Int) (cov (ix L z2).2 x y) (cov z3 x y),claims:=[{Application:=(ix L z2).1.1,Line:=(ix L z2).1.2:api_Place}]:crosscheck_face}])) (J22 z3 z7)))) ((0:Int),[],PUnit.unit))) (post z4)) ((0:Int),[],[],PUnit.unit)
theorem pfaces_w (L:List (crosscheck_line))(post:dens (shT pfaces_sp.rs [])->Prop):pfaces_W L (λy0=>post (y0,()))=walkG (callR Tryz.prog pfaces_C (drawR Tryz.prog tau) 8 0) 39 false [tv (.sl (.st .crosscheck_line)) L] pfaces_sp.rs post:=by kernel_rfl
theorem pfaces_of (h:∀L post,pfaces_P L post->pfaces_W L post):SpecOK Tryz.prog pfaces_sp:=SpecOK.of_rules (C:=pfaces_C) (dr:=drawR Tryz.prog tau) (n:=8) (fk:=0) (.cons (rule1_ok pclrO_ok) (.cons (rule1_ok pclpO_ok) (.cons (ruleCC_ok pchoN_ok (ruleC_ok pchoB_ok) rfl) .nil))) (drawR_ok tau) λx post hp=>HoldW.of (pfaces_w x.1 post) (h x.1 (λy0=>post (y0,())) hp)
def pfaI (L:List Ln)(z:Int)(a:List Rc)(b:List Fc):Prop:=∃k:Nat,z=(k:Int)/\k<=L.length/\a=(L.take k).flatMap (·.rects)/\b=facesS (L.take k)
def pfaJ (F:List Fc)(x:Ln)(z:Int)(b:List Fc):Prop:=∃j:Nat,z=(j:Int)/\j<=F.length/\b=(F.take j).flatMap (face1 x)/\b.length<=2 * j
theorem pfaces_ok:SpecOK Tryz.prog pfaces_sp:=pfaces_of λL post hp=>by
 obtain⟨hs,hp⟩:=hp
 have hL:L.length<=60:=hs.1
 unfold pfaces_W pfaces_a0
 refine λ_=>LOOP.fuel (λu=>pfaI L u.1 u.2.1 u.2.2.1) (λu=>L.length-Int.toNat u.1) ⟨0,rfl,Nat.zero_le _,rfl,rfl⟩ ?_
 rintro rec ⟨(z:Int),(a:List Rc),(b:List Fc),⟨⟩⟩ ⟨k,i1,i2,i3,i4⟩ hrec
 have i1:z=(k:Int):=i1
 have q3:a=(L.take k).flatMap (·.rects):=i3
 have q4:b=facesS (L.take k):=i4
 clear i3 i4
 subst i1
 refine IFB.mk (λhb=> ?_) (λhb=> ?_)
 rotate_left
 ·have hb:¬(k:Int)<L.length:=of_decide_eq_false hb
  have hk:k=L.length:=by omega
  rw[hk,List.take_length] at q4
  show post b
  rw[q4];exact hp
 have hb:(k:Int)<L.length:=of_decide_eq_true hb
 have hkl:k<L.length:=by omega
 obtain⟨x,hx⟩:∃x,L[k]? =some x:=⟨_,List.getElem?_eq_getElem hkl⟩
 have hix:ix L (k:Int)=x:=ix_of hx
 have hsk:=small_take hs k
 have hok:FacesOK (L.take k) b:=by rw[q4];exact faces_ok hsk.2.1
 have hbk:∀l∈L.take k,inBox l.rects:=λl hl=>(hsk.2.2 l hl).1
 have hlk:(L.take k).length<=60:=hsk.1
 have hfew:=faces_few hok hbk
 obtain⟨hx1,hx2⟩:=hs.2.2 x (List.mem_of_getElem? hx)
 have hxp:=box_proper hx1
 obtain⟨ha1,ha2⟩:=flat_small hsk.2.2
 rw[<-q3] at ha1 ha2
 have hstep:=facesS_take hx
 rw[<-q4,<-q3] at hstep
 refine⟨⟨by omega,hb⟩,λ_=> ?_⟩
 dsimp only
 rw[hix]
 have hX:(∀v:api_Rect,v∈x.2->0<=v.1/\v.1<v.3/\v.3<=16384/\0<=v.2/\v.2<v.4/\v.4<=16384)/\x.2.length<=8000:=⟨hxp,by show x.rects.length<=8000;omega⟩
 refine LOOP.fuel (λu=>pfaJ b x u.1 u.2.1) (λu=>b.length-Int.toNat u.1) ⟨0,rfl,Nat.zero_le _,rfl,Nat.le_refl _⟩ ?_
 rintro rec2 ⟨(z2:Int),(c:List Fc),⟨⟩⟩ ⟨j,j1,j2,j3,j4⟩ hrec2
 have j1:z2=(j:Int):=j1
 have r3:c=(b.take j).flatMap (face1 x):=j3
 have r4:c.length<=2 * j:=j4
 clear j3 j4
 subst j1
 refine IFB.mk (λhc=> ?_) (λhc=> ?_)
 ·have hc:(j:Int)<b.length:=of_decide_eq_true hc
  have hj:j<b.length:=by omega
  obtain⟨f,hf⟩:∃f,b[j]? =some f:=⟨_,List.getElem?_eq_getElem hj⟩
  have hif:ix b (j:Int)=f:=ix_of hf
  obtain⟨f1,f2,f3⟩:=face_small hok hbk (List.mem_of_getElem? hf)
  have hfp:=box_proper f1
  have htk:(b.take (j+1)).flatMap (face1 x)=c++face1 x f:=by
   rw[List.take_succ_eq_append_getElem hj,List.flatMap_append,<-r3,<-(List.getElem?_eq_some_iff.1 hf).2];simp
  have hF:(∀v:api_Rect,v∈f.1->0<=v.1/\v.1<v.3/\v.3<=16384/\0<=v.2/\v.2<v.4/\v.4<=16384)/\f.1.length<=8000:=⟨hfp,by show f.rects.length<=8000;omega⟩
  refine JOIN.opq λ(J:List Fc->Prop) hJ=>⟨⟨by omega,hc⟩,JOIN.opq λ(K:List Fc->Prop) hK=> ?_⟩
  dsimp only
  rw[hif]
  have hfl:f.2.length<=60:=by show f.claims.length<=60;omega
  have hlast:∀y:List Fc,y=c++face1 x f->J y:=λy hy=>by
   rw[hJ]
   show rec2 (IntKind.i64.wrap ((j:Int)+1)) y
   rw[wrapS (by omega)]
   refine hrec2 (((j+1:Nat):Int),y,()) ⟨j+1,rfl,hj,by show y=_;rw[htk,hy],?_⟩ (by show b.length-((j+1:Nat):Int).toNat<b.length-(j:Int).toNat;omega)
   show y.length<=2 * (j+1)
   rw[hy,List.length_append]
   have:(face1 x f).length<=2:=by
    unfold face1
    rw[List.length_append]
    have:=optF_len (r:=andC f.rects x.rects) (c:=f.claims++[x.place])
    have:=optF_len (r:=notC f.rects x.rects) (c:=f.claims)
    omega
   omega
  have hKy:∀y:List Fc,y=c++optF (andC f.rects x.rects) (f.claims++[x.place])->K y:=λy hy=>by
   have hyl:y.length<=2 * j+1:=by
    rw[hy,List.length_append]
    have:=optF_len (r:=andC f.rects x.rects) (c:=f.claims++[x.place])
    omega
   rw[hK]
   dsimp only
   rw[hif]
   have hn:(canonF (comb (howS 3) f.1 x.2)).length<=300:=(can_inBox (can_not f.rects x.rects) λu v hc=>box_cov2 f1 (cov_not.1 hc).1).2
   refine⟨⟨hF,hX⟩,λ_=>IFB.mk (λhd=>⟨by simp only[List.length_cons,List.length_nil];omega,hlast _ ?_⟩) (λhd=>hlast _ ?_)⟩
   ·have hd:(0:Int)<((canonF (comb (howS 3) f.1 x.2)).length:Int):=of_decide_eq_true hd
    have hne:notC f.rects x.rects≠[]:=λe=>by
     have e:canonF (comb (howS 3) f.1 x.2)=[]:=e
     rw[e] at hd;exact absurd hd (by decide)
    rw[hy]
    unfold face1
    rw[<-List.append_assoc]
    congr 1
    conv=>rhs;unfold optF
    rw[if_neg hne];rfl
   ·have hd:¬(0:Int)<((canonF (comb (howS 3) f.1 x.2)).length:Int):=of_decide_eq_false hd
    have hne:notC f.rects x.rects=[]:=List.eq_nil_of_length_eq_zero (by show (canonF (comb (howS 3) f.1 x.2)).length=0;omega)
    rw[hy]
    unfold face1
    rw[<-List.append_assoc]
    conv=>rhs;arg 2;unfold optF
    rw[if_pos hne,List.append_nil]
  have ha:(canonF (comb (howS 2) f.1 x.2)).length<=300:=(can_inBox (can_and f.rects x.rects) λu v hc=>box_cov2 f1 (cov_and.1 hc).1).2
  refine⟨⟨hF,hX⟩,λ_=>IFB.mk (λhd=>JOIN.opq λ(M:List Fc->Prop) hM=> ?_) (λhd=>hKy _ ?_)⟩
  ·have hd:(0:Int)<((canonF (comb (howS 2) f.1 x.2)).length:Int):=of_decide_eq_true hd
   have hne:andC f.rects x.rects≠[]:=λe=>by
    have e:canonF (comb (howS 2) f.1 x.2)=[]:=e
    rw[e] at hd;exact absurd hd (by decide)
   have fin:M (c++[(⟨canonF (comb (howS 2) f.1 x.2),f.2++[⟨x.1.1,x.1.2⟩]⟩:Fc)]):=by
    rw[hM]
    refine hKy _ ?_
    conv=>rhs;unfold optF
    rw[if_neg hne];rfl
   have c1:f.2.length<=4000000:=by omega
   have c2:(f.2.length+[(⟨x.1.1,x.1.2⟩:api_Place)].length) * 16<=140737488355328:=by simp only[List.length_cons,List.length_nil];omega
   have c3:(c.length+[(⟨canonF (comb (howS 2) f.1 x.2),f.2++[⟨x.1.1,x.1.2⟩]⟩:Fc)].length) * 48<=140737488355328:=by simp only[List.length_cons,List.length_nil];omega
   repeat' first
    |exact fin
    |exact c1
    |exact c2
    |exact c3
    |with_reducible apply And.intro
  ·have hd:¬(0:Int)<((canonF (comb (howS 2) f.1 x.2)).length:Int):=of_decide_eq_false hd
   have hne:andC f.rects x.rects=[]:=List.eq_nil_of_length_eq_zero (by show (canonF (comb (howS 2) f.1 x.2)).length=0;omega)
   conv=>rhs;arg 2;unfold optF
   rw[if_pos hne,List.append_nil]
 ·have hc:¬(j:Int)<b.length:=of_decide_eq_false hc
  have hj:j=b.length:=by omega
  rw[hj,List.take_length] at r3
  have hcl:c.length<=600:=by omega
  refine JOIN.opq λ(J:List Rc->List Fc->Prop) hJ=> ?_
  have hA:(∀v:api_Rect,v∈a->0<=v.1/\v.1<v.3/\v.3<=16384/\0<=v.2/\v.2<v.4/\v.4<=16384)/\a.length<=8000:=⟨ha1,by omega⟩
  have hJy:∀y:List Fc,y=facesS (L.take (k+1))->J a y:=λy hy=>by
   rw[hJ]
   dsimp only
   refine JOIN.opq λ(K:List Rc->Prop) hK=>⟨by omega,?_,?_⟩
   ·have:x.2.length<=8000:=hX.2
    omega
   ·rw[hK]
    show rec (IntKind.i64.wrap ((k:Int)+1)) _ y
    rw[wrapS (by omega)]
    refine hrec (((k+1:Nat):Int),_,y,()) ⟨k+1,rfl,hkl,?_,hy⟩ (by show L.length-((k+1:Nat):Int).toNat<L.length-(k:Int).toNat;omega)
    show a++x.2=_
    rw[List.take_succ_eq_append_getElem hkl,List.flatMap_append,<-q3,(List.getElem?_eq_some_iff.1 hx).2];simp
  have hn:(canonF (comb (howS 3) x.2 a)).length<=300:=(can_inBox (can_not x.rects a) λu v hc=>box_cov2 hx1 (cov_not.1 hc).1).2
  refine⟨⟨hX,hA⟩,λ_=>IFB.mk (λhd=>⟨by simp only[List.length_cons,List.length_nil];omega,hJy _ ?_⟩) (λhd=>hJy _ ?_)⟩
  ·have hd:(0:Int)<((canonF (comb (howS 3) x.2 a)).length:Int):=of_decide_eq_true hd
   have hne:notC x.rects a≠[]:=λe=>by
    have e:canonF (comb (howS 3) x.2 a)=[]:=e
    rw[e] at hd;exact absurd hd (by decide)
   rw[hstep]
   unfold faceStep
   rw[<-r3]
   congr 1
   conv=>rhs;unfold optF
   rw[if_neg hne];rfl
  ·have hd:¬(0:Int)<((canonF (comb (howS 3) x.2 a)).length:Int):=of_decide_eq_false hd
   have hne:notC x.rects a=[]:=List.eq_nil_of_length_eq_zero (by show (canonF (comb (howS 3) x.2 a)).length=0;omega)
   rw[hstep]
   unfold faceStep
   rw[<-r3]
   conv=>rhs;arg 2;unfold optF
   rw[if_pos hne,List.append_nil]
end RE
end Go.Proofs.YtjcjdgmojkkioaaGreatDoor
set_option linter.unusedVariables false
set_option maxRecDepth 100000
namespace Go.Proofs.YtjcjdgmojkkioaaGreatDoor
open Go.RowKit Go.Sort Go.Lib
namespace RE
namespace PL
def orI (x y:Int):Int:=if x≠0 then x else y
def cmpP (a b:api_Place):Int:=orI (Lib.compareInt a.1 b.1) (Lib.compareInt a.2 b.2)
def cmpL:List api_Place->List api_Place->Int
 |[],[]=>0
 |[],_::_=> -1
 |_::_,[]=>1
 |a::s,b::t=>if cmpP a b≠0 then cmpP a b else cmpL s t
end PL
open PL
theorem cell_row2 {W:World}{b o:Nat}{x y:Value}{t:TypeId}(h:W.heap[b]? =some (.cells #[x,y] t (0,0))):W.cell? ⟨b,0,none⟩=some x/\W.cell? ⟨b,1,none⟩=some y:=by
 constructor<;>simp[World.cell?,h]
theorem keep_alloc {W:World}{b k:Nat}{v:Value}(o:Obj)(l:b<W.heap.size)(h:W.drew.cell? ⟨b,k,none⟩=some v):(W.alloc o).drew.cell? ⟨b,k,none⟩=some v:=by
 rw[<-h]
 exact World.cell?_of_block (Below.heap_alloc W o b l)
theorem World.cell?_of_new2 {W:World}{x y:Value}(t:TypeId):(W.alloc (.cells #[x,y] t)).drew.cell? ⟨W.heap.size,0,none⟩=some x/\(W.alloc (.cells #[x,y] t)).drew.cell? ⟨W.heap.size,1,none⟩=some y:=
 cell_row2 (o:=0) (W:=(W.alloc (.cells #[x,y] t)).drew) (heap_alloc_new W _)
structure Ahd (W w':World):Prop where
 bl:Below W.heap.size W w'
 dr:W.drawn<=w'.drawn
theorem Ahd.refl (W:World):Ahd W W:=⟨Below.refl _ _,Nat.le_refl _⟩
theorem Ahd.trans {a b c:World}(h:Ahd a b)(k:Ahd b c):Ahd a c:=⟨h.bl.trans (k.bl.mono h.bl.size),Nat.le_trans h.dr k.dr⟩
theorem Ahd.alloc {W w:World}(h:Ahd W w)(o:Obj):Ahd W (w.alloc o):=⟨h.bl.alloc h.bl.size _,h.dr⟩
theorem Ahd.drew {W w:World}(h:Ahd W w):Ahd W w.drew:=⟨h.bl.drew,Nat.le_succ_of_le h.dr⟩
theorem Ahd.cell {W w:World}(h:Ahd W w){a:Addr}{v:Value}(hc:W.cell? a=some v):w.cell? a=some v:=(h.bl.cell (World.block_lt_of_cell? W a hc)).trans hc
theorem Ahd.grow {W w:World}(h:Ahd W w):∃q os,w=grow (W.drewN q) os:=by
 refine⟨w.drawn-W.drawn,w.heap.extract W.heap.size w.heap.size,?_⟩
 obtain⟨⟨h1,h2,h3,h4,h5⟩,h6⟩:=h
 have e1:w.heap=W.heap++w.heap.extract W.heap.size w.heap.size:=by
  apply Array.ext_getElem?
  intro i
  rw[Array.getElem?_append]
  split
  ·rename_i hi;exact h5 i hi
  ·rename_i hi
   rw[Array.getElem?_extract]
   by_cases hw:i<w.heap.size
   ·rw[if_pos (by omega),show W.heap.size+(i-W.heap.size)=i by omega]
   ·rw[if_neg (by omega),Array.getElem?_eq_none (by omega)]
 have e2:w.drawn=W.drawn+(w.drawn-W.drawn):=by omega
 generalize w.heap.extract W.heap.size w.heap.size=ext at *
 generalize w.drawn-W.drawn=q at *
 obtain⟨wh,wt,wd,wo,wu⟩:=w
 obtain⟨Wh,Wt,Wd,Wo,Wu⟩:=W
 simp only at h1 h2 h3 e1 e2
 subst h1 h2 h3 e1 e2
 rfl
set_option maxHeartbeats 1000000 in
theorem or_any (x y:Int)(b:Nat)(W:World)(h0:W.cell? ⟨b,0,none⟩=some (.int .i64 x))(h1:W.cell? ⟨b,1,none⟩=some (.int .i64 y)):
 Calls Tryz.prog 112 #[.slice (some ⟨b,0,none⟩) 2 2] W λe w'=>e= .returned (.int .i64 (orI x y))/\w'=W:=by
 unfold orI
 by_cases hx:x=0
 ·subst hx
  rw[if_neg (λh=>h rfl)]
  by_cases hy:y=0
  ·subst hy
   go_enter Tryz.func112,Tryz.ntmps112
   go_wp2_with fail
   refine wp_loop_rounds 3 ?_
   rw[rounds_succ]
   go_wp2
   rw[rounds_succ]
   go_wp2
   rw[rounds_succ]
   go_wp2
   go_ret
   exact⟨rfl,rfl⟩
  ·have hb:(y==0)=false:=beq_eq_false_iff_ne.2 hy
   go_enter Tryz.func112,Tryz.ntmps112
   go_wp2_with fail
   refine wp_loop_rounds 2 ?_
   rw[rounds_succ]
   go_wp2
   rw[rounds_succ]
   go_wp2
   go_ret
   exact⟨rfl,rfl⟩
 ·rw[if_pos hx]
  have hb:(x==0)=false:=beq_eq_false_iff_ne.2 hx
  go_enter Tryz.func112,Tryz.ntmps112
  go_wp2_with fail
  refine wp_loop_rounds 1 ?_
  rw[rounds_succ]
  go_wp2
  go_ret
  exact⟨rfl,rfl⟩
def CmpOK (P:Program):Prop:=∀(x y:Int)(W:World),Calls P 87 #[.int .i64 x,.int .i64 y] W λe w'=>e= .returned (.int .i64 (Lib.compareInt x y))/\w'=W
set_option maxHeartbeats 2000000 in
theorem compare_any (hc:CmpOK Tryz.prog)(a c:api_Place)(W:World):
 Calls Tryz.prog 44 #[.agg #[.int .i64 a.1,.int .i64 a.2],.agg #[.int .i64 c.1,.int .i64 c.2]] W λe w'=>e= .returned (.int .i64 (cmpP a c))/\Ahd W w':=by
 have hc:=Lib.hid hc
 unfold cmpP
 obtain⟨a1,a2⟩:=a
 obtain⟨d1,d2⟩:=c
 dsimp only
 go_enter Tryz.func44,Tryz.ntmps44
 go_upto_region 1 with fail
 obtain⟨W1,hW1⟩:∃W1,W1=(W.alloc (.cells #[.int .i64 a1,.int .i64 a2] 123)).alloc (.cells #[.int .i64 d1,.int .i64 d2] 123):=⟨_,rfl⟩
 have h1:=Lib.hid (show Ahd W W1 by rw[hW1];exact ((Ahd.refl W).alloc _).alloc _)
 have k1:W1.heap[W.heap.size]? =some (.cells #[.int .i64 a1,.int .i64 a2] 123 (0,0)):=by rw[hW1,Below.heap_alloc _ _ _ (by simp)];exact heap_alloc_new W _
 have k2:W1.heap[(W.alloc (.cells #[.int .i64 a1,.int .i64 a2] 123)).heap.size]? =some (.cells #[.int .i64 d1,.int .i64 d2] 123 (0,0)):=by rw[hW1];exact heap_alloc_new _ _
 rw[<-hW1]
 have e2:(W.alloc (.cells #[.int .i64 a1,.int .i64 a2] 123)).heap.size=W.heap.size+1:=by simp
 rw[e2] at k2
 obtain⟨b1,hb1⟩:∃b1,W.heap.size=b1:=⟨_,rfl⟩
 rw[hb1] at k1 k2 ⊢
 have hb1':=Lib.hid hb1
 have d1':W1.drew.cell? ⟨b1,0,none⟩=some (.int .i64 a1):=(cell_row2 (o:=0) k1).1
 have d2':W1.drew.cell? ⟨b1,1,none⟩=some (.int .i64 a2):=(cell_row2 (o:=0) k1).2
 have d3':W1.drew.cell? ⟨b1+1,0,none⟩=some (.int .i64 d1):=(cell_row2 (o:=0) k2).1
 have d4':W1.drew.cell? ⟨b1+1,1,none⟩=some (.int .i64 d2):=(cell_row2 (o:=0) k2).2
 have hor:=Lib.hid or_any
 have l1:b1<W1.heap.size:=(Array.getElem?_eq_some_iff.1 k1).1
 have l2:b1+1<W1.heap.size:=(Array.getElem?_eq_some_iff.1 k2).1
 clear hW1 k1 k2 e2 hb1
 go_region_held3 (λW'=>W'.cell? ⟨b1,0,none⟩=some (.int .i64 a1)/\W'.cell? ⟨b1,1,none⟩=some (.int .i64 a2)/\W'.cell? ⟨b1+1,0,none⟩=some (.int .i64 d1)/\W'.cell? ⟨b1+1,1,none⟩=some (.int .i64 d2)) (first|exact⟨keep_alloc _ l1 d1',keep_alloc _ l1 d2',keep_alloc _ l2 d3',keep_alloc _ l2 d4'⟩|(refine⟨keep_alloc _ l1 ?_,keep_alloc _ l1 ?_,keep_alloc _ l2 ?_,keep_alloc _ l2 ?_⟩<;>assumption)|go_keep) (first|(go_at_call 87;refine (hc.out _ _ _).mono ?_;rintro e w' ⟨rfl,rfl⟩)|(go_at_call 112;refine (hor.out _ _ _ _ (World.cell?_of_new2 _).1 (World.cell?_of_new2 _).2).mono ?_;rintro e w' ⟨rfl,rfl⟩))
 go_wp2
 go_ret
 exact⟨rfl,((h1.out).alloc _).drew⟩
theorem drop_nil {α:Type}{l:List α}{k:Nat}(h:l.length<=k):l.drop k=[]:=List.drop_eq_nil_of_le h
theorem cmpL_drop {l m:List api_Place}{k:Nat}(h1:k<l.length)(h2:k<m.length):PL.cmpL (l.drop k) (m.drop k)=if cmpP (ix l (k:Int)) (ix m (k:Int))≠0 then cmpP (ix l (k:Int)) (ix m (k:Int)) else PL.cmpL (l.drop (k+1)) (m.drop (k+1)):=by
 rw[List.drop_eq_getElem_cons h1,List.drop_eq_getElem_cons h2,ix_lt h1,ix_lt h2,PL.cmpL]
set_option maxHeartbeats 4000000 in
theorem compF_any (hc:CmpOK Tryz.prog)(l m:List api_Place)(b1 o1 c1 b2 o2 c2:Nat)(W:World)(hl:l.length<=1000000000)(hm:m.length<=1000000000)
 (h1:∀i,i<l.length->W.cell? ⟨b1,o1+i * 2,none⟩=some (.int .i64 (ix l (i:Int)).1)/\W.cell? ⟨b1,o1+i * 2+1,none⟩=some (.int .i64 (ix l (i:Int)).2))
 (h2:∀i,i<m.length->W.cell? ⟨b2,o2+i * 2,none⟩=some (.int .i64 (ix m (i:Int)).1)/\W.cell? ⟨b2,o2+i * 2+1,none⟩=some (.int .i64 (ix m (i:Int)).2)):
 Calls Tryz.prog 43 #[.slice (some ⟨b1,o1,none⟩) l.length c1,.slice (some ⟨b2,o2,none⟩) m.length c2,.func (.func 44) #[] #[]] W λe w'=>e= .returned (.int .i64 (PL.cmpL l m))/\Ahd W w':=by
 obtain⟨n,hn⟩:∃n,l.length=n:=⟨_,rfl⟩
 obtain⟨k2,hk2⟩:∃n,m.length=n:=⟨_,rfl⟩
 rw[hn,hk2]
 rw[hn] at hl h1
 rw[hk2] at hm h2
 have hn':=Lib.hid hn
 have hk2':=Lib.hid hk2
 have h1':=Lib.hid h1
 have h2':=Lib.hid h2
 obtain⟨r,hr⟩:∃r,PL.cmpL l m=r:=⟨_,rfl⟩
 rw[hr]
 have hr':=Lib.hid hr
 have hca:=Lib.hid (compare_any hc)
 clear hn hk2 h1 h2 hr hc
 go_enter Tryz.func43,Tryz.ntmps43
 go_wp2_with fail
 go_loopw [13] (λx wr=>∃k:Nat,k<=n/\k<=k2/\x= .int .i64 k/\PL.cmpL (l.drop k) (m.drop k)=r/\Ahd W wr) (λx _=>n-(intOf x).toNat)
 case atStart=>exact⟨0,by omega,by omega,rfl,hr'.out,Ahd.refl _⟩
 case round=>
  obtain⟨k,hk,hkk,rfl,hd,hA⟩:=hrel
  have hd':=Lib.hid hd
  have hA':=Lib.hid hA
  clear hd hA
  by_cases hlt:k<n
  ·obtain⟨a,ha⟩:∃a,ix l (k:Int)=a:=⟨_,rfl⟩
   obtain⟨q1,q2⟩:=h1'.out k hlt
   rw[ha] at q1 q2
   have q1:=hA'.out.cell q1
   have q2:=hA'.out.cell q2
   have ha':=Lib.hid ha
   have hlx:=Lib.hid hlt
   clear ha
   by_cases hlt2:k<k2
   ·obtain⟨c,hc⟩:∃c,ix m (k:Int)=c:=⟨_,rfl⟩
    obtain⟨q3,q4⟩:=h2'.out k hlt2
    rw[hc] at q3 q4
    have q3:=hA'.out.cell q3
    have q4:=hA'.out.cell q4
    have hc':=Lib.hid hc
    have hlx2:=Lib.hid hlt2
    clear hc
    go_upto_region 6 with fail
    obtain⟨W1,hW1⟩:∃W1,W1=wr.alloc (.cells #[.int .i64 a.1,.int .i64 a.2] 123):=⟨_,rfl⟩
    have g1:Ahd wr W1:=by rw[hW1];exact (Ahd.refl _).alloc _
    have k1:W1.heap[wr.heap.size]? =some (.cells #[.int .i64 a.1,.int .i64 a.2] 123 (0,0)):=by rw[hW1];exact heap_alloc_new wr _
    rw[<-hW1]
    obtain⟨b7,hb7⟩:∃b7,wr.heap.size=b7:=⟨_,rfl⟩
    rw[hb7] at k1 ⊢
    have l7:=(Array.getElem?_eq_some_iff.1 k1).1
    have q5:=g1.cell q3
    have q6:=g1.cell q4
    have g1':=Lib.hid (hA'.out.trans g1)
    clear hW1 g1 q1 q2 q3 q4
    go_upto_region 7 with fail
    obtain⟨W2,hW2⟩:∃W2,W2=W1.alloc (.cells #[.int .i64 c.1,.int .i64 c.2] 123):=⟨_,rfl⟩
    have g2:Ahd W1 W2:=by rw[hW2];exact (Ahd.refl _).alloc _
    have k3:W2.heap[W1.heap.size]? =some (.cells #[.int .i64 c.1,.int .i64 c.2] 123 (0,0)):=by rw[hW2];exact heap_alloc_new W1 _
    rw[<-hW2]
    obtain⟨b8,hb8⟩:∃b8,W1.heap.size=b8:=⟨_,rfl⟩
    rw[hb8] at k3 ⊢
    obtain⟨r1,r2⟩:=cell_row2 (o:=0) k1
    obtain⟨r3,r4⟩:=cell_row2 (o:=0) k3
    have r1:=g2.cell r1
    have r2:=g2.cell r2
    have g2':=Lib.hid (g1'.out.trans g2)
    obtain⟨z,hz⟩:∃z,cmpP a c=z:=⟨_,rfl⟩
    have hz':=Lib.hid hz
    have hcz:∀W3,Calls Tryz.prog 44 #[.agg #[.int .i64 a.1,.int .i64 a.2],.agg #[.int .i64 c.1,.int .i64 c.2]] W3 λe w'=>e= .returned (.int .i64 z)/\Ahd W3 w':=λW3=>hz ▸ hca.out a c W3
    have hcz':=Lib.hid hcz
    have hstep:=Lib.hid (show r=if z≠0 then z else PL.cmpL (l.drop (k+1)) (m.drop (k+1)) by
     rw[<-hd'.out,cmpL_drop (by rw[hn'.out];exact hlx.out) (by rw[hk2'.out];exact hlx2.out),ha'.out,hc'.out,hz])
    clear hW2 g2 k1 k3 hb8 hz hcz q5 q6
    by_cases hz0:z=0
    ·subst hz0
     go_wp2_with (go_at_call 44;refine (hcz'.out _).mono ?_;rintro e W4 ⟨rfl,hA4⟩)
     have hA5:=Lib.hid (g2'.out.trans hA4)
     clear hA4
     go_wp2
     go_round
     case rel=>exact⟨k+1,hlx.out,hlx2.out,by go_num,by rw[hstep.out,if_neg (λh=>h rfl)],hA5.out⟩
     case measure=>have:=hlx.out;simp[intOf];omega
    ·have hb:(z==0)=false:=beq_eq_false_iff_ne.2 hz0
     have hr2:r=z:=by rw[hstep.out,if_pos hz0]
     have hr2':=Lib.hid hr2
     clear hr2
     go_wp2_with (go_at_call 44;refine (hcz'.out _).mono ?_;rintro e W4 ⟨rfl,hA4⟩)
     have hA5:=Lib.hid (g2'.out.trans hA4)
     clear hA4
     go_wp2
     go_ret
     exact⟨by rw[hr2'.out];rfl,hA5.out⟩
   ·have hb:k2<=k:=by omega
    have hr2:=Lib.hid (show r=1 by
     rw[<-hd'.out,List.drop_eq_getElem_cons (by rw[hn'.out];exact hlx.out),drop_nil (l:=m) (by rw[hk2'.out];exact hb)];rfl)
    go_wp2
    go_ret
    exact⟨by rw[hr2.out];rfl,(hA'.out).alloc _⟩
  ·have hkn:k=n:=by omega
   have hl1:l.drop k=[]:=drop_nil (l:=l) (by rw[hn'.out];omega)
   subst hkn
   by_cases hb:k<k2
   ·have hr2:=Lib.hid (show r= -1 by
     rw[<-hd'.out,hl1,List.drop_eq_getElem_cons (by rw[hk2'.out];exact hb)];rfl)
    clear hl1
    go_wp2
    go_ret
    exact⟨by rw[hr2.out];rfl,hA'.out⟩
   ·have hr2:=Lib.hid (show r=0 by
     rw[<-hd'.out,hl1,drop_nil (l:=m) (by rw[hk2'.out];omega)];rfl)
    clear hl1
    go_wp2
    go_ret
    exact⟨by rw[hr2.out];rfl,hA'.out⟩
set_option maxHeartbeats 2000000 in
theorem cmpD_any (hc:CmpOK Tryz.prog)(u v:Value)(l m:List api_Place)(b1 o1 c1 b2 o2 c2:Nat)(W:World)(hl:l.length<=1000000000)(hm:m.length<=1000000000)
 (h1:∀i,i<l.length->W.cell? ⟨b1,o1+i * 2,none⟩=some (.int .i64 (ix l (i:Int)).1)/\W.cell? ⟨b1,o1+i * 2+1,none⟩=some (.int .i64 (ix l (i:Int)).2))
 (h2:∀i,i<m.length->W.cell? ⟨b2,o2+i * 2,none⟩=some (.int .i64 (ix m (i:Int)).1)/\W.cell? ⟨b2,o2+i * 2+1,none⟩=some (.int .i64 (ix m (i:Int)).2)):
 Calls Tryz.prog 42 #[.agg #[u,.slice (some ⟨b1,o1,none⟩) l.length c1],.agg #[v,.slice (some ⟨b2,o2,none⟩) m.length c2]] W λe w'=>e= .returned (.int .i64 (PL.cmpL l m))/\Ahd W w':=by
 obtain⟨n,hn⟩:∃n,l.length=n:=⟨_,rfl⟩
 obtain⟨k2,hk2⟩:∃n,m.length=n:=⟨_,rfl⟩
 have hcf:=Lib.hid (λ(W':World) (hA:Ahd W W')=>compF_any hc l m b1 o1 c1 b2 o2 c2 W' hl hm (λi hi=>⟨hA.cell (h1 i hi).1,hA.cell (h1 i hi).2⟩) λi hi=>⟨hA.cell (h2 i hi).1,hA.cell (h2 i hi).2⟩)
 rw[hn,hk2] at hcf ⊢
 clear hn hk2 h1 h2 hc hl hm
 go_enter Tryz.func42,Tryz.ntmps42
 go_upto_region 1 with fail
 obtain⟨W1,hW1⟩:∃W1,W1=(W.alloc (.cells #[u,.slice (some ⟨b1,o1,none⟩) n c1] 119)).alloc (.cells #[v,.slice (some ⟨b2,o2,none⟩) k2 c2] 119):=⟨_,rfl⟩
 have g1:=Lib.hid (show Ahd W W1 by rw[hW1];exact ((Ahd.refl W).alloc _).alloc _)
 have k1:W1.heap[W.heap.size]? =some (.cells #[u,.slice (some ⟨b1,o1,none⟩) n c1] 119 (0,0)):=by rw[hW1,Below.heap_alloc _ _ _ (by simp)];exact heap_alloc_new W _
 have k3:W1.heap[(W.alloc (.cells #[u,.slice (some ⟨b1,o1,none⟩) n c1] 119)).heap.size]? =some (.cells #[v,.slice (some ⟨b2,o2,none⟩) k2 c2] 119 (0,0)):=by rw[hW1];exact heap_alloc_new _ _
 rw[<-hW1]
 have e2:(W.alloc (.cells #[u,.slice (some ⟨b1,o1,none⟩) n c1] 119)).heap.size=W.heap.size+1:=by simp
 rw[e2] at k3
 obtain⟨b7,hb7⟩:∃b1,W.heap.size=b1:=⟨_,rfl⟩
 rw[hb7] at k1 k3 ⊢
 obtain⟨r1,r2⟩:=cell_row2 (o:=0) k1
 obtain⟨r3,r4⟩:=cell_row2 (o:=0) k3
 clear hW1 k1 k3 e2 hb7
 go_wp2_with (go_at_call 43;refine (hcf.out _ g1.out).mono ?_;rintro e W4 ⟨rfl,hA4⟩)
 have hA5:=Lib.hid (g1.out.trans hA4)
 clear hA4
 go_wp2
 go_ret
 exact⟨rfl,hA5.out⟩
end RE
end Go.Proofs.YtjcjdgmojkkioaaGreatDoor
namespace Go.Proofs
open Go.Shelf
def Tryz.sortDp_ren:Go.Shelf.Ren:=⟨λ|6=>41|15=>125|14=>124|28=>204|29=>205|20=>196|21=>197|22=>198|23=>199|24=>200|25=>201|26=>202|27=>203|46=>280|47=>281|48=>282|49=>283|50=>284|57=>321|n=>n,λ|22=>41|24=>119|25=>125|3=>3|39=>213|0=>0|53=>293|55=>271|4=>4|46=>286|45=>285|50=>290|5=>5|9=>9|66=>339|70=>343|76=>368|77=>134|n=>n,λ|n=>n⟩
theorem Tryz.sortDp:Go.Proofs.SlLaysF0.n6 Tryz.prog Tryz.sortDp_ren:={
 mixed:=by kernel_rfl
 f6:=⟨Tryz.f41.name,by decide,Tryz.func41.trans (congrArg some (by kernel_rfl))⟩
 f14:=⟨Tryz.f124.name,by decide,Tryz.func124.trans (congrArg some (by kernel_rfl))⟩
 f15:=Tryz.func125.trans (congrArg some (by kernel_rfl))
 f20:=⟨Tryz.f196.name,by decide,Tryz.func196.trans (congrArg some (by kernel_rfl))⟩
 f21:=⟨Tryz.f197.name,by decide,Tryz.func197.trans (congrArg some (by kernel_rfl))⟩
 f22:=⟨Tryz.f198.name,by decide,Tryz.func198.trans (congrArg some (by kernel_rfl))⟩
 f23:=⟨Tryz.f199.name,by decide,Tryz.func199.trans (congrArg some (by kernel_rfl))⟩
 f24:=⟨Tryz.f200.name,by decide,Tryz.func200.trans (congrArg some (by kernel_rfl))⟩
 f25:=⟨Tryz.f201.name,by decide,Tryz.func201.trans (congrArg some (by kernel_rfl))⟩
 f26:=⟨Tryz.f202.name,by decide,Tryz.func202.trans (congrArg some (by kernel_rfl))⟩
 f27:=⟨Tryz.f203.name,by decide,Tryz.func203.trans (congrArg some (by kernel_rfl))⟩
 f28:=Tryz.func204.trans (congrArg some (by kernel_rfl))
 f29:=Tryz.func205.trans (congrArg some (by kernel_rfl))
 f46:=⟨Tryz.f280.name,by decide,Tryz.func280.trans (congrArg some (by kernel_rfl))⟩
 f47:=Tryz.func281.trans (congrArg some (by kernel_rfl))
 f48:=Tryz.func282.trans (congrArg some (by kernel_rfl))
 f49:=⟨Tryz.f283.name,by decide,Tryz.func283.trans (congrArg some (by kernel_rfl))⟩
 f50:=⟨Tryz.f284.name,by decide,Tryz.func284.trans (congrArg some (by kernel_rfl))⟩
 f57:=⟨Tryz.f321.name,by decide,Tryz.func321.trans (congrArg some (by kernel_rfl))⟩
 t0:=Tryz.underlying0
 a0:=Tryz.isAgg0
 z0:=Tryz.sizeOf0
 v0:=Tryz.zeroValue0
 t3:=Tryz.underlying3
 a3:=Tryz.isAgg3
 z3:=Tryz.sizeOf3
 v3:=Tryz.zeroValue3
 t4:=Tryz.underlying4
 a4:=Tryz.isAgg4
 z4:=Tryz.sizeOf4
 v4:=Tryz.zeroValue4
 t5:=Tryz.underlying5
 a5:=Tryz.isAgg5
 z5:=Tryz.sizeOf5
 v5:=Tryz.zeroValue5
 t9:=Tryz.underlying9
 a9:=Tryz.isAgg9
 z9:=Tryz.sizeOf9
 v9:=Tryz.zeroValue9
 t22:=Tryz.underlying41
 a22:=Tryz.isAgg41
 z22:=Tryz.sizeOf41
 v22:=Tryz.zeroValue41
 t25:=Tryz.underlying125
 a25:=Tryz.isAgg125
 z25:=Tryz.sizeOf125
 v25:=Tryz.zeroValue125
 t39:=Tryz.underlying213
 a39:=Tryz.isAgg213
 z39:=Tryz.sizeOf213
 v39:=Tryz.zeroValue213
 t45:=Tryz.underlying285
 a45:=Tryz.isAgg285
 z45:=Tryz.sizeOf285
 v45:=Tryz.zeroValue285
 t46:=Tryz.underlying286
 a46:=Tryz.isAgg286
 z46:=Tryz.sizeOf286
 v46:=Tryz.zeroValue286
 t50:=Tryz.underlying290
 a50:=Tryz.isAgg290
 z50:=Tryz.sizeOf290
 v50:=Tryz.zeroValue290
 t53:=Tryz.underlying293
 a53:=Tryz.isAgg293
 z53:=Tryz.sizeOf293
 v53:=Tryz.zeroValue293
 t55:=Tryz.underlying271
 a55:=Tryz.isAgg271
 z55:=Tryz.sizeOf271
 v55:=Tryz.zeroValue271
 t66:=Tryz.underlying339
 a66:=Tryz.isAgg339
 z66:=Tryz.sizeOf339
 v66:=Tryz.zeroValue339
 t70:=Tryz.underlying343
 a70:=Tryz.isAgg343
 z70:=Tryz.sizeOf343
 v70:=Tryz.zeroValue343
 t76:=Tryz.underlying368
 a76:=Tryz.isAgg368
 z76:=Tryz.sizeOf368
 v76:=Tryz.zeroValue368
 t77:=Tryz.underlying134
 a77:=Tryz.isAgg134
 z77:=Tryz.sizeOf134
 v77:=Tryz.zeroValue134}
end Go.Proofs
namespace Go.Proofs.YtjcjdgmojkkioaaGreatDoor
namespace RE
set_option maxRecDepth 100000
open Go.RowKit
open Go.Sort
open Go.Lib
open PL
theorem cmpOK:CmpOK Tryz.prog:=λx y W=>AnyG.cmp_Compare_int Tryz.cmpSp x y W
theorem cmpI_lt (x y:Int):(Lib.compareInt x y<0↔x<y)/\(Lib.compareInt x y=0↔x=y):=by
 unfold Lib.compareInt
 by_cases h1:x<y
 ·rw[if_pos h1]
  refine⟨⟨λ_=>h1,λ_=>by decide⟩,λh=>absurd h (by decide),λh=>by omega⟩
 ·rw[if_neg h1]
  by_cases h2:x>y
  ·rw[if_pos h2]
   exact⟨⟨λh=>absurd h (by decide),λh=>by omega⟩,λh=>absurd h (by decide),λh=>by omega⟩
  ·rw[if_neg h2]
   exact⟨⟨λh=>absurd h (by decide),λh=>by omega⟩,λh=>by omega,λh=>rfl⟩
theorem cmpL_bef:∀{a b:List api_Place},PL.cmpL a b<0↔befP a b=true
 |[],[]=>by unfold PL.cmpL befP;decide
 |[],_::_=>by unfold PL.cmpL befP;decide
 |_::_,[]=>by unfold PL.cmpL befP;decide
 |a::s,b::t=>by
  have ih:=cmpL_bef (a:=s) (b:=t)
  obtain⟨p1,p2⟩:=cmpI_lt a.1 b.1
  obtain⟨q1,q2⟩:=cmpI_lt a.2 b.2
  unfold PL.cmpL befP cmpP
  have o1:Lib.compareInt a.1 b.1≠0->orI (Lib.compareInt a.1 b.1) (Lib.compareInt a.2 b.2)=Lib.compareInt a.1 b.1:=λh=>if_pos h
  have o2:Lib.compareInt a.1 b.1=0->orI (Lib.compareInt a.1 b.1) (Lib.compareInt a.2 b.2)=Lib.compareInt a.2 b.2:=λh=>if_neg (not_not_intro h)
  by_cases h1:a.1<b.1
  ·have h0:=p1.2 h1
   have h2:Lib.compareInt a.1 b.1≠0:=by omega
   rw[if_pos h1,o1 h2,if_pos h2]
   exact⟨λ_=>rfl,λ_=>h0⟩
  ·by_cases h3:b.1<a.1
   ·have h2:Lib.compareInt a.1 b.1≠0:=λe=>by have:=p2.1 e;omega
    rw[if_neg h1,if_pos h3,o1 h2,if_pos h2]
    exact⟨λh=>absurd (p1.1 h) h1,λh=>by cases h⟩
   ·have h2:Lib.compareInt a.1 b.1=0:=p2.2 (by omega)
    rw[if_neg h1,if_neg h3,o2 h2]
    by_cases h4:a.2<b.2
    ·have h0:=q1.2 h4
     have h5:Lib.compareInt a.2 b.2≠0:=by omega
     rw[if_pos h4,if_pos h5]
     exact⟨λ_=>rfl,λ_=>h0⟩
    ·by_cases h6:b.2<a.2
     ·have h5:Lib.compareInt a.2 b.2≠0:=λe=>by have:=q2.1 e;omega
      rw[if_neg h4,if_pos h6,if_pos h5]
      exact⟨λh=>absurd (q1.1 h) h4,λh=>by cases h⟩
     ·have h5:Lib.compareInt a.2 b.2=0:=q2.2 (by omega)
      rw[if_neg h4,if_neg h6,if_neg (not_not_intro h5)]
      exact ih
def DblAt (S:Cells)(w:World)(q:Value×Value×api_Double):Prop:=
 q.1.oneCell'=true/\q.2.1.oneCell'=true/\Rd S w (.sl (.st .api_Rect) q.2.2.Region.Rects) q.1/\Rd S w (.sl (.st .api_Place) q.2.2.Claims) q.2.1/\q.2.2.Claims≠[]/\q.2.2.Claims.length<=1000000000
abbrev Al (S:Cells)(w:World):Type:={q:Value×Value×api_Double//DblAt S w q}
def encD {S:Cells}{w:World}(x:Al S w):List Value:=[x.1.1,x.1.2.1]
def cfD {S:Cells}{w:World}(x y:Al S w):Int:=PL.cmpL x.1.2.2.Claims y.1.2.2.Claims
theorem ltD {S:Cells}{w:World}(x y:Al S w):ltOf cfD x y=befP x.1.2.2.Claims y.1.2.2.Claims:=by
 refine bool_iff ?_
 unfold ltOf cfD
 rw[decide_eq_true_iff]
 exact cmpL_bef
theorem swoD {S:Cells}{w:World}:SWO (ltOf (cfD (S:=S) (w:=w))) where
 irrefl x:=by rw[ltD];exact bef_irr _
 trans x y z h1 h2:=by rw[ltD] at *;exact bef_trans h1 h2
 ntrans x y z h1 h2:=by
  rw[ltD] at *
  cases e:befP x.1.2.2.Claims z.1.2.2.Claims
  ·rfl
  ·exfalso
   by_cases e1:x.1.2.2.Claims=y.1.2.2.Claims
   ·rw[e1] at e;rw[e] at h2;cases h2
   ·rcases bef_tri e1 with h|h
    ·rw[h] at h1;cases h1
    ·have:=bef_trans h e
     rw[this] at h2;cases h2
theorem placeCells {S:Cells}{w:World}{l:List api_Place}{u:Value}(h:Rd S w (.sl (.st .api_Place) l) u)(hne:l≠[]):∃b off cap,u= .slice (some ⟨b,off,none⟩) l.length cap/\
 ∀i,i<l.length->(S b (off+i * 2)/\w.cell? ⟨b,off+i * 2,none⟩=some (.int .i64 (ix l (i:Int)).1))/\S b (off+i * 2+1)/\w.cell? ⟨b,off+i * 2+1,none⟩=some (.int .i64 (ix l (i:Int)).2):=by
 obtain⟨ad,cap,b,off,f,rfl,hc1,hc2,ha,hx1,hx2⟩:=h.slInv
 rcases ha with ha|ha
 ·exact absurd ha hne
 subst ha
 refine⟨b,off,cap,rfl,λi hi=> ?_⟩
 have h0:=hx1 i hi 0 (by decide)
 have h1:=hx1 i hi 1 (by decide)
 have e0:=rd_v (hx2 i l[i] 0 (.v (.int .i64 l[i].1)) (List.getElem?_eq_getElem hi) rfl)
 have e1:=rd_v (hx2 i l[i] 1 (.v (.int .i64 l[i].2)) (List.getElem?_eq_getElem hi) rfl)
 rw[e0] at h0
 rw[e1] at h1
 rw[ix_lt hi]
 exact⟨⟨h0.1,h0.2.1⟩,h1.1,h1.2.1⟩
theorem cmpLaysD {S:Cells}{w:World}[Inhabited (Al S w)](g:Nat)(hS:∀b o,S b o->b<w.heap.size)(hg:∀o,¬S g o)(size:Nat):CmpLays Tryz.prog 42 #[] (encD (S:=S) (w:=w)) 2 cfD g 0 size w:=by
 intro m os dk hdk x y
 obtain⟨⟨u1,u2,dx⟩,x1,x2,x3,x4,x5,x6⟩:=x
 obtain⟨⟨v1,v2,dy⟩,y1,y2,y3,y4,y5,y6⟩:=y
 dsimp only at x1 x2 x3 x4 x5 x6 y1 y2 y3 y4 y5 y6
 obtain⟨b1,o1,c1,rfl,h1⟩:=placeCells x4 x5
 obtain⟨b2,o2,c2,rfl,h2⟩:=placeCells y4 y5
 have hG:=grownBy_sortedV (w:=w) (n:=m) (g:=g) (os:=os) (flatK encD 2 dk)
 have hk:∀b o,S b o->(sortWorldK encD 2 w g 0 m dk os).cell? ⟨b,o,none⟩=w.cell? ⟨b,o,none⟩:=λb o hs=>World.cell?_of_block (hG.block b (hS b o hs) (λe=>hg o (by injection e with e;rw[<-e];exact hs)))
 refine (cmpD_any cmpOK u1 v1 dx.Claims dy.Claims b1 o1 c1 b2 o2 c2 (sortWorldK encD 2 w g 0 m dk os) x6 y6 (λi hi=> ?_) λi hi=> ?_).mono ?_
 ·obtain⟨⟨s1,e1⟩,s2,e2⟩:=h1 i hi
  exact⟨(hk _ _ s1).trans e1,(hk _ _ s2).trans e2⟩
 ·obtain⟨⟨s1,e1⟩,s2,e2⟩:=h2 i hi
  exact⟨(hk _ _ s1).trans e1,(hk _ _ s2).trans e2⟩
 ·rintro e w' ⟨rfl,hA⟩
  exact⟨rfl,hA.grow⟩
theorem dbl_row {S:Cells}{w:World}{cur:Array Value}:∀(l:List api_Double)(k:Nat),(∀d∈l,d.Claims≠[]/\d.Claims.length<=1000000000)->
 (∀(i:Nat)(x:api_Double),l[i]? =some x->∀(j:Nat)(c:D),(enc (.st .api_Double) x)[j]? =some c->∃u:Value,cur[(k+i) * 2+j]? =some u/\u.oneCell'=true/\Rd S w c u)->
 ∃dl:List (Al S w),dl.map (λq=>q.1.2.2)=l/\∀(i:Nat)(q:Al S w),dl[i]? =some q->cur[(k+i) * 2]? =some q.1.1/\cur[(k+i) * 2+1]? =some q.1.2.1
 |[],k,_,_=>⟨[],rfl,λi q h=>by simp at h⟩
 |x::l,k,hc,h=>by
  obtain⟨dl,h1,h2⟩:=dbl_row l (k+1) (λd hd=>hc d (List.mem_cons_of_mem _ hd)) λi y hy j c hcj=>by
   have:=h (i+1) y (by simpa using hy) j c hcj
   rwa [show k+(i+1)=k+1+i by omega] at this
  obtain⟨u1,a1,a2,a3⟩:=h 0 x rfl 0 (.sl (.st .api_Rect) x.Region.Rects) rfl
  obtain⟨u2,b1,b2,b3⟩:=h 0 x rfl 1 (.sl (.st .api_Place) x.Claims) rfl
  obtain⟨c1,c2⟩:=hc x (List.mem_cons_self ..)
  refine⟨⟨(u1,u2,x),a2,b2,a3,b3,c1,c2⟩::dl,by rw[List.map_cons,h1],λi q hq=> ?_⟩
  match i,hq with
  |0,hq=>
   have hq:some _=some q:=hq
   injection hq with hq
   subst hq
   exact⟨a1,b1⟩
  |i+1,hq=>
   have:=h2 i q (by simpa using hq)
   rwa [show k+1+i=k+(i+1) by omega] at this
def psortD_sp:Spec3:=⟨41,.st .api_Double,some 42,λ(l:List api_Double) post=>(l.length<=1000000/\∀d∈l,d.Claims≠[]/\d.Claims.length<=1000000000)/\∀l2,l2.Perm l->l2.Pairwise (λa b=>befP b.Claims a.Claims=false)->post l2⟩
theorem psortD_row (l:List api_Double)(post:List api_Double->Prop)(hp:(l.length<=1000000/\∀d∈l,d.Claims≠[]/\d.Claims.length<=1000000000)/\∀l2,l2.Perm l->l2.Pairwise (λa b=>befP b.Claims a.Claims=false)->post l2)(w:World)(S:Cells)(v:Value)(F:Nat->Prop)(e:TypeId)(hrow:RowAt w S v F e (.st .api_Double) l)(hS:∀b o,S b o->b<w.heap.size)(hF:∀b,F b->b<w.heap.size/\∀k,¬S b k):
 Calls Tryz.prog 41 #[v,.func (.func 42) #[] #[]] w λe' w'=>∃r,∃l':List api_Double,e'= .returned r/\post l'/\RowAt w' S v F e (.st .api_Double) l'/\w'.os=w.os/\w'.tape=w.tape/\w'.output=w.output/\w.heap.size<=w'.heap.size/\∀b,b<w.heap.size->¬F b->w'.heap[b]? =w.heap[b]? :=by
 obtain⟨⟨hlen,hcl⟩,hp⟩:=hp
 obtain⟨h0,⟨rfl,⟨ad,rfl⟩,hn⟩|⟨g,cap,cur,rfl,hFg,hg,hnl,hcm,hcs,hrr⟩⟩:=hrow
 ·refine (AnyF.slices_SortFunc_none Tryz.sortDp ad 0 _ w).mono ?_
  rintro e' w' ⟨rfl,rfl⟩
  exact⟨_,[],rfl,hp [] (List.Perm.refl _) List.Pairwise.nil,⟨h0,.inl ⟨rfl,⟨ad,rfl⟩,hn⟩⟩,rfl,rfl,rfl,Nat.le_refl _,λ_ _ _=>rfl⟩
 by_cases hne:l=[]
 ·subst hne
  refine (AnyF.slices_SortFunc_none Tryz.sortDp (some ⟨g,0,none⟩) cap _ w).mono ?_
  rintro e' w' ⟨rfl,rfl⟩
  exact⟨_,[],rfl,hp [] (List.Perm.refl _) List.Pairwise.nil,⟨h0,.inr ⟨g,cap,cur,rfl,hFg,hg,hnl,hcm,hcs,hrr⟩⟩,rfl,rfl,rfl,Nat.le_refl _,λ_ _ _=>rfl⟩
 have hgl:=(Array.getElem?_eq_some_iff.1 hg).1
 have hgS:=(hF g ((hFg g).2 rfl)).2
 have hnl:List.length (l:List api_Double)<=cap:=hnl
 have hcs:cur.size=cap * 2:=hcs
 obtain⟨dl,hd1,hd2⟩:=dbl_row (S:=S) (w:=w) (cur:=cur) l 0 hcl λi x hx j c hc=>by
  rw[Nat.zero_add];exact hrr i x hx j c hc
 have hdl:dl.length=l.length:=by rw[<-hd1,List.length_map]
 have hdne:dl≠[]:=λe=>hne (by rw[<-hd1,e];rfl)
 obtain⟨q0,hq0⟩:=List.exists_mem_of_ne_nil _ hdne
 letI:Inhabited (Al S w):=⟨q0⟩
 have eg:∀args w,(callFunc 42 args).run Tryz.prog w= .ok (.enter 42 args) w:=enters_of Tryz.func42 (by kernel_rfl) rfl
 have hone:∀(x:Al S w),∀v∈encD x,v.oneCell'=true:=λx v hv=>by
  unfold encD at hv
  rcases List.mem_cons.1 hv with rfl|hv
  ·exact x.2.1
  ·rw[List.mem_singleton] at hv;subst hv;exact x.2.2.1
 have hH:HoldsK encD 2 w g 0 dl.toArray:=by
  intro t ht
  have ht:t<dl.length * 2:=by simpa using ht
  refine⟨?_,by simp[World.frozen?,hg]⟩
  show w.cell? ⟨g,0+t,none⟩=some (flatK encD 2 dl.toArray)[t]!
  rw[get_flatK _ _ _ t (by simpa using ht),Nat.zero_add,cell_row hg]
  obtain⟨i,hi2⟩:∃i,t=i * 2\/t=i * 2+1:=⟨t/2,by omega⟩
  have hi:i<dl.length:=by omega
  obtain⟨k1,k2⟩:=hd2 i dl[i] (List.getElem?_eq_getElem hi)
  rw[Nat.zero_add] at k1 k2
  have e1:(dl.toArray)[i]! =dl[i]:=by simp[hi]
  rcases hi2 with rfl|rfl
  ·rw[show i * 2/2=i by omega,show i * 2 % 2=0 by omega,e1];exact k1
  ·rw[show (i * 2+1)/2=i by omega,show (i * 2+1) % 2=1 by omega,e1];exact k2
 have hsz:dl.toArray.size=l.length:=by simpa using hdl
 have hcall:=AnyQ.slices_SortFunc Tryz.sortDp 2 Tryz.isAgg119 Tryz.sizeOf119 (encD (S:=S) (w:=w)) (λ_=>rfl) hone cfD swoD 42 #[] g 0 cap dl.toArray w eg (cmpLaysD g hS hgS _) hH hgl (by rw[hsz];omega)
 rw[hsz] at hcall
 refine hcall.mono ?_
 rintro e' w' ⟨rfl,d,n,os,⟨q1,q2,q3⟩,q4,rfl⟩
 have hdsz:d.size=l.length:=by rw[q1];exact hsz
 have hG:=grownBy_sortedV (w:=w) (n:=n) (g:=g) (os:=os) (flatK encD 2 d)
 have hHp:=heap_sortedV (n:=n) (os:=os) (flatK encD 2 d) hg
 have hk:∀b o,S b o->(sortWorldK encD 2 w g 0 n d os).cell? ⟨b,o,none⟩=w.cell? ⟨b,o,none⟩:=λb o hs=>World.cell?_of_block (hG.block b (hS b o hs) (λe=>hgS o (by injection e with e;rw[<-e];exact hs)))
 have hlen2:List.length (d.toList.map (λq:Al S w=>q.1.2.2))=l.length:=by rw[List.length_map,Array.length_toList];exact hdsz
 refine⟨_,d.toList.map (λq=>q.1.2.2),rfl,hp _ ?_ ?_,⟨h0,.inr ⟨g,cap,_,?_,hFg,hHp,Nat.le_trans (Nat.le_of_eq hlen2) hnl,hcm,by simp[putCells,hcs];rfl,λi (x:api_Double) hx j c hc=> ?_⟩⟩,hG.os,hG.tape,hG.output,hG.size,λb hb hnF=>hG.block b hb λe=>hnF ((hFg b).2 (Option.some.inj e))⟩
 ·have e1:d.extract 0 l.length=d:=by rw[<-hdsz];simp
  have e2:dl.toArray.extract 0 l.length=dl.toArray:=by rw[<-hsz];simp
  rw[e1,e2] at q3
  have:=q3.map (λq:Al S w=>q.1.2.2)
  rwa [show dl.toArray.toList=dl by simp,hd1] at this
 ·rw[List.pairwise_map,List.pairwise_iff_getElem]
  intro i j hi hj hij
  have hi':i<d.size:=by simpa using hi
  have hj':j<d.size:=by simpa using hj
  have:=q4 i j (Nat.zero_le _) hij (by rw[<-hdsz];exact hj')
  rw[ltD,getElem!_pos d i hi',getElem!_pos d j hj'] at this
  simpa using this
 ·show Value.slice (some ⟨g,0,none⟩) l.length cap=Value.slice (some ⟨g,0,none⟩) (List.length (d.toList.map (λq:Al S w=>q.1.2.2))) cap
  rw[hlen2]
 ·have hx:(d.toList.map (λq:Al S w=>q.1.2.2))[i]? =some x:=hx
  rw[List.getElem?_map,Array.getElem?_toList,Option.map_eq_some_iff] at hx
  obtain⟨q,hq,rfl⟩:=hx
  have hi:i<d.size:=(Array.getElem?_eq_some_iff.1 hq).1
  have hxe:d[i]! =q:=by
   rw[getElem!_pos d i hi]
   exact (Array.getElem?_eq_some_iff.1 hq).2
  have key:∀k,k<2->(putCells id 0 (flatK encD 2 d) cur)[i * 2+k]? =some (encD q)[k]! :=by
   intro k hk
   have h1:i * 2+k<cur.size:=by omega
   have h2:i * 2+k<d.size * 2:=by omega
   simp only[putCells,Array.getElem?_mapIdx,Array.getElem?_eq_getElem h1,Option.map_some,Nat.zero_le,true_and,Nat.zero_add,size_flatK,if_pos h2,Nat.sub_zero,id]
   rw[get_flatK _ _ _ _ h2,show (i * 2+k)/2=i by omega,show (i * 2+k) % 2=k by omega,hxe]
  obtain⟨⟨u1,u2,dx⟩,x1,x2,x3,x4,x5,x6⟩:=q
  match j,hc with
  |0,hc=>
   have hc:some (D.sl (.st .api_Rect) dx.Region.Rects)=some c:=hc
   injection hc with hc
   subst hc
   exact⟨_,key 0 (by omega),x1,x3.mono (λ_ _ h=>h) hk⟩
  |1,hc=>
   have hc:some (D.sl (.st .api_Place) dx.Claims)=some c:=hc
   injection hc with hc
   subst hc
   exact⟨_,key 1 (by omega),x2,x4.mono (λ_ _ h=>h) hk⟩
  |j+2,hc=>cases (show (none:Option D)=some c from hc)
theorem psortD_ok:Spec3OK Tryz.prog psortD_sp:=λl post hp w S v F e hrow hS hF=>psortD_row l post hp w S v F e hrow hS hF
end RE
end Go.Proofs.YtjcjdgmojkkioaaGreatDoor
set_option maxRecDepth 100000
set_option linter.unusedVariables false
namespace Go.Proofs.YtjcjdgmojkkioaaGreatDoor
open Go.RowKit
namespace RE
open PL
namespace PL
def dblE (ds:List Dbl):Prop:=200<ds.length\/∃d∈ds,120<d.Region.Rects.length
def dblR (l:List api_Version)(ds:List Dbl)(e:Int):Prop:=(beginF l≠0/\ds=[]/\e=beginF l)\/(beginF l=0/\∃d0,dblsP (linV l) d0/\((dblE d0/\ds=[]/\e=1)\/(¬dblE d0/\ds=d0/\e=0)))
structure okD (l:List api_Version):Prop where
 many:manyV l
 small:beginF l=0->smallF (linV l)
end PL
def pdbl_P (l:List (api_Version))(post:List (api_Double)->Int->Prop):Prop:=okD l/\∀(ds:List Dbl)(e:Int),dblR l ds e->post ds e
def pdbl_sp:Spec:=⟨11,false,true,[.sl (.st .api_Version)],.tup [.dat (.sl (.st .api_Double)),.dat (.int .i64)],λx post=>pdbl_P (x.1:List (api_Version)) (λy0 y1=>post (y0,y1,()))⟩
def pdbl_C:CtxR:=⟨tau,[rule1 plines_sp,rule1 pfaces_sp,rule3 psortD_sp],lookJ [(0,13,⟨[(22,.dat (.int .i64)),(6,.own 119 (.st .api_Double))],[],[23,29,28,27,26,8,25,24,45,44,43,42,41,40,39,37,36,10,9,35,34,30,33,32,31,46],[],[]⟩),(0,26,⟨[(6,.own 119 (.st .api_Double))],[],[31,32,33,30,34,35,9,10,36,37,39,40,41,42,43,44,45,24,25,8,26,27,28,29],[0],[]⟩),(9192,0,⟨[(0,.tup [.agg [.dat (.sl (.st .api_Rect))],.dat (.int .i64)])],[],[],[],[]⟩)]⟩
def pdbl_W (l:List (api_Version))(post:List (api_Double)->Int->Prop):Prop:=(l.length<=1000/\∀(v1:api_Version),v1∈l->v1.2.length<=1000)/\∀(v2:List crosscheck_line)(v3:Int),linesR l v2 v3->IFB (!decide (v3=0)) (post [] v3) ((v2.length<=60/\List.Pairwise (λ(x1 x2:api_Place)=>x1=x2->False) (List.map (λ(x:crosscheck_line)=>x.1) v2)/\∀(v4:crosscheck_line),v4∈v2->(∀(v5:api_Rect),v5∈v4.2->0<=v5.1/\v5.1<v5.3/\v5.3<=30/\0<=v5.2/\v5.2<v5.4/\v5.4<=10)/\v4.2.length<=120)/\((↑(facesS v2).length:Int)<=9223372036854775807->LOOP [Ty.int IntKind.i64,(Ty.st Sn.api_Double).sl] (λ(rec6:Int->List api_Double->Prop) (z7:Int) (z8:List api_Double)=>IFB (decide (z7<(↑(facesS v2).length:Int))) (JOIN [(Ty.st Sn.api_Double).sl] (λ(y9:List api_Double)=>rec6 (IntKind.i64.wrap (z7+1)) y9) λ(J10:List api_Double->Prop)=>((0:Int)<=z7/\z7<(↑(facesS v2).length:Int))/\((↑(ix (facesS v2) z7).2.length:Int)<=9223372036854775807->IFB (decide ((↑(ix (facesS v2) z7).2.length:Int)<2)) (J10 z8) (JOIN [(Ty.st Sn.api_Rect).sl,Ty.int IntKind.i64] (λ(y11:List api_Rect) (y12:Int)=>IFB (!decide (y12=0)) (post [] y12) ((z8.length+[(⟨(⟨y11⟩:api_Region),(ix (facesS v2) z7).2⟩:api_Double)].length) * (48:Nat)<=140737488355328/\J10 (z8++[(⟨(⟨y11⟩:api_Region),(ix (facesS v2) z7).2⟩:api_Double)]))) λ(J13:List api_Rect->Int->Prop)=>(↑(ix (facesS v2) z7).1.length:Int)<=9223372036854775807->IFB (decide ((120:Int)<(↑(ix (facesS v2) z7).1.length:Int))) (J13 [] 1) (J13 (ix (facesS v2) z7).1 0)))) ((↑z8.length:Int)<=9223372036854775807->IFB (decide ((200:Int)<(↑z8.length:Int))) (post [] 1) ((z8.length<=1000000/\∀(v14:api_Double),v14∈z8->(v14.2=[]->False)/\v14.2.length<=1000000000)/\∀(v15:List api_Double),v15.Perm z8->List.Pairwise (λ(a b:api_Double)=>befP b.2 a.2=false) v15->post v15 0))) ((0:Int),[],PUnit.unit)))
theorem pdbl_w (l:List (api_Version))(post:dens (shT pdbl_sp.rs [])->Prop):pdbl_W l (λy0 y1=>post (y0,y1,()))=walkG (callR Tryz.prog pdbl_C (drawR Tryz.prog tau) 8 0) 11 false [tv (.sl (.st .api_Version)) l] pdbl_sp.rs post:=by kernel_rfl
theorem pdbl_of (h:∀(l:List (api_Version))(post:List (api_Double)->Int->Prop),pdbl_P l post->pdbl_W l post):SpecOK Tryz.prog pdbl_sp:=SpecOK.of_rules (C:=pdbl_C) (dr:=drawR Tryz.prog tau) (n:=8) (fk:=0) (.cons (rule1_ok plines_ok) (.cons (rule1_ok pfaces_ok) (.cons (rule3_ok psortD_ok) .nil))) (drawR_ok tau) λx post hp=>HoldW.of (pdbl_w x.1 post) (h x.1 (λy0 y1=>post (y0,y1,())) hp)
theorem two_app {F G:List Fc}:two (F++G)=two F++two G:=List.filter_append ..
theorem dbl_ex {L:List Ln}(h:(L.map (·.place)).Nodup):∃d0,dblsP L d0/\d0.Perm ((two (facesS L)).map toD):=by
 obtain⟨q1,q2⟩:=sortD_ok (two_ne (faces_ok h))
 exact⟨_,⟨q1,q2⟩,q1⟩
def pdbI (F:List Fc)(z:Int)(b:List Dbl):Prop:=∃k:Nat,z=(k:Int)/\k<=F.length/\b=(two (F.take k)).map toD/\∀d∈b,d.Region.Rects.length<=120
theorem pdbl_h (l:List api_Version)(post:List (api_Double)->Int->Prop)(hp:pdbl_P l post):pdbl_W l post:=by
 obtain⟨⟨h1,hs⟩,hp⟩:=hp
 unfold pdbl_W
 refine⟨h1,λL e he=> ?_⟩
 refine IFB.mk (λhb=> ?_) (λhb=> ?_)
 ·have hb:e≠0:=by simpa using hb
  rcases he with⟨a,_,c⟩|⟨_,_,c⟩
  ·exact hp [] e (.inl ⟨a,rfl,c⟩)
  ·exact absurd c hb
 have hb:e=0:=by simpa using hb
 subst hb
 have hz:beginF l=0/\L=linV l:=by
  rcases he with⟨a,_,c⟩|⟨a,c,_⟩
  ·exact absurd c.symm a
  ·exact⟨a,c⟩
 clear he
 obtain⟨hz,rfl⟩:=hz
 have hs:=hs hz
 have hbox:∀x∈linV l,inBox x.rects:=λx hx=>(hs.2.2 x hx).1
 have hok:=faces_ok hs.2.1
 have hfew:=faces_few hok hbox
 obtain⟨d0,hd0,hd1⟩:=dbl_ex hs.2.1
 refine⟨hs,λ_=> ?_⟩
 generalize hF:facesS (linV l)=F at *
 refine LOOP.fuel (λu=>pdbI F u.1 u.2.1) (λu=>F.length-Int.toNat u.1) ⟨0,rfl,Nat.zero_le _,rfl,λd hd=>(by cases hd)⟩ ?_
 rintro rec ⟨(z:Int),(b:List Dbl),⟨⟩⟩ ⟨k,i1,i2,i3,i4⟩ hrec
 have i1:z=(k:Int):=i1
 have q3:b=(two (F.take k)).map toD:=i3
 have q4:∀d∈b,d.Region.Rects.length<=120:=i4
 clear i3 i4
 subst i1
 have hbl:b.length<=300:=by
  rw[q3,List.length_map]
  unfold two
  have:=List.length_filter_le (λf:Fc=>decide (2<=f.claims.length)) (F.take k)
  rw[List.length_take] at this
  omega
 refine IFB.mk (λhc=>JOIN.opq λ(J:List Dbl->Prop) hJ=> ?_) (λhc=> ?_)
 ·have hc:(k:Int)<F.length:=of_decide_eq_true hc
  have hk:k<F.length:=by omega
  have hfm:ix F (k:Int)∈F:=by rw[ix_lt hk];exact List.getElem_mem hk
  have etk:two (F.take (k+1))=two (F.take k)++two [ix F (k:Int)]:=by rw[List.take_succ_eq_append_getElem hk,two_app,ix_lt hk]
  have hJ2:∀y:List Dbl,y=(two (F.take (k+1))).map toD->(∀d∈y,d.Region.Rects.length<=120)->J y:=λy hy hy2=>by
   rw[hJ]
   show rec (IntKind.i64.wrap ((k:Int)+1)) y
   rw[wrapS (by omega)]
   exact hrec (((k+1:Nat):Int),y,()) ⟨k+1,rfl,hk,hy,hy2⟩ (by show F.length-((k+1:Nat):Int).toNat<F.length-(k:Int).toNat;omega)
  refine⟨⟨by omega,hc⟩,λ_=>IFB.mk (λhd=> ?_) (λhd=> ?_)⟩
  ·have hd:((ix F (k:Int)).claims.length:Int)<2:=of_decide_eq_true hd
   refine hJ2 b ?_ q4
   rw[etk,q3,show two [ix F (k:Int)]=[] by unfold two;rw[List.filter_cons,if_neg (by simp;omega),List.filter_nil],List.append_nil]
  ·have hd:¬((ix F (k:Int)).claims.length:Int)<2:=of_decide_eq_false hd
   have e2:two [ix F (k:Int)]=[ix F (k:Int)]:=by unfold two;rw[List.filter_cons,if_pos (by simp;omega),List.filter_nil]
   refine JOIN.opq λ(K:List Rc->Int->Prop) hK=>λ_=>IFB.mk (λhn=> ?_) (λhn=> ?_)
   ·have hn:(120:Int)<((ix F (k:Int)).rects.length:Int):=of_decide_eq_true hn
    rw[hK]
    refine IFB.mk (λ_=>hp [] 1 (.inr ⟨hz,d0,hd0,.inl ⟨.inr ?_,rfl,rfl⟩⟩)) (λh=>by cases h)
    refine⟨toD (ix F (k:Int)),hd1.mem_iff.2 (List.mem_map.2 ⟨_,List.mem_filter.2 ⟨hfm,decide_eq_true (by omega)⟩,rfl⟩),?_⟩
    show 120<(ix F (k:Int)).rects.length
    omega
   ·have hn:¬(120:Int)<((ix F (k:Int)).rects.length:Int):=of_decide_eq_false hn
    rw[hK]
    refine IFB.mk (λh=>by cases h) (λ_=>⟨by simp only[List.length_cons,List.length_nil];omega,hJ2 _ ?_ ?_⟩)
    ·rw[etk,e2,List.map_append,<-q3];rfl
    ·intro d hd
     rcases List.mem_append.1 hd with hd|hd
     ·exact q4 d hd
     ·rw[List.mem_singleton] at hd
      subst hd
      show (ix F (k:Int)).rects.length<=120
      omega
 ·have hc:¬(k:Int)<F.length:=of_decide_eq_false hc
  have hk:k=F.length:=by omega
  rw[hk,List.take_length] at q3
  have hpm:d0.Perm b:=by rw[q3];exact hd1
  refine λ_=>IFB.mk (λhd=> ?_) (λhd=>⟨⟨by show b.length<=1000000;omega,λd hd=> ?_⟩,λv hv1 hv2=> ?_⟩)
  ·have hd:(200:Int)<(b.length:Int):=of_decide_eq_true hd
   refine hp [] 1 (.inr ⟨hz,d0,hd0,.inl ⟨.inl ?_,rfl,rfl⟩⟩)
   rw[hpm.length_eq];omega
  ·rw[q3] at hd
   obtain⟨f,hf,rfl⟩:=List.mem_map.1 hd
   obtain⟨hf,h2⟩:=List.mem_filter.1 hf
   have h2:2<=f.claims.length:=of_decide_eq_true h2
   have h3:=(face_small hok hbox hf).2.2
   have h4:(linV l).length<=60:=hs.1
   refine⟨λe=> ?_,?_⟩
   ·have e:f.claims=[]:=e
    rw[e] at h2;exact absurd h2 (by decide)
   ·show f.claims.length<=1000000000
    omega
  ·have hd:¬(200:Int)<(b.length:Int):=of_decide_eq_false hd
   refine hp v 0 (.inr ⟨hz,v,dbls_prog hs.2.1 (by rw[hF,<-q3];exact hv1) hv2,.inr ⟨λh=> ?_,rfl,rfl⟩⟩)
   rcases h with h|⟨d,hd2,h⟩
   ·rw[hv1.length_eq] at h
    have h:200<b.length:=h
    omega
   ·have:=q4 d (hv1.mem_iff.1 hd2);omega
theorem pdbl_ok:SpecOK Tryz.prog pdbl_sp:=pdbl_of pdbl_h
end RE
end Go.Proofs.YtjcjdgmojkkioaaGreatDoor
set_option linter.unusedVariables false
set_option maxRecDepth 100000
namespace Go.Proofs.YtjcjdgmojkkioaaGreatDoor
open Go.RowKit
namespace RE
open PL
namespace PL
structure OkV (l:List api_Version):Prop where
 one:1<=l.length/\l.length<=40
 each:∀v∈l,v.Lines.length<=20/\linesV v.Lines/\0<=v.Day/\v.Day<=40
 asc:∀k:Nat,k+1<l.length->(ix l (k:Int)).Day<=(ix l ((k+1:Nat):Int)).Day/\(20<(ix l ((k+1:Nat):Int)).Day->reducesP (ix l (k:Int)) (ix l ((k+1:Nat):Int)))
end PL
theorem chk_zero {l:List api_Version}(h:OkV l):chkS ⟨1,0,l⟩ 0 20 40=0:=by
 unfold chkS
 rw[if_neg (λhn=>hn ⟨by omega,by omega,by omega,by omega⟩)]
 dsimp only
 rw[if_neg (by omega),if_neg (by omega),if_neg ?_]
 ·refine firstE_zero.2 λk hk=> ?_
  obtain⟨e1,e2,e3,e4⟩:=h.each _ (ix_mem (l:=l) (i:=(k:Int)) (by omega) (by omega))
  have hq:∀q,prevV l k=some q->q.Day<=(ix l (k:Int)).Day/\(20<(ix l (k:Int)).Day->reducesP q (ix l (k:Int))):=by
   intro q hq
   unfold prevV at hq
   split at hq
   ·cases hq
   ·rename_i hk0
    injection hq with hq
    subst hq
    obtain⟨j,rfl⟩:∃j,k=j+1:=⟨k-1,by omega⟩
    rw[Nat.add_sub_cancel]
    exact h.asc j hk
  unfold chkAt chk1
  rw[if_neg ?_,if_neg (by omega),if_neg (λhn=>hn e2),if_neg ?_]
  ·rintro ⟨q,h1,h2,h3⟩
   exact h3 ((hq q h1).2 h2)
  ·rintro (h1|⟨q,h1,h2⟩)
   ·omega
   ·have:=(hq q h1).1;omega
 ·have:=h.one
  rintro (h1|h1|⟨v,hv,h1⟩)
  ·omega
  ·omega
  ·have:=(h.each v hv).1;omega
theorem okV_one {v:api_Version}(h:v.Lines.length<=20/\linesV v.Lines/\0<=v.Day/\v.Day<=40):OkV [v]:=by
 refine⟨by simp,λw hw=> ?_,λk hk=>by simp at hk⟩
 rw[List.mem_singleton] at hw
 rw[hw];exact h
theorem okV_snoc {l:List api_Version}{v w:api_Version}(h:OkV (l++[w]))(hl:l.length<39)(hv:v.Lines.length<=20/\linesV v.Lines/\0<=v.Day/\v.Day<=40)(ha:w.Day<=v.Day/\(20<v.Day->reducesP w v)):OkV (l++[w]++[v]):=by
 refine⟨by simp;omega,λx hx=> ?_,λk hk=> ?_⟩
 ·rcases List.mem_append.1 hx with hx|hx
  ·exact h.each x hx
  ·rw[List.mem_singleton] at hx
   rw[hx];exact hv
 ·have hk':k<l.length+1:=by simp at hk;omega
  by_cases e:k+1<(l++[w]).length
  ·have e1:ix (l++[w]++[v]) (k:Int)=ix (l++[w]) (k:Int):=by
    rw[ix_lt (by omega),ix_lt (by omega)];exact List.getElem_append_left (by omega)
   have e2:ix (l++[w]++[v]) ((k+1:Nat):Int)=ix (l++[w]) ((k+1:Nat):Int):=by
    rw[ix_lt hk,ix_lt e];exact List.getElem_append_left e
   rw[e1,e2]
   exact h.asc k e
  ·have hk2:k=l.length:=by simp at e;omega
   subst hk2
   have e1:ix (l++[w]++[v]) ((l.length:Nat):Int)=w:=by rw[List.append_assoc];exact ix_app rfl
   have e2:ix (l++[w]++[v]) ((l.length+1:Nat):Int)=v:=ix_app (by simp)
   rw[e1,e2]
   exact ha
theorem amend_ok {l:List api_Version}{v:api_Version}(h:OkV l)(h2:OkV (l++[v])):amendS ⟨1,0,l⟩ v 0 20 40=(⟨1,0,l++[v]⟩,0):=by
 have e:moreV ⟨1,0,l⟩ v=⟨1,0,l++[v]⟩:=rfl
 unfold amendS
 rw[e,if_neg (λhn=>hn (chk_zero h)),if_neg (λhn=>hn (chk_zero h2))]
theorem inf_last {l:List api_Version}{v:api_Version}{d:Int}(hv:v.Day<=d){q:api_Version}{b:Bool}(h:inR (l++[v]) d q b):q=v/\b=true:=by
 have e:inS (l++[v]) d=some v:=by
  unfold inS
  rw[List.reverse_append,List.reverse_singleton,List.singleton_append,List.find?_cons_of_pos (by simpa using hv)]
 rcases h with⟨w,h1,h2,h3⟩|⟨h1,_⟩
 ·rw[e] at h1
  injection h1 with h1
  exact⟨h2.trans h1.symm,h3⟩
 ·rw[e] at h1;cases h1
theorem lin_two (a b:api_Version):(linV [a,b]).map (λx=>(⟨x.rects⟩:api_Region))=(a.Lines++b.Lines).map (·.Region):=by
 unfold linV
 rw[lin_reg]
 show regN [a,b] (0+1+1)=_
 rw[regN_succ,regN_succ,List.map_append]
 rfl
theorem lin_two_len (a b:api_Version):(linV [a,b]).length=a.Lines.length+b.Lines.length:=by
 have:=congrArg List.length (lin_two a b)
 simpa using this
theorem lin_two_mem {a b:api_Version}{x:Ln}(h:x∈linV [a,b]):∃y∈a.Lines++b.Lines,x.rects=y.Region.Rects:=by
 have h1:(⟨x.rects⟩:api_Region)∈(linV [a,b]).map (λx=>(⟨x.rects⟩:api_Region)):=List.mem_map.2 ⟨x,h,rfl⟩
 rw[lin_two] at h1
 obtain⟨y,hy,e⟩:=List.mem_map.1 h1
 exact⟨y,hy,by rw[e]⟩
theorem lin_days (a b c d:api_Version)(h1:a.Lines=c.Lines)(h2:b.Lines=d.Lines):linV [a,b]=linV [c,d]:=by
 obtain⟨x,A⟩:=a
 obtain⟨y,B⟩:=b
 obtain⟨z,C⟩:=c
 obtain⟨w,D⟩:=d
 have h1:A=C:=h1
 have h2:B=D:=h2
 subst h1 h2
 rfl
theorem lin_box {a b:api_Version}(ha:linesOK a.Lines)(hb:linesOK b.Lines){x:Ln}(h:x∈linV [a,b]):∃p:Int,0<=p/\p<=2/\boxed p x.rects:=by
 obtain⟨y,hy,e⟩:=lin_two_mem h
 rw[e]
 rcases List.mem_append.1 hy with hy|hy
 ·exact ha y hy
 ·exact hb y hy
theorem boxed_in {p:Int}{l:List Rc}(h0:0<=p)(h1:p<=2)(h:boxed p l):inBox l/\l.length<=120:=by
 have:=boxed_len h
 exact⟨(can_inBox h.1 λx y hc=>by have:=h.2 x y hc;omega).1,by omega⟩
theorem amd_okD {a b:api_Version}(ha:linesOK a.Lines)(hb:linesOK b.Lines)(la:a.Lines.length<=2)(lb:b.Lines.length<=2):okD [a,b]:=by
 have hl:=lin_two_len a b
 refine⟨⟨by simp,λv hv=> ?_⟩,λ_=>⟨by omega,linV_nodup _,λx hx=> ?_⟩⟩
 ·rcases List.mem_cons.1 hv with rfl|hv
  ·omega
  ·rw[List.mem_singleton] at hv;rw[hv];omega
 ·obtain⟨p,h0,h1,h2⟩:=lin_box ha hb hx
  exact boxed_in h0 h1 h2
theorem amd_begin {a b:api_Version}(ha:linesOK a.Lines)(hb:linesOK b.Lines)(la:a.Lines.length<=2)(lb:b.Lines.length<=2):beginF [a,b]=0:=by
 have hl:=lin_two_len a b
 refine begin_ok (by omega) λx hx=> ?_
 obtain⟨p,h0,h1,h2⟩:=lin_box ha hb hx
 exact boxed_valid h0 h1 h2
theorem face1_len (x:Ln)(f:Fc):(face1 x f).length<=2:=by
 unfold face1 optF
 rw[List.length_append]
 split<;>split<;>simp
theorem flat_two {α β:Type}{f:α->List β}(h:∀a,(f a).length<=2):∀l:List α,(l.flatMap f).length<=2 * l.length
 |[]=>Nat.le_refl _
 |a::l=>by
  have:=flat_two h l
  have:=h a
  rw[List.flatMap_cons,List.length_append,List.length_cons];omega
theorem faceStep_len (F:List Fc)(seen:List Rc)(x:Ln):(faceStep F seen x).length<=2 * F.length+1:=by
 unfold faceStep
 rw[List.length_append]
 have h1:=flat_two (face1_len x) F
 have h2:(optF (notC x.rects seen) [x.place]).length<=1:=by unfold optF;split<;>simp
 omega
theorem facesG_len:∀(L:List Ln)(F:List Fc)(seen:List Rc),(facesG F seen L).length+1<=2^L.length * (F.length+1)
 |[],F,seen=>by simp[facesG]
 |x::L,F,seen=>by
  have h1:=facesG_len L (faceStep F seen x) (seen++x.rects)
  have h2:=faceStep_len F seen x
  have h3:2^L.length * ((faceStep F seen x).length+1)<=2^L.length * (2 * (F.length+1)):=Nat.mul_le_mul_left _ (by omega)
  have h4:2^(x::L).length * (F.length+1)=2^L.length * (2 * (F.length+1)):=by
   rw[List.length_cons,Nat.pow_succ,Nat.mul_assoc]
  rw[h4]
  unfold facesG
  omega
theorem facesS_len {L:List Ln}(h:L.length<=4):(facesS L).length<=15:=by
 have h1:=facesG_len L [] []
 have h2:2^L.length<=2^4:=Nat.pow_le_pow_right (by omega) h
 have h3:2^L.length * (([]:List Fc).length+1)=2^L.length:=by simp
 unfold facesS
 rw[h3] at h1
 omega
theorem amd_dbls {a b:api_Version}(ha:linesOK a.Lines)(hb:linesOK b.Lines)(la:a.Lines.length<=2)(lb:b.Lines.length<=2){ds:List Dbl}{e:Int}(h:dblR [a,b] ds e):e=0/\dblsP (linV [a,b]) ds:=by
 have hb0:=amd_begin ha hb la lb
 rcases h with⟨h1,_⟩|⟨_,d0,h1,h2⟩
 ·exact absurd hb0 h1
 rcases h2 with⟨h2,_,_⟩|⟨_,h3,h4⟩
 ·exfalso
  have hl:=lin_two_len a b
  rcases h2 with h2|⟨d,hd,h2⟩
  ·have e1:=h1.1.length_eq
   have e2:=facesS_len (L:=linV [a,b]) (by omega)
   have e3:(two (facesS (linV [a,b]))).length<=(facesS (linV [a,b])).length:=List.length_filter_le _ _
   rw[List.length_map] at e1
   omega
  ·obtain⟨c1,c2,c3,c4⟩:=dbls_each (linV_nodup _) h1 d hd
   obtain⟨x,y,hc⟩:=canon_some c1 c2
   obtain⟨p,hp⟩:∃p,p∈d.Claims:=List.exists_mem_of_ne_nil _ (λe=>by rw[e] at c3;simp at c3)
   have hline:∀u v,cov d.Region.Rects u v=true->∃l∈linV [a,b],cov l.rects u v=true/\l.place=p:=λu v huv=>by
    rw[<-c4 u v huv] at hp
    exact who_mem.1 hp
   obtain⟨l,hl1,hl2,hl3⟩:=hline x y hc
   obtain⟨q,q0,q1,q2⟩:=lin_box ha hb hl1
   have:=canon_len c1 (x0:=10 * q) (x1:=10 * q+9) (y0:=0) (y1:=9) (by omega) (by omega) λu v huv=>by
    obtain⟨m,m1,m2,m3⟩:=hline u v huv
    have e:m=l:=by
     have g1:=(mem_linV.1 m1).2
     have g2:=(mem_linV.1 hl1).2
     obtain⟨mp,mr⟩:=m
     obtain⟨lp,lr⟩:=l
     have m3:mp=p:=m3
     have hl3:lp=p:=hl3
     subst m3 hl3
     have g1:mr=gat [a,b] lp:=g1
     have g2:lr=gat [a,b] lp:=g2
     rw[g1,g2]
    rw[e] at m2
    exact q2.2 u v m2
   have e:(9-0:Int) * (10 * q+9-10 * q)=81:=by
    rw[show 10 * q+9-10 * q=(9:Int) by omega];rfl
   rw[e] at this
   omega
 ·exact⟨h4,by rw[h3];exact h1⟩
theorem who_one {L:List Ln}(h:L.Pairwise λa b=>apartL b.rects a.rects)(x y:Int):(who L x y).length<=1:=by
 unfold who
 rw[List.length_map]
 have hp:(L.filter λl=>cov l.rects x y).Pairwise λa b=>apartL b.rects a.rects:=h.sublist List.filter_sublist
 have hm:∀l∈L.filter λl=>cov l.rects x y,cov l.rects x y=true:=λl hl=>(List.mem_filter.1 hl).2
 revert hp hm
 generalize (L.filter λl=>cov l.rects x y)=M
 intro hp hm
 match M,hp,hm with
 |[],_,_=>exact Nat.zero_le _
 |[_],_,_=>exact Nat.le_refl _
 |a::b::M,hp,hm=>
  exfalso
  have h1:=(List.pairwise_cons.1 hp).1 b (List.mem_cons_self ..) x y (hm b (List.mem_cons_of_mem _ (List.mem_cons_self ..)))
  rw[hm a (List.mem_cons_self ..)] at h1
  cases h1
theorem amd_none {a b:api_Version}(ha:a.Lines=[])(hb:linesD b.Lines)(lb:b.Lines.length<=2){ds:List Dbl}{e:Int}(h:dblR [a,b] ds e):e=0/\ds=[]:=by
 obtain⟨h1,h2⟩:=amd_dbls (by rw[ha];exact λx hx=>(by cases hx)) hb.1 (by rw[ha];simp) lb h
 refine⟨h1,List.eq_nil_iff_forall_not_mem.2 λd hd=> ?_⟩
 obtain⟨c1,c2,c3,c4⟩:=dbls_each (linV_nodup _) h2 d hd
 obtain⟨x,y,hc⟩:=canon_some c1 c2
 have hp:(linV [a,b]).Pairwise λa b=>apartL b.rects a.rects:=by
  have hp1:((linV [a,b]).map (λx=>(⟨x.rects⟩:api_Region))).Pairwise λa b=>apartL b.Rects a.Rects:=by
   rw[lin_two,ha,List.nil_append,List.pairwise_map]
   exact hb.2
  rw[List.pairwise_map] at hp1
  exact hp1
 have:=who_one hp x y
 rw[c4 x y hc] at this
 omega
theorem amd_same {a b c d:api_Version}(h1:a.Lines=c.Lines)(h2:b.Lines=d.Lines)(ha:linesOK a.Lines)(hb:linesOK b.Lines)(la:a.Lines.length<=2)(lb:b.Lines.length<=2){ds es:List Dbl}{e f:Int}(h:dblR [a,b] ds e)(k:dblR [c,d] es f):e=0/\f=0/\ds=es:=by
 obtain⟨q1,q2⟩:=amd_dbls ha hb la lb h
 obtain⟨q3,q4⟩:=amd_dbls (h1 ▸ ha) (h2 ▸ hb) (h1 ▸ la) (h2 ▸ lb) k
 rw[lin_days a b c d h1 h2] at q2
 exact⟨q1,q3,dbls_uniq q2 q4⟩
theorem linesOK_V {l:List api_Line}(h:linesOK l):linesV l:=λx hx=>by
 obtain⟨p,h0,h1,h2⟩:=h x hx
 exact boxed_valid h0 h1 h2
end RE
end Go.Proofs.YtjcjdgmojkkioaaGreatDoor
namespace Go.Proofs.YtjcjdgmojkkioaaGreatDoor
open Go.RowKit Go.Shelf
set_option linter.unusedVariables false
set_option maxRecDepth 100000
namespace RE
open PL InF
namespace PL
def bigC (a:api_Version):Prop:=a.2.length<=2000000/\∀x∈a.2,x.2.1.length<=2000000
end PL
theorem SpecOK.vb {P:Program}{f:FuncId}{ts:List Ty}{pt:dens ts->(api_Version->Bool->Prop)->Prop}
 (h:∀x post,pt x post->∀w (S:Cells)(us:List Value),(∀b o,S b o->b<w.heap.size)->us.length=ts.length->(∀(i:Nat)(d:D)(u:Value),(tvs ts x)[i]? =some d->us[i]? =some u->Rd S w d u)->
  Calls P f us.toArray w λe w'=>∃(q:api_Version)(u:Value)(b:Bool),e= .returned (.tuple #[.agg #[.int .i64 q.Day,u],.bool b])/\post q b/\CopR S w.heap.size w.heap.size w' (.sl (.st .api_Line) q.Lines) u/\Below w.heap.size w w'):
 SpecOK P ⟨f,false,true,ts,.tup [.dat (.st .api_Version),.dat (.bool)],λx post=>pt x λa b=>post (a,b,())⟩:=by
 intro x post hp w S T us hS hT hl hr
 have hT:T=none:=hT
 subst hT
 refine (h x _ hp w S us hS hl hr).mono ?_
 rintro e w' ⟨q,u,b,rfl,hq,⟨S',k1,k2⟩,hb⟩
 refine⟨_,(q,b,()),cx0 (λb o=>S b o\/S' b o) none,rfl,hq,?_,?_,?_⟩
 ·exact⟨λb o h=>h.elim (λh=>Nat.lt_of_lt_of_le (hS b o h) hb.size) (λh=>(k1 b o h).2.1),λid x hx=>(by cases hx),λid x hx=>(by cases hx),λi j x y hx=>(by cases hx),λT hT'=>(by cases hT'),λh=>(by cases h),λ_=>rfl⟩
 ·exact⟨hb.os,hb.tape,hb.output,hb.size,λ_ h=>h,λ_ h=> .inl h,λ_ h=>h,λ_ _=>⟨rfl,rfl⟩,λ_ _ h=> .inl h,λb o h=>h.elim .inl (λh=>(k1 b o h).1.elim (λh=> .inl h.1) (λh=> .inr (.inr h))),λk hk _ _=>hb.block k hk,λ_ h=> .inl h⟩
 ·refine .tup [.d (tv (.st .api_Version) q),.d (.v (.bool b))] [.agg #[.int .i64 q.Day,u],.bool b] rfl λi s v hs hv=> ?_
  match i,hs,hv with
  |0,hs,hv=>
   cases hs;cases hv
   refine .d _ _ ?_
   refine Rd.agg _ [.int .i64 q.Day,u] rfl (λv hv=> ?_) λi c v hc hv=> ?_
   ·rcases List.mem_cons.1 hv with rfl|hv
    ·rfl
    ·rw[List.mem_singleton] at hv;subst hv
     cases k2;rfl
   ·match i,hc,hv with
    |0,hc,hv=>cases hc;cases hv;exact .v _
    |1,hc,hv=>cases hc;cases hv;exact k2.mono (λ_ _ h=> .inr h) λ_ _ _=>rfl
    |i+2,hc,hv=>cases hc
  |1,hs,hv=>cases hs;cases hv;exact v_srel _
  |i+2,hs,hv=>cases hs
theorem sl_inv {S:Cells}{w:World}{t:Ty}{l:List (den t)}{u:Value}(h:Rd S w (.sl t l) u):∃(ad:Option Addr)(cap b off:Nat)(f:Nat->Nat->Value),u= .slice ad l.length cap/\(l=[]\/ad=some ⟨b,off,none⟩)/\
 (∀(i:Nat),i<l.length->∀j,j<size t->S b (off+i * size t+j)/\w.cell? ⟨b,off+i * size t+j,none⟩=some (f i j)/\(f i j).oneCell'=true)/\
 ∀(i:Nat)(x:den t)(j:Nat)(c:D),l[i]? =some x->(enc t x)[j]? =some c->Rd S w c (f i j):=by
 cases h with
 |sl _ _ ad cap b off f hc hm ha hx h=>exact⟨ad,cap,b,off,f,rfl,ha,hx,h⟩
theorem copied_any (a:api_Version)(ha:bigC a)(u:Value)(W:World)(S:Cells)(hS:∀b o,S b o->b<W.heap.size)(n0:Nat)(hn:∀b o,S b o->b<n0)(hu:Rd S W (tv (.st .api_Version) a) u):
 Calls Tryz.prog 36 #[u] W λe W'=>∃a2 n2 c2,e= .returned (.agg #[.int .i64 a.Day,.slice a2 n2 c2])/\CopR S n0 W.heap.size W' (.sl (.st .api_Line) a.Lines) (.slice a2 n2 c2)/\Below W.heap.size W W':=by
 refine (pcopied_ok (a,()) (λy=>y=(a,())) ⟨ha,rfl⟩ W S none [u] hS rfl rfl λi d v hd hv=> ?_).mono ?_
 ·match i,hd,hv with
  |0,hd,hv=>cases hd;cases hv;exact hu
  |i+1,hd,hv=>cases hd
 ·rintro e W' ⟨v,y,c',rfl,rfl,hox,htr,hsr⟩
  have hrd:=srel_d (x:=tv (.st .api_Version) a) hsr
  cases hrd with
  |agg _ us hl2 ho hh=>
   match us,hl2 with
   |[x,z],_=>
    have h0:=hh 0 _ _ rfl rfl
    have h1:=hh 1 _ _ rfl rfl
    have h0:Rd c'.S W' (.v (.int .i64 a.Day)) x:=h0
    have h1:Rd c'.S W' (.sl (.st .api_Line) a.Lines) z:=h1
    rw[rd_v h0]
    have hz:∃a2 n2 c2,z= .slice a2 n2 c2:=by cases h1;exact⟨_,_,_,rfl⟩
    obtain⟨a2,n2,c2,rfl⟩:=hz
    refine⟨a2,n2,c2,rfl,⟨_,λb o hb=>⟨?_,hox.sb b o hb.1,hb.2⟩,rd_some h1⟩,⟨htr.os,htr.tape,htr.output,htr.sz,λk hk=>htr.blk k hk (λ⟨_,_,hx,_⟩=>(by cases hx)) (λh=>by cases h)⟩⟩
    rcases htr.sN b o hb.1 with h|⟨_,_,hx,_⟩|h
    ·exact .inl ⟨h,hn b o h⟩
    ·cases hx
    ·exact .inr h
def pinf_P (a:api_Application)(d:Int)(post:api_Version->Bool->Prop):Prop:=(a.3.length<=2000000/\∀v∈a.3,bigC v)/\∀(q:api_Version)(b:Bool),inR a.3 d q b->post q b
def pinf_sp:Spec:=⟨10,false,true,[.st .api_Application,.int .i64],.tup [.dat (.st .api_Version),.dat (.bool)],λx post=>pinf_P (x.1:api_Application) (x.2.1:Int) (λy0 y1=>post (y0,y1,()))⟩
theorem two_args {S:Cells}{w:World}{a:api_Application}{d:Int}{us:List Value}(hl:us.length=2)(hr:∀(i:Nat)(d':D)(u:Value),(tvs [.st .api_Application,.int .i64] (a,d,()))[i]? =some d'->us[i]? =some u->Rd S w d' u):∃ad cap,us=[.agg #[.int .i64 a.1,.int .i64 a.2,.slice ad a.3.length cap],.int .i64 d]/\Rd S w (.sl (.st .api_Version) a.3) (.slice ad a.3.length cap):=by
 match us,hl with
 |[x,y],_=>
  have h0:Rd S w (tv (.st .api_Application) a) x:=hr 0 _ _ rfl rfl
  have h1:Rd S w (.v (.int .i64 d)) y:=hr 1 _ _ rfl rfl
  rw[rd_v h1]
  cases h0 with
  |agg _ us hl2 ho hh=>
   match us,hl2 with
   |[p,q,r],_=>
    have g0:Rd S w (.v (.int .i64 a.1)) p:=hh 0 _ _ rfl rfl
    have g1:Rd S w (.v (.int .i64 a.2)) q:=hh 1 _ _ rfl rfl
    have g2:Rd S w (.sl (.st .api_Version) a.3) r:=hh 2 _ _ rfl rfl
    rw[rd_v g0,rd_v g1]
    have hz:∃ad cap,r= .slice ad a.3.length cap:=by cases g2;exact⟨_,_,rfl⟩
    obtain⟨ad,cap,rfl⟩:=hz
    exact⟨ad,cap,rfl,g2⟩
theorem pinf_ok:SpecOK Tryz.prog pinf_sp:=SpecOK.vb (ts:=[.st .api_Application,.int .i64]) (pt:=λx post=>pinf_P x.1 x.2.1 post) λx post hp w S us hS hl hr=>by
 obtain⟨a,d,⟨⟩⟩:=x
 obtain⟨⟨hp1,hp2⟩,hp⟩:=hp
 obtain⟨ad,cap,rfl,hrd⟩:=two_args hl hr
 dsimp only at hp1 hp2 hp
 generalize a.3=l at *
 have key:∃vs:Nat->Value,(∀j,(vs j).oneCell'=true)/\(∀i:Nat,vs (i * 2)= .int .i64 (ix l (i:Int)).Day)/\(∀i:Nat,∃a n c,vs (i * 2+1)= .slice a n c)/\Back.Cells2 w.heap.size w ad l.length vs/\∀i:Nat,Rd S w (tv (.st .api_Version) (ix l (i:Int))) (Back.elt vs i):=by
  obtain⟨ad',cap',b,off,f,e,ha,hx,h⟩:=sl_inv (t:= .st .api_Version) (l:=l) hrd
  have e:Value.slice ad l.length cap= .slice ad' l.length cap':=e
  injection e with e1 _ e2
  subst e1
  have hx:∀(i:Nat),i<l.length->∀j,j<2->S b (off+i * 2+j)/\w.cell? ⟨b,off+i * 2+j,none⟩=some (f i j)/\(f i j).oneCell'=true:=hx
  have hd:∀i:Nat,i<l.length->f i 0= .int .i64 (ix l (i:Int)).Day:=λi hi=>by
   have:=h i l[i] 0 _ (List.getElem?_eq_getElem hi) rfl
   have this:Rd S w (.v (.int .i64 l[i].Day)) (f i 0):=this
   rw[rd_v this,ix_lt hi]
  have hs:∀i:Nat,i<l.length->Rd S w (.sl (.st .api_Line) (ix l (i:Int)).Lines) (f i 1):=λi hi=>by
   have:=h i l[i] 1 _ (List.getElem?_eq_getElem hi) rfl
   rw[ix_lt hi];exact this
  have hout:∀i:Nat,¬i<l.length->ix l (i:Int)=default:=λi hi=>by
   unfold ix
   rw[List.getD_eq_getElem?_getD,List.getElem?_eq_none (by show l.length<=Int.toNat (i:Int);omega)];rfl
  obtain⟨vs,hvs⟩:∃vs:Nat->Value,vs=λj=>if j/2<l.length then f (j/2) (j % 2) else if j % 2=0 then .int .i64 0 else .slice none 0 0:=⟨_,rfl⟩
  have v0:∀i:Nat,vs (i * 2)=if i<l.length then f i 0 else .int .i64 0:=λi=>by
   rw[hvs];dsimp only
   rw[show i * 2/2=i by omega,show i * 2 % 2=0 by omega,if_pos rfl]
  have v1:∀i:Nat,vs (i * 2+1)=if i<l.length then f i 1 else .slice none 0 0:=λi=>by
   rw[hvs];dsimp only
   rw[show (i * 2+1)/2=i by omega,show (i * 2+1) % 2=1 by omega,if_neg (show ¬(1:Nat)=0 by decide)]
  have d0:∀i:Nat,vs (i * 2)= .int .i64 (ix l (i:Int)).Day:=λi=>by
   rw[v0]
   by_cases hi:i<l.length
   ·rw[if_pos hi];exact hd i hi
   ·rw[if_neg hi,hout i hi];rfl
  have d1:∀i:Nat,Rd S w (.sl (.st .api_Line) (ix l (i:Int)).Lines) (vs (i * 2+1)):=λi=>by
   rw[v1]
   by_cases hi:i<l.length
   ·rw[if_pos hi];exact hs i hi
   ·rw[if_neg hi,hout i hi];exact Rd.nil _ _ _ (Nat.zero_le _)
  have d2:∀i:Nat,∃a n c,vs (i * 2+1)= .slice a n c:=λi=>by
   have:=d1 i
   generalize vs (i * 2+1)=z at this
   cases this;exact⟨_,_,_,rfl⟩
  have one:∀j,(vs j).oneCell'=true:=λj=>by
   rcases Nat.mod_two_eq_zero_or_one j with hj|hj
   ·have:=d0 (j/2)
    rw[show j/2 * 2=j by omega] at this
    rw[this];rfl
   ·obtain⟨a,n,c,this⟩:=d2 (j/2)
    rw[show j/2 * 2+1=j by omega] at this
    rw[this];rfl
  refine⟨vs,one,d0,d2,?_,λi=> ?_⟩
  ·by_cases hl0:l=[]
   ·exact .inl (by rw[hl0];rfl)
   ·refine .inr ⟨b,off,ha.resolve_left hl0,?_,λj hj=> ?_⟩
    ·obtain⟨k1,_,_⟩:=hx 0 (List.length_pos_iff.2 hl0) 0 (by decide)
     exact hS _ _ k1
    ·obtain⟨_,k2,_⟩:=hx (j/2) (by omega) (j % 2) (by show _<2;omega)
     have e:off+j/2 * 2+j % 2=off+j:=by omega
     rw[e] at k2
     rw[k2,hvs];dsimp only
     rw[if_pos (by omega)]
  ·refine Rd.agg _ [vs (i * 2),vs (i * 2+1)] rfl (λv hv=> ?_) λk c v hc hv=> ?_
   ·rcases List.mem_cons.1 hv with rfl|hv
    ·exact one _
    ·rw[List.mem_singleton] at hv;subst hv;exact one _
   ·match k,hc,hv with
    |0,hc,hv=>cases hc;cases hv;rw[d0];exact .v _
    |1,hc,hv=>cases hc;cases hv;exact d1 i
    |k+2,hc,hv=>cases hc
 obtain⟨vs,h1,h2,h3,h4,h5⟩:=key
 refine (inf_any S l a.1 a.2 d ad cap w vs h1 h2 h3 (by omega) h4 λi W hB=> ?_).mono ?_
 ·refine copied_any (ix l (i:Int)) ?_ _ W S (λb o hb=>Nat.lt_of_lt_of_le (hS b o hb) hB.size) w.heap.size hS ((h5 i).mono (λ_ _ h=>h) λb o hb=>hB.cell (p:=⟨b,o,none⟩) (hS b o hb))
  by_cases hi:i<l.length
  ·exact hp2 _ (ix_mem (by omega) (by omega))
  ·have:ix l (i:Int)=default:=by
    unfold ix
    rw[List.getD_eq_getElem?_getD,List.getElem?_eq_none (by show l.length<=Int.toNat (i:Int);omega)];rfl
   rw[this];exact⟨Nat.zero_le _,λx hx=>by cases hx⟩
 ·rintro e w' ⟨q,u,b,rfl,hin,hc,hb⟩
  exact⟨q,u,b,rfl,hp q b hin,hc,hb⟩
end RE
end Go.Proofs.YtjcjdgmojkkioaaGreatDoor
namespace Go.Proofs.YtjcjdgmojkkioaaGreatDoor
namespace RE
set_option maxRecDepth 100000
open Go.RowKit
open PL
def rsml_P (a:List (api_Line))(b:List (api_Line))(post:Bool->Prop):Prop:=(a.length<=1000000000/\∀x∈a,x.2.1.length<=1000000000)/\∀q:Bool,(q=true↔a=b)->post q
def rsml_sp:Spec:=⟨12,false,false,[.sl (.st .api_Line),.sl (.st .api_Line)],.dat (.bool),λx post=>rsml_P (x.1:List (api_Line)) (x.2.1:List (api_Line)) (λy0=>post (y0,()))⟩
def rsml_C:CtxR:=⟨tau,[rule1 rrec_sp],lookJ [(0,9,⟨[(13,.dat (.int .i64))],[],(List.range' 14 54++[5]),[],[]⟩)]⟩
def rsml_W (a:List (api_Line))(b:List (api_Line))(post:Bool->Prop):Prop:=(↑a.length:Int)<=9223372036854775807->(↑b.length:Int)<=9223372036854775807->IFB (!decide ((↑a.length:Int)=(↑b.length:Int))) (post false) ((↑a.length:Int)<=9223372036854775807->LOOP [Ty.int IntKind.i64] (λ(rec1:Int->Prop) (z2:Int)=>IFB (decide (z2<(↑a.length:Int))) (((0:Int)<=z2/\z2<(↑a.length:Int))/\((0:Int)<=z2/\z2<(↑b.length:Int))/\((gx false !decide ((ix a z2).1=(ix b z2).1))=true->0<=z2/\z2<(↑a.length:Int))/\((gx false !decide ((ix a z2).1=(ix b z2).1))=true->0<=z2/\z2<(↑b.length:Int))/\(gx false (!decide ((ix a z2).1=(ix b z2).1)|| !decide ((ix a z2).3=(ix b z2).3))=true->0<=z2/\z2<(↑a.length:Int))/\(gx false (!decide ((ix a z2).1=(ix b z2).1)|| !decide ((ix a z2).3=(ix b z2).3))=true->0<=z2/\z2<(↑b.length:Int))/\(gx false (!decide ((ix a z2).1=(ix b z2).1)|| !decide ((ix a z2).3=(ix b z2).3)|| !decide ((ix a z2).4=(ix b z2).4))=true->0<=z2/\z2<(↑a.length:Int))/\(gx false (!decide ((ix a z2).1=(ix b z2).1)|| !decide ((ix a z2).3=(ix b z2).3)|| !decide ((ix a z2).4=(ix b z2).4))=true->0<=z2/\z2<(↑b.length:Int))/\JOIN [Ty.bool] (λ(y3:Bool)=>IFB (!decide ((ix a z2).1=(ix b z2).1)|| !decide ((ix a z2).3=(ix b z2).3)|| !decide ((ix a z2).4=(ix b z2).4)|| !y3) (post false) (rec1 (IntKind.i64.wrap (z2+1)))) λ(J4:Bool->Prop)=>IFB (gx false (!decide ((ix a z2).1=(ix b z2).1)|| !decide ((ix a z2).3=(ix b z2).3)|| !decide ((ix a z2).4=(ix b z2).4))) ((ix a z2).2.1.length<=1000000000/\∀(v5:Bool),(v5=true↔(ix a z2).2.1=(ix b z2).2.1)->J4 v5) (J4 false)) (post true)) ((0:Int),PUnit.unit))
theorem rsml_w (a:List (api_Line))(b:List (api_Line))(post:dens (shT rsml_sp.rs [])->Prop):rsml_W a b (λy0=>post (y0,()))=walkG (callR Tryz.prog rsml_C (drawR Tryz.prog tau) 8 0) 12 false [tv (.sl (.st .api_Line)) a,tv (.sl (.st .api_Line)) b] rsml_sp.rs post:=by kernel_rfl
theorem rsml_of (h:∀a b post,rsml_P a b post->rsml_W a b post):SpecOK Tryz.prog rsml_sp:=SpecOK.of_rules (C:=rsml_C) (dr:=drawR Tryz.prog tau) (n:=8) (fk:=0) (.cons (rule1_ok rrec_ok) .nil) (drawR_ok tau) λx post hp=>HoldW.of (rsml_w x.1 x.2.1 post) (h x.1 x.2.1 (λy0=>post (y0,())) hp)
theorem rsml_ok:SpecOK Tryz.prog rsml_sp:=rsml_of λa b post hp=>by
 obtain⟨⟨hl,hr⟩,hp⟩:=hp
 unfold rsml_W
 intro _ _
 refine IFB.mk (λhb=>hp _ ⟨λh=>(by cases h),λh=> ?_⟩) (λhb _=> ?_)
 ·rw[h] at hb;simp at hb
 ·have hb:(a.length:Int)=b.length:=by simpa using hb
  refine loopCmp (n:=a.length) (by omega) (p:=λj=>ix a (j:Int)=ix b (j:Int)) (λrec k hk hpre hrec=> ?_) λhall=>hp _ ⟨λ_=>(list_eq_iff (by omega)).2 hall,λ_=>rfl⟩
  have ha:(0:Int)<=(k:Int)/\(k:Int)<a.length:=by omega
  have hb2:(0:Int)<=(k:Int)/\(k:Int)<b.length:=by omega
  refine⟨ha,hb2,λ_=>ha,λ_=>hb2,λ_=>ha,λ_=>hb2,λ_=>ha,λ_=>hb2,JOIN.opq λ(J:Bool->Prop) hJ=> ?_⟩
  have hx:=hr _ (ix_mem (l:=a) (i:=(k:Int)) ha.1 ha.2)
  have no:¬ix a (k:Int)=ix b (k:Int)->post false:=λh=>hp _ ⟨λh=>(by cases h),λe=>absurd ((list_eq_iff (by omega)).1 e k hk) h⟩
  generalize ix a (k:Int)=x at hx hrec hJ no ⊢
  generalize ix b (k:Int)=y at hrec hJ no ⊢
  obtain⟨x1,⟨x2⟩,x3,x4⟩:=x
  obtain⟨y1,⟨y2⟩,y3,y4⟩:=y
  dsimp only at hx hJ ⊢
  rw[hJ]
  dsimp only
  have e:∀q:Bool,(q=true↔x2=y2)->((!decide (x1=y1)|| !decide (x3=y3)|| !decide (x4=y4)|| !q)=false↔(⟨x1,⟨x2⟩,x3,x4⟩:api_Line)=⟨y1,⟨y2⟩,y3,y4⟩):=λq hq=>by
   simp only[Bool.or_eq_false_iff,Bool.not_eq_false',decide_eq_true_eq,hq,api_Line.mk.injEq,api_Region.mk.injEq]
   constructor
   ·rintro ⟨⟨⟨h1,h2⟩,h3⟩,h4⟩;exact⟨h1,h4,h2,h3⟩
   ·rintro ⟨h1,h4,h2,h3⟩;exact⟨⟨⟨h1,h2⟩,h3⟩,h4⟩
  refine IFB.mk (λ_=>⟨hx,λv hv=>IFB.mk (λh=>no λhe=> ?_) (λh=>hrec ((e v hv).1 h))⟩) (λh=>IFB.mk (λh2=>no λhe=> ?_) (λh2=>by rw[Bool.not_false,Bool.or_true] at h2;cases h2))
  ·rw[(e v hv).2 he] at h;cases h
  ·injection he with q1 q2 q3 q4
   rw[q1,q3,q4] at h
   simp[gx] at h
variable {P:Program}
def intTyB (P:Program)(t:TypeId):Bool:=match P.underlying t with
 |some (.int _)=>true
 |_=>false
def k2Ty (P:Program)(t:TypeId):Bool:=match P.underlying t with
 |some (.struct fs)=>(match fs.toList with
  |[f,g]=>(f.name != "_")&&(g.name != "_")&&Nat.beq f.offset 0&&Nat.beq g.offset 1&&intTyB P f.type&&intTyB P g.type
  |_=>false)&&cmpTy P 10000 t==some [false,false]
 |_=>false
def k2V (a b:Int):Value:= .agg #[.int .i64 a,.int .i64 b]
theorem k2_eq (a b:Int):keyV [a,b]=k2V a b:=rfl
theorem intTyB_spec {t:TypeId}(h:intTyB P t=true):∃k,P.underlying t=some (.int k):=by
 unfold intTyB at h
 split at h
 ·exact⟨_,by assumption⟩
 ·cases h
theorem part_int {t:TypeId}(h:intTyB P t=true)(w:World)(cs:Array Value)(i:Nat)(v:Value)(hi:cs[i]? =some v):(part t cs i).run P w= .ok v w:=by
 obtain⟨k,hk⟩:=intTyB_spec h
 simp[part,isAgg,run_underlying hk,hi]
theorem check2 {t:TypeId}(h:k2Ty P t=true)(e:Bool)(n:Nat)(a b:Int)(w:World):(Instr.checkKey e (n+2) t (k2V a b)).run P w= .ok () w:=by
 unfold k2Ty at h
 split at h
 ·rename_i fs hu
  obtain⟨h,_⟩:=Bool.and_eq_true_iff.1 h
  split at h
  ·rename_i f g hfs
   simp only[Bool.and_eq_true,bne_iff_ne,ne_eq] at h
   obtain⟨⟨⟨⟨⟨h1,h2⟩,h3⟩,h4⟩,h5⟩,h6⟩:=h
   obtain⟨kf,hf⟩:=intTyB_spec h5
   obtain⟨kg,hg⟩:=intTyB_spec h6
   have c1:∀z:Int,(Instr.checkKey e (n+1) f.type (.int .i64 z)).run P w= .ok () w:=λz=>by
    unfold Instr.checkKey
    simp[run_underlying hf]
   have c2:∀z:Int,(Instr.checkKey e (n+1) g.type (.int .i64 z)).run P w= .ok () w:=λz=>by
    unfold Instr.checkKey
    simp[run_underlying hg]
   have p1:=part_int (P:=P) h5 w #[.int .i64 a,.int .i64 b] f.offset (.int .i64 a) (by rw[beq_eq h3];rfl)
   have p2:=part_int (P:=P) h6 w #[.int .i64 a,.int .i64 b] g.offset (.int .i64 b) (by rw[beq_eq h4];rfl)
   show (Instr.checkKey e ((n+1)+1) t (k2V a b)).run P w=_
   unfold Instr.checkKey
   simp only[Sem.run_bind,run_underlying hu,Result.andThen_ok,k2V]
   rw[<-Array.forIn_toList,hfs]
   simp only[List.forIn_cons,List.forIn_nil,Sem.run_bind,h1,h2,ne_eq,not_false_eq_true,if_true,Result.andThen_ok,p1,p2,c1,c2,Sem.run_pure]
  ·cases h
 ·cases h
theorem k2_struct {t:TypeId}(h:k2Ty P t=true):(∃fs,P.underlying t=some (.struct fs))/\cmpTy P 10000 t=some [false,false]:=by
 unfold k2Ty at h
 split at h
 ·rename_i fs hu
  obtain⟨_,h⟩:=Bool.and_eq_true_iff.1 h
  exact⟨⟨fs,hu⟩,by simpa using h⟩
 ·cases h
theorem eq2 {t:TypeId}(h:k2Ty P t=true)(a b a' b':Int)(w:World):(Op.equal t (k2V a b) (k2V a' b')).run P w= .ok (decide (a=a')&&(decide (b=b')&&true)) w:=by
 obtain⟨⟨fs,hu⟩,hc⟩:=k2_struct h
 have:=eq_run 10000 t [false,false] hc w [.v (.int .i64 a),.v (.int .i64 b)] [.v (.int .i64 a'),.v (.int .i64 b')] (decide (a=a')&&(decide (b=b')&&true)) (by simp[eqS])
 simp only[hu] at this
 exact this
def findW (a b:Int):List (List Int×SV)->Nat->Option (Nat×SV)
 |[],_=>none
 |([a',b'],s)::r,n=>bif decide (a=a')&&(decide (b=b')&&true) then some (n,s) else findW a b r (n+1)
 |_::r,n=>findW a b r (n+1)
def all2 (es:List (List Int×SV)):Bool:=es.all λe=>Nat.beq e.1.length 2
theorem ask2 {t:TypeId}(h:k2Ty P t=true){c:Cx}{w:World}(a b:Int):∀(ms:List MapEntry)(es:List (List Int×SV))(n:Nat),ms.length=es.length->all2 es=true->
 (∀(i:Nat)(k:List Int)(s:SV)(m:MapEntry),es[i]? =some (k,s)->ms[i]? =some m->m.key=keyV k/\SRel c w s m.val)->
 (∃(i:Nat)(s:SV)(m:MapEntry),findW a b es n=some (n+i,s)/\ms[i]? =some m/\m.key=k2V a b/\es[i]? =some ([a,b],s)/\SRel c w s m.val/\(Instr.findAsking t (k2V a b) ms n).run P w= .ok (some (n+i,m.val)) w)\/
 (findW a b es n=none/\(Instr.findAsking t (k2V a b) ms n).run P w= .ok none w)
 |[],[],n,_,_,_=> .inr ⟨rfl,by simp[Instr.findAsking]⟩
 |[],_::_,n,hl,_,_=>by simp at hl
 |_::_,[],n,hl,_,_=>by simp at hl
 |m::ms,(k,s)::es,n,hl,h2,hr=>by
  obtain⟨q1,q2⟩:=hr 0 k s m rfl rfl
  unfold all2 at h2
  simp only[List.all_cons,Bool.and_eq_true] at h2
  obtain⟨h2a,h2⟩:=h2
  match k,h2a with
  |[a',b'],_=>
  have he:(Op.equal t (k2V a b) m.key).run P w= .ok (decide (a=a')&&(decide (b=b')&&true)) w:=by
   rw[q1,k2_eq];exact eq2 h a b a' b' w
  cases hb:(decide (a=a')&&(decide (b=b')&&true)) with
  |true=>
   rw[hb] at he
   simp only[Bool.and_eq_true,decide_eq_true_eq] at hb
   obtain⟨e1,e2,_⟩:=hb
   subst e1 e2
   refine .inl ⟨0,s,m,?_,rfl,q1,rfl,q2,?_⟩
   ·unfold findW;simp
   ·unfold Instr.findAsking;simp[he]
  |false=>
   rw[hb] at he
   have hf:findW a b (([a',b'],s)::es) n=findW a b es (n+1):=by
    conv=>lhs;unfold findW
    rw[hb];rfl
   have hg:(Instr.findAsking t (k2V a b) (m::ms) n).run P w=(Instr.findAsking t (k2V a b) ms (n+1)).run P w:=by
    conv=>lhs;unfold Instr.findAsking
    simp[he]
   rw[hf,hg]
   rcases ask2 h a b ms es (n+1) (by simpa using hl) h2 (λi k s m hi hm=>hr (i+1) k s m (by simpa using hi) (by simpa using hm)) with⟨i,s',m',g1,g2,g3,g4,g5,g6⟩|⟨g1,g2⟩
   ·refine .inl ⟨i+1,s',m',?_,by simpa using g2,g3,by simpa using g4,g5,?_⟩
    ·rw[g1];congr 2;omega
    ·rw[g6];congr 3;omega
   ·exact .inr ⟨g1,g2⟩
theorem key2 {t:TypeId}(h:k2Ty P t=true){c:Cx}{w:World}(a b:Int)(ms:List MapEntry)(es:List (List Int×SV))(hl:ms.length=es.length)(h2:all2 es=true)
 (hr:∀(i:Nat)(k:List Int)(s:SV)(m:MapEntry),es[i]? =some (k,s)->ms[i]? =some m->m.key=keyV k/\SRel c w s m.val):
 (∃(i:Nat)(s:SV)(m:MapEntry),findW a b es 0=some (i,s)/\ms[i]? =some m/\m.key=k2V a b/\es[i]? =some ([a,b],s)/\SRel c w s m.val/\(Instr.findKey t (k2V a b) ms).run P w= .ok (some (i,m.val)) w)\/
 (findW a b es 0=none/\(Instr.findKey t (k2V a b) ms).run P w= .ok none w):=by
 obtain⟨⟨fs,hu⟩,_⟩:=k2_struct h
 have hk:(Instr.findKey t (k2V a b) ms).run P w=(Instr.findAsking t (k2V a b) ms 0).run P w:=by
  unfold Instr.findKey
  cases ms with
  |nil=>simp[run_underlying hu,Instr.findNow,Instr.findAsking]
  |cons m ms=>simp[run_underlying hu,Instr.findNow,Instr.sameNow]
 rw[hk]
 rcases ask2 (c:=c) h a b ms es 0 hl h2 hr with⟨i,s,m,g1,g2,g3,g4,g5,g6⟩|g
 ·refine .inl ⟨i,s,m,by rw[g1,Nat.zero_add],g2,g3,g4,g5,by rw[g6,Nat.zero_add]⟩
 ·exact .inr g
theorem OX.mwPut {ob:Obs}{U:Nat->Prop}{tp:Bool}{w:World}{c:Cx}(h:OX ob U tp w c){id b:Nat}{es es':List (List Int×SV)}{arr':Array MapEntry}(hid:ob id=some (.mw es))(hb:c.H id= .map (some b))(hsz:arr'.size=es'.length)
 (hr:∀(i:Nat)(k:List Int)(s:SV)(m:MapEntry),es'[i]? =some (k,s)->arr'[i]? =some m->m.key=keyV k/\m.born=i/\SRel c w s m.val) (hU:inUL U (es'.map (·.2))):
 OX (put ob id (some (.mw es'))) U tp {w with heap:=w.heap.setIfInBounds b (.map arr' es'.length)} c/\Tr ob U w c (put ob id (some (.mw es'))) U {w with heap:=w.heap.setIfInBounds b (.map arr' es'.length)} c:=by
 obtain⟨hUid,hUes,b',arr,e1,hF,hh,hal,hra⟩:=h.objs id _ hid
 rw[hb] at e1
 injection e1 with e1
 injection e1 with e1
 subst e1
 have hf:=h.fb id _ hid rfl b ((hF b).2 rfl)
 obtain⟨hw',hwo⟩:∃w',w'=({w with heap:=w.heap.setIfInBounds b (.map arr' es'.length)}:World):=⟨_,rfl⟩
 have hblk:∀k,k≠b->hw'.heap[k]? =w.heap[k]? :=λk hk=>by rw[hwo];exact Array.getElem?_setIfInBounds_ne (Ne.symm hk)
 have hnew:hw'.heap[b]? =some (.map arr' es'.length):=by
  rw[hwo]
  have:b<w.heap.size:=hf.1
  simp[this]
 have hsz':hw'.heap.size=w.heap.size:=by rw[hwo];simp
 rw[<-hwo]
 refine h.upd id (.mw es') (λi=>i≠id) (λ_ h=>h) hUid (put_same _ _ _) (λi y hi e=>⟨e,by rw[put_ne _ _ e] at hi;exact hi⟩) (λe=>e rfl) (λ_ _=>⟨rfl,rfl⟩) (λ_ _ h=>h) (λ_ _ h=> .inl h) (λb' o hb'=>by rw[hsz'];exact h.sb b' o hb') rfl (by rw[hwo]) (by rw[hwo]) (by rw[hwo]) (by rw[hsz'];exact Nat.le_refl _)
  (λk hk hn=>hblk k (λe=>hn id _ hid rfl (λe=>e rfl) (by rw[e];exact (hF b).2 rfl))) ?_ hU (λ_ k hk=> .inl ⟨id,_,hid,rfl,λe=>e rfl,hk⟩) (λ_ k hk=>by rw[hsz'];exact⟨(h.fb id _ hid rfl k hk).1,(h.fb id _ hid rfl k hk).2.1⟩)
 refine⟨b,arr',hb,hF,hnew,hsz,λi k s m hi hm=> ?_⟩
 obtain⟨q1,q2,q3⟩:=hr i k s m hi hm
 refine⟨q1,q2,SRel.mono (U:=U) (λ_ _ h=>h) (λb' o hs=>World.cell?_of_block (hblk b' (λe=>hf.2.1 o (e ▸ hs)))) (λ_ h=>h) (λ_ _=>rfl) q3 (inUL_get hU (by rw[List.getElem?_map,hi];rfl))⟩
def eMwMake (k:Nat):ERes:=⟨[],[],.os k,[(k,some (.mw []))],1⟩
theorem eMwMake_ok {o:Oper}{m:Mem}{ρ:Operand->SV}{k:Nat}{t:TypeId}(he:o.op= .makeMap t none):EffR P o m ρ k (eMwMake k):=by
 intro a w c hr hk hp K Q hK
 have hk':¬m.U k:=hk k (Nat.le_refl _) (by show k<k+1;omega)
 have hne:∀i,m.U i->i≠k:=λi hi e=>hk' (e ▸ hi)
 obtain⟨w',hw'⟩:∃w',w'=w.alloc (.map #[] 0):=⟨_,rfl⟩
 have hkeep:∀b,b<w.heap.size->w'.heap[b]? =w.heap[b]? :=λb hb=>by rw[hw'];exact heap_alloc_old w _ hb
 obtain⟨r1,r2⟩:=hr.ox.upd (ob':=put m.ob k (some (.mw []))) (U':=addU m.U k) (w':=w') (c':=⟨c.S,put c.H k (.map (some w.heap.size)),put c.F k (·=w.heap.size),c.T⟩) k (.mw []) (λi=>i≠k)
  (λ_ h=> .inl h) (.inr rfl) (put_same _ _ _) (λi y hi e=>by rw[put_ne _ _ e] at hi;exact⟨e,hi⟩) (λe=>e rfl) (λi hi=>⟨put_ne _ _ (hne i hi),put_ne _ _ (hne i hi)⟩) (λ_ _ h=>h) (λ_ _ h=> .inl h) (λb o' hb=>by rw[hw'];exact Nat.lt_of_lt_of_le (hr.ox.sb b o' hb) (by simp))
  rfl (by rw[hw'];rfl) (by rw[hw'];rfl) (by rw[hw'];rfl) (by rw[hw'];simp) (λb hb _=>hkeep b hb) (by
   refine⟨w.heap.size,#[],put_same _ _ _,λx=> ?_,by rw[hw'];exact heap_alloc_new w _,rfl,λi k s m hi=>by simp at hi⟩
   show put c.F k (·=w.heap.size) k x↔_
   rw[put_same]) trivial (λ_ b hb=>by
   have hb:put c.F k (·=w.heap.size) k b:=hb
   rw[put_same] at hb
   exact .inr (Nat.le_of_eq hb.symm)) (λ_ b hb=>by
   have hb:put c.F k (·=w.heap.size) k b:=hb
   rw[put_same] at hb
   subst hb
   rw[hw']
   exact⟨by simp,λo' ho=>by have:=hr.ox.sb _ _ ho;omega⟩)
 subst hw'
 refine wp_value (v:= .map (some w.heap.size)) (w':=w.alloc (.map #[] 0)) (by
  have hm:(Instr.makeMap t none).run P w= .ok (.map (some w.heap.size)) (w.alloc (.map #[] 0)):=rfl
  simp only[execOp,he,Option.map_none,Sem.run_bind,hm,Result.andThen_ok];rfl) (hK _ ⟨c.S,put c.H k (.map (some w.heap.size)),put c.F k (·=w.heap.size),c.T⟩ _ ?_ ?_ ?_ (.inr ⟨Nat.le_refl _,by show k<k+1;omega⟩) trivial)
 ·show OX (ovr m.ob [_]) (addN m.U k 1) _ _ _
  rw[ovr_cons,ovr_nil,addN_one];exact r1
 ·show Tr _ _ _ _ (ovr m.ob [_]) (addN m.U k 1) _ _
  rw[ovr_cons,ovr_nil,addN_one];exact r2
 ·have:=SRel.os (c:=⟨c.S,put c.H k (.map (some w.heap.size)),put c.F k (·=w.heap.size),c.T⟩) (w:=w.alloc (.map #[] 0)) k
  dsimp only at this
  rw[put_same] at this
  exact this
def mwOf (m:Mem):SV->Option (Nat×List (List Int×SV))
 | .os id=>match m.ob id with
  |some (.mw es)=>bif all2 es then some (id,es) else none
  |_=>none
 |_=>none
theorem mwOf_spec {m:Mem}{s:SV}{id:Nat}{es:List (List Int×SV)}(h:mwOf m s=some (id,es)):s= .os id/\m.ob id=some (.mw es)/\all2 es=true:=by
 unfold mwOf at h
 split at h
 ·rename_i id0
  split at h
  ·rename_i es0 hob
   cases hb:all2 es0 with
   |false=>rw[hb] at h;cases h
   |true=>
    rw[hb] at h
    injection h with h
    injection h with h1 h2
    subst h1 h2
    exact⟨rfl,hob,hb⟩
  ·cases h
 ·cases h
def k2Of:SV->Option (Int×Int)
 | .d (.agg [.v (.int .i64 a),.v (.int .i64 b)])=>some (a,b)
 | .agg [.d (.v (.int .i64 a)),.d (.v (.int .i64 b))]=>some (a,b)
 |_=>none
theorem k2Of_rel {s:SV}{a b:Int}(h:k2Of s=some (a,b)){c:Cx}{w:World}{u:Value}(hr:SRel c w s u):u=k2V a b:=by
 unfold k2Of at h
 split at h
 ·rename_i a' b'
  injection h with h
  injection h with h1 h2
  subst h1 h2
  have hr:=srel_d hr
  cases hr with
  |agg _ us hl h1 h=>
   match us,hl with
   |[u,v],_=>
    have e1:=rd_v (h 0 _ u rfl rfl)
    have e2:=rd_v (h 1 _ v rfl rfl)
    subst e1 e2
    rfl
 ·rename_i a' b'
  injection h with h
  injection h with h1 h2
  subst h1 h2
  obtain⟨us,rfl,hl,_,h⟩:=srel_agg hr
  match us,hl with
  |[u,v],_=>
   have e1:=srel_v (h 0 _ u rfl rfl)
   have e2:=srel_v (h 1 _ v rfl rfl)
   subst e1 e2
   rfl
 ·cases h
def mapTy2 (P:Program)(t:TypeId):Option TypeId:=match P.underlying t with
 |some (.map kt et)=>bif k2Ty P kt then some et else none
 |_=>none
theorem mapTy2_spec {t et:TypeId}(h:mapTy2 P t=some et):∃kt,P.underlying t=some (.map kt et)/\k2Ty P kt=true:=by
 unfold mapTy2 at h
 split at h
 ·rename_i kt et' hu
  cases hb:k2Ty P kt with
  |false=>rw[hb] at h;cases h
  |true=>
   rw[hb] at h
   injection h with h
   subst h
   exact⟨kt,hu,hb⟩
 ·cases h
def nilZ (P:Program)(t:TypeId):Bool:=match P.info? t with
 |some i=>match i.zero with
  |some v=>isNil v
  |none=>false
 |none=>false
theorem nilZ_run {t:TypeId}(h:nilZ P t=true)(w:World):(zeroValue t).run P w= .ok (.slice none 0 0) w:=by
 unfold nilZ at h
 split at h
 ·rename_i i hi
  split at h
  ·rename_i v hv
   have:=isNil_eq h
   subst this
   simp[zeroValue,typeInfo,hi,hv]
  ·cases h
 ·cases h
def nilW:SV:= .d (.v (.slice none 0 0))
def eMwLook (P:Program)(m:Mem)(t:TypeId)(x k:SV):Option ERes:=match mwOf m x,k2Of k,mapTy2 P t with
 |some (_,es),some (a,b),some et=>match findW a b es 0 with
  |some (_,s)=>some ⟨[],[],s,[],0⟩
  |none=>bif nilZ P et then some ⟨[],[],nilW,[],0⟩ else none
 |_,_,_=>none
theorem mw_at {m:Mem}{ρ:Operand->SV}{a:Act}{w:World}{c:Cx}(hr:RelsC m ρ a w c){x:Operand}{id:Nat}{es:List (List Int×SV)}(h:mwOf m (ρ x)=some (id,es)):
 ∃b arr,a.eval x= .map (some b)/\c.H id= .map (some b)/\m.ob id=some (.mw es)/\m.U id/\inUL m.U (es.map (·.2))/\all2 es=true/\(getObj b).run P w= .ok (.map arr es.length) w/\w.heap[b]? =some (.map arr es.length)/\arr.size=es.length/\
  ∀(i:Nat)(k:List Int)(s:SV)(m:MapEntry),es[i]? =some (k,s)->arr[i]? =some m->m.key=keyV k/\m.born=i/\SRel c w s m.val:=by
 obtain⟨h1,h2,h3⟩:=mwOf_spec h
 have hx:=hr.op x
 rw[h1] at hx
 have hx:=srel_os hx
 obtain⟨u1,u2,b,arr,q1,q2,q3,q4,q5⟩:=hr.ox.objs id _ h2
 exact⟨b,arr,hx.trans q1,q1,h2,u1,u2,h3,by simp[getObj,Sem.run,q3],q3,q4,q5⟩
theorem eMwLook_ok {o:Oper}{m:Mem}{ρ:Operand->SV}{k:Nat}{t:TypeId}{x y:Operand}{R:ERes}(he:o.op= .lookup t x y false)(h:eMwLook P m t (ρ x) (ρ y)=some R):EffR P o m ρ k R:=by
 unfold eMwLook at h
 split at h
 rotate_left
 ·cases h
 rename_i id es ka kb et hm hk2 ht
 obtain⟨kt,hu,hkt⟩:=mapTy2_spec ht
 have main:∀(r:SV),(match findW ka kb es 0 with|some (_,s)=>s=r|none=>nilZ P et=true/\r=nilW)->R=⟨[],[],r,[],0⟩->EffR P o m ρ k R:=by
  intro r hfr hR
  refine pure_ok (R':=⟨[],[],r⟩) hR λa w c hr _=> ?_
  obtain⟨b,arr,g1,g2,g3,g4,g5,g6,g7,g8,g9,g10⟩:=mw_at (P:=P) hr hm
  have gk:=k2Of_rel hk2 (hr.op y)
  have hcb:∀q,(Instr.checkKey q 10000 kt (k2V ka kb)).run P w= .ok () w:=λq=>check2 hkt q 9998 ka kb w
  rcases key2 (c:=c) (w:=w) hkt ka kb arr.toList es (by simpa using g9) g6 (λi k s m hi hm=>⟨(g10 i k s m hi (by simpa using hm)).1,(g10 i k s m hi (by simpa using hm)).2.2⟩) with⟨i,s,e,q1,q2,q3,q4,q5,q6⟩|⟨q1,q2⟩
  ·rw[q1] at hfr
   have hfr:s=r:=hfr
   subst hfr
   exact⟨e.val,by simp[execOp,he,Instr.lookup,run_underlying hu,g1,gk,g7,hcb,q6],q5,inUL_get g5 (by rw[List.getElem?_map,q4];rfl),trivial⟩
  ·rw[q1] at hfr
   obtain⟨hz,rfl⟩:=hfr
   exact⟨.slice none 0 0,by simp[execOp,he,Instr.lookup,run_underlying hu,g1,gk,g7,hcb,q2,nilZ_run hz],v_srel _,trivial,trivial⟩
 split at h
 ·rename_i i s hf
  injection h with h
  exact main s (by rw[hf]) h.symm
 ·rename_i hf
  cases hz:nilZ P et with
  |false=>rw[hz] at h;cases h
  |true=>
   rw[hz] at h
   injection h with h
   exact main nilW (by rw[hf];exact⟨hz,rfl⟩) h.symm
def okW:SV->Bool
 | .os _=>true
 | .d (.v _)=>true
 | .d (.sl _ _)=>true
 |_=>false
def eMwUpd (P:Program)(m:Mem)(t:TypeId)(x k y:SV):Option ERes:=match mwOf m x,k2Of k,mapTy2 P t with
 |some (id,es),some (a,b),some _=>bif okW y then match findW a b es 0 with
  |some (i,_)=>some ⟨[],[],.un,[(id,some (.mw (es.set i ([a,b],y))))],0⟩
  |none=>some ⟨[],[],.un,[(id,some (.mw (es++[([a,b],y)])))],0⟩ else none
 |_,_,_=>none
theorem keyStays (a b:Int)(w:World):(Instr.keyThatStays (k2V a b) (k2V a b)).run P w= .ok (k2V a b) w:=by
 have:Instr.sameBits 10000 (k2V a b) (k2V a b)=true:=by
  show Instr.sameBits (9998+1+1) _ _=true
  simp[k2V,Instr.sameBits]
 simp[Instr.keyThatStays,this]
theorem mw_set {c:Cx}{w:World}{es:List (List Int×SV)}{arr:Array MapEntry}(hl:arr.size=es.length)(hr:∀(i:Nat)(k:List Int)(s:SV)(m:MapEntry),es[i]? =some (k,s)->arr[i]? =some m->m.key=keyV k/\m.born=i/\SRel c w s m.val)
 {i:Nat} {k:List Int} {s0 s:SV} {v:Value} (hi:es[i]? =some (k,s0)) (hv:SRel c w s v):
 ∀(q:Nat)(k':List Int)(s':SV)(m':MapEntry),(es.set i (k,s))[q]? =some (k',s')->(arr.modify i λe=>{e with val:=v})[q]? =some m'->m'.key=keyV k'/\m'.born=q/\SRel c w s' m'.val:=by
 intro q k' s' m' hq hm
 rw[Array.getElem?_modify] at hm
 rw[List.getElem?_set] at hq
 by_cases e:i=q
 ·subst e
  have hil:i<es.length:=(List.getElem?_eq_some_iff.1 hi).1
  rw[if_pos rfl,if_pos hil] at hq
  rw[if_pos rfl] at hm
  injection hq with hq
  injection hq with e1 e2
  subst e1 e2
  rw[Option.map_eq_some_iff] at hm
  obtain⟨m0,h0,rfl⟩:=hm
  obtain⟨q1,q2,_⟩:=hr i k s0 m0 hi h0
  exact⟨q1,q2,hv⟩
 ·rw[if_neg e] at hq hm
  exact hr q k' s' m' hq hm
theorem mw_push {c:Cx}{w:World}{es:List (List Int×SV)}{arr:Array MapEntry}(hl:arr.size=es.length)(hr:∀(i:Nat)(k:List Int)(s:SV)(m:MapEntry),es[i]? =some (k,s)->arr[i]? =some m->m.key=keyV k/\m.born=i/\SRel c w s m.val)
 {k:List Int} {s:SV} {v:Value} (hv:SRel c w s v):
 ∀(q:Nat)(k':List Int)(s':SV)(m':MapEntry),(es++[(k,s)])[q]? =some (k',s')->(arr.push {key:=keyV k,val:=v,born:=es.length})[q]? =some m'->m'.key=keyV k'/\m'.born=q/\SRel c w s' m'.val:=by
 intro q k' s' m' hq hm
 rw[Array.getElem?_push] at hm
 by_cases e:q=es.length
 ·subst e
  rw[if_pos hl.symm] at hm
  rw[List.getElem?_append_right (Nat.le_refl _),Nat.sub_self] at hq
  simp at hq
  obtain⟨rfl,rfl⟩:=hq
  injection hm with hm
  subst hm
  exact⟨rfl,rfl,hv⟩
 ·rw[if_neg (by omega)] at hm
  have hql:q<es.length:=by
   have:=(Array.getElem?_eq_some_iff.1 hm).1
   omega
  rw[List.getElem?_append_left hql] at hq
  exact hr q k' s' m' hq hm
theorem inUL_app {U:Nat->Prop}{l r:List SV}(h1:inUL U l)(h2:inUL U r):inUL U (l++r):=inUL_of λi s hs=>by
 by_cases e:i<l.length
 ·rw[List.getElem?_append_left e] at hs;exact inUL_get h1 hs
 ·rw[List.getElem?_append_right (by omega)] at hs;exact inUL_get h2 hs
theorem inUL_setW {U:Nat->Prop}{es:List (List Int×SV)}{i:Nat}{k:List Int}{s:SV}(h1:inUL U (es.map (·.2)))(h2:s.inU U):inUL U ((es.set i (k,s)).map (·.2)):=inUL_of λq x hx=>by
 rw[List.getElem?_map,List.getElem?_set] at hx
 split at hx
 ·split at hx
  ·simp at hx;subst hx;exact h2
  ·cases hx
 ·exact inUL_get h1 (by rw[List.getElem?_map];exact hx)
theorem fin0 {m:Mem}{U:Nat->Prop}(id:Nat)(x:Ob):ovr m.ob [(id,some x)]=put m.ob id (some x):=by rw[ovr_cons,ovr_nil]
theorem eMwUpd_ok {o:Oper}{m:Mem}{ρ:Operand->SV}{k:Nat}{t:TypeId}{x z y:Operand}{R:ERes}(he:o.op= .mapUpdate t x z y)(h:eMwUpd P m t (ρ x) (ρ z) (ρ y)=some R):EffR P o m ρ k R:=by
 intro a w c hr hk hp K Q hK
 unfold eMwUpd at h
 split at h
 rotate_left
 ·cases h
 rename_i id es ka kb et hm hk2 ht
 obtain⟨kt,hu,hkt⟩:=mapTy2_spec ht
 cases hy:okW (ρ y) with
 |false=>rw[hy] at h;cases h
 |true=>
 rw[hy] at h
 simp only[cond_true] at h
 obtain⟨b,arr,g1,g2,g3,g4,g5,g6,g7,g8,g9,g10⟩:=mw_at (P:=P) hr hm
 have gk:=k2Of_rel hk2 (hr.op z)
 have hcb:∀q,(Instr.checkKey q 10000 kt (k2V ka kb)).run P w= .ok () w:=λq=>check2 hkt q 9998 ka kb w
 have hset:∀ob',(setObj b ob').run P w= .ok () {w with heap:=w.heap.setIfInBounds b ob'}:=λob'=>by simp[setObj,Sem.run,g8]
 rcases key2 (c:=c) (w:=w) hkt ka kb arr.toList es (by simpa using g9) g6 (λi k s m hi hm=>⟨(g10 i k s m hi (by simpa using hm)).1,(g10 i k s m hi (by simpa using hm)).2.2⟩) with⟨i,s,e,q1,q2,q3,q4,q5,q6⟩|⟨q1,q2⟩
 ·rw[q1] at h
  injection h with h
  subst h
  have q2':arr[i]? =some e:=by simpa using q2
  obtain⟨r1,r2⟩:=hr.ox.mwPut (es':=es.set i ([ka,kb],ρ y)) (arr':=arr.modify i λe=>{e with val:=a.eval y}) g3 g2 (by simp[g9]) (mw_set g9 g10 q4 (hr.op y)) (inUL_setW g5 (hr.iu y))
  have hl:(es.set i ([ka,kb],ρ y)).length=es.length:=List.length_set ..
  rw[hl] at r1 r2
  have hmod:(arr.modify i λe=>{e with key:=k2V ka kb,val:=a.eval y})=arr.modify i λe=>{e with val:=a.eval y}:=by
   apply Array.ext_getElem?
   intro j
   rw[Array.getElem?_modify,Array.getElem?_modify]
   by_cases ej:i=j
   ·subst ej
    rw[if_pos rfl,if_pos rfl,q2']
    simp[<-q3]
   ·rw[if_neg ej,if_neg ej]
  refine wp_skip' (w':={w with heap:=w.heap.setIfInBounds b (.map (arr.modify i λe=>{e with val:=a.eval y}) es.length)}) (by simp[execOp,he,Instr.mapUpdate,run_underlying hu,g1,gk,g7,hcb,q6,q2',q3,keyStays,hset,hmod]) (hK _ c _ ?_ ?_ (.un _) trivial trivial)
  ·show OX (ovr m.ob [_]) (addN m.U k 0) _ _ _
   rw[fin0 (U:=m.U),addN_zero];exact r1
  ·show Tr _ _ _ _ (ovr m.ob [_]) (addN m.U k 0) _ _
   rw[fin0 (U:=m.U),addN_zero];exact r2
 ·rw[q1] at h
  injection h with h
  subst h
  have hps:=mw_push (k:=[ka,kb]) g9 g10 (hr.op y)
  rw[k2_eq] at hps
  obtain⟨r1,r2⟩:=hr.ox.mwPut (es':=es++[([ka,kb],ρ y)]) (arr':=arr.push {key:=k2V ka kb,val:=a.eval y,born:=es.length}) g3 g2 (by simp[g9]) hps (by
   rw[List.map_append]
   exact inUL_app g5 ⟨hr.iu y,trivial⟩)
  have hl:(es++[([ka,kb],ρ y)]).length=es.length+1:=by simp
  rw[hl] at r1 r2
  refine wp_skip' (w':={w with heap:=w.heap.setIfInBounds b (.map (arr.push {key:=k2V ka kb,val:=a.eval y,born:=es.length}) (es.length+1))}) (by simp[execOp,he,Instr.mapUpdate,run_underlying hu,g1,gk,g7,hcb,q2,hset]) (hK _ c _ ?_ ?_ (.un _) trivial trivial)
  ·show OX (ovr m.ob [_]) (addN m.U k 0) _ _ _
   rw[fin0 (U:=m.U),addN_zero];exact r1
  ·show Tr _ _ _ _ (ovr m.ob [_]) (addN m.U k 0) _ _
   rw[fin0 (U:=m.U),addN_zero];exact r2
def stampW (i:Nat):SV:= .d (.v (.int .i64 (i:Int)))
def eMwEnt (P:Program)(m:Mem)(t:TypeId)(x k:SV):Option ERes:=match mwOf m x,k2Of k,mapTy2 P t with
 |some (id,es),some (a,b),some et=>match findW a b es 0 with
  |some (i,s)=>some ⟨[],[],.tup [s,stampW i],[(id,some (.mw es))],0⟩
  |none=>bif nilZ P et then some ⟨[],[],.tup [nilW,stampW es.length],[(id,some (.mw (es++[([a,b],nilW)])))],0⟩ else none
 |_,_,_=>none
theorem eMwEnt_ok {o:Oper}{m:Mem}{ρ:Operand->SV}{k:Nat}{t:TypeId}{x z:Operand}{R:ERes}(he:o.op= .mapEntry t x z)(h:eMwEnt P m t (ρ x) (ρ z)=some R):EffR P o m ρ k R:=by
 intro a w c hr hk hp K Q hK
 unfold eMwEnt at h
 split at h
 rotate_left
 ·cases h
 rename_i id es ka kb et hm hk2 ht
 obtain⟨kt,hu,hkt⟩:=mapTy2_spec ht
 obtain⟨b,arr,g1,g2,g3,g4,g5,g6,g7,g8,g9,g10⟩:=mw_at (P:=P) hr hm
 have gk:=k2Of_rel hk2 (hr.op z)
 have hcb:∀q,(Instr.checkKey q 10000 kt (k2V ka kb)).run P w= .ok () w:=λq=>check2 hkt q 9998 ka kb w
 have hset:∀ob',(setObj b ob').run P w= .ok () {w with heap:=w.heap.setIfInBounds b ob'}:=λob'=>by simp[setObj,Sem.run,g8]
 have tup:∀{s:SV}{u:Value}{n:Nat}{w':World},SRel c w' s u->SRel c w' (.tup [s,stampW n]) (.tuple #[u,.int .i64 (n:Int)]):=λ{s u n w'} hs=> .tup _ [u,.int .i64 (n:Int)] rfl λi s' u' h1 h2=>by
  match i,h1,h2 with
  |0,h1,h2=>cases h1;cases h2;exact hs
  |1,h1,h2=>cases h1;cases h2;exact v_srel _
  |i+2,h1,h2=>cases h1
 rcases key2 (c:=c) (w:=w) hkt ka kb arr.toList es (by simpa using g9) g6 (λi k s m hi hm=>⟨(g10 i k s m hi (by simpa using hm)).1,(g10 i k s m hi (by simpa using hm)).2.2⟩) with⟨i,s,e,q1,q2,q3,q4,q5,q6⟩|⟨q1,q2⟩
 ·rw[q1] at h
  injection h with h
  subst h
  have q2':arr[i]? =some e:=by simpa using q2
  have hborn:e.born=i:=(g10 i _ s e q4 q2').2.1
  obtain⟨r1,r2⟩:=hr.ox.mwPut (es':=es) (arr':=arr) g3 g2 g9 g10 g5
  have hmod:(arr.modify i λe=>{e with key:=k2V ka kb})=arr:=by
   apply Array.ext_getElem?
   intro j
   rw[Array.getElem?_modify]
   by_cases ej:i=j
   ·subst ej
    rw[if_pos rfl,q2']
    simp[<-q3]
   ·rw[if_neg ej]
  have hsU:s.inU m.U:=inUL_get g5 (by rw[List.getElem?_map,q4];rfl)
  refine wp_value (v:= .tuple #[e.val,.int .i64 (i:Int)]) (w':={w with heap:=w.heap.setIfInBounds b (.map arr es.length)}) (by simp[execOp,he,Instr.mapEntry,run_underlying hu,g1,gk,g7,hcb,q6,q2',q3,keyStays,hset,hmod,hborn,goInt]) (hK _ c _ ?_ ?_ (tup (r2.srel hr.ox q5 hsU)) ⟨SV.inU_mono (λ_ h=> .inl h) _ hsU,trivial,trivial⟩ trivial)
  ·show OX (ovr m.ob [_]) (addN m.U k 0) _ _ _
   rw[fin0 (U:=m.U),addN_zero];exact r1
  ·show Tr _ _ _ _ (ovr m.ob [_]) (addN m.U k 0) _ _
   rw[fin0 (U:=m.U),addN_zero];exact r2
 ·rw[q1] at h
  cases hz:nilZ P et with
  |false=>rw[hz] at h;cases h
  |true=>
  rw[hz] at h
  injection h with h
  subst h
  have hps:=mw_push (k:=[ka,kb]) (s:=nilW) (v:= .slice none 0 0) g9 g10 (v_srel _)
  rw[k2_eq] at hps
  obtain⟨r1,r2⟩:=hr.ox.mwPut (es':=es++[([ka,kb],nilW)]) (arr':=arr.push {key:=k2V ka kb,val:= .slice none 0 0,born:=es.length}) g3 g2 (by simp[g9]) hps (by
   rw[List.map_append]
   exact inUL_app g5 ⟨trivial,trivial⟩)
  have hl:(es++[([ka,kb],nilW)]).length=es.length+1:=by simp
  rw[hl] at r1 r2
  refine wp_value (v:= .tuple #[.slice none 0 0,.int .i64 (es.length:Int)]) (w':={w with heap:=w.heap.setIfInBounds b (.map (arr.push {key:=k2V ka kb,val:= .slice none 0 0,born:=es.length}) (es.length+1))}) (by simp[execOp,he,Instr.mapEntry,run_underlying hu,g1,gk,g7,hcb,q2,hset,nilZ_run hz,goInt]) (hK _ c _ ?_ ?_ (tup (v_srel _)) ⟨trivial,trivial,trivial⟩ trivial)
  ·show OX (ovr m.ob [_]) (addN m.U k 0) _ _ _
   rw[fin0 (U:=m.U),addN_zero];exact r1
  ·show Tr _ _ _ _ (ovr m.ob [_]) (addN m.U k 0) _ _
   rw[fin0 (U:=m.U),addN_zero];exact r2
def eMwES (m:Mem)(x z y:SV):Option ERes:=match mwOf m x,z with
 |some (id,es),.d (.v (.int .i64 (.ofNat i)))=>bif okW y then match es[i]? with
  |some (k,_)=>some ⟨[],[],.un,[(id,some (.mw (es.set i (k,y))))],0⟩
  |none=>none else none
 |_,_=>none
theorem eMwES_ok {o:Oper}{m:Mem}{ρ:Operand->SV}{k:Nat}{t:TypeId}{x z y:Operand}{R:ERes}(he:o.op= .entryStore t x z y)(h:eMwES m (ρ x) (ρ z) (ρ y)=some R):EffR P o m ρ k R:=by
 intro a w c hr hk hp K Q hK
 unfold eMwES at h
 split at h
 rotate_left
 ·cases h
 rename_i id es i hm hz
 cases hy:okW (ρ y) with
 |false=>rw[hy] at h;cases h
 |true=>
 rw[hy] at h
 simp only[cond_true] at h
 split at h
 rotate_left
 ·cases h
 rename_i ky s0 hi
 injection h with h
 subst h
 obtain⟨b,arr,g1,g2,g3,g4,g5,g6,g7,g8,g9,g10⟩:=mw_at (P:=P) hr hm
 have gz:a.eval z= .int .i64 (Int.ofNat i):=by
  have:=hr.op z
  rw[hz] at this
  exact srel_v this
 have hil:i<es.length:=(List.getElem?_eq_some_iff.1 hi).1
 have hset:∀ob',(setObj b ob').run P w= .ok () {w with heap:=w.heap.setIfInBounds b ob'}:=λob'=>by simp[setObj,Sem.run,g8]
 have hborn:∀(j:Nat)(e:MapEntry),arr[j]? =some e->e.born=j:=λj e he=>by
  have hj:j<es.length:=by have:=(Array.getElem?_eq_some_iff.1 he).1;omega
  exact (g10 j es[j].1 es[j].2 e (List.getElem?_eq_getElem hj) he).2.1
 have hfi:arr.findIdx? (λ(e:MapEntry)=>(e.born:Int)==Int.ofNat i)=some i:=by
  rw[Array.findIdx?_eq_some_iff_getElem]
  refine⟨by omega,?_,λj hj=> ?_⟩
  ·have:=hborn i arr[i] (Array.getElem?_eq_getElem (by omega))
   rw[this];simp
  ·have:=hborn j arr[j] (Array.getElem?_eq_getElem (by omega))
   rw[this]
   simp
   omega
 obtain⟨r1,r2⟩:=hr.ox.mwPut (es':=es.set i (ky,ρ y)) (arr':=arr.modify i λe=>{e with val:=a.eval y}) g3 g2 (by simp[g9]) (mw_set g9 g10 hi (hr.op y)) (inUL_setW g5 (hr.iu y))
 have hl:(es.set i (ky,ρ y)).length=es.length:=List.length_set ..
 rw[hl] at r1 r2
 refine wp_skip' (w':={w with heap:=w.heap.setIfInBounds b (.map (arr.modify i λe=>{e with val:=a.eval y}) es.length)}) (by
  have hai:(asInt (a.eval z)).run P w= .ok (Int.ofNat i) w:=by rw[gz];simp[asInt,asIntOf]
  simp only[execOp,he,Instr.entryStore,g1,Sem.run_bind,g7,Result.andThen_ok,hai,hfi,hset]
  rfl) (hK _ c _ ?_ ?_ (.un _) trivial trivial)
 ·show OX (ovr m.ob [_]) (addN m.U k 0) _ _ _
  rw[fin0 (U:=m.U),addN_zero];exact r1
 ·show Tr _ _ _ _ (ovr m.ob [_]) (addN m.U k 0) _ _
  rw[fin0 (U:=m.U),addN_zero];exact r2
def eMkSl (P:Program)(τ:TypeId->Option Ty)(k:Nat)(t:TypeId)(x y:SV):Option ERes:=match x,y with
 | .d (.v (.int .i64 (.ofNat n))),.d (.v (.int .i64 (.ofNat n')))=>match elemOf P t with
  |some e=>match τ e,zeroOf P e,P.info? e with
   |some ty,some zs,some i=>match dec ty (zs.map D.v) with
    |some y=>bif Nat.beq n n'&&Nat.beq (tsz P e) (size ty)&&Nat.ble 1 (size ty)&&Nat.ble n 100000&&Nat.ble i.bytes 1000&&Nat.beq zs.length (size ty) then some ⟨[],[],.os k,[(k,some (.row e ty (List.replicate n y)))],1⟩ else none
    |none=>none
   |_,_,_=>none
  |none=>none
 |_,_=>none
theorem run_mkSl {t e:TypeId}{i:TypeInfo}{z:Value}(hu:P.underlying t=some (.slice e))(hi:P.info? e=some i)(hz:i.zero=some z){n:Nat}(hn:n<=100000)(hb:i.bytes<=1000)(hs:z.cells.size=i.size)(h1:1<=i.size)(w:World):
 ∃arr:Array Value,(Instr.makeSlice t (.int .i64 (n:Int)) (.int .i64 (n:Int))).run P w= .ok (.slice (some ⟨w.heap.size,0,none⟩) n n) (w.alloc (.cells arr e))/\arr.size=n * i.size/\∀(q j:Nat),q<n->j<i.size->arr[q * i.size+j]? =z.cells[j]? :=by
 have hw:IntKind.i64.wrap (n:Int)=n:=IntWalk.i64_in _ (by omega)
 have hmul:i.bytes * n<=1000 * 100000:=Nat.mul_le_mul hb hn
 have hbn:((i.bytes:Int) * (n:Int))<=100000000:=by
  have:((i.bytes * n:Nat):Int)<=((1000 * 100000:Nat):Int):=Int.ofNat_le.2 hmul
  rw[Int.natCast_mul] at this
  simpa using this
 have hroom:¬(n * i.bytes>roomBytes):=by
  rw[Nat.mul_comm]
  unfold roomBytes
  omega
 refine⟨(Array.range (n * i.size)).map (λq=>(if n * i.size=0 then (#[]:Array Value) else z.cells)[q % (if n * i.size=0 then (#[]:Array Value) else z.cells).size]!),?_,by simp,λq j hq hj=> ?_⟩
 ·have hlt:¬((281474976710656:Int)<(i.bytes:Int) * (n:Int)):=by omega
  by_cases h0:n * i.size=0
  ·simp[Instr.makeSlice,run_underlying hu,typeInfo,hi,asInt,asIntOf,hw,hlt,askRoom,sizeOf,h0,Go.newRow]
   exact λhh=>absurd hh (by omega)
  ·simp[Instr.makeSlice,run_underlying hu,typeInfo,hi,asInt,asIntOf,hw,hlt,askRoom,sizeOf,h0,zeroValue,hz,Go.newRow]
   exact λhh=>absurd hh (by omega)
 ·have hpos:q * i.size+j<n * i.size:=by
   have a1:(q+1) * i.size<=n * i.size:=Nat.mul_le_mul_right _ (by omega)
   have a2:(q+1) * i.size=q * i.size+i.size:=Nat.succ_mul _ _
   omega
  have h0:¬n * i.size=0:=by omega
  rw[Array.getElem?_map,Array.getElem?_range,if_pos hpos]
  simp only[Option.map_some,if_neg h0,hs]
  have:(q * i.size+j) % i.size=j:=by rw[Nat.mul_comm,Nat.mul_add_mod];exact Nat.mod_eq_of_lt hj
  rw[this]
  have hjl:j<z.cells.size:=by omega
  rw[getElem!_pos z.cells j hjl,Array.getElem?_eq_getElem hjl]
theorem eMkSl_ok {τ:TypeId->Option Ty}{o:Oper}{m:Mem}{ρ:Operand->SV}{k:Nat}{t:TypeId}{x y:Operand}{R:ERes}(he:o.op= .makeSlice t x y)(h:eMkSl P τ k t (ρ x) (ρ y)=some R):EffR P o m ρ k R:=by
 intro a w c hr hk hp K Q hK
 unfold eMkSl at h
 split at h
 rotate_left
 ·cases h
 rename_i n n' hx hy
 split at h
 rotate_left
 ·cases h
 rename_i e hel
 split at h
 rotate_left
 ·cases h
 rename_i ty zs i hty hzs hi
 split at h
 rotate_left
 ·cases h
 rename_i yv hdec
 generalize hck:(_&&_)=ck at h
 cases ck with
 |false=>cases h
 |true=>
 injection h with h
 subst h
 simp only[Bool.and_eq_true] at hck
 obtain⟨⟨⟨⟨⟨b0,b1⟩,b2⟩,b3⟩,b4⟩,b5⟩:=hck
 have b0:=beq_eq b0
 have b1:=beq_eq b1
 have b2:=Nat.le_of_ble_eq_true b2
 have b3:=Nat.le_of_ble_eq_true b3
 have b4:=Nat.le_of_ble_eq_true b4
 have b5:=beq_eq b5
 subst b0
 obtain⟨i1,hu,hi1,hs1⟩:=elemOf_spec hel
 rw[hi] at hi1
 injection hi1 with hi1
 subst hi1
 obtain⟨i2,z,hi2,hz,hzc,h1⟩:=zeroOf_spec hzs
 rw[hi] at hi2
 injection hi2 with hi2
 subst hi2
 have hsz:i.size=size ty:=hs1.trans b1
 have hzl:z.cells.size=i.size:=by rw[hsz,<-b5,<-hzc];simp
 have ex:a.eval x= .int .i64 (n:Int):=by
  have:=hr.op x
  rw[hx] at this
  exact srel_v this
 have ey:a.eval y= .int .i64 (n:Int):=by
  have:=hr.op y
  rw[hy] at this
  exact srel_v this
 obtain⟨arr,r1,r2,r3⟩:=run_mkSl (P:=P) hu hi hz b3 b4 hzl (by omega) w
 obtain⟨y1,y2⟩:=dec_rd hdec
 have hk':¬m.U k:=hk k (Nat.le_refl _) (by show k<k+1;omega)
 have hne:∀i,m.U i->i≠k:=λi hi e=>hk' (e ▸ hi)
 obtain⟨w',hw'⟩:∃w',w'=w.alloc (.cells arr e):=⟨_,rfl⟩
 have hkeep:∀b,b<w.heap.size->w'.heap[b]? =w.heap[b]? :=λb hb=>by rw[hw'];exact heap_alloc_old w _ hb
 obtain⟨v,hv⟩:∃v,v=Value.slice (some ⟨w.heap.size,0,none⟩) n n:=⟨_,rfl⟩
 have hrow:RowAt w' c.S v (·=w.heap.size) e ty (List.replicate n yv):=by
  refine⟨b2,.inr ⟨w.heap.size,n,arr,by rw[hv,List.length_replicate],λ_=>Iff.rfl,by rw[hw'];exact heap_alloc_new w _,by rw[List.length_replicate];exact Nat.le_refl _,by simp only[maxLen];omega,by rw[r2,hsz],λq x hq j d hd=> ?_⟩⟩
  rw[List.getElem?_replicate] at hq
  split at hq
  rotate_left
  ·cases hq
  rename_i hqn
  injection hq with hq
  subst hq
  have hjl:j<size ty:=enc_lt hd
  have hzj:j<zs.length:=by omega
  have e1:z.cells[j]? =some zs[j]:=by
   have:z.cells.toList[j]? =some zs[j]:=by rw[hzc];exact List.getElem?_eq_getElem hzj
   simpa using this
  refine⟨zs[j],?_,h1 _ (List.getElem_mem hzj),?_⟩
  ·rw[<-hsz,r3 q j hqn (by omega),e1]
  ·exact y2 j d (D.v zs[j]) hd (by rw[List.getElem?_map,List.getElem?_eq_getElem hzj];rfl) (.v _)
 obtain⟨q1,q2⟩:=hr.ox.upd (ob':=put m.ob k (some (.row e ty (List.replicate n yv)))) (U':=addU m.U k) (w':=w') (c':=⟨c.S,put c.H k v,put c.F k (·=w.heap.size),c.T⟩) k (.row e ty (List.replicate n yv)) (λi=>i≠k)
  (λ_ h=> .inl h) (.inr rfl) (put_same _ _ _) (λi y hi e=>by rw[put_ne _ _ e] at hi;exact⟨e,hi⟩) (λe=>e rfl) (λi hi=>⟨put_ne _ _ (hne i hi),put_ne _ _ (hne i hi)⟩) (λ_ _ h=>h) (λ_ _ h=> .inl h) (λb o' hb=>by rw[hw'];exact Nat.lt_of_lt_of_le (hr.ox.sb b o' hb) (by simp))
  rfl (by rw[hw'];rfl) (by rw[hw'];rfl) (by rw[hw'];rfl) (by rw[hw'];simp) (λb hb _=>hkeep b hb) (by
   show RowAt w' c.S (put c.H k v k) (put c.F k (·=w.heap.size) k) e ty _
   rw[put_same,put_same];exact hrow) trivial (λ_ b hb=>by
   have hb:put c.F k (·=w.heap.size) k b:=hb
   rw[put_same] at hb
   exact .inr (Nat.le_of_eq hb.symm)) (λ_ b hb=>by
   have hb:put c.F k (·=w.heap.size) k b:=hb
   rw[put_same] at hb
   subst hb
   rw[hw']
   exact⟨by simp,λo' ho=>by have:=hr.ox.sb _ _ ho;omega⟩)
 subst hw'
 refine wp_value (v:=v) (w':=w.alloc (.cells arr e)) (by rw[hv];simp only[execOp,he,ex,ey,Sem.run_bind,r1,Result.andThen_ok];rfl) (hK _ ⟨c.S,put c.H k v,put c.F k (·=w.heap.size),c.T⟩ _ ?_ ?_ ?_ (.inr ⟨Nat.le_refl _,by show k<k+1;omega⟩) trivial)
 ·show OX (ovr m.ob [_]) (addN m.U k 1) _ _ _
  rw[ovr_cons,ovr_nil,addN_one];exact q1
 ·show Tr _ _ _ _ (ovr m.ob [_]) (addN m.U k 1) _ _
  rw[ovr_cons,ovr_nil,addN_one];exact q2
 ·have:=SRel.os (c:=⟨c.S,put c.H k v,put c.F k (·=w.heap.size),c.T⟩) (w:=w.alloc (.cells arr e)) k
  dsimp only at this
  rw[put_same] at this
  exact this
def eRange (P:Program)(k:Nat)(t:TypeId):SV->Option ERes
 | .d (.v (.string s))=>bif isStrT P t then some ⟨[],[],.bx k 0,[(k,some (.it s 0))],1⟩ else none
 |_=>none
theorem eRange_ok {o:Oper}{m:Mem}{ρ:Operand->SV}{k:Nat}{t:TypeId}{x:Operand}{R:ERes}(he:o.op= .range t x)(h:eRange P k t (ρ x)=some R):EffR P o m ρ k R:=by
 intro a w c hr hk hp K Q hK
 unfold eRange at h
 split at h
 rotate_left
 ·cases h
 rename_i s hx
 cases hs:isStrT P t with
 |false=>rw[hs] at h;cases h
 |true=>
 rw[hs] at h
 injection h with h
 subst h
 have hu:=isStrT_spec hs
 have ex:a.eval x= .string s:=by
  have:=hr.op x
  rw[hx] at this
  exact srel_v this
 have hk':¬m.U k:=hk k (Nat.le_refl _) (by show k<k+1;omega)
 have hne:∀i,m.U i->i≠k:=λi hi e=>hk' (e ▸ hi)
 obtain⟨w',hw'⟩:∃w',w'=w.alloc (.stringIter s 0):=⟨_,rfl⟩
 have hkeep:∀b,b<w.heap.size->w'.heap[b]? =w.heap[b]? :=λb hb=>by rw[hw'];exact heap_alloc_old w _ hb
 obtain⟨v,hv⟩:∃v,v=Value.pointer (some ⟨w.heap.size,0,none⟩):=⟨_,rfl⟩
 obtain⟨q1,q2⟩:=hr.ox.upd (ob':=put m.ob k (some (.it s 0))) (U':=addU m.U k) (w':=w') (c':=⟨c.S,put c.H k v,put c.F k (·=w.heap.size),c.T⟩) k (.it s 0) (λi=>i≠k)
  (λ_ h=> .inl h) (.inr rfl) (put_same _ _ _) (λi y hi e=>by rw[put_ne _ _ e] at hi;exact⟨e,hi⟩) (λe=>e rfl) (λi hi=>⟨put_ne _ _ (hne i hi),put_ne _ _ (hne i hi)⟩) (λ_ _ h=>h) (λ_ _ h=> .inl h) (λb o' hb=>by rw[hw'];exact Nat.lt_of_lt_of_le (hr.ox.sb b o' hb) (by simp))
  rfl (by rw[hw'];rfl) (by rw[hw'];rfl) (by rw[hw'];rfl) (by rw[hw'];simp) (λb hb _=>hkeep b hb) (by
   show ItAt w' (put c.H k v k) (put c.F k (·=w.heap.size) k) s 0
   rw[put_same,put_same]
   exact⟨_,hv,λ_=>Iff.rfl,by rw[hw'];exact heap_alloc_new w _⟩) trivial (λ_ b hb=>by
   have hb:put c.F k (·=w.heap.size) k b:=hb
   rw[put_same] at hb
   exact .inr (Nat.le_of_eq hb.symm)) (λ_ b hb=>by
   have hb:put c.F k (·=w.heap.size) k b:=hb
   rw[put_same] at hb
   subst hb
   rw[hw']
   exact⟨by simp,λo' ho=>by have:=hr.ox.sb _ _ ho;omega⟩)
 subst hw'
 have hrun:(newObj (.stringIter s 0)).run P w= .ok w.heap.size (w.alloc (.stringIter s 0)):=rfl
 refine wp_value (v:=v) (w':=w.alloc (.stringIter s 0)) (by rw[hv];simp[execOp,he,ex,Instr.range,run_underlying hu]) (hK _ ⟨c.S,put c.H k v,put c.F k (·=w.heap.size),c.T⟩ _ ?_ ?_ ?_ (.inr ⟨Nat.le_refl _,by show k<k+1;omega⟩) trivial)
 ·show OX (ovr m.ob [_]) (addN m.U k 1) _ _ _
  rw[ovr_cons,ovr_nil,addN_one];exact q1
 ·show Tr _ _ _ _ (ovr m.ob [_]) (addN m.U k 1) _ _
  rw[ovr_cons,ovr_nil,addN_one];exact q2
 ·subst hv
  exact .bx k 0 _ (put_same _ _ _)
theorem OX.itPut {ob:Obs}{U:Nat->Prop}{tp:Bool}{w:World}{c:Cx}(h:OX ob U tp w c){id b:Nat}{s s':ByteArray}{p p':Nat}(hid:ob id=some (.it s p))(hb:c.H id= .pointer (some ⟨b,0,none⟩)):
 OX (put ob id (some (.it s' p'))) U tp {w with heap:=w.heap.setIfInBounds b (.stringIter s' p')} c/\Tr ob U w c (put ob id (some (.it s' p'))) U {w with heap:=w.heap.setIfInBounds b (.stringIter s' p')} c:=by
 obtain⟨hUid,_,b',e1,hF,hh⟩:=h.objs id _ hid
 rw[hb] at e1
 injection e1 with e1
 injection e1 with e1
 injection e1 with e1
 subst e1
 have hf:=h.fb id _ hid rfl b ((hF b).2 rfl)
 obtain⟨w',hwo⟩:∃w',w'=({w with heap:=w.heap.setIfInBounds b (.stringIter s' p')}:World):=⟨_,rfl⟩
 have hblk:∀k,k≠b->w'.heap[k]? =w.heap[k]? :=λk hk=>by rw[hwo];exact Array.getElem?_setIfInBounds_ne (Ne.symm hk)
 have hnew:w'.heap[b]? =some (.stringIter s' p'):=by
  rw[hwo]
  have:b<w.heap.size:=hf.1
  simp[this]
 have hsz':w'.heap.size=w.heap.size:=by rw[hwo];simp
 rw[<-hwo]
 exact h.upd id (.it s' p') (λi=>i≠id) (λ_ h=>h) hUid (put_same _ _ _) (λi y hi e=>⟨e,by rw[put_ne _ _ e] at hi;exact hi⟩) (λe=>e rfl) (λ_ _=>⟨rfl,rfl⟩) (λ_ _ h=>h) (λ_ _ h=> .inl h) (λb' o hb'=>by rw[hsz'];exact h.sb b' o hb') rfl (by rw[hwo]) (by rw[hwo]) (by rw[hwo]) (by rw[hsz'];exact Nat.le_refl _)
  (λk hk hn=>hblk k (λe=>hn id _ hid rfl (λe=>e rfl) (by rw[e];exact (hF b).2 rfl))) ⟨b,hb,hF,hnew⟩ trivial (λ_ k hk=> .inl ⟨id,_,hid,rfl,λe=>e rfl,hk⟩) (λ_ k hk=>by rw[hsz'];exact⟨(h.fb id _ hid rfl k hk).1,(h.fb id _ hid rfl k hk).2.1⟩)
def eNext (m:Mem):SV->Option ERes
 | .bx id 0=>match m.ob id with
  |some (.it s p)=>bif Nat.blt p s.size then some ⟨[],[],.tup [.d (.v (.bool true)),.d (.v (.int .i64 (p:Int))),.d (.v (.int .i32 (Utf8.decode s p).1))],[(id,some (.it s (p+(Utf8.decode s p).2)))],0⟩ else some ⟨[],[],.tup [.d (.v (.bool false))],[],0⟩
  |_=>none
 |_=>none
theorem eNext_ok {o:Oper}{m:Mem}{ρ:Operand->SV}{k:Nat}{x:Operand}{R:ERes}(he:o.op= .next x true)(h:eNext m (ρ x)=some R):EffR P o m ρ k R:=by
 intro a w c hr hk hp K Q hK
 unfold eNext at h
 split at h
 rotate_left
 ·cases h
 rename_i id hx
 split at h
 rotate_left
 ·cases h
 rename_i s p hob
 obtain⟨hU,_,b,g1,g2,g3⟩:=hr.ox.objs id _ hob
 have ex:a.eval x= .pointer (some ⟨b,0,none⟩):=by
  have:=hr.op x
  rw[hx] at this
  obtain⟨b',h1,h2⟩:=srel_bx this
  rw[g1] at h1
  injection h1 with h1
  injection h1 with h1
  injection h1 with h1
  subst h1
  exact h2
 have hget:(getObj b).run P w= .ok (.stringIter s p) w:=by simp[getObj,Sem.run,g3]
 have hset:∀ob',(setObj b ob').run P w= .ok () {w with heap:=w.heap.setIfInBounds b ob'}:=λob'=>by simp[setObj,Sem.run,g3]
 cases hb:Nat.blt p s.size with
 |true=>
  rw[hb] at h
  injection h with h
  subst h
  have hlt:p<s.size:=Nat.le_of_ble_eq_true hb
  obtain⟨r1,r2⟩:=hr.ox.itPut (s':=s) (p':=p+(Utf8.decode s p).2) hob g1
  refine wp_value (v:= .tuple #[.bool true,.int .i64 (p:Int),.int .i32 (Utf8.decode s p).1]) (w':={w with heap:=w.heap.setIfInBounds b (.stringIter s (p+(Utf8.decode s p).2))}) (by simp[execOp,he,ex,Instr.next,hget,hset,hlt,goInt]) (hK _ c _ ?_ ?_ ?_ ⟨trivial,trivial,trivial,trivial⟩ trivial)
  ·show OX (ovr m.ob [_]) (addN m.U k 0) _ _ _
   rw[fin0 (U:=m.U),addN_zero];exact r1
  ·show Tr _ _ _ _ (ovr m.ob [_]) (addN m.U k 0) _ _
   rw[fin0 (U:=m.U),addN_zero];exact r2
  ·refine .tup _ [.bool true,.int .i64 (p:Int),.int .i32 (Utf8.decode s p).1] rfl λi s' u' h1 h2=> ?_
   match i,h1,h2 with
   |0,h1,h2=>cases h1;cases h2;exact v_srel _
   |1,h1,h2=>cases h1;cases h2;exact v_srel _
   |2,h1,h2=>cases h1;cases h2;exact v_srel _
   |i+3,h1,h2=>cases h1
 |false=>
  rw[hb] at h
  injection h with h
  subst h
  have hlt:¬p<s.size:=λh=>by
   have:Nat.blt p s.size=true:=Nat.ble_eq_true_of_le h
   rw[hb] at this;cases this
  refine wp_value (v:= .tuple #[.bool false]) (w':=w) (by simp[execOp,he,ex,Instr.next,hget,hlt]) (hK _ c _ ?_ ?_ ?_ ⟨trivial,trivial⟩ trivial)
  ·show OX (ovr m.ob []) (addN m.U k 0) _ _ _
   rw[addN_zero];exact hr.ox
  ·show Tr _ _ _ _ (ovr m.ob []) (addN m.U k 0) _ _
   rw[addN_zero];exact .refl
  ·refine .tup _ [.bool false] rfl λi s' u' h1 h2=> ?_
   match i,h1,h2 with
   |0,h1,h2=>cases h1;cases h2;exact v_srel _
   |i+1,h1,h2=>cases h1
def eqSt (a b:ByteArray):Bool:=decide (a.data.toList=b.data.toList)
theorem eqSt_eq (a b:ByteArray):(a.toList==b.toList)=eqSt a b:=by
 unfold eqSt
 rw[ByteArray.toList_eq,ByteArray.toList_eq,Bool.eq_iff_iff]
 simp
def eStr (P:Program)(t:TypeId)(op:BinOp):SV->SV->Option SV
 | .d (.v (.string a)),.d (.v (.string b))=>bif P.eqGuardType P.depth t then none else match op with
  | .eql=>some (.d (.v (.bool (eqSt a b))))
  | .neq=>some (.d (.v (.bool (!(eqSt a b)))))
  |_=>none
 |_,_=>none
theorem eStr_ok {o:Oper}{m:Mem}{ρ:Operand->SV}{k:Nat}{op:BinOp}{t ty:TypeId}{x y:Operand}{r:SV}(he:o.op= .binOp op t x y ty)(h:eStr P t op (ρ x) (ρ y)=some r):EffR P o m ρ k ⟨[],[],r,[],0⟩:=by
 refine pure_ok (R':=⟨[],[],r⟩) rfl λa w c hr _=> ?_
 unfold eStr at h
 split at h
 rotate_left
 ·cases h
 rename_i s1 s2 hx hy
 have ex:a.eval x= .string s1:=by
  have:=hr.op x
  rw[hx] at this
  exact srel_v this
 have ey:a.eval y= .string s2:=by
  have:=hr.op y
  rw[hy] at this
  exact srel_v this
 cases hg:P.eqGuardType P.depth t with
 |true=>rw[hg] at h;cases h
 |false=>
 rw[hg] at h
 simp only[cond_false] at h
 split at h
 ·injection h with h
  subst h
  exact⟨.bool (eqSt s1 s2),by simp[execOp,he,ex,ey,eqGuard,binOp,Op.stringOp,eqSt_eq],v_srel _,trivial,trivial⟩
 ·injection h with h
  subst h
  exact⟨.bool (!(eqSt s1 s2)),by simp[execOp,he,ex,ey,eqGuard,binOp,Op.stringOp,eqSt_eq],v_srel _,trivial,trivial⟩
 ·cases h
def eMin (ρ:Operand->SV)(args:Array Operand):Option SV:=match args.toList with
 |[x,y]=>match ρ x,ρ y with
  | .d (.v (.int k a)),.d (.v (.int k' b))=>bif decide (k=k') then some (.d (.v (.int k (bif decide (b<a) then b else a)))) else none
  |_,_=>none
 |_=>none
theorem eMin_ok {o:Oper}{m:Mem}{ρ:Operand->SV}{k:Nat}{args:Array Operand}{tys:Array TypeId}{r:SV}(he:o.op= .call ⟨.builtin .min,args,tys⟩)(h:eMin ρ args=some r):EffR P o m ρ k ⟨[],[],r,[],0⟩:=by
 refine pure_ok (R':=⟨[],[],r⟩) rfl λa w c hr _=> ?_
 unfold eMin at h
 split at h
 rotate_left
 ·cases h
 rename_i x y ha
 split at h
 rotate_left
 ·cases h
 rename_i k1 z1 k2 z2 hx hy
 have ex:a.eval x= .int k1 z1:=by
  have:=hr.op x
  rw[hx] at this
  exact srel_v this
 have ey:a.eval y= .int k2 z2:=by
  have:=hr.op y
  rw[hy] at this
  exact srel_v this
 cases hk:decide (k1=k2) with
 |false=>rw[hk] at h;cases h
 |true=>
 rw[hk] at h
 injection h with h
 subst h
 have hk:=of_decide_eq_true hk
 subst hk
 have ha:=arr1 ha
 subst ha
 refine⟨.int k1 (bif decide (z2<z1) then z2 else z1),?_,v_srel _,trivial,trivial⟩
 by_cases hlt:z2<z1
 ·simp[execOp,he,ex,ey,resolve,invoke,builtin,Builtin.min_,Builtin.min2,hlt]
 ·simp[execOp,he,ex,ey,resolve,invoke,builtin,Builtin.min_,Builtin.min2,hlt]
def Cnd.b:Cnd->Bool
 | .pp _=>false
 | .inb n z=>decide (0<=z)&&decide (z<(n:Int))
 | .in2 z m y n=>(decide (0<=z)&&decide (z<m))&&(decide (0<=y)&&decide (y<(n:Int)))
 | .nn b=>decide (0<=b)
 | .ne b=>decide (b≠0)
 | .sub a b n=>decide (0<=a)&&(decide (a<=b)&&decide (b<=n))
 | .sx a lo hi n=>decide (a=0)&&(decide (0<=lo)&&(decide (lo<=hi)&&decide (hi<=(n:Int))))
 | .s3 lo hi mx n=>decide (0<=lo)&&(decide (lo<=hi)&&(decide (hi<=mx)&&decide (mx<=(n:Int))))
 | .fr a b a'=>decide (a=0)&&decide (b<=a')
 | .ap bs n m=>Nat.ble ((n+m) * bs) 140737488355328
theorem Cnd.b_ok:∀{c:Cnd},c.b=true->c.pr:=by
 intro c h
 cases c with
 |pp p=>cases h
 |ap bs n m=>exact Nat.le_of_ble_eq_true h
 |_=>simpa [Cnd.b,Cnd.pr] using h
theorem allB_ok:∀{l:List Cnd},l.all Cnd.b=true->allC l
 |[],_=>trivial
 |c::r,h=>by
  simp only[List.all_cons,Bool.and_eq_true] at h
  exact⟨Cnd.b_ok h.1,allB_ok h.2⟩
def eExtra (P:Program)(τ:TypeId->Option Ty)(m:Mem)(ρ:Operand->SV)(k:Nat)(o:Oper):Option ERes:=match o.op with
 | .makeMap _ none=>some (eMwMake k)
 | .lookup t x y false=>eMwLook P m t (ρ x) (ρ y)
 | .mapEntry t x y=>eMwEnt P m t (ρ x) (ρ y)
 | .entryStore _ x y z=>eMwES m (ρ x) (ρ y) (ρ z)
 | .mapUpdate t x y z=>eMwUpd P m t (ρ x) (ρ y) (ρ z)
 | .makeSlice t x y=>eMkSl P τ k t (ρ x) (ρ y)
 | .range t x=>eRange P k t (ρ x)
 | .next x true=>eNext m (ρ x)
 | .binOp op t x y _=>match eStr P t op (ρ x) (ρ y) with
  |some r=>some ⟨[],[],r,[],0⟩
  |none=>none
 | .call ⟨.builtin .min,args,_⟩=>match eMin ρ args with
  |some r=>some ⟨[],[],r,[],0⟩
  |none=>none
 |_=>none
theorem eExtra_ok {τ:TypeId->Option Ty}{m:Mem}{ρ:Operand->SV}{k:Nat}{o:Oper}{R:ERes}(h:eExtra P τ m ρ k o=some R):EffR P o m ρ k R:=by
 unfold eExtra at h
 split at h
 ·rename_i he;injection h with h;subst h;exact eMwMake_ok he
 ·rename_i he;exact eMwLook_ok he h
 ·rename_i he;exact eMwEnt_ok he h
 ·rename_i he;exact eMwES_ok he h
 ·rename_i he;exact eMwUpd_ok he h
 ·rename_i he;exact eMkSl_ok he h
 ·rename_i he;exact eRange_ok he h
 ·rename_i he;exact eNext_ok he h
 ·rename_i he
  split at h
  ·rename_i r hr;injection h with h;subst h;exact eStr_ok he hr
  ·cases h
 ·rename_i he
  split at h
  ·rename_i r hr;injection h with h;subst h;exact eMin_ok he hr
  ·cases h
 ·cases h
def eopC (P:Program)(τ:TypeId->Option Ty)(m:Mem)(ρ:Operand->SV)(k:Nat)(o:Oper):Option ERes:=match eExtra P τ m ρ k o with
 |some R=>some R
 |none=>eop P τ m ρ k o
theorem eopC_ok {τ:TypeId->Option Ty}{m:Mem}{ρ:Operand->SV}{k:Nat}{o:Oper}{R:ERes}(h:eopC P τ m ρ k o=some R):EffR P o m ρ k R:=by
 unfold eopC at h
 split at h
 ·rename_i R' hR
  injection h with h
  subst h
  exact eExtra_ok hR
 ·exact eop_ok h
def fLi {β:Type}{α:Sort _}:List β->(List β->α)->α
 |[],k=>k []
 |x::r,k=>fLi r λr=>k (x::r)
theorem fLi_eq {β:Type}{α:Sort _}:∀(l:List β)(k:List β->α),fLi l k=k l
 |[],k=>rfl
 |x::r,k=>by unfold fLi;rw[fLi_eq r]
def fBs {α:Sort _}:List Bool->(List Bool->α)->α
 |[],k=>k []
 |true::r,k=>fBs r λr=>k (true::r)
 |false::r,k=>fBs r λr=>k (false::r)
theorem fBs_eq {α:Sort _}:∀(l:List Bool)(k:List Bool->α),fBs l k=k l
 |[],k=>rfl
 |true::r,k=>by unfold fBs;rw[fBs_eq r]
 |false::r,k=>by unfold fBs;rw[fBs_eq r]
def fPr {β γ:Type}{α:Sort _}:List (β×γ)->(List (β×γ)->α)->α
 |[],k=>k []
 |(x,y)::r,k=>fPr r λr=>k ((x,y)::r)
theorem fPr_eq {β γ:Type}{α:Sort _}:∀(l:List (β×γ))(k:List (β×γ)->α),fPr l k=k l
 |[],k=>rfl
 |(x,y)::r,k=>by unfold fPr;rw[fPr_eq r]
def fV {α:Sort _}:Value->(Value->α)->α
 | .bool b,k=>k (.bool b)
 | .int t z,k=>k (.int t z)
 |u,k=>k u
theorem fV_eq {α:Sort _}(u:Value)(k:Value->α):fV u k=k u:=by cases u<;>rfl
def fD {α:Sort _}:D->(D->α)->α
 | .v u,k=>fV u λu=>k (.v u)
 | .agg cs,k=>fLi cs λcs=>k (.agg cs)
 | .tup cs,k=>fLi cs λcs=>k (.tup cs)
 |d,k=>k d
theorem fD_eq {α:Sort _}(d:D)(k:D->α):fD d k=k d:=by
 cases d<;>first|rfl|exact fV_eq _ _|exact fLi_eq _ _
def fSV {α:Sort _}:SV->(SV->α)->α
 | .d x,k=>fD x λx=>k (.d x)
 | .cnd q w g y,k=>fSV y λy=>k (.cnd q w g y)
 | .agg cs,k=>fLi cs λcs=>k (.agg cs)
 | .tup cs,k=>fLi cs λcs=>k (.tup cs)
 |s,k=>k s
theorem fSV_eq {α:Sort _}:∀(s:SV)(k:SV->α),fSV s k=k s
 | .d x,k=>by unfold fSV;exact fD_eq _ _
 | .cnd q w g y,k=>by unfold fSV;exact fSV_eq y _
 | .agg cs,k=>by unfold fSV;exact fLi_eq _ _
 | .tup cs,k=>by unfold fSV;exact fLi_eq _ _
 | .bx _ _,k=>rfl
 | .os _,k=>rfl
 | .sub _ _ _ _,k=>rfl
 | .op _ _ _ _,k=>rfl
 | .fn _ _,k=>rfl
 | .tp,k=>rfl
 | .un,k=>rfl
 | .ns _,k=>rfl
 | .np _ _ _ _,k=>rfl
 | .inn _ _,k=>rfl
 | .ip _ _ _ _ _,k=>rfl
def fSl {α:Sort _}:List (Nat×SV)->(List (Nat×SV)->α)->α
 |[],k=>k []
 |(x,v)::r,k=>fSV v λv=>k ((x,v)::r)
theorem fSl_eq {α:Sort _}(l:List (Nat×SV))(k:List (Nat×SV)->α):fSl l k=k l:=by
 cases l with
 |nil=>rfl
 |cons p r=>obtain⟨x,v⟩:=p;exact fSV_eq _ _
def fSt {α:Sort _}:St->(St->α)->α
 |⟨sl,⟨ob,nx,tp⟩,n,gs,gd⟩,k=>fSl sl λsl=>fPr ob λob=>fLi gs λgs=>fLi gd λgd=>k ⟨sl,⟨ob,nx,tp⟩,n,gs,gd⟩
theorem fSt_eq {α:Sort _}(st:St)(k:St->α):fSt st k=k st:=by
 obtain⟨sl,⟨ob,nx,tp⟩,n,gs,gd⟩:=st
 show (fSl sl λsl=>fPr ob λob=>fLi gs λgs=>fLi gd λgd=>k ⟨sl,⟨ob,nx,tp⟩,n,gs,gd⟩)=_
 rw[fSl_eq,fPr_eq,fLi_eq,fLi_eq]
def fAr {α:Sort _}:Array Bool->(Array Bool->α)->α
 |⟨l⟩,k=>fBs l λl=>k ⟨l⟩
theorem fAr_eq {α:Sort _}(L:Array Bool)(k:Array Bool->α):fAr L k=k L:=by
 obtain⟨l⟩:=L
 exact fBs_eq _ _
def fRes {α:Sort _}:PRes->(PRes->α)->α
 |⟨ps,fs,r⟩,k=>fLi ps λps=>fLi fs λfs=>fSV r λr=>k ⟨ps,fs,r⟩
theorem fRes_eq {α:Sort _}(R:PRes)(k:PRes->α):fRes R k=k R:=by
 obtain⟨ps,fs,r⟩:=R
 show (fLi ps λps=>fLi fs λfs=>fSV r λr=>k ⟨ps,fs,r⟩)=_
 rw[fLi_eq,fLi_eq,fSV_eq]
theorem WF.lenS {t ty:TypeId}{e:TypeId}(he:elemOf P t=some e)(u:Value):WF P (Builtin.len_ #[t] ty #[u]):=by
 obtain⟨inf,hu',_⟩:=elemOf_spec he
 intro w v w1 h
 have key:∀w',(Builtin.len_ #[t] ty #[u]).run P w'=match u with| .slice _ n _=> .ok (goInt n) w'|_=>(Builtin.len_ #[t] ty #[u]).run P w':=λw'=>by
  cases u<;>first|rfl|simp[Builtin.len_,run_underlying hu']
 cases u with
 |slice a n c=>
  have e1:=key w
  simp only at e1
  rw[e1] at h
  injection h with h1 h2
  subst h1 h2
  exact⟨rfl,λw'=>key w'⟩
 |_=>simp[Builtin.len_,run_underlying hu'] at h
def lenOp (P:Program)(o:Oper):Bool:=match isLen o.op with
 |some (t,_)=>(elemOf P t).isSome
 |none=>false
theorem lenOp_ok {o:Oper}(h:lenOp P o=true)(ev:Operand->Value):∃s,execOp ev o=valS s/\WF P s:=by
 unfold lenOp at h
 split at h
 ·rename_i t x hl
  obtain⟨e,he'⟩:=Option.isSome_iff_exists.1 h
  have hc:=isLen_spec hl
  exact⟨Builtin.len_ #[t] o.type #[ev x],by simp[execOp,hc,resolve,invoke,builtin,valS],WF.lenS he' _⟩
 ·cases h
def flKL (P:Program)(m:Mem)(pr:List Nat)(ρ:Operand->SV)(o:Oper):Option (List Cnd×Bool):=bif lenOp P o then some ([],false) else flK P m pr ρ o
theorem flKL_ok {m:Mem}{pr:List Nat}{ρ:Operand->SV}{o:Oper}{ps:List Cnd}{lk:Bool}(h:flKL P m pr ρ o=some (ps,lk)){R:PRes}(hp:popS P m ρ o=some R){a:Act}{w:World}{c:Cx}(hr:RelsC m ρ a w c)(h1:allC ps)(h2:allC R.ps):
 ∃v,SRel c w R.r v/\R.r.inU m.U/\allL R.fs/\∀w',(lk=true->Looks c m.ob pr w w')->(execOp a.eval o).run P w'= .ok (.value v) w':=by
 unfold flKL at h
 cases hw:lenOp P o with
 |true=>
  obtain⟨v,k1,k2,k3,k4⟩:=popS_run hp hr h2
  obtain⟨s,e1,e2⟩:=lenOp_ok hw a.eval
  refine⟨v,k2,k3,k4,λw' _=> ?_⟩
  rw[e1] at k1 ⊢
  have hv:WF P (valS s):=WF.bind e2 λ_=> .pure _
  exact (hv w _ _ k1).2 w'
 |false=>rw[hw] at h;exact flK_ok h hp hr h1 h2
def fstepL (P:Program)(pr:List Nat)(all:Array Oper)(o:Oper)(st:St):Option (Bool×((St->Prop)->Prop)):=
 match o.guard with
 |none=>match popS P st.ms.mem st.ev o,flKL P st.ms.mem pr st.ev o with
  |some R,some (ps,lk)=>bif dstOK st o.dst then some (lk,λK=>andL (ps.map Cnd.pr) (andL (R.ps.map Cnd.pr) (impL R.fs (K (st.set o.dst R.r st.ms))))) else none
  |_,_=>none
 |some (j,want)=>match (all[j]?).bind (·.dst),o.dst with
  |some q,some d=>match guardG want (look st.sl q) with
   |some G=>bif dstOK st (some d)&& !(Nat.beq q d)&&Nat.blt q st.n then match popS P st.ms.mem (λx=>stripS q want (st.ev x)) o,flKL P st.ms.mem pr (λx=>stripS q want (st.ev x)) o with
    |some R,some (ps,lk)=>bif R.r.lowN st.ms.nx then some (lk,λK=>andL ((ps.map Cnd.pr).map (G=true->·)) (andL ((R.ps.map Cnd.pr).map (G=true->·)) (impL (R.fs.map (G=true->·)) (K (st.setG d q want G R.r))))) else none
    |_,_=>none
    else none
   |none=>none
  |_,_=>none
theorem fstepL_ok {pr:List Nat}{all:Array Oper}{o:Oper}{st:St}{lk:Bool}{T:(St->Prop)->Prop}(h:fstepL P pr all o st=some (lk,T)){K:St->Prop}(hT:T K){a:Act}{w:World}{c:Cx}(hr:RX st a w c):
 ∃v st',YieldsIf P all (λw'=>lk=true->Looks c st.ms.obs pr w w') o v a/\RX st' (a.put o.dst v) w c/\st'.ms=st.ms/\Fr st st'/\K st':=by
 unfold fstepL at h
 split at h
 ·rename_i hg
  split at h
  ·rename_i R ps lk' hp hf
   cases hd:dstOK st o.dst with
   |false=>rw[hd] at h;cases h
   |true=>
    rw[hd] at h
    simp only[cond_true,Option.some.injEq,Prod.mk.injEq] at h
    obtain⟨rfl,rfl⟩:=h
    obtain⟨t1,hT⟩:=andL_spec hT
    obtain⟨t2,hT⟩:=andL_spec hT
    obtain⟨v,k1,k2,k3,k4⟩:=flKL_ok hf hp hr.rels t1 t2
    exact⟨v,_,.inl ⟨by simp[Region.wanted,hg],k4⟩,hr.set .refl hr.ox hd k1 k2,by cases o.dst<;>rfl,.set (.refl _),impL_spec hT k3⟩
  ·cases h
 ·rename_i j want hg
  split at h
  ·rename_i q d hq hdst
   split at h
   ·rename_i G hG
    cases hb:(dstOK st (some d)&& !(Nat.beq q d)&&Nat.blt q st.n) with
    |false=>rw[hb] at h;cases h
    |true=>
     rw[hb] at h
     simp only[Bool.and_eq_true,Bool.not_eq_true'] at hb
     obtain⟨⟨b1,b2⟩,b3⟩:=hb
     have hqd:q≠d:=λe=>by rw[e] at b2;simp at b2
     have hlt:q<st.n:=Nat.le_of_ble_eq_true b3
     simp only[cond_true] at h
     split at h
     ·rename_i R ps lk' hp hf
      cases hl:R.r.lowN st.ms.nx with
      |false=>rw[hl] at h;cases h
      |true=>
       rw[hl] at h
       simp only[cond_true,Option.some.injEq,Prod.mk.injEq] at h
       obtain⟨rfl,rfl⟩:=h
       obtain⟨t1,hT⟩:=andL_spec hT
       obtain⟨t2,hT⟩:=andL_spec hT
       have hwt:Region.wanted o (yielded all a.tmps)=G:=wanted_of hg hq hlt hr hG
       rw[hdst]
       cases hGv:G with
       |true=>
        obtain⟨v,k1,k2,k3,k4⟩:=flKL_ok hf hp (stripS_rel hr hlt hG hGv) (andL_map hGv t1) (andL_map hGv t2)
        refine⟨v,st.setG d q want true R.r,.inl ⟨by rw[hwt,hGv],k4⟩,hr.setG .refl hr.ox b1 hqd (by rw[hG,hGv]) (λ_=>k1) (λe=>by cases e) k2,rfl,.setG,?_⟩
        have:=impL_spec hT (allL_map λ_=>k3)
        rw[hGv] at this;exact this
       |false=>
        refine⟨undef,st.setG d q want false R.r,.inr ⟨by rw[hwt,hGv],rfl⟩,hr.setG .refl hr.ox b1 hqd (by rw[hG,hGv]) (λe=>by cases e) (λ_=>rfl) (SV.lowN_inU _ hl),rfl,.setG,?_⟩
        have:=impL_spec hT (allL_map λe=>by rw[hGv] at e;cases e)
        rw[hGv] at this;exact this
     ·cases h
   ·cases h
  ·cases h
def fstepF (P:Program)(pr:List Nat)(all:Array Oper)(o:Oper)(st:St):Option (Bool×((St->Prop)->Prop)):=
 match o.guard with
 |none=>match popS P st.ms.mem st.ev o,flKL P st.ms.mem pr st.ev o with
  |some R,some (ps,lk)=>bif dstOK st o.dst then some (lk,λK=>fRes R λR=>fLi ps λps=>andL (ps.map Cnd.pr) (andL (R.ps.map Cnd.pr) (impL R.fs (K (st.set o.dst R.r st.ms))))) else none
  |_,_=>none
 |some (j,want)=>match (all[j]?).bind (·.dst),o.dst with
  |some q,some d=>match guardG want (look st.sl q) with
   |some G=>bif dstOK st (some d)&& !(Nat.beq q d)&&Nat.blt q st.n then match popS P st.ms.mem (λx=>stripS q want (st.ev x)) o,flKL P st.ms.mem pr (λx=>stripS q want (st.ev x)) o with
    |some R,some (ps,lk)=>bif R.r.lowN st.ms.nx then some (lk,λK=>fRes R λR=>fLi ps λps=>andL ((ps.map Cnd.pr).map (G=true->·)) (andL ((R.ps.map Cnd.pr).map (G=true->·)) (impL (R.fs.map (G=true->·)) (K (st.setG d q want G R.r))))) else none
    |_,_=>none
    else none
   |none=>none
  |_,_=>none
theorem fstepF_eq:fstepF P=fstepL P:=by
 funext pr all o st
 unfold fstepF fstepL
 simp only[fRes_eq,fLi_eq]
def devalF (fs:Nat->FS)(ao:AO)(all:Array Oper)(prL:Nat->List Nat):Nat->Array Bool->Bool->St->(St->Prop)->Prop
 |0,L,fr,st,K=>match Region.ready .any all L with
  |[]=>K st.endR
  |_=>False
 |n+1,L,fr,st,K=>fLi (Region.ready .any all L) λrs=>match rs with
  |[]=>K st.endR
  |a::b=>match pickF fs all L fr st (a::b) with
   |some (i,o,T)=>T λst'=>fSt st' λst'=>fAr (L.setIfInBounds i true) λL'=>devalF fs ao all prL n L' fr st' K
   |none=>conjL (a::b) λi=>match all[i]? with
    |some o=>fLi (prX all prL o i) λX=>bif ownAt st.ms.obs X then fLi (softL st.ms.obs X) λY=>ao i o (st.ban Y) λst1=>match unban Y st st1 with
     |some st'=>bif (news st.ms st'.ms).all (λp=> !(has X p.1)) then fSt st' λst'=>fAr (L.setIfInBounds i true) λL'=>devalF fs ao all prL n L' false st' K else False
     |none=>False
     else False
    |none=>False
theorem devalF_eq {fs:Nat->FS}{ao:AO}{all:Array Oper}{prL:Nat->List Nat}:∀(n:Nat)(L:Array Bool)(fr:Bool)(st:St)(K:St->Prop),devalF fs ao all prL n L fr st K=deval fs ao all prL n L fr st K
 |0,L,fr,st,K=>rfl
 |n+1,L,fr,st,K=>by
  unfold devalF deval
  rw[fLi_eq]
  split
  ·rename_i h;simp only[h]
  ·rename_i a b h
   simp only[h]
   split
   ·rename_i i o T hp
    try rw[hp]
    simp only[fSt_eq,fAr_eq,devalF_eq n]
   ·rename_i hp
    try rw[hp]
    simp only[fSt_eq,fAr_eq,fLi_eq,devalF_eq n]
    try rfl
def drawL (P:Program)(τ:TypeId->Option Ty):DR:=λid cp ops st K=>
 bif P.follows .mixedOrders&&Region.noSelect ops then deval (λi=>fstepL P (prOf (scanQ P st.ms st.n ops.toList 0 st.sl) i) ops) (λi o=>aop1 P τ (cp i) ops o) ops (prOf (scanQ P st.ms st.n ops.toList 0 st.sl)) ops.size (Array.replicate ops.size false) true st K else False
theorem drawL_ok (τ:TypeId->Option Ty):DrOK P (drawL P τ):=by
 intro id cp ops st K hcp h a w c hr
 unfold drawL at h
 cases hb:(P.follows .mixedOrders&&Region.noSelect ops) with
 |false=>rw[hb] at h;exact h.elim
 |true=>
  rw[hb] at h
  obtain⟨b1,b2⟩:=Bool.and_eq_true_iff.1 hb
  obtain⟨hr1,t1⟩:=hr.drew
  let Qx:Exit->Act->World->Prop:=λe a' w'=>e= .normal/\∃st' c',Step st a w c st' a' w' c'/\K st'
  refine wp_mono (Q:=Qx) ?_ (λe a' w' ⟨he,st',c',k1,k2⟩=>⟨st',c',k1,he,k2⟩)
  refine wp_region_any b1 (wpAny_of_T _ _ _ _ (deval_ok (fs:=λi=>fstepL P (prOf (scanQ P st.ms st.n ops.toList 0 st.sl) i) ops) (ao:=λi o=>aop1 P τ (cp i) ops o) (prL:=prOf (scanQ P st.ms st.n ops.toList 0 st.sl)) (λh _ hT _ _ _ hr=>fstepL_ok h hT hr) (λho _ _ h _ _ _ hr _ _ hQ=>aop1_ok (hcp _) ho h hr hQ) b2 hr1 _ _ _ _ _ .start h _ _ _ hr1 (λ_=>⟨rfl,rfl,rfl⟩) .refl Qx (λch a w hh=>by cases hh.1) λst' a' w' c' hs hk=>⟨rfl,st',c',Step.trans ⟨hr1,t1,rfl,.refl _⟩ hs,hk⟩))
def drawF (P:Program)(τ:TypeId->Option Ty):DR:=λid cp ops st K=>
 bif P.follows .mixedOrders&&Region.noSelect ops then fPr (scanQ P st.ms st.n ops.toList 0 st.sl) λtb=>fSt st λst=>devalF (λi=>fstepF P (prOf tb i) ops) (λi o=>aop1 P τ (cp i) ops o) ops (prOf tb) ops.size (Array.replicate ops.size false) true st K else False
theorem drawF_eq (τ:TypeId->Option Ty):drawF P τ=drawL P τ:=by
 funext id cp ops st K
 unfold drawF drawL
 rw[fPr_eq,fSt_eq,devalF_eq,fstepF_eq]
theorem drawF_ok (τ:TypeId->Option Ty):DrOK P (drawF P τ):=by
 rw[drawF_eq]
 exact drawL_ok τ
abbrev Exts:=FuncId->Option (ByteArray->Int->Int)
def ExOK (P:Program)(ex:Exts):Prop:=∀f g,ex f=some g->∀(s:ByteArray)(c:Int)(w:World),(callFunc f #[.string s,.int .u8 c]).run P w= .ok (.value (.int .i64 (g s c))) w
def extT (ex:Exts)(ρ:Operand->SV)(op:Op):Option SV:=match callT ρ op with
 |some (f,[.d (.v (.string s)),.d (.v (.int .u8 c))])=>match ex f with
  |some g=>some (.d (.v (.int .i64 (g s c))))
  |none=>none
 |_=>none
theorem callT_runG {m:Mem}{ρ:Operand->SV}{o:Oper}{f:FuncId}{ss:List SV}(h:callT ρ o.op=some (f,ss)){a:Act}{w:World}{c:Cx}(hop:∀x,SRel c w (ρ x) (a.eval x))(hiu:∀x,(ρ x).inU m.U):
 ∃us:List Value,(execOp a.eval o).run P w=(callFunc f us.toArray).run P w/\us.length=ss.length/\∀(i:Nat)(s:SV)(u:Value),ss[i]? =some s->us[i]? =some u->SRel c w s u/\s.inU m.U:=by
 unfold callT at h
 split at h
 ·rename_i x args tys he
  split at h
  ·rename_i f' cs hfn
   injection h with h
   injection h with h1 h2
   subst h1 h2
   obtain⟨us,hu,hl,hr⟩:=fnOf_rel hfn (hop x) (hiu x)
   refine⟨args.toList.map a.eval++us,?_,by simp[hl],λi s u hs hv=> ?_⟩
   ·have e1:(args.toList.map a.eval++us).toArray=args.map a.eval++us.toArray:=by
     apply Array.ext';simp
    rw[e1]
    simp[execOp,he,resolve,hu,Deferred.ofValue,invoke]
   ·by_cases hi:i<args.toList.length
    ·rw[List.getElem?_append_left (by simpa using hi)] at hs hv
     rw[List.getElem?_map,Option.map_eq_some_iff] at hs hv
     obtain⟨y,hy,rfl⟩:=hs
     obtain⟨y',hy',rfl⟩:=hv
     rw[hy] at hy'
     injection hy' with hy'
     subst hy'
     exact⟨hop y,hiu y⟩
    ·rw[List.getElem?_append_right (by simpa using hi)] at hs hv
     simp only[List.length_map] at hs hv
     exact hr _ s u hs hv
  ·cases h
 ·cases h
theorem extT_run {m:Mem}{ex:Exts}(hex:ExOK P ex){ρ:Operand->SV}{o:Oper}{r:SV}(h:extT ex ρ o.op=some r){a:Act}{w:World}{c:Cx}(hop:∀x,SRel c w (ρ x) (a.eval x))(hiu:∀x,(ρ x).inU m.U):
 ∃v,r= .d (.v v)/\(execOp a.eval o).run P w= .ok (.value v) w:=by
 unfold extT at h
 split at h
 ·rename_i f s c' hc
  split at h
  ·rename_i g hg
   injection h with h
   subst h
   obtain⟨us,h1,h2,h3⟩:=callT_runG (P:=P) (m:=m) (w:=w) (c:=c) hc hop hiu
   match us,h2 with
   |[u,v],_=>
    have e1:=srel_v (h3 0 _ u rfl rfl).1
    have e2:=srel_v (h3 1 _ v rfl rfl).1
    subst e1 e2
    exact⟨_,rfl,h1.trans (hex f g hg s c' w)⟩
  ·cases h
 ·cases h
def aopB (P:Program)(τ:TypeId->Option Ty)(ex:Exts)(cp:CP)(o:Oper)(st:St)(K:St->Prop):Prop:=match pickC P st o with
 |some r=>bif dstOK st o.dst then fSt (st.set o.dst r st.ms) K else False
 |none=>match extT ex st.ev o.op with
 |some r=>bif dstOK st o.dst then fSt (st.set o.dst r st.ms) K else False
 |none=>match callT st.ev o.op with
  |some (f,ss)=>bif callable P f&&dstOK st o.dst then cp f (ss.map noC) st.ms (λr m=>fSt (st.set o.dst r m) K) else False
  |none=>match eopC P τ st.ms.mem st.ev st.ms.nx o with
   |some R=>bif dstOK st o.dst&&R.ps.all Cnd.b then fSt (st.set o.dst R.r (st.ms.upd R)) K else False
   |none=>False
theorem aopB_ok {τ:TypeId->Option Ty}{ex:Exts}(hex:ExOK P ex){cp:CP}(hcp:CallOK P cp){o:Oper}{st:St}{K:St->Prop}(h:aopB P τ ex cp o st K):OpS P o st K:=by
 unfold aopB at h
 split at h
 ·rename_i r hp
  cases hd:dstOK st o.dst with
  |false=>rw[hd] at h;exact h.elim
  |true=>
   rw[hd] at h
   simp only[cond_true] at h
   rw[fSt_eq] at h
   intro a w c hr KK Qx hQ
   obtain⟨v,k1,k2,k3⟩:=pickC_ok (P:=P) hp hr
   unfold Oper.wp
   rw[k3]
   exact hQ _ _ _ c ⟨hr.set .refl hr.ox hd k1 k2,.refl,defers_put _ _ _,.set (.refl _)⟩ h
 ·intro a w c hr KK Qx hQ
  split at h
  ·rename_i r hx
   cases hd:dstOK st o.dst with
   |false=>rw[hd] at h;exact h.elim
   |true=>
    rw[hd] at h
    simp only[cond_true] at h
    rw[fSt_eq] at h
    obtain⟨v,rfl,h2⟩:=extT_run (m:=st.ms.mem) hex hx hr.ev hr.evU
    unfold Oper.wp
    rw[h2]
    exact hQ _ _ _ c ⟨hr.set .refl hr.ox hd (v_srel v) trivial,.refl,defers_put _ _ _,.set (.refl _)⟩ h
  split at h
  ·rename_i f ss hc
   cases hb:(callable P f&&dstOK st o.dst) with
   |false=>rw[hb] at h;exact h.elim
   |true=>
    rw[hb] at h
    simp only[cond_true] at h
    obtain⟨b1,b2⟩:=Bool.and_eq_true_iff.1 hb
    obtain⟨us,hrun,hl,hrel⟩:=callT_run (m:=st.ms.mem) hc b1 hr.ev hr.evU
    unfold Oper.wp
    rw[hrun]
    show Calls _ _ _ _ _
    refine (hcp f _ st.ms _ h us w c hr.ox (by simpa using hl) (noC_args hrel)).mono ?_
    rintro e w' ⟨v,r,m',c',rfl,hk,hf,hox,htr,hs,hu⟩
    rw[fSt_eq] at hk
    exact hQ _ _ _ c' ⟨hr.set htr hox b2 hs hu,htr,defers_put _ _ _,.set hf⟩ hk
  ·split at h
   ·rename_i R hR
    cases hb:(dstOK st o.dst&&R.ps.all Cnd.b) with
    |false=>rw[hb] at h;exact h.elim
    |true=>
     rw[hb] at h
     simp only[cond_true] at h
     rw[fSt_eq] at h
     obtain⟨b1,b2⟩:=Bool.and_eq_true_iff.1 hb
     refine eopC_ok (P:=P) hR a w c hr.rels (λi hi _ hu=>by have hu:i<st.ms.nx:=hu;omega) (allB_ok b2) KK Qx λv c' w' hox htr hs hu hf=> ?_
     have e1:=upd_obs st.ms R
     have e2:=upd_U st.ms R
     have htr':TrM st.ms w c (st.ms.upd R) w' c':=by show Tr _ _ _ _ (st.ms.upd R).obs (st.ms.upd R).U _ _;rw[e1,e2];exact htr
     have hox':OXM (st.ms.upd R) w' c':=by show OX (st.ms.upd R).obs (st.ms.upd R).U _ _ _;rw[e1,e2];exact hox
     exact hQ _ _ _ c' ⟨hr.set htr' hox' b1 hs (by rw[e2];exact hu),htr',defers_put _ _ _,.set (.upd _ _)⟩ h
   ·exact h.elim
def fstepB (P:Program)(pr:List Nat)(o:Oper)(st:St):Option (Bool×((St->Prop)->Prop)):=match pickC P st o with
 |some r=>bif dstOK st o.dst then some (false,λK=>fSt (st.set o.dst r st.ms) K) else none
 |none=>match popS P st.ms.mem st.ev o,flK P st.ms.mem pr st.ev o with
  |some R,some (ps,lk)=>bif dstOK st o.dst&&ps.all Cnd.b&&R.ps.all Cnd.b then some (lk,λK=>fSt (st.set o.dst R.r st.ms) K) else none
  |_,_=>none
theorem fstepB_ok {pr:List Nat}{all:Array Oper}{o:Oper}{st:St}{lk:Bool}{T:(St->Prop)->Prop}(h:fstepB P pr o st=some (lk,T)){K:St->Prop}(hT:T K){a:Act}{w:World}{c:Cx}(hr:RX st a w c)(hw:Region.wanted o (yielded all a.tmps)=true):
 ∃v st',YieldsIf P all (λw'=>lk=true->Looks c st.ms.obs pr w w') o v a/\RX st' (a.put o.dst v) w c/\st'.ms=st.ms/\Fr st st'/\K st':=by
 unfold fstepB at h
 split at h
 ·rename_i r hp
  cases hd:dstOK st o.dst with
  |false=>rw[hd] at h;cases h
  |true=>
   rw[hd] at h
   simp only[cond_true,Option.some.injEq,Prod.mk.injEq] at h
   obtain⟨rfl,rfl⟩:=h
   have hT:fSt (st.set o.dst r st.ms) K:=hT
   rw[fSt_eq] at hT
   obtain⟨v,k1,k2,k3⟩:=pickC_ok (P:=P) hp hr
   exact⟨v,_,.inl ⟨hw,λw' _=>k3 w'⟩,hr.set .refl hr.ox hd k1 k2,by cases o.dst<;>rfl,.set (.refl _),hT⟩
 ·split at h
  ·rename_i R ps lk' hp hf
   cases hb:(dstOK st o.dst&&ps.all Cnd.b&&R.ps.all Cnd.b) with
   |false=>rw[hb] at h;cases h
   |true=>
    rw[hb] at h
    simp only[cond_true,Option.some.injEq,Prod.mk.injEq] at h
    obtain⟨rfl,rfl⟩:=h
    have hT:fSt (st.set o.dst R.r st.ms) K:=hT
    rw[fSt_eq] at hT
    simp only[Bool.and_eq_true] at hb
    obtain⟨⟨b1,b2⟩,b3⟩:=hb
    obtain⟨v,k1,k2,k3,k4⟩:=flK_ok hf hp hr.rels (allB_ok b2) (allB_ok b3)
    exact⟨v,_,.inl ⟨hw,k4⟩,hr.set .refl hr.ox b1 k1 k2,by cases o.dst<;>rfl,.set (.refl _),hT⟩
  ·cases h
def guB (all:Array Oper)(o:Oper)(st:St):Option Bool:=match o.guard with
 |none=>some true
 |some (j,want)=>match (all[j]?).bind (·.dst) with
  |some q=>bif Nat.blt q st.n then (match look st.sl q with
   | .d (.v (.tuple ⟨[]⟩))=>some false
   |s=>guardG want s) else none
  |none=>none
theorem guB_ok {all:Array Oper}{o:Oper}{st:St}{b:Bool}(h:guB all o st=some b){a:Act}{w:World}{c:Cx}(hr:RX st a w c):Region.wanted o (yielded all a.tmps)=b:=by
 unfold guB at h
 split at h
 ·rename_i hg
  injection h with h
  subst h
  simp[Region.wanted,hg]
 ·rename_i j want hg
  split at h
  ·rename_i q hq
   cases hb:Nat.blt q st.n with
   |false=>rw[hb] at h;cases h
   |true=>
    rw[hb] at h
    have hlt:q<st.n:=Nat.le_of_ble_eq_true hb
    simp only[cond_true] at h
    split at h
    ·rename_i hl
     injection h with h
     subst h
     have hdl:q<a.tmps.size:=by rw[hr.sz];exact hlt
     have hv:=hr.sl q _ (Array.getElem?_eq_getElem hdl)
     rw[hl] at hv
     have hv:=srel_v hv
     unfold Region.wanted yielded
     simp only[hg,hq,Option.bind_some,Array.getElem?_eq_getElem hdl,hv]
     rfl
    ·exact wanted_of hg hq hlt hr h
  ·cases h
def aopGB (P:Program)(τ:TypeId->Option Ty)(ex:Exts)(cp:CP)(all:Array Oper)(o:Oper)(st:St)(K:St->Prop):Prop:=match guB all o st with
 |some true=>aopB P τ ex cp o st K
 |some false=>bif dstOK st o.dst then fSt (st.set o.dst (.d (.v undef)) st.ms) K else False
 |none=>False
theorem aopGB_core {τ:TypeId->Option Ty}{ex:Exts}(hex:ExOK P ex){cp:CP}(hcp:CallOK P cp){all:Array Oper}{o:Oper}{st:St}{K:St->Prop}(h:aopGB P τ ex cp all o st K){a:Act}{w:World}{c:Cx}(hr:RX st a w c){KK:Act->World->Prop}{Qx:Exit->Act->World->Prop}
 (hQ:∀st' a' w' c',Step st a w c st' a' w' c'->K st'->KK a' w'):if Region.wanted o (yielded all a.tmps)=true then o.wp P a w KK Qx else KK (a.put o.dst undef) w:=by
 unfold aopGB at h
 split at h
 ·rename_i hG
  rw[guB_ok hG hr,if_pos rfl]
  exact aopB_ok hex hcp h a w c hr KK Qx hQ
 ·rename_i hG
  rw[guB_ok hG hr,if_neg (by decide)]
  cases hd:dstOK st o.dst with
  |false=>rw[hd] at h;exact h.elim
  |true=>
   rw[hd] at h
   simp only[cond_true] at h
   rw[fSt_eq] at h
   exact hQ _ _ _ c ⟨hr.set .refl hr.ox hd (v_srel _) trivial,.refl,defers_put _ _ _,.set (.refl _)⟩ h
 ·exact h.elim
def aopsB (P:Program)(τ:TypeId->Option Ty)(ex:Exts)(cp:CP)(all:Array Oper):List Oper->St->(St->Prop)->Prop
 |[],st,K=>K st.endR
 |o::r,st,K=>aopGB P τ ex cp all o st λst'=>aopsB P τ ex cp all r st' K
theorem aopsB_ok {τ:TypeId->Option Ty}{ex:Exts}(hex:ExOK P ex){cp:CP}(hcp:CallOK P cp){all:Array Oper}:∀(ops:List Oper)(st:St)(K:St->Prop),aopsB P τ ex cp all ops st K->
 ∀a w c,RX st a w c->∀Qx:Exit->Act->World->Prop,(∀st' a' w' c',Step st a w c st' a' w' c'->K st'->Qx .normal a' w')->wpList P all Qx ops a w
 |[],st,K,h,a,w,c,hr,Qx,hQ=>hQ _ a w c hr.endR h
 |o::r,st,K,h,a,w,c,hr,Qx,hQ=>by
  refine wpList_step λKK hK=> ?_
  exact aopGB_core hex hcp (show aopGB P τ ex cp all o st _ from h) hr λst' a' w' c' hs hq=>hK _ _ (aopsB_ok hex hcp r st' K hq a' w' c' hs.rx Qx λst2 a2 w2 c2 hs2 k=>hQ _ _ _ _ (hs.trans hs2) k)
def fstepGB (P:Program)(pr:List Nat)(all:Array Oper)(o:Oper)(st:St):Option (Bool×((St->Prop)->Prop)):=match guB all o st with
 |some true=>fstepB P pr o st
 |some false=>bif dstOK st o.dst then some (false,λK=>fSt (st.set o.dst (.d (.v undef)) st.ms) K) else none
 |none=>none
theorem fstepGB_ok {pr:List Nat}{all:Array Oper}:FSOK P all (λ_=>pr) (λ_=>fstepGB P pr all):=by
 intro i0 o st lk T h K hT a w c hr
 have h:fstepGB P pr all o st=some (lk,T):=h
 unfold fstepGB at h
 split at h
 ·rename_i hG
  exact fstepB_ok h hT hr (guB_ok hG hr)
 ·rename_i hG
  cases hd:dstOK st o.dst with
  |false=>rw[hd] at h;cases h
  |true=>
   rw[hd] at h
   simp only[cond_true,Option.some.injEq,Prod.mk.injEq] at h
   obtain⟨rfl,rfl⟩:=h
   have hT:fSt (st.set o.dst (.d (.v undef)) st.ms) K:=hT
   rw[fSt_eq] at hT
   exact⟨undef,_,.inr ⟨guB_ok hG hr,rfl⟩,hr.set .refl hr.ox hd (v_srel _) trivial,by cases o.dst<;>rfl,.set (.refl _),hT⟩
 ·cases h
def drawB (P:Program)(τ:TypeId->Option Ty)(ex:Exts)(cp:CP)(ops:Array Oper)(st:St)(K:St->Prop):Prop:=
 bif P.follows .mixedOrders&&Region.noSelect ops then deval (λi=>fstepGB P (prOf (scanQ P st.ms st.n ops.toList 0 st.sl) i) ops) (λ_ o=>aopGB P τ ex cp ops o) ops (prOf (scanQ P st.ms st.n ops.toList 0 st.sl)) ops.size (Array.replicate ops.size false) true st K else False
theorem drawB_ok {τ:TypeId->Option Ty}{ex:Exts}(hex:ExOK P ex){cp:CP}(hcp:CallOK P cp){id:Nat}{ops:Array Oper}{st:St}{K:St->Prop}(h:drawB P τ ex cp ops st K):AC P (.region id ops true) st λe st'=>e= .normal/\K st':=by
 intro a w c hr
 unfold drawB at h
 cases hb:(P.follows .mixedOrders&&Region.noSelect ops) with
 |false=>rw[hb] at h;exact h.elim
 |true=>
  rw[hb] at h
  obtain⟨b1,b2⟩:=Bool.and_eq_true_iff.1 hb
  obtain⟨hr1,t1⟩:=hr.drew
  let Qx:Exit->Act->World->Prop:=λe a' w'=>e= .normal/\∃st' c',Step st a w c st' a' w' c'/\K st'
  refine wp_mono (Q:=Qx) ?_ (λe a' w' ⟨he,st',c',k1,k2⟩=>⟨st',c',k1,he,k2⟩)
  refine wp_region_any b1 (wpAny_of_T _ _ _ _ (deval_ok (fs:=λi=>fstepGB P (prOf (scanQ P st.ms st.n ops.toList 0 st.sl) i) ops) (ao:=λ_ o=>aopGB P τ ex cp ops o) (prL:=prOf (scanQ P st.ms st.n ops.toList 0 st.sl)) (λ{i} {o} {st} {lk} {T} h {K} hT {a} {w} {c} hr=>fstepGB_ok (pr:=prOf (scanQ P _ _ ops.toList 0 _) i) (i:=0) h hT hr) (λho _ _ h _ _ _ hr _ _ hQ=>wpOp_step ho λK' hK=>aopGB_core hex hcp h hr λst' a' w' c' hs hq=>hK _ _ (hQ _ _ _ _ hs hq)) b2 hr1 _ _ _ _ _ .start h _ _ _ hr1 (λ_=>⟨rfl,rfl,rfl⟩) .refl Qx (λch a w hh=>by cases hh.1) λst' a' w' c' hs hk=>⟨rfl,st',c',Step.trans ⟨hr1,t1,rfl,.refl _⟩ hs,hk⟩))
def regB (P:Program)(τ:TypeId->Option Ty)(ex:Exts)(cp:CP):RG:=λid ops d st K=>bif d then drawB P τ ex cp ops st K else aopsB P τ ex cp ops ops.toList st K
theorem regB_ok {τ:TypeId->Option Ty}{ex:Exts}(hex:ExOK P ex){cp:CP}(hcp:CallOK P cp):RegOK P (regB P τ ex cp):=by
 intro id ops d st K h
 cases d with
 |true=>exact drawB_ok hex hcp h
 |false=>
  have h:aopsB P τ ex cp ops ops.toList st K:=h
  intro a w c hr
  exact wp_region_list (aopsB_ok hex hcp ops.toList st K h a w c hr _ λst' a' w' c' hs hk=>⟨st',c',hs,rfl,hk⟩)
def callB (P:Program)(τ:TypeId->Option Ty)(ex:Exts)(rs:List Rule)(N:Nat):Nat->CP
 |0=>λ_ _ _ _=>False
 |n+1=>λf ss m k=>match findR rs f with
  |some r=>r.cp ss m k
  |none=>cinline P (regB P τ ex (callB P τ ex rs N n)) N f ss m k
theorem callB_ok {τ:TypeId->Option Ty}{ex:Exts}(hex:ExOK P ex){rs:List Rule}{N:Nat}(hR:RulesOK P rs):∀n,CallOK P (callB P τ ex rs N n)
 |0=>λf ss m k h=>h.elim
 |n+1=>by
  intro f ss m k h us w c hox hl hr
  unfold callB at h
  split at h
  ·rename_i r hr'
   obtain⟨h1,h2⟩:=findR_ok hR hr'
   subst h2
   exact h1 _ _ _ h us w c hox hl hr
  ·exact cinline_ok (regB_ok hex (callB_ok hex hR n)) f ss m k h us w c hox hl hr
theorem SpecOK.of_B {τ:TypeId->Option Ty}{ex:Exts}(hex:ExOK P ex){rs:List Rule}(hR:RulesOK P rs){N n:Nat}{s:Spec}(h:∀x post,s.pt x post->HoldW (walkG (callB P τ ex rs N n) s.f s.tp (tvs s.ts x) s.rs post)):SpecOK P s:=
 SpecOK.of_walkG (callB_ok hex hR n) λx post hp=>(h x post hp).h
theorem SpecCOK.of_B {τ:TypeId->Option Ty}{ex:Exts}(hex:ExOK P ex){rs:List Rule}(hR:RulesOK P rs){N n:Nat}{s:Spec}{g:FuncId}(h:∀x post,s.pt x post->HoldW (walkG (callB P τ ex rs N n) s.f s.tp (tvs s.ts x++[.v (clo g)]) s.rs post)):SpecCOK P s [clo g]:=by
 intro x post hp w S T us h1 h2 h3 h4
 have e:tpArg T us++[clo g]=tpArg T (us++[clo g]):=by
  unfold tpArg
  split<;>simp
 rw[e]
 refine walkG_ok (callB_ok hex hR n) (h x post hp).h h1 h2 (by simp[h3,tvs_len]) λi d u hd hu=> ?_
 by_cases hi:i<us.length
 ·rw[List.getElem?_append_left hi] at hu
  rw[List.getElem?_append_left (by rw[tvs_len];omega)] at hd
  exact h4 i d u hd hu
 ·have hi':(tvs s.ts x).length<=i:=by rw[tvs_len];omega
  rw[List.getElem?_append_right hi'] at hd
  rw[List.getElem?_append_right (by omega)] at hu
  have e2:i-(tvs s.ts x).length=i-us.length:=by rw[tvs_len,h3]
  rw[e2] at hd
  match hq:i-us.length,hd,hu with
  |0,hd,hu=>
   simp at hd hu
   subst hd hu
   exact .v _
  |k+1,hd,hu=>simp at hd
end RE
end Go.Proofs.YtjcjdgmojkkioaaGreatDoor
namespace Go.Proofs
open Go.Shelf
def Tryz.growPt_ren:Go.Shelf.Ren:=⟨λ|4=>235|n=>n,λ|22=>103|25=>144|3=>3|4=>4|9=>9|20=>20|0=>0|2=>3|n=>n,λ|n=>n⟩
theorem Tryz.growPt:Go.Proofs.Lays8.n4 Tryz.prog Tryz.growPt_ren:={
 mixed:=by kernel_rfl
 f4:=⟨Tryz.f235.name,by decide,Tryz.func235.trans (congrArg some (by kernel_rfl))⟩
 t0:=Tryz.underlying0
 a0:=Tryz.isAgg0
 z0:=Tryz.sizeOf0
 v0:=Tryz.zeroValue0
 t3:=Tryz.underlying3
 a3:=Tryz.isAgg3
 z3:=Tryz.sizeOf3
 v3:=Tryz.zeroValue3
 t4:=Tryz.underlying4
 a4:=Tryz.isAgg4
 z4:=Tryz.sizeOf4
 v4:=Tryz.zeroValue4
 t9:=Tryz.underlying9
 a9:=Tryz.isAgg9
 z9:=Tryz.sizeOf9
 v9:=Tryz.zeroValue9
 t20:=Tryz.underlying20
 a20:=Tryz.isAgg20
 z20:=Tryz.sizeOf20
 v20:=Tryz.zeroValue20
 t22:=Tryz.underlying103
 a22:=Tryz.isAgg103
 z22:=Tryz.sizeOf103
 v22:=Tryz.zeroValue103}
end Go.Proofs
namespace Go.Proofs.YtjcjdgmojkkioaaGreatDoor
namespace RE
set_option maxRecDepth 100000
open Go.RowKit
open Go.Sort
open Go.Lib
open Go.Shelf
open PL
def growB (ss:List SV)(m:MS)(k:SV->MS->Prop):Prop:=match ss with
 |[.d (.v (.slice none 0 0)),.d (.v (.int .i64 n))]=>bif decide (0<=n)&&decide (n<=1000000) then k (.os m.nx) ⟨(m.nx,some (.row 237 (.st .region_Span) []))::m.ob,m.nx+1,m.tp⟩ else False
 |_=>False
def pgrowB_rule:Rule:=⟨302,growB⟩
theorem pgrowB_rule_ok:RuleOK Tryz.prog pgrowB_rule:=by
 intro ss m k hk us w c hox hl hr
 have hk2:growB ss m k:=hk
 clear hk
 unfold growB at hk2
 split at hk2
 ·rename_i n
  cases hb0:(decide (0<=n)&&decide (n<=1000000)) with
  |false=>rw[hb0] at hk2;exact hk2.elim
  |true=>
  rw[hb0] at hk2
  simp only[cond_true] at hk2
  simp only[Bool.and_eq_true,decide_eq_true_eq] at hb0
  obtain⟨p1,p2⟩:=hb0
  match us,hl with
  |[a,b],_=>
  have ha:a= .slice none 0 0:=srel_v (hr 0 _ a rfl rfl).1
  have hb:b= .int .i64 n:=srel_v (hr 1 _ b rfl rfl).1
  subst ha hb
  obtain⟨q,rfl⟩:∃q:Nat,n=q:=⟨n.toNat,by omega⟩
  refine (growRun q (by omega) w c.S).mono ?_
  rintro e w' ⟨v,F,rfl,g1,g2,g3,g4,g5,g6,g7⟩
  obtain⟨c',k1,k2,k3⟩:=newRow hox g1 g2 g3 g4 g5 g6 g7
  exact⟨v,_,_,c',rfl,hk2,⟨⟨[(m.nx,some (.row 237 (.st .region_Span) []))],rfl⟩,id⟩,k1,k2,by rw[<-k3];exact .os _,Nat.lt_succ_self _⟩
 ·exact hk2.elim
def growBP (ss:List SV)(m:MS)(k:SV->MS->Prop):Prop:=match ss with
 |[.d (.v (.slice none 0 0)),.d (.v (.int .i64 n))]=>bif decide (0<=n)&&decide (n<=1000000) then k (.os m.nx) ⟨(m.nx,some (.row 144 (.st .api_Point) []))::m.ob,m.nx+1,m.tp⟩ else False
 |_=>False
def pgrowBP_rule:Rule:=⟨235,growBP⟩
noncomputable def infoP1:TypeInfo:=(Tryz.prog.info? 144).get!
noncomputable def zeroP1:Value:=infoP1.zero.get!
theorem infoP1_eq:Tryz.prog.info? 144=some infoP1:=by kernel_rfl
theorem zeroP1_eq:infoP1.zero=some zeroP1:=by kernel_rfl
theorem sizeP1:infoP1.size=2:=by kernel_rfl
theorem bytesP1:infoP1.bytes=16:=by kernel_rfl
theorem cellsP1:zeroP1.cells.size=2:=by kernel_rfl
theorem growRunP (n:Nat)(hn:n<=1000000)(w:World)(S:Cells):Calls Tryz.prog 235 #[.slice none 0 0,.int .i64 n] w λe w'=>∃v F,e= .returned v/\w'.os=w.os/\w'.tape=w.tape/\w'.output=w.output/\w.heap.size<=w'.heap.size/\(∀b,b<w.heap.size->w'.heap[b]? =w.heap[b]?)/\(∀b,F b->w.heap.size<=b/\b<w'.heap.size)/\RowAt w' S v F 144 (.st .api_Point) []:=by
 by_cases h0:n=0
 ·subst h0
  refine (Any8.slices_Grow_room Tryz.growPt none 0 0 0 w (by omega) (by omega) (by omega) (by omega)).mono ?_
  rintro e w' ⟨rfl,rfl⟩
  exact⟨_,λ_=>False,rfl,rfl,rfl,rfl,Nat.le_refl _,λ_ _=>rfl,λb h=>h.elim,by decide,.inl ⟨rfl,⟨none,rfl⟩,λb h=>h⟩⟩
 ·refine (Any8.slices_Grow_grow Tryz.growPt infoP1 zeroP1 infoP1_eq zeroP1_eq (by rw[sizeP1];omega) none 0 0 n [] w (by omega) (by omega) ?_ (by omega) rfl (λ_=>rfl) (λa h=>by cases h)).mono ?_
  ·rw[bytesP1]
   omega
  rintro e w' ⟨rfl,rfl⟩
  have hge:=grownCap_ge w (0+n) 0 144
  refine⟨_,λb=>b=w.heap.size,rfl,rfl,rfl,rfl,by simp,λb hb=>heap_alloc_old w.drew _ hb,λb h=>⟨by omega,by simp[h]⟩,by decide,.inr ⟨w.heap.size,_,_,rfl,λb=>Iff.rfl,heap_alloc_new w.drew _,Nat.zero_le _,grownCap_le_maxLen w (0+n) 0 144 (by simp only[maxLen];omega),?_,λi x hx=>by simp at hx⟩⟩
  show _=_ * 2
  simp only[Array.size_append,List.size_toArray,List.length_nil,size_zeroCells,cellsP1,Nat.zero_add,show Tryz.growPt_ren.t 25=144 from rfl] at hge ⊢
  omega
theorem pgrowBP_rule_ok:RuleOK Tryz.prog pgrowBP_rule:=by
 intro ss m k hk us w c hox hl hr
 have hk2:growBP ss m k:=hk
 clear hk
 unfold growBP at hk2
 split at hk2
 ·rename_i n
  cases hb0:(decide (0<=n)&&decide (n<=1000000)) with
  |false=>rw[hb0] at hk2;exact hk2.elim
  |true=>
  rw[hb0] at hk2
  simp only[cond_true] at hk2
  simp only[Bool.and_eq_true,decide_eq_true_eq] at hb0
  obtain⟨p1,p2⟩:=hb0
  match us,hl with
  |[a,b],_=>
  have ha:a= .slice none 0 0:=srel_v (hr 0 _ a rfl rfl).1
  have hb:b= .int .i64 n:=srel_v (hr 1 _ b rfl rfl).1
  subst ha hb
  obtain⟨q,rfl⟩:∃q:Nat,n=q:=⟨n.toNat,by omega⟩
  refine (growRunP q (by omega) w c.S).mono ?_
  rintro e w' ⟨v,F,rfl,g1,g2,g3,g4,g5,g6,g7⟩
  obtain⟨c',k1,k2,k3⟩:=newRow hox g1 g2 g3 g4 g5 g6 g7
  exact⟨v,_,_,c',rfl,hk2,⟨⟨[(m.nx,some (.row 144 (.st .api_Point) []))],rfl⟩,id⟩,k1,k2,by rw[<-k3];exact .os _,Nat.lt_succ_self _⟩
 ·exact hk2.elim
def exI:Exts:=λf=>bif Nat.beq f 314 then some (λs c=>Lib.indexByte s.data.toList c.toNat.toUInt8) else bif Nat.beq f 180 then some (λs c=>Lib.countByte s.data.toList c.toNat.toUInt8) else none
theorem exI_ok:ExOK Tryz.prog exI:=by
 intro f g h s c w
 unfold exI at h
 cases h1:Nat.beq f 314 with
 |true=>
  rw[h1] at h
  injection h with h
  subst h
  rw[beq_eq h1,run_callFunc_extern (e:=Extern.BytealgIndexByte.indexByte) Tryz.func314 (by kernel_rfl) (by kernel_rfl) (by kernel_rfl) (by kernel_rfl),Lib.run_indexByteString]
  rfl
 |false=>
  rw[h1] at h
  cases h2:Nat.beq f 180 with
  |false=>rw[h2] at h;cases h
  |true=>
   rw[h2] at h
   injection h with h
   subst h
   rw[beq_eq h2,run_callFunc_extern (e:=Extern.BytealgCount.count) Tryz.func180 (by kernel_rfl) (by kernel_rfl) (by kernel_rfl) (by kernel_rfl),Lib.run_countString]
   rfl
def rsG:List Rule:=[pgrowB_rule,pgrowBP_rule]
theorem rsG_ok:RulesOK Tryz.prog rsG:= .cons pgrowB_rule_ok (.cons pgrowBP_rule_ok .nil)
def sq10:List api_Rect:=[⟨0,0,10,10⟩]
def isSq (l:List api_Rect):Bool:=decide (l=sq10)
theorem isSq_eq {l:List api_Rect}(h:isSq l=true):l=sq10:=of_decide_eq_true h
def can_sp:Spec:=⟨93,false,true,[.sl (.st .api_Rect)],.dat (.sl (.st .api_Rect)),λx post=>bif isSq x.1 then post (sq10,()) else False⟩
theorem can_w (post:dens (shT can_sp.rs [])->Prop):walkG (callB Tryz.prog tau exI rsG 500 20) 93 false [tv (.sl (.st .api_Rect)) sq10] can_sp.rs post=((post (sq10,())/\post (sq10,()))/\post (sq10,())):=by kernel_rfl
theorem bifT {b:Bool}{p:Prop}(h:bif b then p else False):b=true/\p:=by
 cases b with
 |true=>exact⟨rfl,h⟩
 |false=>exact h.elim
theorem can_ok:SpecOK Tryz.prog can_sp:=SpecOK.of_B (τ:=tau) exI_ok rsG_ok (N:=500) (n:=20) λx post hp=>by
 obtain⟨h1,h2⟩:=bifT hp
 have h1:x=(sq10,()):=by
  obtain⟨l,u⟩:=x
  have h1:l=sq10:=isSq_eq h1
  rw[h1]
  rfl
 subst h1
 exact HoldW.of (can_w post).symm ⟨⟨h2,h2⟩,h2⟩
def rsH:List Rule:=[rule1 can_sp,pgrowB_rule,pgrowBP_rule]
theorem rsH_ok:RulesOK Tryz.prog rsH:= .cons (rule1_ok can_ok) rsG_ok
def eg (a b c d:Int):outline_edge:=⟨⟨a,b⟩,⟨c,d⟩⟩
def u10:List api_Rect:=[⟨0,0,10,1⟩]
def chF (a b:List api_Rect):Option (List api_Rect):=bif decide (a=u10)&&decide (b=[]) then some u10 else bif decide (a=[])&&decide (b=u10) then some [] else none
theorem chF_spec {a b y:List api_Rect}(h:chF a b=some y):(a=u10/\b=[]/\y=u10)\/(a=[]/\b=u10/\y=[]):=by
 unfold chF at h
 cases h1:(decide (a=u10)&&decide (b=[])) with
 |true=>
  rw[h1] at h
  simp only[Bool.and_eq_true,decide_eq_true_eq] at h1
  injection h with h
  exact .inl ⟨h1.1,h1.2,h.symm⟩
 |false=>
  rw[h1] at h
  simp only[cond_false] at h
  cases h2:(decide (a=[])&&decide (b=u10)) with
  |true=>
   rw[h2] at h
   simp only[Bool.and_eq_true,decide_eq_true_eq] at h2
   injection h with h
   exact .inr ⟨h2.1,h2.2,h.symm⟩
  |false=>rw[h2] at h;cases h
def optP {α:Type}(o:Option α)(post:α->Prop):Prop:=match o with
 |some y=>post y
 |none=>False
theorem optP_spec {α:Type}{o:Option α}{post:α->Prop}(h:optP o post):∃y,o=some y/\post y:=by
 cases o with
 |none=>exact h.elim
 |some y=>exact⟨y,rfl,h⟩
def ch_sp:Spec:=⟨75,false,true,[.sl (.st .api_Rect),.sl (.st .api_Rect)],.dat (.sl (.st .api_Rect)),λx post=>optP (chF x.1 x.2.1) λy=>post (y,())⟩
theorem ch_w1 (post:dens (shT ch_sp.rs [])->Prop):walkG (callB Tryz.prog tau exI rsH 500 20) ch_sp.f ch_sp.tp (tvs ch_sp.ts ((u10,([]:List api_Rect),()):dens ch_sp.ts)++[.v (clo 232)]) ch_sp.rs post=((post (u10,())/\post (u10,()))/\post (u10,())):=by kernel_rfl
theorem ch_w2 (post:dens (shT ch_sp.rs [])->Prop):walkG (callB Tryz.prog tau exI rsH 500 20) ch_sp.f ch_sp.tp (tvs ch_sp.ts ((([]:List api_Rect),u10,()):dens ch_sp.ts)++[.v (clo 232)]) ch_sp.rs post=((post (([]:List api_Rect),())/\post (([]:List api_Rect),()))/\post (([]:List api_Rect),())):=by kernel_rfl
theorem ch_x {x:dens ch_sp.ts}{a b:List api_Rect}(h1:(x.1:List api_Rect)=a)(h2:(x.2.1:List api_Rect)=b):x=(a,b,()):=by
 obtain⟨p,q,u⟩:=x
 subst h1 h2
 rfl
theorem ch_ok:SpecCOK Tryz.prog ch_sp [clo 232]:=SpecCOK.of_B (τ:=tau) exI_ok rsH_ok (N:=500) (n:=20) λx post hp=>by
 obtain⟨y,h1,h2⟩:=optP_spec hp
 rcases chF_spec h1 with⟨e1,e2,e3⟩|⟨e1,e2,e3⟩
 ·have e:=ch_x e1 e2
  subst e e3
  exact HoldW.of (ch_w1 post).symm ⟨⟨h2,h2⟩,h2⟩
 ·have e:=ch_x e1 e2
  subst e e3
  exact HoldW.of (ch_w2 post).symm ⟨⟨h2,h2⟩,h2⟩
def rsL:List Rule:=ruleC ch_sp 232::rsH
theorem rsL_ok:RulesOK Tryz.prog rsL:= .cons (ruleC_ok ch_ok) rsH_ok
def eds10:List outline_edge:=[eg 0 0 10 0,eg 0 10 0 0,eg 10 0 10 10,eg 10 10 0 10]
def isRg (a:api_Region):Bool:=isSq a.1
theorem isRg_eq {a:api_Region}(h:isRg a=true):a=⟨sq10⟩:=by
 obtain⟨l⟩:=a
 rw[isSq_eq (l:=l) h]
def eds_sp:Spec:=⟨59,false,true,[.st .api_Region],.dat (.sl (.st .outline_edge)),λx post=>bif isRg x.1 then post (eds10,()) else False⟩
theorem eds_w (post:dens (shT eds_sp.rs [])->Prop):walkG (callB Tryz.prog tau exI rsL 500 20) eds_sp.f eds_sp.tp (tvs eds_sp.ts (((⟨sq10⟩:api_Region),()):dens eds_sp.ts)) eds_sp.rs post=post (eds10,()):=by kernel_rfl
theorem rg_x {x:dens [Ty.st .api_Region]}(h:isRg x.1=true):x=((⟨sq10⟩:api_Region),()):=by
 obtain⟨p,u⟩:=x
 have h:(p:api_Region)=⟨sq10⟩:=isRg_eq h
 subst h
 rfl
theorem eds_ok:SpecOK Tryz.prog eds_sp:=SpecOK.of_B (τ:=tau) exI_ok rsL_ok (N:=500) (n:=20) λx post hp=>by
 obtain⟨h1,h2⟩:=bifT hp
 have e:=rg_x h1
 subst e
 exact HoldW.of (eds_w post).symm h2
def cor10:List api_Point:=[⟨10,0⟩,⟨10,10⟩,⟨0,10⟩,⟨0,0⟩]
def ring10:List api_Point:=[⟨0,0⟩,⟨10,0⟩,⟨10,10⟩,⟨0,10⟩]
def isCor (l:List api_Point):Bool:=decide (l=cor10)
theorem isCor_eq {l:List api_Point}(h:isCor l=true):l=cor10:=of_decide_eq_true h
def bg_sp:Spec:=⟨61,false,true,[.sl (.st .api_Point)],.dat (.sl (.st .api_Point)),λx post=>bif isCor x.1 then post (ring10,()) else False⟩
theorem bg_w (post:dens (shT bg_sp.rs [])->Prop):walkG (callB Tryz.prog tau exI rsG 500 20) bg_sp.f bg_sp.tp (tvs bg_sp.ts ((cor10,()):dens bg_sp.ts)) bg_sp.rs post=post (ring10,()):=by kernel_rfl
theorem cor_x {x:dens [Ty.sl (.st .api_Point)]}(h:isCor x.1=true):x=(cor10,()):=by
 obtain⟨p,u⟩:=x
 have h:p=cor10:=isCor_eq h
 subst h
 rfl
theorem bg_ok:SpecOK Tryz.prog bg_sp:=SpecOK.of_B (τ:=tau) exI_ok rsG_ok (N:=500) (n:=20) λx post hp=>by
 obtain⟨h1,h2⟩:=bifT hp
 have e:=cor_x h1
 subst e
 exact HoldW.of (bg_w post).symm h2
def rsE:List Rule:=rule1 bg_sp::rule1 eds_sp::rsH
theorem rsE_ok:RulesOK Tryz.prog rsE:= .cons (rule1_ok bg_ok) (.cons (rule1_ok eds_ok) rsH_ok)
def rings_sp:Spec:=⟨18,false,true,[.st .api_Region],.tup [.dat (.sl (.sl (.st .api_Point))),.dat (.int .i64)],λx post=>bif isRg x.1 then post ([ring10],(0:Int),()) else False⟩
theorem rings_w (post:dens (shT rings_sp.rs [])->Prop):walkG (callB Tryz.prog tau exI rsE 500 20) rings_sp.f rings_sp.tp (tvs rings_sp.ts (((⟨sq10⟩:api_Region),()):dens rings_sp.ts)) rings_sp.rs post=post ([ring10],(0:Int),()):=by kernel_rfl
theorem rings_ok:SpecOK Tryz.prog rings_sp:=SpecOK.of_B (τ:=tau) exI_ok rsE_ok (N:=500) (n:=20) λx post hp=>by
 obtain⟨h1,h2⟩:=bifT hp
 have e:=rg_x h1
 subst e
 exact HoldW.of (rings_w post).symm h2
def isSh (z:Int)(l:List Int):Bool:=decide (z=3)&&decide (l=[1,2])
theorem isSh_eq {z:Int}{l:List Int}(h:isSh z l=true):z=3/\l=[1,2]:=by
 unfold isSh at h
 simpa using h
def shares_sp:Spec:=⟨33,false,true,[.int .i64,.sl (.int .i64)],.tup [.dat (.sl (.int .i64)),.dat (.int .i64)],λx post=>bif isSh x.1 x.2.1 then post (([1,2]:List Int),(0:Int),()) else False⟩
theorem shares_w (post:dens (shT shares_sp.rs [])->Prop):walkG (callB Tryz.prog tau exI [] 500 20) shares_sp.f shares_sp.tp (tvs shares_sp.ts (((3:Int),([1,2]:List Int),()):dens shares_sp.ts)) shares_sp.rs post=post (([1,2]:List Int),(0:Int),()):=by kernel_rfl
theorem sh_x {x:dens [Ty.int .i64,Ty.sl (.int .i64)]}(h:isSh x.1 x.2.1=true):x=((3:Int),([1,2]:List Int),()):=by
 obtain⟨p,q,u⟩:=x
 obtain⟨h1,h2⟩:=isSh_eq h
 have h1:p=(3:Int):=h1
 have h2:q=([1,2]:List Int):=h2
 subst h1 h2
 rfl
theorem shares_ok:SpecOK Tryz.prog shares_sp:=SpecOK.of_B (τ:=tau) exI_ok .nil (N:=500) (n:=20) λx post hp=>by
 obtain⟨h1,h2⟩:=bifT hp
 have e:=sh_x h1
 subst e
 exact HoldW.of (shares_w post).symm h2
def bs (l:List UInt8):ByteArray:=⟨⟨l⟩⟩
def tAB:ByteArray:=bs [97,32,98,10]
def tA:ByteArray:=bs [97,32,98]
def tN:ByteArray:=bs [10]
def tH:ByteArray:=bs [35]
def tS:ByteArray:=bs [32]
def wAB:List ByteArray:=[bs [97],bs [98]]
abbrev cX:=callB Tryz.prog tau exI [] 500 20
def eq1 {ts:List Ty}{rs:Sh}(x0:dens ts)(y0:dens (shT rs [])):dens ts->(dens (shT rs [])->Prop)->Prop:=λx post=>x=x0/\post y0
def cnt_sp:Spec:=⟨96,false,true,[.str,.str],.dat (.int .i64),eq1 (ts:=[.str,.str]) (rs:= .dat (.int .i64)) (tAB,tN,()) ((1:Int),())⟩
theorem cnt_w (post:dens (shT cnt_sp.rs [])->Prop):walkG cX cnt_sp.f cnt_sp.tp (tvs cnt_sp.ts ((tAB,tN,()):dens cnt_sp.ts)) cnt_sp.rs post=post ((1:Int),()):=by kernel_rfl
theorem cnt_ok:SpecOK Tryz.prog cnt_sp:=SpecOK.of_B (τ:=tau) exI_ok .nil (N:=500) (n:=20) λx post ⟨hx,hp⟩=>by
 subst hx
 exact HoldW.of (cnt_w post).symm hp
def hsf_sp:Spec:=⟨97,false,true,[.str,.str],.dat .bool,eq1 (ts:=[.str,.str]) (rs:= .dat .bool) (tAB,tN,()) (true,())⟩
theorem hsf_w (post:dens (shT hsf_sp.rs [])->Prop):walkG cX hsf_sp.f hsf_sp.tp (tvs hsf_sp.ts ((tAB,tN,()):dens hsf_sp.ts)) hsf_sp.rs post=post (true,()):=by kernel_rfl
theorem hsf_ok:SpecOK Tryz.prog hsf_sp:=SpecOK.of_B (τ:=tau) exI_ok .nil (N:=500) (n:=20) λx post ⟨hx,hp⟩=>by
 subst hx
 exact HoldW.of (hsf_w post).symm hp
def cfn_sp:Spec:=⟨98,false,true,[.str],.dat .bool,eq1 (ts:=[.str]) (rs:= .dat .bool) (tAB,()) (false,())⟩
theorem cfn_w (post:dens (shT cfn_sp.rs [])->Prop):walkG cX cfn_sp.f cfn_sp.tp (tvs cfn_sp.ts ((tAB,()):dens cfn_sp.ts)++[.v (clo 99)]) cfn_sp.rs post=post (false,()):=by kernel_rfl
theorem cfn_ok:SpecCOK Tryz.prog cfn_sp [clo 99]:=SpecCOK.of_B (τ:=tau) exI_ok .nil (N:=500) (n:=20) λx post ⟨hx,hp⟩=>by
 subst hx
 exact HoldW.of (cfn_w post).symm hp
def trm_sp:Spec:=⟨103,false,true,[.str,.str],.dat .str,eq1 (ts:=[.str,.str]) (rs:= .dat .str) (tAB,tN,()) (tA,())⟩
theorem trm_w (post:dens (shT trm_sp.rs [])->Prop):walkG cX trm_sp.f trm_sp.tp (tvs trm_sp.ts ((tAB,tN,()):dens trm_sp.ts)) trm_sp.rs post=post (tA,()):=by kernel_rfl
theorem trm_ok:SpecOK Tryz.prog trm_sp:=SpecOK.of_B (τ:=tau) exI_ok .nil (N:=500) (n:=20) λx post ⟨hx,hp⟩=>by
 subst hx
 exact HoldW.of (trm_w post).symm hp
def cut_sp:Spec:=⟨102,false,true,[.str,.str],.tup [.dat .str,.dat .str,.dat .bool],eq1 (ts:=[.str,.str]) (rs:= .tup [.dat .str,.dat .str,.dat .bool]) (tA,tH,()) (tA,bs [],false,())⟩
theorem cut_w (post:dens (shT cut_sp.rs [])->Prop):walkG cX cut_sp.f cut_sp.tp (tvs cut_sp.ts ((tA,tH,()):dens cut_sp.ts)) cut_sp.rs post=post (tA,bs [],false,()):=by kernel_rfl
theorem cut_ok:SpecOK Tryz.prog cut_sp:=SpecOK.of_B (τ:=tau) exI_ok .nil (N:=500) (n:=20) λx post ⟨hx,hp⟩=>by
 subst hx
 exact HoldW.of (cut_w post).symm hp
def spl_sp:Spec:=⟨105,false,true,[.str,.str],.dat (.sl .str),eq1 (ts:=[.str,.str]) (rs:= .dat (.sl .str)) (tA,tS,()) (wAB,())⟩
theorem spl_w (post:dens (shT spl_sp.rs [])->Prop):walkG cX spl_sp.f spl_sp.tp (tvs spl_sp.ts ((tA,tS,()):dens spl_sp.ts)) spl_sp.rs post=post (wAB,()):=by kernel_rfl
theorem spl_ok:SpecOK Tryz.prog spl_sp:=SpecOK.of_B (τ:=tau) exI_ok .nil (N:=500) (n:=20) λx post ⟨hx,hp⟩=>by
 subst hx
 exact HoldW.of (spl_w post).symm hp
def del_sp:Spec:=⟨104,false,true,[.sl .str],.dat (.sl .str),eq1 (ts:=[.sl .str]) (rs:= .dat (.sl .str)) (wAB,()) (wAB,())⟩
theorem del_w (post:dens (shT del_sp.rs [])->Prop):walkG cX del_sp.f del_sp.tp (tvs del_sp.ts ((wAB,()):dens del_sp.ts)++[.v (clo 106)]) del_sp.rs post=post (wAB,()):=by kernel_rfl
theorem del_ok:SpecCOK Tryz.prog del_sp [clo 106]:=SpecCOK.of_B (τ:=tau) exI_ok .nil (N:=500) (n:=20) λx post ⟨hx,hp⟩=>by
 subst hx
 exact HoldW.of (del_w post).symm hp
def idx_sp:Spec:=⟨185,false,true,[.str,.int .u8],.dat (.int .i64),eq1 (ts:=[.str,.int .u8]) (rs:= .dat (.int .i64)) (tAB,(10:Int),()) ((3:Int),())⟩
theorem idx_w (post:dens (shT idx_sp.rs [])->Prop):walkG cX idx_sp.f idx_sp.tp (tvs idx_sp.ts ((tAB,(10:Int),()):dens idx_sp.ts)) idx_sp.rs post=post ((3:Int),()):=by kernel_rfl
theorem idx_ok:SpecOK Tryz.prog idx_sp:=SpecOK.of_B (τ:=tau) exI_ok .nil (N:=500) (n:=20) λx post ⟨hx,hp⟩=>by
 subst hx
 exact HoldW.of (idx_w post).symm hp
variable {P:Program}
def Left1 (S:Cells)(w:World)(sv:SV)(ex:Ending)(w':World):Prop:=∃(v:Value)(c':Cx),ex= .returned v/\SRel c' w' sv v/\(∀b o,S b o->c'.S b o)/\(∀b o,c'.S b o->(S b o\/w.heap.size<=b)/\b<w'.heap.size)/\Below w.heap.size w w'
theorem SpecOK.atG {P:Program}{f:FuncId}{al:Bool}{ts:List Ty}{rs:Sh}{pt:dens ts->(dens (shT rs [])->Prop)->Prop}(h:SpecOK P ⟨f,false,al,ts,rs,pt⟩){x:dens ts}{y:dens (shT rs [])}(hp:pt x λz=>z=y)(hrows:(instS rs [] y 0).2.1=[]){w:World}{S:Cells}{us:List Value}(hS:∀b o,S b o->b<w.heap.size)(hl:us.length=ts.length)
 (hr:∀(i:Nat)(d:D)(u:Value),(tvs ts x)[i]? =some d->us[i]? =some u->Rd S w d u):Calls P f us.toArray w (Left1 S w (instS rs [] y 0).1):=by
 refine (h x (λz=>z=y) hp w S none us hS rfl hl hr).mono ?_
 rintro ex w' ⟨v,y',c',rfl,rfl,hox,htr,hsr⟩
 have hadd:MS.add ⟨[],0,false⟩ (instS rs [] y' 0).2.1=⟨[],0,false⟩:=by rw[hrows];rfl
 refine⟨v,c',rfl,hsr,htr.sS,λb o hb=>⟨?_,hox.sb b o hb⟩,⟨htr.os,htr.tape,htr.output,htr.sz,λk hk=>htr.blk k hk (λ⟨_,_,hx,_⟩=>(by cases hx)) (λh=>by cases h)⟩⟩
 rcases htr.sN b o hb with h|⟨_,_,hx,_⟩|h
 ·exact .inl h
 ·cases hx
 ·exact .inr h
theorem SpecCOK.atG {P:Program}{f:FuncId}{al:Bool}{ts:List Ty}{rs:Sh}{pt:dens ts->(dens (shT rs [])->Prop)->Prop}{cl:List Value}(h:SpecCOK P ⟨f,false,al,ts,rs,pt⟩ cl){x:dens ts}{y:dens (shT rs [])}(hp:pt x λz=>z=y){w:World}{S:Cells}{us:List Value}(hS:∀b o,S b o->b<w.heap.size)(hl:us.length=ts.length)
 (hr:∀(i:Nat)(d:D)(u:Value),(tvs ts x)[i]? =some d->us[i]? =some u->Rd S w d u):Calls P f (us++cl).toArray w (Left1 S w (instS rs [] y 0).1):=by
 refine (h x (λz=>z=y) hp w S none us hS rfl hl hr).mono ?_
 rintro ex w' ⟨v,y',c',rfl,rfl,hox,htr,hsr⟩
 refine⟨v,c',rfl,hsr,htr.sS,λb o hb=>⟨?_,hox.sb b o hb⟩,⟨htr.os,htr.tape,htr.output,htr.sz,λk hk=>htr.blk k hk (λ⟨_,_,hx,_⟩=>(by cases hx)) (λh=>by cases h)⟩⟩
 rcases htr.sN b o hb with h|⟨_,_,hx,_⟩|h
 ·exact .inl h
 ·cases hx
 ·exact .inr h
def noS:Cells:=λ_ _=>False
theorem str2 {a b:ByteArray}{w:World}:∀(i:Nat)(d:D)(u:Value),(tvs [.str,.str] ((a,b,()):dens [.str,.str]))[i]? =some d->[Value.string a,.string b][i]? =some u->Rd noS w d u:=λi d u h1 h2=>by
 match i,h1,h2 with
 |0,h1,h2=>cases h1;cases h2;exact .v _
 |1,h1,h2=>cases h1;cases h2;exact .v _
 |i+2,h1,h2=>cases h1
def Plain1 (w:World)(u:Value)(ex:Ending)(w':World):Prop:=ex= .returned u/\Below w.heap.size w w'
theorem Left1.plain {S:Cells}{w w':World}{u:Value}{ex:Ending}(h:Left1 S w (.d (.v u)) ex w'):Plain1 w u ex w':=by
 obtain⟨v,c',rfl,h1,_,_,h2⟩:=h
 rw[srel_v h1]
 exact⟨rfl,h2⟩
theorem cnt_at (w:World):Calls Tryz.prog 96 #[.string tAB,.string tN] w (Plain1 w (.int .i64 1)):=
 (cnt_ok.atG (x:=(tAB,tN,())) ⟨rfl,rfl⟩ rfl (S:=noS) (us:=[.string tAB,.string tN]) (λ_ _ h=>h.elim) rfl str2).mono λex w' h=>Left1.plain h
theorem hsf_at (w:World):Calls Tryz.prog 97 #[.string tAB,.string tN] w (Plain1 w (.bool true)):=
 (hsf_ok.atG (x:=(tAB,tN,())) ⟨rfl,rfl⟩ rfl (S:=noS) (us:=[.string tAB,.string tN]) (λ_ _ h=>h.elim) rfl str2).mono λex w' h=>Left1.plain h
theorem cfn_at (w:World):Calls Tryz.prog 98 #[.string tAB,.func (.func 99) #[] #[]] w (Plain1 w (.bool false)):=
 (cfn_ok.atG (x:=(tAB,())) ⟨rfl,rfl⟩ (S:=noS) (us:=[.string tAB]) (λ_ _ h=>h.elim) rfl (λi d u h1 h2=>by
  match i,h1,h2 with
  |0,h1,h2=>cases h1;cases h2;exact .v _
  |i+1,h1,h2=>cases h1)).mono λex w' h=>Left1.plain h
theorem trm_at (w:World):Calls Tryz.prog 103 #[.string tAB,.string tN] w (Plain1 w (.string tA)):=
 (trm_ok.atG (x:=(tAB,tN,())) ⟨rfl,rfl⟩ rfl (S:=noS) (us:=[.string tAB,.string tN]) (λ_ _ h=>h.elim) rfl str2).mono λex w' h=>Left1.plain h
theorem idx_at (w:World):Calls Tryz.prog 185 #[.string tAB,.int .u8 10] w (Plain1 w (.int .i64 3)):=
 (idx_ok.atG (x:=(tAB,(10:Int),())) ⟨rfl,rfl⟩ rfl (S:=noS) (us:=[.string tAB,.int .u8 10]) (λ_ _ h=>h.elim) rfl (λi d u h1 h2=>by
  match i,h1,h2 with
  |0,h1,h2=>cases h1;cases h2;exact .v _
  |1,h1,h2=>cases h1;cases h2;exact .v _
  |i+2,h1,h2=>cases h1)).mono λex w' h=>Left1.plain h
theorem cut_at (w:World):Calls Tryz.prog 102 #[.string tA,.string tH] w (Plain1 w (.tuple #[.string tA,.string (bs []),.bool false])):=
 (cut_ok.atG (x:=(tA,tH,())) ⟨rfl,rfl⟩ rfl (S:=noS) (us:=[.string tA,.string tH]) (λ_ _ h=>h.elim) rfl str2).mono λex w' h=>by
  obtain⟨v,c',rfl,h1,_,_,h2⟩:=h
  have h1:SRel c' w' (.tup [.d (.v (.string tA)),.d (.v (.string (bs []))),.d (.v (.bool false))]) v:=h1
  cases h1 with
  |tup _ us hl h3=>
   match us,hl with
   |[a,b,c],_=>
    have e1:=srel_v (h3 0 _ a rfl rfl)
    have e2:=srel_v (h3 1 _ b rfl rfl)
    have e3:=srel_v (h3 2 _ c rfl rfl)
    subst e1 e2 e3
    exact⟨rfl,h2⟩
theorem spl_at (w:World):Calls Tryz.prog 105 #[.string tA,.string tS] w λex w'=>∃(v:Value)(S':Cells),ex= .returned v/\Rd S' w' (.sl .str wAB) v/\(∀b o,S' b o->w.heap.size<=b/\b<w'.heap.size)/\Below w.heap.size w w':=
 (spl_ok.atG (x:=(tA,tS,())) ⟨rfl,rfl⟩ rfl (S:=noS) (us:=[.string tA,.string tS]) (λ_ _ h=>h.elim) rfl str2).mono λex w' h=>by
  obtain⟨v,c',rfl,h1,_,h3,h2⟩:=h
  exact⟨v,c'.S,rfl,srel_d h1,λb o hb=>⟨(h3 b o hb).1.elim (λh=>h.elim) id,(h3 b o hb).2⟩,h2⟩
theorem del_at (w:World)(S:Cells)(v0:Value)(hS:∀b o,S b o->b<w.heap.size)(hv:Rd S w (.sl .str wAB) v0):Calls Tryz.prog 104 #[v0,.func (.func 106) #[] #[]] w λex w'=>∃(v:Value)(S':Cells),ex= .returned v/\Rd S' w' (.sl .str wAB) v/\(∀b o,S' b o->(S b o\/w.heap.size<=b)/\b<w'.heap.size)/\Below w.heap.size w w':=
 (del_ok.atG (x:=(wAB,())) ⟨rfl,rfl⟩ (S:=S) (us:=[v0]) hS rfl (λi d u h1 h2=>by
  match i,h1,h2 with
  |0,h1,h2=>cases h1;cases h2;exact hv
  |i+1,h1,h2=>cases h1)).mono λex w' h=>by
  obtain⟨v,c',rfl,h1,_,h3,h2⟩:=h
  exact⟨v,c'.S,rfl,srel_d h1,h3,h2⟩
end RE
end Go.Proofs.YtjcjdgmojkkioaaGreatDoor
namespace Go.Proofs.YtjcjdgmojkkioaaGreatDoor
open Go.RowKit Go.Shelf
set_option linter.unusedVariables false
set_option maxRecDepth 100000
attribute [local go_sem] Oper.semAt_some
namespace RE
set_option maxHeartbeats 1000000 in
theorem lines_in (n:Nat)(hn:2<=n)(l Bs:Nat)(W:World)(hb:Boxed W Bs 9 (.string tAB))(Q:World->Prop)
 (hy:∀W1,W.grownBy W1 (some Bs)->Boxed W1 Bs 9 (.string (bs []))->YieldAt Fence.wide (n-1) Tryz.prog l #[.string tAB] W1 λe W2=>e= .returned (.bool true)/\Q W2/\Boxed W2 Bs 9 (.string (bs []))):
 CallsIn Fence.wide n Tryz.prog 184 #[.func (.yield l) #[] #[],.pointer (some ⟨Bs,0,none⟩)] W λe W'=>(∃v,e= .returned v)/\Q W':=by
 refine callsIn_of_wp Tryz.func184 rfl trivial ?_ rfl
 simp only[Tryz.ntmps184,List.size_toArray,List.length_cons,List.length_nil,Nat.reduceAdd,Nat.reduceSub,Array.replicate_succ,Array.replicate_zero,List.push_toArray,List.append_toArray,List.nil_append,List.cons_append]
 have hc:=hb.cell
 have hf:=hb.frozen
 refine wpIn_block ?_
 refine wpIn_loop_rounds 2 ?_
 unfold Code.roundsIn
 gi_wp2
 refine⟨trivial,λ_=>by omega,(callsIn_wide.2 (idx_at W)).mono ?_⟩
 rintro e w1 ⟨rfl,hB1⟩
 have hlt:=hb.lt
 have hb1:Boxed w1 Bs 9 (.string tAB):=(hB1.block Bs hlt).trans hb
 have hc1:=hb1.cell
 have hf1:=hb1.frozen
 clear hc hf
 gi_wp2
 have e4:tAB.extract 0 4=tAB:=by decide
 have e0:tAB.extract 4 tAB.size=bs []:=by decide
 obtain⟨K0,hK0⟩:∃K0:Act->World->Prop,K0=λa' w'=>(∃t,a'={tmps:= #[.func (.yield l) #[] #[],.pointer (some ⟨Bs,0,none⟩),undef,.string tAB,.int .i64 3,.string tAB,.int .i64 (tAB.size:Int),.bool true,.string tAB,.int .i64 3,.int .i64 3,.bool true,.string tAB,.int .i64 3,.int .i64 4,.string tAB,.string tAB,.int .i64 3,.int .i64 4,t,undef,undef,undef,undef,undef],defers:=[]})/\w'=(w1.setCell ⟨Bs,0,none⟩ (.string (bs []))).drew:=⟨_,rfl⟩
 refine wpIn_mono (Q:=Exit.then K0 (λ_ _ _=>False)) ?_ ?_
 ·gi_region
  all_goals (show K0 _ _;rw[hK0];exact⟨⟨_,rfl⟩,rfl⟩)
 intro e a' w' hq
 have he:e= .normal:=by
  cases e with
  |normal=>rfl
  |_=>exact hq.elim
 subst he
 have hq:K0 a' w':=hq
 rw[hK0] at hq
 obtain⟨⟨t,rfl⟩,rfl⟩:=hq
 obtain⟨w2,hw2⟩:∃w2,w2=(w1.setCell ⟨Bs,0,none⟩ (.string (bs []))).drew:=⟨_,rfl⟩
 rw[<-hw2]
 have hb2:Boxed w2 Bs 9 (.string (bs [])):=by rw[hw2];exact hb1.set _
 have hg2:W.grownBy w2 (some Bs):=by
  refine⟨?_,?_,?_,?_,λk hk hne=> ?_⟩
  ·rw[hw2];exact hB1.os
  ·rw[hw2];exact hB1.tape
  ·rw[hw2];exact hB1.output
  ·rw[hw2];simpa using hB1.size
  ·rw[hw2]
   exact (Below.heap_setCell w1 ⟨Bs,0,none⟩ _ k (λe=>hne (by rw[e]))).trans (hB1.block k hk)
 obtain⟨fn,tmps,assign,body,hyl,hR⟩:=hy w2 hg2 hb2
 clear hw2 hc1 hf1
 gi_wp2
 refine⟨λ_=>by omega,hR.mono ?_⟩
 rintro e w3 ⟨rfl,hQ3,hb3⟩
 have hc3:=hb3.cell
 have hf3:=hb3.frozen
 gi_wp2
 unfold Code.roundsIn
 have hz:(bs []).size=0:=rfl
 gi_wp2
 trace_state
 first|go_end0|go_ret
 exact⟨⟨_,rfl⟩,hQ3⟩
end RE
end Go.Proofs.YtjcjdgmojkkioaaGreatDoor
namespace Go.Proofs.YtjcjdgmojkkioaaGreatDoor
open Go.RowKit Go.Shelf
set_option linter.unusedVariables false
set_option maxRecDepth 100000
attribute [local go_sem] Oper.semAt_some
namespace RE
structure Kp2 (w W:World)(b c:Nat):Prop where
 os:W.os=w.os
 tape:W.tape=w.tape
 output:W.output=w.output
 size:w.heap.size<=W.heap.size
 block:∀k,k<w.heap.size->k≠b->k≠c->W.heap[k]? =w.heap[k]?
theorem Kp2.put {w W:World}{b c l:Nat}(h:Kp2 w W b c)(hl:w.heap.size<=l)(o:Obj):Kp2 w (W.putObj l o) b c:=
 ⟨h.os,h.tape,h.output,by simpa [World.putObj] using h.size,λk hk h1 h2=>(World.putObj_heap_other (by omega)).trans (h.block k hk h1 h2)⟩
theorem range_one {assign body:Code}{Q:Exit->Act->World->Prop}{a:Act}{w:World}{n Bs B4:Nat}{g:Operand}(hn:4<=n)(hg:a.eval g= .func (.func 184) #[] #[.pointer (some ⟨Bs,0,none⟩)])(hb:Boxed w Bs 9 (.string tAB))(hB:B4<w.heap.size)(hne:B4≠Bs)
 (J:World->Prop) (hJ:∀(X:World)(l:Nat)(o o':Obj),w.heap.size<=l->X.heap[l]? =some o->o.isCells=false->J X->J (X.putObj l o'))
 (hround:∀(l:Nat)(W1:World),w.grownBy W1 (some Bs)->w.heap.size<=l->l<W1.heap.size->
  assign.wpIn (Fence.wide.inRound l) (n-1-1) Tryz.prog (Exit.then (λa₁ w₁=>w₁=W1/\∀W2:World,W1.grownBy W2 (some l)->body.wpIn (Fence.wide.inRound l) (n-1-1) Tryz.prog (λe _ W3=>e= .normal/\W2.grownBy W3 (some B4)/\J W3) a₁ W2) (λ_ _ _=>False))
   {tmps:=a.tmps.setIfInBounds 27 (.string tAB),defers:=[]} W1)
 (hdone:∀(D:Nat)(W:World),w.heap.size<=D->Kp2 w W Bs B4->J W->W.heap[D]? =some (.deferred (some []))->Q .normal {a with defers:={target:= .collected D,args:= #[]}::a.defers} W):
 (Code.rangeFunc g #[27] assign body).wpIn Fence.wide n Tryz.prog Q a w:=by
 refine wpIn_rangeFunc ?_
 intro fn hfn
 obtain⟨rec,hrec⟩:∃rec:LoopState->Option Code->Loop,rec=λst pe=>{state:=st,pending:=pe,fn,tmps:=a.tmps,params:= #[27],assign,body,defers:=w.heap.size}:=⟨_,rfl⟩
 obtain⟨W1,hW1⟩:∃W1,(w.alloc (.deferred (some []))).alloc (.loop (rec .ready none))=W1:=⟨_,rfl⟩
 have hlt:=hb.lt
 have hs1:W1.heap.size=w.heap.size+2:=by rw[<-hW1];simp
 have hold:∀k,k<w.heap.size->W1.heap[k]? =w.heap[k]? :=λk hk=>by
  rw[<-hW1];exact (Below.heap_alloc _ _ k (by simp;omega)).trans (Below.heap_alloc _ _ k hk)
 have hL1:W1.heap[w.heap.size+1]? =some (.loop (rec .ready none)):=by
  rw[<-hW1];have:=World.alloc_heap_new (w.alloc (.deferred (some []))) (.loop (rec .ready none));rwa [World.size_alloc] at this
 have hK1:W1.heap[w.heap.size]? =some (.deferred (some [])):=by
  rw[<-hW1];exact (Below.heap_alloc _ _ _ (by simp)).trans (World.alloc_heap_new w _)
 have ho1:W1.os=w.os/\W1.tape=w.tape/\W1.output=w.output:=by rw[<-hW1];exact⟨rfl,rfl,rfl⟩
 have hb1:Boxed W1 Bs 9 (.string tAB):=(hold Bs hlt).trans hb
 refine⟨w.heap.size+1,[{target:= .collected w.heap.size,args:= #[]}],W1,{target:= .fn (.func 184) #[.pointer (some ⟨Bs,0,none⟩)],args:= #[.func (.yield (w.heap.size+1)) #[] #[]]},W1,184,
  #[.func (.yield (w.heap.size+1)) #[] #[]]++ #[.pointer (some ⟨Bs,0,none⟩)],W1,?_,?_,?_,?_,λ_=>by omega,?_⟩
 ·rw[<-hW1,hrec];exact run_enterLoop_outer _ _ _ _ _
 ·simp only[resolve,hg]
  simp[go_sem]
 ·intro f' hf';trivial
 ·have eg:=enters_of Tryz.func184 (by kernel_rfl) rfl
  simp[invoke,go_sem]
 ·refine (lines_in (n-1) (by omega) (w.heap.size+1) Bs W1 hb1 (λW=>Kp2 w W Bs B4/\W.heap[w.heap.size+1]? =some (.loop (rec .ready none))/\W.heap[w.heap.size]? =some (.deferred (some []))/\J W) ?_).mono ?_
  ·intro Wy hgy hby
   have hLy:Wy.heap[w.heap.size+1]? =some (.loop (rec .ready none)):=(hgy.block _ (by omega) (by simp;omega)).trans hL1
   have hKy:Wy.heap[w.heap.size]? =some (.deferred (some [])):=(hgy.block _ (by omega) (by simp;omega)).trans hK1
   have hly:w.heap.size+1<Wy.heap.size:=(Array.getElem?_eq_some_iff.1 hLy).1
   have hgw:w.grownBy Wy (some Bs):=⟨hgy.os.trans ho1.1,hgy.tape.trans ho1.2.1,hgy.output.trans ho1.2.2,by have:=hgy.size;omega,λk hk hne=>(hgy.block k (by omega) hne).trans (hold k hk)⟩
   have hyl:=run_yield (P:=Tryz.prog) (args:= #[.string tAB]) hLy (by rw[hrec];rfl)
   rw[hrec] at hyl
   refine⟨fn,_,assign,body,hyl,roundIn_of_wpIn hfn ?_⟩
   have hr:=hround (w.heap.size+1) Wy hgw (by omega) hly
   have hr:=hr
   refine wpIn_mono (by simpa using hr) ?_
   intro e a1 w1 hq
   cases e with
   |normal=>
    obtain⟨rfl,hbody⟩:=hq
    have hbr:=run_beginRound (P:=Tryz.prog) hLy (by rw[hrec])
    obtain⟨W2,hW2⟩:∃W2,w1.putObj (w.heap.size+1) (.loop {rec .ready none with state:= .busy})=W2:=⟨_,rfl⟩
    rw[hW2] at hbr
    have hg2:w1.grownBy W2 (some (w.heap.size+1)):=by rw[<-hW2];exact grownBy_putObj' _ _ _
    have hL2:W2.heap[w.heap.size+1]? =some (.loop {rec .ready none with state:= .busy}):=by rw[<-hW2];exact World.putObj_heap_same hly
    have hK2:W2.heap[w.heap.size]? =some (.deferred (some [])):=(hg2.block _ (by omega) (by simp)).trans hKy
    have hb2:Boxed W2 Bs 9 (.string (bs [])):=(hg2.block Bs (by omega) (by simp;omega)).trans hby
    refine⟨W2,hbr,wpIn_mono (hbody W2 hg2) ?_⟩
    rintro e a3 W3 ⟨rfl,hg3,hJ3⟩
    have hs2:=hg2.size
    have hs3:=hg3.size
    have hL3:W3.heap[w.heap.size+1]? =some (.loop {rec .ready none with state:= .busy}):=(hg3.block _ (by omega) (by simp;omega)).trans hL2
    have hK3:W3.heap[w.heap.size]? =some (.deferred (some [])):=(hg3.block _ (by omega) (by simp;omega)).trans hK2
    have hb3:Boxed W3 Bs 9 (.string (bs [])):=(hg3.block Bs (by omega) (by simp;omega)).trans hb2
    have hl3:=(Array.getElem?_eq_some_iff.1 hL3).1
    have her:=run_endRound (P:=Tryz.prog) none hL3
    refine⟨_,_,her,rfl,⟨Kp2.put ⟨hg3.os.trans (hg2.os.trans hgw.os),hg3.tape.trans (hg2.tape.trans hgw.tape),hg3.output.trans (hg2.output.trans hgw.output),by have:=hgw.size;omega,λk hk h1 h2=> ?_⟩ (by omega) _,?_,(World.putObj_heap_other (by omega)).trans hK3,hJ _ _ _ _ (by omega) hL3 rfl hJ3⟩,(World.putObj_heap_other (by omega)).trans hb3⟩
    ·have:=hgw.size
     exact (hg3.block k (by omega) (by simp;omega)).trans ((hg2.block k (by omega) (by simp;omega)).trans (hgw.block k hk (by simp;omega)))
    ·rw[World.putObj_heap_same hl3]
     simp[hrec]
   |_=>exact hq.elim
  ·rintro e W3 ⟨⟨v,rfl⟩,hk,hL,hK,hJ3⟩
   have hend:=run_endLoop (P:=Tryz.prog) hL (by rw[hrec];simp)
   have hend':(Instr.endLoop (w.heap.size+1)).run Tryz.prog W3= .ok none (W3.putObj (w.heap.size+1) (.loop {rec .ready none with state:= .exhausted})):=by rw[hend];simp[hrec]
   refine⟨none,_,hend',?_⟩
   exact hdone w.heap.size _ (Nat.le_refl _) (hk.put (by omega) _) (hJ _ _ _ _ (by omega) hL rfl hJ3) ((World.putObj_heap_other (by omega)).trans hK)
end RE
end Go.Proofs.YtjcjdgmojkkioaaGreatDoor
namespace Go.Proofs.YtjcjdgmojkkioaaGreatDoor
open Go.RowKit Go.Shelf
set_option linter.unusedVariables false
set_option maxRecDepth 100000
attribute [local go_sem] Oper.semAt_some
namespace RE
theorem tAB_ne:tAB.toList.isEmpty=false:=by simp[tAB,bs,ByteArray.toList,ByteArray.toList.loop,ByteArray.size]
theorem lines_at (w:World):Calls Tryz.prog 101 #[.string tAB] w λe w'=>e= .returned (.func (.func 184) #[] #[.pointer (some ⟨w.heap.size,0,none⟩)])/\w'=w.alloc (.cells #[.string tAB] 9):=by
 refine (callsIn_wide (n:=3)).1 ?_
 refine callsIn_of_wp Tryz.func101 rfl trivial ?_ rfl
 simp only[Tryz.ntmps101,List.size_toArray,List.length_cons,List.length_nil,Nat.reduceAdd,Nat.reduceSub,Array.replicate_succ,Array.replicate_zero,List.push_toArray,List.append_toArray,List.nil_append,List.cons_append]
 gi_wp2
 first|go_end0|go_ret
 exact⟨rfl,rfl⟩
theorem infoS:∃i,Tryz.prog.info? 175=some i/\i.zero=some (.slice none 0 0)/\i.size=1/\i.bytes=24:=info_parts (by kernel_rfl)
theorem sl_form {S:Cells}{w:World}{t:Ty}{l:List (den t)}{u:Value}(h:Rd S w (.sl t l) u):∃a c,u= .slice a l.length c:=by
 cases h with
 |sl _ _ ad cap b off f hc hm ha hx h=>exact⟨ad,cap,rfl⟩
def NewR (B:Nat)(W:World)(d:D)(u:Value):Prop:=∃S':Cells,(∀b o,S' b o->B<=b/\b<W.heap.size/\(W.cell? ⟨b,o,none⟩).isSome=true)/\Rd S' W d u
theorem rd_some0 {S:Cells}{W:World}{d:D}{u:Value}(h:Rd S W d u):Rd (λb o=>S b o/\(W.cell? ⟨b,o,none⟩).isSome=true) W d u:=by
 induction h with
 |v x=>exact .v x
 |fn f cs us hl h ih=>exact .fn f cs us hl ih
 |agg cs us hl h1 h ih=>exact .agg cs us hl h1 ih
 |tup cs us hl h ih=>exact .tup cs us hl ih
 |sl t l ad cap b off f hc hm ha hx h ih=>
  refine .sl t l ad cap b off f hc hm ha (λi hi j hj=> ?_) ih
  obtain⟨h1,h2,h3⟩:=hx i hi j hj
  exact⟨⟨h1,by rw[h2];rfl⟩,h2,h3⟩
 |p cs b off f hx h ih=>
  refine .p cs b off f (λj hj=> ?_) ih
  obtain⟨h1,h2,h3⟩:=hx j hj
  exact⟨⟨h1,by rw[h2];rfl⟩,h2,h3⟩
theorem NewR.keep {B:Nat}{W W':World}{d:D}{u:Value}(h:NewR B W d u)(hs:W.heap.size<=W'.heap.size)(hk:∀b,b<W.heap.size->B<=b->(∃o,(W.cell? ⟨b,o,none⟩).isSome=true)->W'.heap[b]? =W.heap[b]?):NewR B W' d u:=by
 obtain⟨S',h1,h2⟩:=h
 have e:∀b o,S' b o->W'.cell? ⟨b,o,none⟩=W.cell? ⟨b,o,none⟩:=λb o hb=>World.cell?_of_block (hk b (h1 b o hb).2.1 (h1 b o hb).1 ⟨o,(h1 b o hb).2.2⟩)
 exact⟨S',λb o hb=>⟨(h1 b o hb).1,Nat.lt_of_lt_of_le (h1 b o hb).2.1 hs,by rw[e b o hb];exact (h1 b o hb).2.2⟩,h2.mono (λ_ _ h=>h) e⟩
theorem some_cells0 {W:World}{b:Nat}(h:∃o,(W.cell? ⟨b,o,none⟩).isSome=true){o:Obj}(ho:W.heap[b]? =some o):o.isCells=true:=by
 obtain⟨k,hk⟩:=h
 cases hc:o.isCells with
 |true=>rfl
 |false=>
  exfalso
  cases o<;>simp[World.cell?,ho,Obj.isCells] at hk hc
def HasAB (B4:Nat)(W:World):Prop:=∃u,Boxed W B4 99 u/\NewR (B4+1) W (.sl (.sl .str) [wAB]) u
theorem HasAB.put {B4 l:Nat}{X:World}{o o':Obj}(h:HasAB B4 X)(ho:X.heap[l]? =some o)(hc:o.isCells=false):HasAB B4 (X.putObj l o'):=by
 obtain⟨u,h1,h2⟩:=h
 have hne:B4≠l:=λe=>by
  subst e
  rw[show X.heap[B4]? =_ from h1] at ho;injection ho with ho;subst ho;cases hc
 refine⟨u,(World.putObj_heap_other hne).trans h1,h2.keep (by simp[World.putObj]) λb hb _ hs=>World.putObj_heap_other λe=> ?_⟩
 subst e
 rw[some_cells0 hs ho] at hc;cases hc
theorem new_ab {B g7 c7:Nat}{W:World}{a6:Option Addr}{c6:Nat}{S6:Cells}(hown:W.ownsRow B 175 1 (.slice (some ⟨g7,0,none⟩) (0+1) c7) (0+1) ([]++[.slice a6 wAB.length c6]))(hrd:Rd S6 W (.sl .str wAB) (.slice a6 wAB.length c6))(hS:∀b o,S6 b o->B<=b/\b<W.heap.size):NewR B W (.sl (.sl .str) [wAB]) (.slice (some ⟨g7,0,none⟩) 1 c7):=by
 have hcell:=hown.cellAt 0 (by omega)
 obtain⟨_,h|⟨g,cap,cur,h1,h2,h3,h4,h5,h6,h7⟩⟩:=hown
 ·cases h.1
 injection h1 with h1 _ hcap
 injection h1 with h1
 injection h1 with h1
 subst h1 hcap
 have hlt:=(Array.getElem?_eq_some_iff.1 h3).1
 refine⟨_,λb o hb=> ?_,rd_some0 (S:=λb o=>S6 b o\/(b=g7/\o=0)) ?_⟩
 ·rcases hb.1 with h|⟨rfl,rfl⟩
  ·exact⟨(hS b o h).1,(hS b o h).2,hb.2⟩
  ·exact⟨h2,hlt,hb.2⟩
 ·refine Rd.sl (.sl .str) [wAB] (some ⟨g7,0,none⟩) c7 g7 0 (λ_ _=> .slice a6 wAB.length c6) h4 h5 (.inr rfl) (λi hi j hj=> ?_) λi x j c hx hc=> ?_
  ·have hi:i=0:=by have:i<1:=hi;omega
   have hj:j=0:=by have:j<1:=hj;omega
   subst hi hj
   exact⟨.inr ⟨rfl,rfl⟩,hcell,rfl⟩
  ·match i,hx with
   |0,hx=>
    cases hx
    match j,hc with
    |0,hc=>cases hc;exact hrd.mono (λ_ _ h=> .inl h) λ_ _ _=>rfl
    |j+1,hc=>cases hc
   |i+1,hx=>cases hx
theorem step_app {F:Fence}{n:Nat}{P:Program}{ops:Array Oper}{Q:Exit->Act->World->Prop}{a:Act}{w:World}{o:Oper}{K:Act->World->Prop}{X:Prop}(hg:o.guard=none)(s x:Operand)(t:TypeId)(hop:o.op=Op.call {callee:=Callee.builtin Builtin.append,args:= #[s,x],argTypes:= #[t,t]})
 {v v2 v':Value} {w':World} (hs:a.eval s=v) (hx:a.eval x=v2) (hrun:(Builtin.append_ #[t,t] o.type #[v,v2]).run P w= .ok v' w') (hK:K (a.put o.dst v') w'):if Region.wanted o (yielded ops a.tmps)=true then Oper.wpIn F n P o a w K Q else X:=by
 have hw:Region.wanted o (yielded ops a.tmps)=true:=by unfold Region.wanted;rw[hg]
 rw[if_pos hw]
 unfold Oper.wpIn
 refine⟨?_,?_⟩
 ·simp[Oper.about,hop,resolve,Target.leads,Sem.run_pure]
 ·rw[Oper.semAt_plain F _ _ (by rw[hop];intro c hc';cases hc')]
  simp[execOp,hop,resolve,invoke,builtin,hs,hx,hrun,Result.andThen]
  exact hK
set_option maxHeartbeats 4000000 in
theorem split_any (w:World):Calls Tryz.prog 32 #[.string tAB] w λe w'=>∃u,e= .returned (.tuple #[u,.int .i64 0])/\NewR w.heap.size w' (.sl (.sl .str) [wAB]) u/\Below w.heap.size w w':=by
 refine (callsIn_wide (n:=6)).1 ?_
 refine callsIn_of_wp_marks Tryz.func32 rfl trivial ?_ rfl
 simp only[Tryz.ntmps32,List.size_toArray,List.length_cons,List.length_nil,Nat.reduceAdd,Nat.reduceSub,Array.replicate_succ,Array.replicate_zero,List.push_toArray,List.append_toArray,List.nil_append,List.cons_append]
 have hz:tAB.size=4:=rfl
 have hl:tAB.toList.isEmpty=false:=tAB_ne
 have hn:¬tAB.toList=[]:=λe=>by rw[e] at hl;cases hl
 gi_wp2
 refine⟨trivial,(callsIn_wide.2 (cnt_at w)).mono ?_⟩
 rintro e w1 ⟨rfl,hB1⟩
 gi_wp2
 refine⟨trivial,(callsIn_wide.2 (hsf_at w1)).mono ?_⟩
 rintro e w2 ⟨rfl,hB2⟩
 gi_wp2
 refine⟨trivial,(callsIn_wide.2 (cfn_at w2)).mono ?_⟩
 rintro e w3 ⟨rfl,hB3⟩
 gi_wp2
 refine⟨trivial,(callsIn_wide.2 (lines_at _)).mono ?_⟩
 rintro e w4 ⟨rfl,rfl⟩
 gi_wp2
 obtain⟨w5,hw5⟩:∃w5,(w3.alloc (Obj.cells #[Value.slice none 0 0] 99)).alloc (Obj.cells #[Value.string tAB] 9)=w5:=⟨_,rfl⟩
 have hB3':Below w.heap.size w w3:=hB1.trans ((hB2.mono hB1.size).trans (hB3.mono (Nat.le_trans hB1.size hB2.size)))
 have hB5:Below w.heap.size w w5:=by
  rw[<-hw5];exact (hB3'.alloc hB3'.size _).alloc (by simp;exact Nat.le_succ_of_le hB3'.size) _
 have bS:Boxed w5 (w3.heap.size+1) 9 (.string tAB):=by
  rw[<-hw5];have:=Boxed.new (w3.alloc (Obj.cells #[Value.slice none 0 0] 99)) 9 (.string tAB);rwa [World.size_alloc] at this
 have b4:Boxed w5 w3.heap.size 99 (.slice none 0 0):=by
  rw[<-hw5];exact (Boxed.new w3 99 (.slice none 0 0)).alloc _
 have hs5:w5.heap.size=w3.heap.size+2:=by rw[<-hw5];simp
 rw[hw5]
 clear hw5
 refine range_one (B4:=w3.heap.size) (Bs:=w3.heap.size+1) (by omega) rfl bS (by omega) (by omega) (HasAB w3.heap.size) (λX l o o' _ ho hc h=>h.put ho hc) ?_ ?_
 ·intro l W1 hg1 hl1 hl2
  have bW:Boxed W1 w3.heap.size 99 (.slice none 0 0):=(hg1.block _ (by omega) (by simp)).trans b4
  gi_wp2
  refine⟨trivial,λW2 hg2=> ?_⟩
  have bW2:Boxed W2 w3.heap.size 99 (.slice none 0 0):=(hg2.block _ (by omega) (by simp;omega)).trans bW
  gi_wp2
  refine⟨trivial,(CallsIn.inRound l (callsIn_wide.2 (trm_at W2))).mono ?_⟩
  rintro e W3 ⟨rfl,k3⟩
  gi_wp2
  refine⟨trivial,(CallsIn.inRound l (callsIn_wide.2 (cut_at W3))).mono ?_⟩
  rintro e W4 ⟨rfl,k4⟩
  gi_wp2
  have hs2:=hg2.size
  have hs1:=hg1.size
  have k3s:=k3.size
  have k4s:=k4.size
  have hg4:W2.grownBy W4 (some w3.heap.size):=⟨k4.os.trans k3.os,k4.tape.trans k3.tape,k4.output.trans k3.output,by omega,λk hk _=>(k4.block k (by omega)).trans (k3.block k hk)⟩
  have bW4:Boxed W4 w3.heap.size 99 (.slice none 0 0):=(k4.block _ (by omega)).trans ((k3.block _ (by omega)).trans bW2)
  have hlt4:=bW4.lt
  have hc4:=bW4.cell
  have hf4:=bW4.frozen
  obtain⟨i0,hi,hz0,hz1,hz2⟩:=infoS
  obtain⟨K0,hK0⟩:∃K0:Act->World->Prop,K0=λa' w'=>a'.defers=[]/\W2.grownBy w' (some w3.heap.size)/\HasAB w3.heap.size w':=⟨_,rfl⟩
  refine wpIn_mono (Q:=Exit.then K0 (λ_ _ _=>False)) ?_ ?_
  ·have hd:1<=6-1-1:=by omega
   have h105:Fence.wide.fn 105:=trivial
   have h104:Fence.wide.fn 104:=trivial
   have hmx:Tryz.prog.follows .mixedOrders=true:=by kernel_rfl
   refine wpIn_region_any hmx ?_
   change wpAnyIn _ _ _ _ _ _ _ _ _ (World.drew _)
   have hcd:W4.drew.cell? ⟨w3.heap.size,0,none⟩=some (.slice none 0 0):=hc4
   have hR:∀(a:Act)(W7:World),W2.grownBy W7 (some w3.heap.size)->HasAB w3.heap.size W7->a.defers=[]->(Exit.then K0 λx x_1 x_2=>False) .normal a W7:=λa W7 h1 h2 h3=>by
    show K0 a W7
    rw[hK0];exact⟨h3,h1,h2⟩
   repeat' (first
    |(refine wpAnyIn_ready (rs:=[0,1]) (by decide+kernel) (by simp) (AllReadyIn.cons rfl (λK hK=> ?_) (AllReadyIn.cons rfl (λK hK=> ?_) AllReadyIn.nil)))
    |(refine wpAnyIn_ready (rs:=[0,2]) (by decide+kernel) (by simp) (AllReadyIn.cons rfl (λK hK=> ?_) (AllReadyIn.cons rfl (λK hK=> ?_) AllReadyIn.nil)))
    |(refine wpAnyIn_ready (rs:=[0,3]) (by decide+kernel) (by simp) (AllReadyIn.cons rfl (λK hK=> ?_) (AllReadyIn.cons rfl (λK hK=> ?_) AllReadyIn.nil)))
    |(refine wpAnyIn_ready (rs:=[0,4]) (by decide+kernel) (by simp) (AllReadyIn.cons rfl (λK hK=> ?_) (AllReadyIn.cons rfl (λK hK=> ?_) AllReadyIn.nil)))
    |(refine wpAnyIn_ready (rs:=[1]) (by decide+kernel) (by simp) (AllReadyIn.cons rfl (λK hK=> ?_) AllReadyIn.nil))
    |(refine wpAnyIn_ready (rs:=[2]) (by decide+kernel) (by simp) (AllReadyIn.cons rfl (λK hK=> ?_) AllReadyIn.nil))
    |(refine wpAnyIn_ready (rs:=[3]) (by decide+kernel) (by simp) (AllReadyIn.cons rfl (λK hK=> ?_) AllReadyIn.nil))
    |(refine wpAnyIn_ready (rs:=[4]) (by decide+kernel) (by simp) (AllReadyIn.cons rfl (λK hK=> ?_) AllReadyIn.nil))
    |(refine wpAnyIn_ready (rs:=[0]) (by decide+kernel) (by simp) (AllReadyIn.cons rfl (λK hK=> ?_) AllReadyIn.nil))
    |(go_simp;refine hK _ _ ?_;clear hK K)
    |(go_simp;gi_at_call 105;refine (CallsIn.inRound l (callsIn_wide.2 (spl_at _))).mono ?_;rintro e W5 ⟨v5,S5,rfl,rd5,hS5,k5⟩;have k5s:=k5.size;have bW5:Boxed W5 w3.heap.size 99 (.slice none 0 0):=(k5.block w3.heap.size hlt4).trans bW4;have hc5:=bW5.cell;have hf5:=bW5.frozen;refine hK _ _ ?_;clear hK K)
    |(go_simp;gi_at_call 104;refine (CallsIn.inRound l (callsIn_wide.2 (del_at _ S5 _ (λb o h=>(hS5 b o h).2) rd5))).mono ?_;rintro e W6 ⟨v6,S6,rfl,rd6,hS6,k6⟩;obtain⟨a6,c6,rfl⟩:=sl_form rd6;have k6s:=k6.size;have bW6:Boxed W6 w3.heap.size 99 (.slice none 0 0):=(k6.block _ bW5.lt).trans bW5;have hc6:=bW6.cell;have hf6:=bW6.frozen;have h6lt:=bW6.lt;have h6ne:¬w3.heap.size=W6.heap.size:=Nat.ne_of_lt h6lt;have hc6a:(W6.alloc (.cells #[.slice a6 wAB.length c6] 175)).cell? ⟨w3.heap.size,0,none⟩=some (.slice none 0 0):=(bW6.alloc _).cell;refine hK _ _ ?_;clear hK K))
   all_goals (
    refine wpAnyIn_ready (rs:=[5]) (by decide+kernel) (by simp) (AllReadyIn.cons rfl (λK hK=> ?_) AllReadyIn.nil)
    have h6s:W4.heap.size<=W5.heap.size:=k5s
    have hs6:(W6.alloc (.cells #[.slice a6 wAB.length c6] 175)).heap.size=W6.heap.size+1:=by simp
    obtain⟨v7,W7,hrun,hown7,hgrow7,_⟩:=run_append_own (P:=Tryz.prog) (W6.alloc (.cells #[.slice a6 wAB.length c6] 175)) (w3.heap.size+1) 99 99 175 i0 (.slice none 0 0) 1 24 Tryz.underlying99 hi hz0 hz1 hz2 rfl (by decide) (.slice none 0 0) 0 [] (World.ownsRow_nil _ _ _ _) ⟨W6.heap.size,0,none⟩ 1 1 [.slice a6 wAB.length c6] rfl (cell_one_new _ _ _) (by simp[Value.oneCell']) (by decide) (by decide) (by omega)
    refine step_app rfl _ _ 99 rfl rfl rfl hrun ?_
    refine hK _ _ ?_
    clear hK K
    obtain⟨g7,c7,rfl⟩:=ownsRow_succ hown7
    have hb7:∀k,k<W6.heap.size->W7.heap[k]? =W6.heap[k]? :=λk hk=>(hgrow7.block k (by omega) (by simp[Value.ownBlock])).trans (Below.heap_alloc W6 _ _ hk)
    have hs7:=hgrow7.size
    have bW7:Boxed W7 w3.heap.size 99 (.slice none 0 0):=(hb7 _ h6lt).trans bW6
    have hc7:=bW7.cell
    have hf7:=bW7.frozen
    refine wpAnyIn_ready (rs:=[6]) (by decide+kernel) (by simp) (AllReadyIn.cons rfl (λK hK=> ?_) AllReadyIn.nil)
    go_simp
    refine hK _ _ ?_
    clear hK K
    refine wpAnyIn_done (by decide+kernel) ?_ _
    refine hR _ _ ?_ ?_ rfl
    ·refine⟨?_,?_,?_,?_,λk hk hne=> ?_⟩
     ·exact hgrow7.os.trans (k6.os.trans (k5.os.trans hg4.os))
     ·exact hgrow7.tape.trans (k6.tape.trans (k5.tape.trans hg4.tape))
     ·exact hgrow7.output.trans (k6.output.trans (k5.output.trans hg4.output))
     ·have:=hg4.size
      simp;omega
     ·have:=hg4.size
      rw[Below.heap_setCell W7 ⟨w3.heap.size,0,none⟩ _ k (λe=>hne (by rw[e])),hb7 k (by omega)]
      exact (k6.block k (by omega)).trans ((k5.block k (by show k<W4.heap.size;omega)).trans (hg4.block k hk hne))
    ·refine⟨_,bW7.set _,?_⟩
     have hab:NewR (w3.heap.size+1) W7 (.sl (.sl .str) [wAB]) (.slice (some ⟨g7,0,none⟩) 1 c7):=
      new_ab hown7 (rd6.mono (λ_ _ h=>h) λb o hb=>World.cell?_of_block (hb7 b (hS6 b o hb).2)) λb o hb=>by
       have hb':=hS6 b o hb
       have h5:S5 b o->W4.heap.size<=b:=λh=>(hS5 b o h).1
       rcases hb'.1 with h|h
       ·have:=h5 h;omega
       ·omega
     refine hab.keep (by simp) λb hb hB _=>Below.heap_setCell W7 ⟨w3.heap.size,0,none⟩ _ b (λe=>by have:b=w3.heap.size:=e;omega))
  ·intro e a' w' hq
   have he:e= .normal:=by
    cases e with
    |normal=>rfl
    |_=>exact hq.elim
   subst he
   have hq:K0 a' w':=hq
   rw[hK0] at hq
   exact⟨rfl,hq.2.1,hq.2.2⟩
 ·intro D W hD hk hab hK
  obtain⟨u,bu,hnew⟩:=hab
  obtain⟨a7,c7,rfl⟩:∃a7 c7,u= .slice a7 1 c7:=by
   obtain⟨S',_,h⟩:=hnew
   exact sl_form h
  have hcu:=bu.cell
  have hfu:=bu.frozen
  have hk':=Lib.hid hk
  have hnew':=Lib.hid hnew
  clear hz hl hn hk hnew
  gi_wp2
  refine⟨by simp,.inl ⟨_,_,rfl,run_takeDeferred hK,?_⟩⟩
  have hlt:=(Array.getElem?_eq_some_iff.1 hK).1
  have hks:=hk'.out.size
  have h3s:=hB3'.size
  refine⟨.tuple #[.slice a7 1 c7,.int .i64 0],by simp[results,Tryz.f32,go_sem],.slice a7 1 c7,rfl,?_,?_⟩
  ·obtain⟨S',k1,k2⟩:=hnew'.out
   have h0:NewR w.heap.size W (.sl (.sl .str) [wAB]) (.slice a7 1 c7):=⟨S',λb o hb=>⟨by have:=(k1 b o hb).1;omega,(k1 b o hb).2⟩,k2⟩
   refine h0.keep (by simp[World.putObj]) λb hb _ ho=>World.putObj_heap_other λe=> ?_
   subst e
   have:=some_cells0 ho hK
   cases this
  ·have hb:=hk'.out
   refine⟨hb.os.trans hB5.os,hb.tape.trans hB5.tape,hb.output.trans hB5.output,by simp[World.putObj];omega,λk hk=> ?_⟩
   rw[World.putObj_heap_other (by omega)]
   exact (hb.block k (by omega) (by omega) (by omega)).trans (hB5.block k hk)
end RE
end Go.Proofs.YtjcjdgmojkkioaaGreatDoor
namespace Go.Proofs.YtjcjdgmojkkioaaGreatDoor
namespace RE
open Go.RowKit
open Go.Shelf
set_option maxRecDepth 100000
def split_sp:Spec:=⟨32,false,true,[.str],.tup [.dat (.sl (.sl .str)),.dat (.int .i64)],eq1 (ts:=[.str]) (rs:= .tup [.dat (.sl (.sl .str)),.dat (.int .i64)]) (tAB,()) ([wAB],(0:Int),())⟩
theorem split_ok:SpecOK Tryz.prog split_sp:=by
 intro x post hp w S T us hS hT hl hr
 obtain⟨rfl,hp⟩:=hp
 have hT:T=none:=hT
 subst hT
 have hus:us=[.string tAB]:=by
  match us,hl with
  |[u],_=>
   have h:=hr 0 (.v (.string tAB)) u rfl rfl
   cases h;rfl
 subst hus
 refine (split_any w).mono ?_
 rintro e w' ⟨u,rfl,⟨S',k1,k2⟩,hb⟩
 refine⟨_,([wAB],(0:Int),()),cx0 (λb o=>S b o\/S' b o) none,rfl,hp,?_,?_,?_⟩
 ·exact⟨λb o h=>h.elim (λh=>Nat.lt_of_lt_of_le (hS b o h) hb.size) (λh=>(k1 b o h).2.1),λid x hx=>(by cases hx),λid x hx=>(by cases hx),λi j x y hx=>(by cases hx),λT hT'=>(by cases hT'),λh=>(by cases h),λ_=>rfl⟩
 ·exact⟨hb.os,hb.tape,hb.output,hb.size,λ_ h=>h,λ_ h=> .inl h,λ_ h=>h,λ_ _=>⟨rfl,rfl⟩,λ_ _ h=> .inl h,λb o h=>h.elim .inl (λh=> .inr (.inr (k1 b o h).1)),λk hk _ _=>hb.block k hk,λ_ h=> .inl h⟩
 ·refine .tup [.d (.sl (.sl .str) [wAB]),.d (.v (.int .i64 0))] [u,.int .i64 0] rfl λi s v hs hv=> ?_
  match i,hs,hv with
  |0,hs,hv=>
   cases hs;cases hv
   exact .d _ _ (k2.mono (λ_ _ h=> .inr h) λ_ _ _=>rfl)
  |1,hs,hv=>cases hs;cases hv;exact v_srel _
  |i+2,hs,hv=>cases hs
def isT (l:ByteArray):Bool:=decide (l.data.toList=[97,32,98,10])
theorem isT_eq {l:ByteArray}(h:isT l=true):l=tAB:=by
 have h:l.data.toList=[97,32,98,10]:=of_decide_eq_true h
 obtain⟨⟨d⟩⟩:=l
 have h:d=[97,32,98,10]:=h
 subst h
 rfl
def split2_sp:Spec:=⟨32,false,true,[.str],.tup [.dat (.sl (.sl .str)),.dat (.int .i64)],λx post=>bif isT x.1 then post ([wAB],(0:Int),()) else False⟩
theorem split2_ok:SpecOK Tryz.prog split2_sp:=by
 intro x post hp
 obtain⟨h1,h2⟩:=bifT hp
 have h1:x=(tAB,()):=by
  obtain⟨l,u⟩:=x
  have h1:l=tAB:=isT_eq h1
  rw[h1]
  rfl
 subst h1
 exact split_ok _ post ⟨rfl,h2⟩
def rsA:List Rule:=[rule1 can_sp,rule1 rings_sp,rule1 shares_sp,rule1 split2_sp,pgrowB_rule,pgrowBP_rule]
theorem rsA_ok:RulesOK Tryz.prog rsA:= .cons (rule1_ok can_ok) (.cons (rule1_ok rings_ok) (.cons (rule1_ok shares_ok) (.cons (rule1_ok split2_ok) rsG_ok)))
def awake_sp:Spec:=⟨8,false,true,[],.dat .bool,λ_ post=>post (true,())⟩
theorem awake_w (post:dens (shT awake_sp.rs [])->Prop):walkG (callB Tryz.prog tau exI rsA 500 20) awake_sp.f awake_sp.tp (tvs awake_sp.ts (():dens awake_sp.ts)) awake_sp.rs post=post (true,()):=by kernel_rfl
theorem awake_ok:SpecOK Tryz.prog awake_sp:=SpecOK.of_B (τ:=tau) exI_ok rsA_ok (N:=500) (n:=20) λx post hp=>by
 have e:x=():=rfl
 subst e
 exact HoldW.of (awake_w post).symm hp
end RE
end Go.Proofs.YtjcjdgmojkkioaaGreatDoor
