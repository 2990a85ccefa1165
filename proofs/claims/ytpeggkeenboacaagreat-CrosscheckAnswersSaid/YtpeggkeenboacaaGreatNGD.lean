/-
  Texts of the proof of CrosscheckAnswers, part GD.
-/
import Derived.Test.YtpeggkeenboacaaGreatNGC
import Derived.Shelf.Small.Bits
import Derived.Shelf.Strconv.Itoa0
import Derived.Shelf.Sort.Plain
import Derived.Ground.Names2Prog
import Derived.Shelf.Slices.CompactI
import Derived.Shelf.Slices.SearchI
import Derived.Shelf.Slices.Cells
import Derived.Shelf.Slices.In.SortNone
import Derived.Shelf.Slices.Empties
import Derived.Test.YtpeggkeenboacaaGreatProg
import Derived.Sort.OwnSortedInts
import Derived.Lib.RowBridge
import Derived.Shelf.SlSortCmp.NoneTotal
import Derived.Shelf.SlicesG.Cmp
import Derived.Shelf.Spec.SlicesGrow
import Derived.Ground.SlsfProg
import Derived.Ground.SlgcProg
import Derived.Ground.Names8Prog
import Derived.Deep.DeepCutAuto
import Derived.Deep.CutBlock
import Derived.Deep.RegionHeld3
import Derived.StillTailTactics
set_option linter.unusedVariables false
set_option maxRecDepth 100000
noncomputable section
namespace Go.Proofs.YtpeggkeenboacaaGreat
namespace RE
open Go.RowKit
open PL
def rcomb_P (a:List (api_Rect))(b:List (api_Rect))(h:Int)(post:List (api_Rect)->Prop):Prop:=(a.length<=1000/\b.length<=1000)/\post (canonF (comb (howS h) a b))
def rcomb_sp:Spec:=⟨80,false,true,[.sl (.st .api_Rect),.sl (.st .api_Rect),.int .i64],.dat (.sl (.st .api_Rect)),λx post=>rcomb_P (x.1:List (api_Rect)) (x.2.1:List (api_Rect)) (x.2.2.1:Int) (λy0=>post (y0,()))⟩
def rcomb_C:CtxR:=⟨tau,[rule1 rput_sp,rule1 rins_sp,rule1 rsm_sp],lookJ [(0,27,⟨[(15,.dat (.int .i64)),(14,.own 65 (.st .api_Rect)),(13,.own 65 (.st .api_Rect))],[],(List.range' 50 124++[16,17,18,19]),[],[]⟩),(0,28,⟨[(14,.own 65 (.st .api_Rect)),(13,.own 65 (.st .api_Rect))],[],(List.range' 57 117++[16,17,18,19]),[2,1],[]⟩),(0,53,⟨[(157,.dat (.int .i64))],[],(List.range' 158 12++[19]),[],[(1,65,(.st .api_Rect))]⟩),(0,35,⟨[(17,.dat (.int .i64)),(16,.own 65 (.st .api_Rect))],[],(List.range' 57 79++[18]),[],[]⟩),(0,36,⟨[(16,.own 65 (.st .api_Rect))],[],(List.range' 64 72++[18]),[3],[]⟩),(0,1000023,⟨[(16,.own 65 (.st .api_Rect))],[],(List.range' 114 22),[3],[]⟩),(0,1000019,⟨[(86,.dat .bool)],[],(List.range' 64 22),[],[]⟩),(19421,0,⟨[(0,.dat .bool)],[],[],[],[]⟩),(0,7,⟨[(24,.dat (.int .i64)),(8,.dat (.sl (.int .i64))),(7,.dat (.sl (.int .i64)))],[],(List.range' 25 25++[10,12]),[],[]⟩),(0,13,⟨[(30,.dat (.int .i64)),(8,.dat (.sl (.int .i64))),(7,.dat (.sl (.int .i64)))],[],(List.range' 31 18++[12]),[],[]⟩),(0,1000008,⟨[(8,.dat (.sl (.int .i64))),(7,.dat (.sl (.int .i64)))],[],(List.range' 34 14),[],[]⟩)]⟩
def rcomb_W (a:List (api_Rect))(b:List (api_Rect))(h:Int)(post:List (api_Rect)->Prop):Prop:=(↑[a,b].length:Int)<=9223372036854775807->LOOP [Ty.int IntKind.i64,(Ty.int IntKind.i64).sl,(Ty.int IntKind.i64).sl] (λ(rec1:Int->List Int->List Int->Prop) (z2:Int) (z3 z4:List Int)=>IFB (decide (z2<(↑[a,b].length:Int))) (((0:Int)<=z2/\z2<(↑[a,b].length:Int))/\((↑(ix [a,b] z2).length:Int)<=9223372036854775807->LOOP [Ty.int IntKind.i64,(Ty.int IntKind.i64).sl,(Ty.int IntKind.i64).sl] (λ(rec5:Int->List Int->List Int->Prop) (z6:Int) (z7 z8:List Int)=>IFB (decide (z6<(↑(ix [a,b] z2).length:Int))) (((0:Int)<=z6/\z6<(↑(ix [a,b] z2).length:Int))/\JOIN [(Ty.int IntKind.i64).sl,(Ty.int IntKind.i64).sl] (λ(y9 y10:List Int)=>rec5 (IntKind.i64.wrap (z6+1)) y9 y10) λ(J11:List Int->List Int->Prop)=>z8.length<=1000000/\(putS (ix (ix [a,b] z2) z6).1 z8).length<=1000000/\z7.length<=1000000/\(putS (ix (ix [a,b] z2) z6).2 z7).length<=1000000/\J11 (putS (ix (ix [a,b] z2) z6).4 (putS (ix (ix [a,b] z2) z6).2 z7)) (putS (ix (ix [a,b] z2) z6).3 (putS (ix (ix [a,b] z2) z6).1 z8))) (rec1 (IntKind.i64.wrap (z2+1)) z7 z8)) ((0:Int),z3,z4,PUnit.unit))) (LOOP [Ty.int IntKind.i64,(Ty.st Sn.api_Rect).sl,(Ty.st Sn.api_Rect).sl] (λ(rec12:Int->List api_Rect->List api_Rect->Prop) (z13:Int) (z14 z15:List api_Rect)=>(↑z3.length:Int)<=9223372036854775807->IFB (decide (IntKind.i64.wrap (z13+1)<(↑z3.length:Int))) (JOIN [(Ty.st Sn.api_Rect).sl,(Ty.st Sn.api_Rect).sl] (λ(y16 y17:List api_Rect)=>rec12 (IntKind.i64.wrap (z13+1)) y16 y17) λ(J18:List api_Rect->List api_Rect->Prop)=>LOOP [Ty.int IntKind.i64,(Ty.st Sn.api_Rect).sl] (λ(rec19:Int->List api_Rect->Prop) (z20:Int) (z21:List api_Rect)=>(↑z4.length:Int)<=9223372036854775807->IFB (decide (IntKind.i64.wrap (z20+1)<(↑z4.length:Int))) (JOIN [(Ty.st Sn.api_Rect).sl] (λ(y22:List api_Rect)=>rec19 (IntKind.i64.wrap (z20+1)) y22) λ(J23:List api_Rect->Prop)=>JOIN [Ty.bool] (λ(y24:Bool)=>IFB y24 (J23 z21) ((↑z21.length:Int)<=9223372036854775807->(gx true (decide ((0:Int)<(↑z21.length:Int)))=true->0<=IntKind.i64.wrap ((↑z21.length:Int)-1)/\IntKind.i64.wrap ((↑z21.length:Int)-1)<(↑z21.length:Int))/\(gx true (decide ((0:Int)<(↑z21.length:Int)))=true->0<=z20/\z20<(↑z4.length:Int))/\IFB (decide ((0:Int)<(↑z21.length:Int))&&decide ((ix z21 (IntKind.i64.wrap ((↑z21.length:Int)-1))).3=ix z4 z20)) (((0:Int)<=IntKind.i64.wrap (z20+1)/\IntKind.i64.wrap (z20+1)<(↑z4.length:Int))/\((0:Int)<=IntKind.i64.wrap ((↑z21.length:Int)-1)/\IntKind.i64.wrap ((↑z21.length:Int)-1)<(↑z21.length:Int))/\J23 (z21.set (IntKind.i64.wrap ((↑z21.length:Int)-1)).toNat (⟨(ix z21 (IntKind.i64.wrap ((↑z21.length:Int)-1))).1,(ix z21 (IntKind.i64.wrap ((↑z21.length:Int)-1))).2,ix z4 (IntKind.i64.wrap (z20+1)),(ix z21 (IntKind.i64.wrap ((↑z21.length:Int)-1))).4⟩:api_Rect))) (JOIN [(Ty.st Sn.api_Rect).sl] (λ(y25:List api_Rect)=>J23 y25) λ(J26:List api_Rect->Prop)=>((0:Int)<=z20/\z20<(↑z4.length:Int))/\((0:Int)<=z13/\z13<(↑z3.length:Int))/\((0:Int)<=IntKind.i64.wrap (z20+1)/\IntKind.i64.wrap (z20+1)<(↑z4.length:Int))/\((0:Int)<=IntKind.i64.wrap (z13+1)/\IntKind.i64.wrap (z13+1)<(↑z3.length:Int))/\(z21.length+[(⟨ix z4 z20,ix z3 z13,ix z4 (IntKind.i64.wrap (z20+1)),ix z3 (IntKind.i64.wrap (z13+1))⟩:api_Rect)].length) * (32:Nat)<=140737488355328/\J26 (z21++[(⟨ix z4 z20,ix z3 z13,ix z4 (IntKind.i64.wrap (z20+1)),ix z3 (IntKind.i64.wrap (z13+1))⟩:api_Rect)])))) λ(J27:Bool->Prop)=>((0:Int)<=z20/\z20<(↑z4.length:Int))/\((0:Int)<=z13/\z13<(↑z3.length:Int))/\((0:Int)<=z20/\z20<(↑z4.length:Int))/\((0:Int)<=z13/\z13<(↑z3.length:Int))/\a.length<=1000000/\b.length<=1000000/\JOIN [Ty.bool] (λ(y28:Bool)=>J27 !y28) λ(J29:Bool->Prop)=>IFB (decide (h=1)) (J29 (cov a (ix z4 z20) (ix z3 z13)||cov b (ix z4 z20) (ix z3 z13))) (IFB (decide (h=2)) (J29 (cov a (ix z4 z20) (ix z3 z13)&&cov b (ix z4 z20) (ix z3 z13))) (J29 (cov a (ix z4 z20) (ix z3 z13)&& !cov b (ix z4 z20) (ix z3 z13))))) ((↑z14.length:Int)<=9223372036854775807->JOIN [Ty.bool] (λ(y30:Bool)=>(gx true (decide ((0:Int)<(↑z14.length:Int))&&y30)=true->Int.NonNeg 0/\0<(↑z14.length:Int))/\(gx true (decide ((0:Int)<(↑z14.length:Int))&&y30)=true->0<=z13/\z13<(↑z3.length:Int))/\IFB (decide ((0:Int)<(↑z14.length:Int))&&y30&&decide ((ix z14 0).4=ix z3 z13)) ((↑z14.length:Int)<=9223372036854775807->LOOP [Ty.int IntKind.i64,(Ty.st Sn.api_Rect).sl] (λ(rec31:Int->List api_Rect->Prop) (z32:Int) (z33:List api_Rect)=>IFB (decide (z32<(↑z14.length:Int))) (((0:Int)<=IntKind.i64.wrap (z13+1)/\IntKind.i64.wrap (z13+1)<(↑z3.length:Int))/\((0:Int)<=z32/\z32<(↑z33.length:Int))/\rec31 (IntKind.i64.wrap (z32+1)) (z33.set z32.toNat (⟨(ix z33 z32).1,(ix z33 z32).2,(ix z33 z32).3,ix z3 (IntKind.i64.wrap (z13+1))⟩:api_Rect))) (J18 z33 z15)) ((0:Int),z14,PUnit.unit)) ((z15.length+z14.length) * (32:Nat)<=140737488355328/\J18 z21 (z15++z14))/\IFB (decide ((0:Int)<(↑z14.length:Int))&&y30&&decide ((ix z14 0).4=ix z3 z13)) ((↑z14.length:Int)<=9223372036854775807->LOOP [Ty.int IntKind.i64,(Ty.st Sn.api_Rect).sl] (λ(rec34:Int->List api_Rect->Prop) (z35:Int) (z36:List api_Rect)=>IFB (decide (z35<(↑z14.length:Int))) (((0:Int)<=IntKind.i64.wrap (z13+1)/\IntKind.i64.wrap (z13+1)<(↑z3.length:Int))/\((0:Int)<=z35/\z35<(↑z36.length:Int))/\rec34 (IntKind.i64.wrap (z35+1)) (z36.set z35.toNat (⟨(ix z36 z35).1,(ix z36 z35).2,(ix z36 z35).3,ix z3 (IntKind.i64.wrap (z13+1))⟩:api_Rect))) (J18 z36 z15)) ((0:Int),z14,PUnit.unit)) ((z15.length+z14.length) * (32:Nat)<=140737488355328/\J18 z21 (z15++z14))) λ(J37:Bool->Prop)=>IFB (gx true (decide ((0:Int)<(↑z14.length:Int)))) (z14.length<=100000000/\∀(v38:Bool),(v38=true↔List.map spanOf z14=List.map spanOf z21)->J37 v38) (J37 false))) ((0:Int),[],PUnit.unit)) ((z15.length+z14.length) * (32:Nat)<=140737488355328/\post (z15++z14))) ((0:Int),[],[],PUnit.unit))) ((0:Int),[],[],PUnit.unit)
theorem rcomb_w (a:List (api_Rect))(b:List (api_Rect))(h:Int)(post:dens (shT rcomb_sp.rs [])->Prop):rcomb_W a b h (λy0=>post (y0,()))=walkG (callR Tryz.prog rcomb_C (drawR Tryz.prog tau) 8 0) 80 false [tv (.sl (.st .api_Rect)) a,tv (.sl (.st .api_Rect)) b,tv (.int .i64) h] rcomb_sp.rs post:=by kernel_rfl
theorem rcomb_of (h:∀a b h post,rcomb_P a b h post->rcomb_W a b h post):SpecOK Tryz.prog rcomb_sp:=SpecOK.of_rules (C:=rcomb_C) (dr:=drawR Tryz.prog tau) (n:=8) (fk:=0) (.cons (rule1_ok rput_ok) (.cons (rule1_ok rins_ok) (.cons (rule1_ok rsm_ok) .nil))) (drawR_ok tau) λx post hp=>HoldW.of (rcomb_w x.1 x.2.1 x.2.2.1 post) (h x.1 x.2.1 x.2.2.1 (λy0=>post (y0,())) hp)
theorem putS_len {n:Int}:∀{l:List Int},(putS n l).length<=l.length+1
 |[]=>by simp[putS]
 |x::r=>by
  have:=putS_len (n:=n) (l:=r)
  unfold putS
  split
  ·simp;omega
  ·split<;>simp
theorem fold_len {f g:Rc->Int}:∀{l:List Rc}{a:List Int},(l.foldl (λa r=>putS (g r) (putS (f r) a)) a).length<=a.length+2 * l.length
 |[],a=>by simp
 |r::l,a=>by
  have ih:=fold_len (f:=f) (g:=g) (l:=l) (a:=putS (g r) (putS (f r) a))
  have h1:=putS_len (n:=g r) (l:=putS (f r) a)
  have h2:=putS_len (n:=f r) (l:=a)
  simp only[List.foldl_cons,List.length_cons]
  omega
abbrev cutF:List Int->Rc->List Int:=λa r=>putS r.High (putS r.Low a)
abbrev edgF:List Int->Rc->List Int:=λa r=>putS r.Right (putS r.Left a)
theorem comb_in {l:List Rc}(hl:l.length<=1000){K:List Int->List Int->Prop}{ys0 xs0:List Int}(h1:ys0.length<=10000)(h2:xs0.length<=10000)(hK:K (l.foldl cutF ys0) (l.foldl edgF xs0)):
 LOOP [Ty.int IntKind.i64,(Ty.int IntKind.i64).sl,(Ty.int IntKind.i64).sl] (λ(rec5:Int->List Int->List Int->Prop) (z6:Int) (z7 z8:List Int)=>IFB (decide (z6<(↑l.length:Int))) (((0:Int)<=z6/\z6<(↑l.length:Int))/\JOIN [(Ty.int IntKind.i64).sl,(Ty.int IntKind.i64).sl] (λ(y9 y10:List Int)=>rec5 (IntKind.i64.wrap (z6+(1:Int))) y9 y10) λ(J11:List Int->List Int->Prop)=>z8.length<=(1000000:Nat)/\(putS (ix l z6).1 z8).length<=(1000000:Nat)/\z7.length<=(1000000:Nat)/\(putS (ix l z6).2 z7).length<=(1000000:Nat)/\J11 (putS (ix l z6).4 (putS (ix l z6).2 z7)) (putS (ix l z6).3 (putS (ix l z6).1 z8))) (K z7 z8)) ((0:Int),ys0,xs0,PUnit.unit):=by
 refine LOOP.list l (λk (s:List Int×List Int)=>((k:Int),s.1,s.2,())) (λu=>Int.toNat u.1) (λk r (s:List Int×List Int)=>r.foldl cutF s.1=l.foldl cutF ys0/\r.foldl edgF s.2=l.foldl edgF xs0/\s.1.length<=10000+2 * k/\s.2.length<=10000+2 * k) (ys0,xs0) rfl ⟨rfl,rfl,by simpa using h1,by simpa using h2⟩ (λk s h=>by simp) ?_ ?_
 ·intro rec k x r s hd hk hkl ⟨g1,g2,g3,g4⟩ hrec
  obtain⟨ys,xs⟩:=s
  dsimp only at g1 g2 g3 g4
  have hx:=ix_of hk
  show IFB _ _ _
  refine IFB.mk (λ_=>⟨by show 0<=(k:Int)/\(k:Int)<l.length;omega,?_⟩) (λh=>absurd (of_decide_eq_false h) (by show ¬¬((k:Int)<l.length);omega))
  refine JOIN.opq λ(J:List Int->List Int->Prop) hJ=> ?_
  have p1:=putS_len (n:=x.Left) (l:=xs)
  have p2:=putS_len (n:=x.Low) (l:=ys)
  have p3:=putS_len (n:=x.Right) (l:=putS x.Left xs)
  have p4:=putS_len (n:=x.High) (l:=putS x.Low ys)
  dsimp only
  rw[hx]
  refine⟨by omega,by omega,by omega,by omega,?_⟩
  rw[hJ]
  show rec (IntKind.i64.wrap ((k:Int)+1)) _ _
  rw[wrapS (by omega)]
  exact hrec (_,_) ⟨g1,g2,by dsimp only;omega,by dsimp only;omega⟩
 ·intro rec s ⟨g1,g2,g3,g4⟩
  show IFB _ _ _
  refine IFB.mk (λh=>absurd (of_decide_eq_true h) (by show ¬((l.length:Int)<l.length);omega)) (λ_=> ?_)
  have g1:s.1=l.foldl cutF ys0:=g1
  have g2:s.2=l.foldl edgF xs0:=g2
  show K s.1 s.2
  rw[g1,g2]
  exact hK
def rI (R:Int->List Sp)(ys:List Int)(i:Int)(last out:List Rc):Prop:=∃(k:Nat)(acc:List Bd),i=k/\k<=ys.length/\buildG R acc (ys.drop k)=buildG R [] ys/\last=lastR acc/\out=flat acc.dropLast/\(flat acc).length<=5000 * k
def rJ (p:Int->Bool)(xs:List Int)(u v:Int)(i:Int)(band:List Rc):Prop:=∃(m:Nat)(sp:List Sp),i=m/\m<=xs.length/\spansG p sp (xs.drop m)=spansOf p xs/\band=sp.map (mkR u v)/\sp.length<=m
theorem short_drop {l:List Int}{k:Nat}(h:¬k+1<l.length)(R:Int->List Sp)(acc:List Bd):buildG R acc (l.drop k)=acc:=by
 have:(l.drop k).length<=1:=by simp;omega
 match hd:l.drop k with
 |[]=>rfl
 |[_]=>rfl
 |_::_::_=>rw[hd] at this;simp at this
theorem short_drop2 {l:List Int}{k:Nat}(h:¬k+1<l.length)(p:Int->Bool)(acc:List Sp):spansG p acc (l.drop k)=acc:=by
 have:(l.drop k).length<=1:=by simp;omega
 match hd:l.drop k with
 |[]=>rfl
 |[_]=>rfl
 |_::_::_=>rw[hd] at this;simp at this
theorem rcomb_main (a b:List api_Rect)(h:Int)(post:List api_Rect->Prop)(hp:rcomb_P a b h post):rcomb_W a b h post:=by
 obtain⟨⟨ha,hb⟩,hp⟩:=hp
 obtain⟨hcan,hcov,hF⟩:=comb_build (howS_0 h) (a:=a) (b:=b) (R:=λy=>spansOf (λx=>comb (howS h) a b x y) (edgesS (a++b))) (λu _=>comb_row (howS_0 h))
 rw[hF] at hp
 obtain⟨ys,hys⟩:∃ys,ys=cutsS (a++b):=⟨_,rfl⟩
 obtain⟨xs,hxs⟩:∃xs,xs=edgesS (a++b):=⟨_,rfl⟩
 have hy1:(cutsS a).length<=2000:=Nat.le_trans (fold_len (f:=λr=>r.Low) (g:=λr=>r.High) (l:=a) (a:=[])) (by simp;omega)
 have hx1:(edgesS a).length<=2000:=Nat.le_trans (fold_len (f:=λr=>r.Left) (g:=λr=>r.Right) (l:=a) (a:=[])) (by simp;omega)
 have hyl:ys.length<=4000:=by rw[hys];exact Nat.le_trans (fold_len (f:=λr=>r.Low) (g:=λr=>r.High) (l:=a++b) (a:=[])) (by simp;omega)
 have hxl:xs.length<=4000:=by rw[hxs];exact Nat.le_trans (fold_len (f:=λr=>r.Left) (g:=λr=>r.Right) (l:=a++b) (a:=[])) (by simp;omega)
 have hy2:b.foldl cutF (cutsS a)=ys:=by rw[hys];show _=(a++b).foldl cutF [];rw[List.foldl_append];rfl
 have hx2:b.foldl edgF (edgesS a)=xs:=by rw[hxs];show _=(a++b).foldl edgF [];rw[List.foldl_append];rfl
 rw[<-hys,<-hxs] at hp
 unfold rcomb_W
 intro _
 refine LOOP.fuel (λu=>(u.1=(0:Int)/\u.2.1=([]:List Int)/\u.2.2.1=([]:List Int))\/(u.1=(1:Int)/\u.2.1=cutsS a/\u.2.2.1=edgesS a)\/(u.1=(2:Int)/\u.2.1=ys/\u.2.2.1=xs)) (λu=>2-Int.toNat u.1) (.inl ⟨rfl,rfl,rfl⟩) ?_
 rintro rec1 ⟨(z2:Int),(z3:List Int),(z4:List Int),⟨⟩⟩ hI hrec1
 have w01:IntKind.i64.wrap ((0:Int)+1)=1:=wrap_in (by omega) (by omega)
 have w11:IntKind.i64.wrap ((1:Int)+1)=2:=wrap_in (by omega) (by omega)
 rcases hI with⟨e1,e2,e3⟩|⟨e1,e2,e3⟩|⟨e1,e2,e3⟩
 ·have e1:z2=0:=e1
  have e2:z3=[]:=e2
  have e3:z4=[]:=e3
  subst e1 e2 e3
  refine IFB.mk (λ_=>⟨⟨Int.le_refl _,by show (0:Int)<2;omega⟩,λ_=> ?_⟩) (λh=>absurd (of_decide_eq_false h) (by show ¬¬((0:Int)<2);omega))
  refine comb_in (l:=a) ha (K:=λy x=>rec1 (IntKind.i64.wrap (0+1)) y x) (by simp) (by simp) ?_
  rw[w01]
  exact hrec1 ((1:Int),cutsS a,edgesS a,()) (.inr (.inl ⟨rfl,rfl,rfl⟩)) (by show 2-(1:Int).toNat<2-(0:Int).toNat;omega)
 ·have e1:z2=1:=e1
  have e2:z3=cutsS a:=e2
  have e3:z4=edgesS a:=e3
  subst e1 e2 e3
  refine IFB.mk (λ_=>⟨⟨by omega,by show (1:Int)<2;omega⟩,λ_=> ?_⟩) (λh=>absurd (of_decide_eq_false h) (by show ¬¬((1:Int)<2);omega))
  refine comb_in (l:=b) (ys0:=cutsS a) (xs0:=edgesS a) hb (K:=λy x=>rec1 (IntKind.i64.wrap (1+1)) y x) (by omega) (by omega) ?_
  rw[w11,hy2,hx2]
  exact hrec1 ((2:Int),ys,xs,()) (.inr (.inr ⟨rfl,rfl,rfl⟩)) (by show 2-(2:Int).toNat<2-(1:Int).toNat;omega)
 ·have e1:z2=2:=e1
  have e2:z3=ys:=e2
  have e3:z4=xs:=e3
  subst e1 e2 e3
  refine IFB.mk (λh=>absurd (of_decide_eq_true h) (by show ¬((2:Int)<2);omega)) (λ_=> ?_)
  clear hrec1 hy2 hx2 hy1 hx1 w01 w11
  have hyl:List.length (z3:List Int)<=4000:=hyl
  have hxl:List.length (z4:List Int)<=4000:=hxl
  obtain⟨p,hpdef⟩:∃p:Int->Int->Bool,p=λy x=>comb (howS h) a b x y:=⟨_,rfl⟩
  have hp:post (flat (buildG (λy=>spansOf (p y) z4) [] z3)):=by rw[hpdef];exact hp
  refine LOOP.fuel (λu=>rI (λy=>spansOf (p y) z4) z3 u.1 u.2.1 u.2.2.1) (λu=>z3.length-Int.toNat u.1) ⟨0,[],rfl,Nat.zero_le _,rfl,rfl,rfl,Nat.zero_le _⟩ ?_
  rintro rec12 ⟨(z13:Int),(z14:List Rc),(z15:List Rc),⟨⟩⟩ ⟨k,acc,i1,i2,i3,i4,i5,i6⟩ hrec12
  have i1:z13=(k:Int):=i1
  have i2:k<=List.length (z3:List Int):=i2
  have hk4:k<=4000:=by omega
  have i4:z14=lastR acc:=i4
  have i5:z15=flat acc.dropLast:=i5
  subst i1 i4 i5
  have wk:IntKind.i64.wrap ((k:Int)+1)=((k+1:Nat):Int):=wrapS (by omega)
  intro _
  show IFB (decide (IntKind.i64.wrap ((k:Int)+1)<_)) _ _
  rw[wk]
  refine IFB.mk (λhlt=> ?_) (λhge=> ?_)
  ·have hlt:((k+1:Nat):Int)<z3.length:=of_decide_eq_true hlt
   have hlt':k+1<z3.length:=by omega
   obtain⟨d1,d2⟩:=drop_two hlt'
   obtain⟨u,hu⟩:∃u,ix z3 (k:Int)=u:=⟨_,rfl⟩
   obtain⟨v,hv⟩:∃v,ix z3 ((k+1:Nat):Int)=v:=⟨_,rfl⟩
   rw[hu,hv] at d1
   rw[hv] at d2
   rw[d1] at i3
   refine JOIN.opq λ(J18:List Rc->List Rc->Prop) h18=> ?_
   have h18:(flat (addBd acc u v (spansOf (p u) z4))).length<=5000 * (k+1)->J18 (lastR (addBd acc u v (spansOf (p u) z4))) (flat (addBd acc u v (spansOf (p u) z4)).dropLast):=λhl=>by
    rw[h18]
    show rec12 ((k+1:Nat):Int) _ _
    refine hrec12 (((k+1:Nat):Int),_,_,()) ⟨k+1,addBd acc u v (spansOf (p u) z4),rfl,by omega,?_,rfl,rfl,hl⟩ (by show z3.length-((k+1:Nat):Int).toNat<z3.length-(k:Int).toNat;omega)
    rw[d2];exact i3
   refine LOOP.fuel (λq=>rJ (p u) z4 u v q.1 q.2.1) (λq=>z4.length-Int.toNat q.1) ⟨0,[],rfl,Nat.zero_le _,rfl,rfl,Nat.zero_le _⟩ ?_
   rintro rec19 ⟨(z20:Int),(z21:List Rc),⟨⟩⟩ ⟨m,sp,j1,j2,j3,j4,j5⟩ hrec19
   have j1:z20=(m:Int):=j1
   have j2:m<=List.length (z4:List Int):=j2
   have hm4:m<=4000:=by omega
   have j4:z21=sp.map (mkR u v):=j4
   subst j1 j4
   have wm:IntKind.i64.wrap ((m:Int)+1)=((m+1:Nat):Int):=wrapS (by omega)
   intro _
   show IFB (decide (IntKind.i64.wrap ((m:Int)+1)<_)) _ _
   rw[wm]
   refine IFB.mk (λhmt=> ?_) (λhge _=> ?_)
   ·have hmt:((m+1:Nat):Int)<z4.length:=of_decide_eq_true hmt
    have hmt':m+1<z4.length:=by omega
    obtain⟨c1,c2⟩:=drop_two hmt'
    obtain⟨x,hx⟩:∃x,ix z4 (m:Int)=x:=⟨_,rfl⟩
    obtain⟨x',hx'⟩:∃x',ix z4 ((m+1:Nat):Int)=x':=⟨_,rfl⟩
    rw[hx,hx'] at c1
    rw[hx'] at c2
    rw[c1] at j3
    refine JOIN.opq λ(J23:List Rc->Prop) h23=> ?_
    have h23:∀sp',spansG (p u) sp' (x'::z4.drop (m+2))=spansOf (p u) z4->sp'.length<=m+1->J23 (sp'.map (mkR u v)):=λsp' q1 q2=>by
     rw[h23]
     show rec19 ((m+1:Nat):Int) _
     exact hrec19 (((m+1:Nat):Int),_,()) ⟨m+1,sp',rfl,by omega,by rw[c2];exact q1,rfl,q2⟩ (by show z4.length-((m+1:Nat):Int).toNat<z4.length-(m:Int).toNat;omega)
    dsimp only
    rw[hx,hx',hu,hv]
    refine JOIN.opq λ(J27:Bool->Prop) h27=> ?_
    have j3:spansG (p u) (if p u x=true then addSp sp x x' else sp) (x'::z4.drop (m+2))=spansOf (p u) z4:=j3
    have h27:J27 (!(p u x)):=by
     rw[h27]
     cases hpx:p u x with
     |false=>
      rw[hpx] at j3
      exact IFB.mk (λ_=>h23 sp j3 (by omega)) (λh=>by cases h)
     |true=>
      rw[hpx] at j3
      have h23:=h23 _ j3 (by have:=addSp_len (out:=sp) (u:=x) (v:=x');simp only[if_true];omega)
      rw[if_pos rfl] at h23
      refine IFB.mk (λh=>by cases h) (λ_ _=> ?_)
      have hsl:sp.length<=4000:=by omega
      simp only[List.length_map]
      rcases addSp_map (sp:=sp) (u:=u) (v:=v) (x:=x) (x':=x') with⟨e1,e2⟩|⟨A,s,e1,e2⟩
      ·subst e1
       rw[e2] at h23
       refine⟨λh=>by simp[gx_t] at h,λh=>by simp[gx_t] at h,IFB.mk (λh=>by simp at h) (λ_=> ?_)⟩
       refine JOIN.mk ⟨by omega,by omega,by omega,by omega,by simp,h23⟩
      ·have hn:(sp.length:Int)=A.length+1:=by rw[e1];simp
       have wl:IntKind.i64.wrap ((sp.length:Int)-1)=(A.length:Int):=by rw[wrap_in (by omega) (by omega)];omega
       have hlast:ix (sp.map (mkR u v)) (A.length:Int)=mkR u v s:=by
        rw[e1,List.map_append]
        exact ix_app (by simp)
       rw[wl,hlast]
       refine⟨λ_=>by omega,λ_=>by omega,IFB.mk (λh=> ?_) (λh=> ?_)⟩
       ·have h:s.2=x:=by
         have:=(Bool.and_eq_true_iff.1 h).2
         exact of_decide_eq_true this
        rcases e2 with⟨_,e2⟩|⟨e2,_⟩
        ·rw[e2] at h23
         exact⟨by omega,by omega,h23⟩
        ·exact absurd h e2
       ·have h:s.2≠x:=by
         intro hs
         have:decide ((mkR u v s).3=x)=true:=decide_eq_true hs
         rw[this] at h
         have:decide ((0:Int)<(sp.length:Int))=true:=decide_eq_true (by omega)
         rw[this] at h
         cases h
        rcases e2 with⟨e2,_⟩|⟨_,e2⟩
        ·exact absurd e2 h
        ·rw[e2] at h23
         exact JOIN.mk ⟨by omega,by omega,by omega,by omega,by simp;omega,h23⟩
    refine⟨by omega,by omega,by omega,by omega,by omega,by omega,?_⟩
    have hpe:p u x=howS h (cov a x u) (cov b x u):=by rw[hpdef];rfl
    rw[hpe] at h27
    refine JOIN.opq λ(J29:Bool->Prop) h29=> ?_
    have h29:J29 (howS h (cov a x u) (cov b x u)):=by rw[h29];exact h27
    unfold howS at h29
    refine IFB.mk (λq=> ?_) (λq=>IFB.mk (λq2=> ?_) (λq2=> ?_))
    ·rw[if_pos (of_decide_eq_true q)] at h29;exact h29
    ·rw[if_neg (of_decide_eq_false q),if_pos (of_decide_eq_true q2)] at h29;exact h29
    ·rw[if_neg (of_decide_eq_false q),if_neg (of_decide_eq_false q2)] at h29;exact h29
   ·have hge:¬((m+1:Nat):Int)<z4.length:=of_decide_eq_false hge
    rw[short_drop2 (by omega)] at j3
    subst j3
    have hfl:=flat_last (acc:=acc)
    have hfl2:(flat acc.dropLast).length+(lastR acc).length=(flat acc).length:=by rw[<-hfl];simp
    have hnew:=flat_last (acc:=addBd acc u v (spansOf (p u) z4))
    have hlen:(flat (addBd acc u v (spansOf (p u) z4))).length<=5000 * (k+1):=by
     rw[<-hnew,List.length_append]
     rcases addBd_ref (acc:=acc) (u:=u) (v:=v) (ss:=spansOf (p u) z4) with⟨_,e2,e3⟩|⟨_,e2,e3⟩
     ·rw[e2,e3,List.length_map];omega
     ·rw[e2,e3,List.length_map,List.length_append];omega
    have h18:=h18 hlen
    dsimp only
    rw[hu,hv]
    have hms:((spansOf (p u) z4).map (mkR u v)).map spanOf=spansOf (p u) z4:=by
     rw[List.map_map]
     have:(spanOf∘mkR u v)=id:=by funext s;rfl
     rw[this,List.map_id]
    rw[hms]
    have href:=addBd_ref (acc:=acc) (u:=u) (v:=v) (ss:=spansOf (p u) z4)
    have hll:(lastR acc).length<=20000000:=by omega
    have hol:(flat acc.dropLast).length<=20000000:=by omega
    clear hnew hlen hfl i3 hrec12 hrec19
    generalize spansOf (p u) z4=ss at *
    generalize lastR acc=last at *
    generalize flat acc.dropLast=out at *
    generalize lastR (addBd acc u v ss)=last' at *
    generalize flat (addBd acc u v ss).dropLast=out' at *
    refine JOIN.opq λ(J37:Bool->Prop) h37=> ?_
    have h37:∀y:Bool,(y=true->last.map spanOf=ss)->(last≠[]->last.map spanOf=ss->y=true)->J37 y:=λy g1 g2=>by
     rw[h37]
     have main:IFB (decide ((0:Int)<(last.length:Int))&&y&&decide ((ix last 0).4=u)) ((last.length:Int)<=9223372036854775807->LOOP [Ty.int IntKind.i64,(Ty.st Sn.api_Rect).sl] (λ(rec31:Int->List api_Rect->Prop) (z32:Int) (z33:List api_Rect)=>IFB (decide (z32<(last.length:Int))) (((0:Int)<=((k+1:Nat):Int)/\((k+1:Nat):Int)<(z3.length:Int))/\((0:Int)<=z32/\z32<(z33.length:Int))/\rec31 (IntKind.i64.wrap (z32+1)) (z33.set z32.toNat {Left:=(ix z33 z32).1,Low:=(ix z33 z32).2,Right:=(ix z33 z32).3,High:=v:api_Rect})) (J18 z33 out)) ((0:Int),last,PUnit.unit)) ((out.length+last.length) * 32<=140737488355328/\J18 (ss.map (mkR u v)) (out++last)):=by
      refine IFB.mk (λhc _=> ?_) (λhc=>⟨by omega,?_⟩)
      ·have hc:(0<last.length/\y=true)/\(ix last 0).4=u:=by simpa using hc
       have hne:last≠[]:=by intro e;rw[e] at hc;simp at hc
       rcases href with⟨_,e2,e3⟩|⟨e1,_⟩
       ·rw[e2,e3] at h18
        obtain⟨hl,hhl⟩:∃hl:Nat->List Rc,hl=λq=>(last.take q).map (λr=>{r with High:=v})++last.drop q:=⟨_,rfl⟩
        have h0:hl 0=last:=by rw[hhl];rfl
        have h1:∀q r,last[q]? =some r->ix (hl q) (q:Int)=r/\(hl q).set q {Left:=r.1,Low:=r.2,Right:=r.3,High:=v}=hl (q+1):=λq r hq=>by
         rw[hhl]
         exact⟨map_at (f:=λr:Rc=>{r with High:=v}) hq,map_step (f:=λr:Rc=>{r with High:=v}) hq⟩
        have h2:∀q,(hl q).length=last.length:=λq=>by rw[hhl];exact map_len
        have h3:hl last.length=last.map λr=>{r with High:=v}:=by rw[hhl];simp
        rw[<-h3] at h18
        refine LOOP.list last (λq (s:Unit)=>((q:Int),hl q,())) (λw=>Int.toNat w.1) (λ_ _ _=>True) () (by rw[h0];rfl) trivial (λq s h=>by simp) ?_ ?_
        ·intro rec q r rs s hd hq hql _ hrec
         obtain⟨g1,g2⟩:=h1 q r hq
         have g3:=h2 q
         show IFB _ _ _
         refine IFB.mk (λ_=>⟨by omega,?_,?_⟩) (λh=>absurd (of_decide_eq_false h) (by show ¬¬((q:Int)<last.length);omega))
         ·show 0<=(q:Int)/\(q:Int)<((hl q).length:Int)
          omega
         ·dsimp only
          rw[g1,wrapS (by omega),Int.toNat_natCast,g2]
          exact hrec () trivial
        ·intro rec s _
         show IFB _ _ _
         exact IFB.mk (λh=>absurd (of_decide_eq_true h) (by show ¬((last.length:Int)<last.length);omega)) (λ_=>h18)
       ·exact absurd ⟨hne,g1 hc.1.2,hc.2⟩ e1
      ·rcases href with⟨⟨q1,q2,q3⟩,_⟩|⟨_,e2,e3⟩
       ·exfalso
        have:0<last.length:=List.length_pos_iff.2 q1
        have hd:decide ((0:Int)<(last.length:Int))=true:=decide_eq_true (by omega)
        rw[g2 q1 q2,q3,hd] at hc
        simp at hc
       ·rw[e2,e3] at h18
        exact h18
     exact⟨λh=>⟨Int.NonNeg.mk _,of_decide_eq_true (Bool.and_eq_true_iff.1 h).1⟩,λ_=>⟨by omega,by omega⟩,main,main⟩
    refine IFB.mk (λh=>⟨by omega,λy hy=>h37 y hy.1 (λ_=>hy.2)⟩) (λh=>h37 false (λh=>by cases h) (λhne _=> ?_))
    exfalso
    have:0<last.length:=List.length_pos_iff.2 hne
    have h:decide ((0:Int)<(last.length:Int))=false:=h
    have:=of_decide_eq_false h
    omega
  ·have hge:¬((k+1:Nat):Int)<z3.length:=of_decide_eq_false hge
   rw[short_drop (by omega)] at i3
   have hfl:=flat_last (acc:=acc)
   have hfl2:(flat acc.dropLast).length+(lastR acc).length=(flat acc).length:=by rw[<-hfl];simp
   rw[<-i3,<-hfl] at hp
   refine⟨?_,hp⟩
   show ((flat acc.dropLast).length+(lastR acc).length) * 32<=140737488355328
   omega
theorem rcomb_ok:SpecOK Tryz.prog rcomb_sp:=rcomb_of rcomb_main
def rval_P (a:api_Region)(post:Bool->Prop):Prop:=∀q:Bool,(q=true↔validP a.1)->post q
def rval_sp:Spec:=⟨93,false,false,[.st .api_Region],.dat (.bool),λx post=>rval_P (x.1:api_Region) (λy0=>post (y0,()))⟩
def rval_C:CtxR:=⟨tau,[rule1 rcomb_sp,rule1 rrec_sp],lookJ [(0,1000009,⟨[(2,.dat .bool)],[],[20,21,22,23,24,25],[],[]⟩),(0,9,⟨[(12,.dat (.int .i64))],[],[13,14,15,4,16,17,18,19],[],[]⟩)]⟩
def rval_W (a:api_Region)(post:Bool->Prop):Prop:=(↑a.1.length:Int)<=9223372036854775807->IFB (decide ((120:Int)<(↑a.1.length:Int))) (post false) ((↑a.1.length:Int)<=9223372036854775807->LOOP [Ty.int IntKind.i64] (λ(rec1:Int->Prop) (z2:Int)=>IFB (decide (z2<(↑a.1.length:Int))) (((0:Int)<=z2/\z2<(↑a.1.length:Int))/\IFB (!(decide ((0:Int)<=(ix a.1 z2).1)&&decide ((ix a.1 z2).1<(ix a.1 z2).3)&&decide ((ix a.1 z2).3<=16384)&&decide ((0:Int)<=(ix a.1 z2).2)&&decide ((ix a.1 z2).2<(ix a.1 z2).4)&&decide ((ix a.1 z2).4<=16384))) (post false) (rec1 (IntKind.i64.wrap (z2+1)))) (JOIN [Ty.bool] (λ(y3:Bool)=>post y3) λ(J4:Bool->Prop)=>(a.1.length<=1000/\(0:Nat)<=1000)/\(canonF λ(x y:Int)=>howS (1:Int) (cov a.1 x y) (cov [] x y)).length<=1000000000/\∀(v5:Bool),(v5=true↔(canonF λ(x y:Int)=>howS (1:Int) (cov a.1 x y) (cov [] x y))=a.1)->J4 v5)) ((0:Int),PUnit.unit))
theorem rval_w (a:api_Region)(post:dens (shT rval_sp.rs [])->Prop):rval_W a (λy0=>post (y0,()))=walkG (callR Tryz.prog rval_C (drawR Tryz.prog tau) 8 0) 93 false [tv (.st .api_Region) a] rval_sp.rs post:=by kernel_rfl
theorem rval_of (h:∀a post,rval_P a post->rval_W a post):SpecOK Tryz.prog rval_sp:=SpecOK.of_rules (C:=rval_C) (dr:=drawR Tryz.prog tau) (n:=8) (fk:=0) (.cons (rule1_ok rcomb_ok) (.cons (rule1_ok rrec_ok) .nil)) (drawR_ok tau) λx post hp=>HoldW.of (rval_w x.1 post) (h x.1 (λy0=>post (y0,())) hp)
theorem rval_ok:SpecOK Tryz.prog rval_sp:=rval_of λa post hp=>by
 obtain⟨l⟩:=a
 unfold rval_P at hp
 unfold rval_W
 dsimp only at hp ⊢
 intro _
 refine IFB.mk (λhb=>hp _ ?_) (λhb _=> ?_)
 ·have hb:=of_decide_eq_true hb
  constructor
  ·intro h;cases h
  ·intro h;have:=h.1;omega
 ·have hb:=of_decide_eq_false hb
  refine loopCmp (n:=l.length) (by omega) (p:=λj=>proper (ix l (j:Int))) (λrec k hk hpre hrec=>⟨by omega,IFB.mk (λhb=>hp _ ?_) (λhb=>hrec ?_)⟩) λhall=> ?_
  ·constructor
   ·intro h;cases h
   ·intro h
    have:=properB_iff.2 (h.2.1 _ (ix_mem (l:=l) (i:=(k:Int)) (by omega) (by omega)))
    unfold properB at this
    rw[this] at hb
    cases hb
  ·exact properB_iff.1 (by unfold properB;simpa using hb)
  ·have hall:=all_ix hall
   refine JOIN.opq λ(J:Bool->Prop) hJ=> ?_
   have hf:(canonF λ(x y:Int)=>howS 1 (cov l x y) (cov [] x y))=canonF (cov l):=congrArg canonF (comb_or_nil l)
   rw[hf]
   have:=cov_len hall
   refine⟨⟨by omega,by omega⟩,by omega,λq hq=> ?_⟩
   rw[hJ]
   refine hp q (hq.trans ⟨λh=>⟨by omega,hall,(canon_iff l).1 h⟩,λh=>(canon_iff l).2 h.2.2⟩)
def rof_P (l:List (api_Rect))(post:List (api_Rect)->Int->Prop):Prop:=post (ofS l).1 (ofS l).2
def rof_sp:Spec:=⟨36,false,true,[.sl (.st .api_Rect)],.tup [.agg [.dat (.sl (.st .api_Rect))],.dat (.int .i64)],λx post=>rof_P (x.1:List (api_Rect)) (λy0 y1=>post (y0,y1,()))⟩
def rof_C:CtxR:=⟨tau,[rule1 rcomb_sp],lookJ [(9192,0,⟨[(0,.tup [.agg [.dat (.sl (.st .api_Rect))],.dat (.int .i64)])],[],[],[],[]⟩),(0,9,⟨[(12,.dat (.int .i64))],[],[13,14,15,5,16,17,18,20],[],[]⟩)]⟩
def rof_W (l:List (api_Rect))(post:List (api_Rect)->Int->Prop):Prop:=(↑l.length:Int)<=9223372036854775807->IFB (decide ((120:Int)<(↑l.length:Int))) (post [] 1) ((↑l.length:Int)<=9223372036854775807->LOOP [Ty.int IntKind.i64] (λ(rec1:Int->Prop) (z2:Int)=>IFB (decide (z2<(↑l.length:Int))) (((0:Int)<=z2/\z2<(↑l.length:Int))/\IFB (!(decide ((0:Int)<=(ix l z2).1)&&decide ((ix l z2).1<(ix l z2).3)&&decide ((ix l z2).3<=16384)&&decide ((0:Int)<=(ix l z2).2)&&decide ((ix l z2).2<(ix l z2).4)&&decide ((ix l z2).4<=16384))) (post [] 2) (rec1 (IntKind.i64.wrap (z2+1)))) ((l.length<=1000/\(0:Nat)<=1000)/\JOIN [(Ty.st Sn.api_Rect).sl,Ty.int IntKind.i64] (λ(y3:List api_Rect) (y4:Int)=>post y3 y4) λ(J5:List api_Rect->Int->Prop)=>(↑(canonF λ(x y:Int)=>howS (1:Int) (cov l x y) (cov [] x y)).length:Int)<=9223372036854775807->IFB (decide ((120:Int)<(↑(canonF λ(x y:Int)=>howS (1:Int) (cov l x y) (cov [] x y)).length:Int))) (J5 [] 1) (J5 (canonF λ(x y:Int)=>howS (1:Int) (cov l x y) (cov [] x y)) 0))) ((0:Int),PUnit.unit))
theorem rof_w (l:List (api_Rect))(post:dens (shT rof_sp.rs [])->Prop):rof_W l (λy0 y1=>post (y0,y1,()))=walkG (callR Tryz.prog rof_C (drawR Tryz.prog tau) 8 0) 36 false [tv (.sl (.st .api_Rect)) l] rof_sp.rs post:=by kernel_rfl
theorem rof_of (h:∀l post,rof_P l post->rof_W l post):SpecOK Tryz.prog rof_sp:=SpecOK.of_rules (C:=rof_C) (dr:=drawR Tryz.prog tau) (n:=8) (fk:=0) (.cons (rule1_ok rcomb_ok) .nil) (drawR_ok tau) λx post hp=>HoldW.of (rof_w x.1 post) (h x.1 (λy0 y1=>post (y0,y1,())) hp)
theorem rof_main (l:List api_Rect)(post:List api_Rect->Int->Prop)(hp:rof_P l post):rof_W l post:=by
 unfold rof_P at hp
 unfold rof_W
 intro _
 refine IFB.mk (λhb=> ?_) (λhb _=> ?_)
 ·have hb:=of_decide_eq_true hb
  unfold ofS at hp
  rw[if_pos (by omega)] at hp
  exact hp
 ·have hb:=of_decide_eq_false hb
  unfold ofS at hp
  rw[if_neg (by omega)] at hp
  refine loopCmp (n:=l.length) (by omega) (p:=λj=>proper (ix l (j:Int))) (λrec k hk hpre hrec=>⟨by omega,IFB.mk (λhb=> ?_) (λhb=>hrec ?_)⟩) λhall=> ?_
  ·rw[if_pos] at hp
   ·exact hp
   ·intro h
    have:=properB_iff.2 (h _ (ix_mem (l:=l) (i:=(k:Int)) (by omega) (by omega)))
    unfold properB at this
    rw[this] at hb
    cases hb
  ·exact properB_iff.1 (by unfold properB;simpa using hb)
  ·have hall:=all_ix hall
   rw[if_neg (λh=>h hall)] at hp
   have hf:(canonF λ(x y:Int)=>howS 1 (cov l x y) (cov [] x y))=canonF (cov l):=congrArg canonF (comb_or_nil l)
   rw[hf]
   have hlen:=cov_len hall
   refine⟨⟨by omega,by omega⟩,JOIN.opq λ(J:List api_Rect->Int->Prop) hJ _=>IFB.mk (λhb=> ?_) (λhb=> ?_)⟩
   ·have hb:=of_decide_eq_true hb
    rw[if_pos (by omega)] at hp
    rw[hJ];exact hp
   ·have hb:=of_decide_eq_false hb
    rw[if_neg (by omega)] at hp
    rw[hJ];exact hp
theorem rof_ok:SpecOK Tryz.prog rof_sp:=rof_of rof_main
def rsame_P (a:api_Region)(b:api_Region)(post:Bool->Prop):Prop:=(a.1.length<=1000000000)/\∀q:Bool,(q=true↔a=b)->post q
def rsame_sp:Spec:=⟨34,false,false,[.st .api_Region,.st .api_Region],.dat (.bool),λx post=>rsame_P (x.1:api_Region) (x.2.1:api_Region) (λy0=>post (y0,()))⟩
def rsame_C:CtxR:=⟨tau,[rule1 rrec_sp],lookJ []⟩
def rsame_W (a:api_Region)(b:api_Region)(post:Bool->Prop):Prop:=a.1.length<=1000000000/\∀(v1:Bool),(v1=true↔a.1=b.1)->post v1
theorem rsame_w (a:api_Region)(b:api_Region)(post:dens (shT rsame_sp.rs [])->Prop):rsame_W a b (λy0=>post (y0,()))=walkG (callR Tryz.prog rsame_C (drawR Tryz.prog tau) 8 0) 34 false [tv (.st .api_Region) a,tv (.st .api_Region) b] rsame_sp.rs post:=by kernel_rfl
theorem rsame_of (h:∀a b post,rsame_P a b post->rsame_W a b post):SpecOK Tryz.prog rsame_sp:=SpecOK.of_rules (C:=rsame_C) (dr:=drawR Tryz.prog tau) (n:=8) (fk:=0) (.cons (rule1_ok rrec_ok) .nil) (drawR_ok tau) λx post hp=>HoldW.of (rsame_w x.1 x.2.1 post) (h x.1 x.2.1 (λy0=>post (y0,())) hp)
theorem rsame_ok:SpecOK Tryz.prog rsame_sp:=rsame_of λa b post hp=>by
 obtain⟨hl,hp⟩:=hp
 refine⟨hl,λv h=>hp v (h.trans ⟨λh=> ?_,λh=>h ▸ rfl⟩)⟩
 cases a
 cases b
 dsimp only at h
 rw[h]
end RE
end Go.Proofs.YtpeggkeenboacaaGreat
namespace Go.Proofs
open Go.Shelf
def Tryz.lays189_ren:Go.Shelf.Ren:=⟨λ|189=>197|125=>172|257=>226|128=>213|129=>214|294=>240|295=>241|296=>242|297=>243|298=>244|299=>245|216=>246|300=>247|301=>248|328=>261|329=>233|330=>234|331=>262|332=>263|215=>167|343=>267|n=>n,λ|28=>22|3=>3|46=>214|0=>0|51=>250|53=>252|4=>4|183=>243|182=>242|131=>247|5=>5|9=>9|218=>265|222=>269|228=>285|229=>119|n=>n,λ|n=>n⟩
theorem Tryz.lays189:Go.Proofs.Lays.n189 Tryz.prog Tryz.lays189_ren:={
 mixed:=by kernel_rfl
 f125:=Tryz.func172.trans (congrArg some (by kernel_rfl))
 f128:=Tryz.func213.trans (congrArg some (by kernel_rfl))
 f129:=Tryz.func214.trans (congrArg some (by kernel_rfl))
 f189:=Tryz.func197.trans (congrArg some (by kernel_rfl))
 f215:=Tryz.func167.trans (congrArg some (by kernel_rfl))
 f216:=Tryz.func246.trans (congrArg some (by kernel_rfl))
 f257:=Tryz.func226.trans (congrArg some (by kernel_rfl))
 f294:=Tryz.func240.trans (congrArg some (by kernel_rfl))
 f295:=Tryz.func241.trans (congrArg some (by kernel_rfl))
 f296:=Tryz.func242.trans (congrArg some (by kernel_rfl))
 f297:=Tryz.func243.trans (congrArg some (by kernel_rfl))
 f298:=Tryz.func244.trans (congrArg some (by kernel_rfl))
 f299:=Tryz.func245.trans (congrArg some (by kernel_rfl))
 f300:=Tryz.func247.trans (congrArg some (by kernel_rfl))
 f301:=Tryz.func248.trans (congrArg some (by kernel_rfl))
 f328:=Tryz.func261.trans (congrArg some (by kernel_rfl))
 f329:=Tryz.func233.trans (congrArg some (by kernel_rfl))
 f330:=Tryz.func234.trans (congrArg some (by kernel_rfl))
 f331:=Tryz.func262.trans (congrArg some (by kernel_rfl))
 f332:=Tryz.func263.trans (congrArg some (by kernel_rfl))
 f343:=Tryz.func267.trans (congrArg some (by kernel_rfl))
 t0:=Tryz.underlying0
 a0:=Tryz.isAgg0
 z0:=Tryz.sizeOf0
 v0:=Tryz.zeroValue0
 t3:=Tryz.underlying3
 a3:=Tryz.isAgg3
 z3:=Tryz.sizeOf3
 v3:=Tryz.zeroValue3
 t4:=Tryz.underlying4
 a4:=Tryz.isAgg4
 z4:=Tryz.sizeOf4
 v4:=Tryz.zeroValue4
 t5:=Tryz.underlying5
 a5:=Tryz.isAgg5
 z5:=Tryz.sizeOf5
 v5:=Tryz.zeroValue5
 t9:=Tryz.underlying9
 a9:=Tryz.isAgg9
 z9:=Tryz.sizeOf9
 v9:=Tryz.zeroValue9
 t28:=Tryz.underlying22
 a28:=Tryz.isAgg22
 z28:=Tryz.sizeOf22
 v28:=Tryz.zeroValue22
 t46:=Tryz.underlying214
 a46:=Tryz.isAgg214
 z46:=Tryz.sizeOf214
 v46:=Tryz.zeroValue214
 t51:=Tryz.underlying250
 a51:=Tryz.isAgg250
 z51:=Tryz.sizeOf250
 v51:=Tryz.zeroValue250
 t53:=Tryz.underlying252
 a53:=Tryz.isAgg252
 z53:=Tryz.sizeOf252
 v53:=Tryz.zeroValue252
 t131:=Tryz.underlying247
 a131:=Tryz.isAgg247
 z131:=Tryz.sizeOf247
 v131:=Tryz.zeroValue247
 t182:=Tryz.underlying242
 a182:=Tryz.isAgg242
 z182:=Tryz.sizeOf242
 v182:=Tryz.zeroValue242
 t183:=Tryz.underlying243
 a183:=Tryz.isAgg243
 z183:=Tryz.sizeOf243
 v183:=Tryz.zeroValue243
 t218:=Tryz.underlying265
 a218:=Tryz.isAgg265
 z218:=Tryz.sizeOf265
 v218:=Tryz.zeroValue265
 t222:=Tryz.underlying269
 a222:=Tryz.isAgg269
 z222:=Tryz.sizeOf269
 v222:=Tryz.zeroValue269
 t228:=Tryz.underlying285
 a228:=Tryz.isAgg285
 z228:=Tryz.sizeOf285
 v228:=Tryz.zeroValue285
 t229:=Tryz.underlying119
 a229:=Tryz.isAgg119
 z229:=Tryz.sizeOf119
 v229:=Tryz.zeroValue119}
open Go.Sort Go.RowKit in
theorem Tryz.slices_Sort_int (blk off cap:Nat)(zs:List Int)(w:World)(hH:Holds (Value.int .i64) w blk off zs.toArray)(hblk:blk<w.heap.size)(hsz:zs.length<4611686018427387904):
 Calls Tryz.prog 197 #[.slice (some ⟨blk,off,none⟩) zs.length cap] w λe w'=>
  e= .returned (.tuple #[])/\∃n os,w'=grow (putRow (Value.int .i64) (Sort.ahead w n) blk off (zs.mergeSort λx y=>decide (x<=y)).toArray) os:=Any.slices_Sort_int Tryz.lays189 blk off cap zs w hH hblk hsz
def Tryz.laysNm220_ren:Go.Shelf.Ren:=⟨λ|20=>198|n=>n,λ|22=>22|3=>3|4=>4|0=>0|n=>n,λ|n=>n⟩
theorem Tryz.laysNm220:Go.Proofs.Lays2.n20 Tryz.prog Tryz.laysNm220_ren:={
 mixed:=by kernel_rfl
 f20:=Tryz.func198.trans (congrArg some (by kernel_rfl))
 t0:=Tryz.underlying0
 a0:=Tryz.isAgg0
 z0:=Tryz.sizeOf0
 v0:=Tryz.zeroValue0
 t3:=Tryz.underlying3
 a3:=Tryz.isAgg3
 z3:=Tryz.sizeOf3
 v3:=Tryz.zeroValue3
 t4:=Tryz.underlying4
 a4:=Tryz.isAgg4
 z4:=Tryz.sizeOf4
 v4:=Tryz.zeroValue4
 t22:=Tryz.underlying22
 a22:=Tryz.isAgg22
 z22:=Tryz.sizeOf22
 v22:=Tryz.zeroValue22
 i3:=by kernel_rfl}
open Go.RowKit Go.Lib Go.Sort in
open Go.RowKit Go.Lib Go.Sort in
theorem Tryz.slices_Compact_int (blk off cap:Nat)(zs:List Int)(w:World)(hH:Holds (Value.int .i64) w blk off zs.toArray)(hsz:zs.length<=9223372036854775807)(hcap:zs.length<=cap):
 Calls Tryz.prog 198 #[.slice (some ⟨blk,off,none⟩) zs.length cap] w λe w'=>e= .returned (.slice (some ⟨blk,off,none⟩) (Lib.compact zs).length cap)/\∃q,w'=putRow (Value.int .i64) (Sort.ahead w q) blk off (Lib.compact zs++List.replicate (zs.length-(Lib.compact zs).length) 0).toArray:=Any.slices_Compact_int Tryz.laysNm220 blk off cap zs w hH hsz hcap
open Go.RowKit Go.Lib Go.Sort in
theorem Tryz.slices_Compact_int_empty (a:Option Addr)(cap:Nat)(w:World):
 Calls Tryz.prog 198 #[.slice a 0 cap] w λe w'=>e= .returned (.slice a 0 cap)/\w'=w:=Any.slices_Compact_int_empty Tryz.laysNm220 a cap w
open Go.RowKit Go.Lib in
open Go.RowKit Go.Lib in
open Go.RowKit Go.Lib Go.Sort in
open Go.RowKit Go.Sort in
theorem Tryz.slices_Sort_int_none (p:Option Addr)(cap:Nat)(w:World):
 Calls Tryz.prog 197 #[.slice p 0 cap] w λe w'=>e= .returned (.tuple #[])/\w'=w:=Any.slices_Sort_int_none Tryz.lays189 p cap w
end Go.Proofs
set_option linter.unusedVariables false
namespace Go.Proofs.YtpeggkeenboacaaGreat
open Go.RowKit Go.Sort
namespace RE
open PL
namespace PL
def sortI (l:List Int):List Int:=l.mergeSort λx y=>decide (x<=y)
end PL
def ssort_sp:Spec3:=⟨197,.int .i64,none,λ(l:List Int) post=>l.length<=1000000/\post (sortI l)⟩
theorem row_ints {w:World}{S:Cells}{cur:Array Value}{l:List Int}(h:∀(i:Nat)(x:Int),l[i]? =some x->∀(j:Nat)(c:D),(enc (.int .i64) x)[j]? =some c->∃u:Value,cur[i * size (.int .i64)+j]? =some u/\u.oneCell'=true/\Rd S w c u):
 cur.toList.take l.length=l.map (Value.int .i64):=by
 apply List.ext_getElem?
 intro i
 by_cases hi:i<l.length
 ·rw[List.getElem?_take_of_lt hi,Array.getElem?_toList,List.getElem?_map]
  obtain⟨u,h1,_,h3⟩:=h i l[i] (List.getElem?_eq_getElem hi) 0 _ rfl
  have h1:cur[i * 1+0]? =some u:=h1
  rw[Nat.mul_one,Nat.add_zero] at h1
  rw[h1,List.getElem?_eq_getElem hi]
  have h3:Rd S w (.v (.int .i64 l[i])) u:=h3
  rw[rd_v h3];rfl
 ·rw[List.getElem?_take_eq_none (by omega),List.getElem?_eq_none (by simp;omega)]
theorem ssort_ok:Spec3OK Tryz.prog ssort_sp:=by
 intro (l:List Int) post hp w S v F e hrow hS hF
 obtain⟨hlen,hp⟩:=hp
 obtain⟨h0,⟨rfl,⟨ad,rfl⟩,hn⟩|⟨g,cap,cur,rfl,hFg,hg,hnl,hcm,hcs,hrr⟩⟩:=hrow
 ·refine (Tryz.slices_Sort_int_none ad 0 w).mono ?_
  rintro e' w' ⟨rfl,rfl⟩
  have e:sortI []=[]:=List.mergeSort_nil
  have hp:post (sortI []):=hp
  rw[e] at hp
  exact⟨_,[],rfl,hp,⟨h0,.inl ⟨rfl,⟨ad,rfl⟩,hn⟩⟩,rfl,rfl,rfl,Nat.le_refl _,λ_ _ _=>rfl⟩
 ·have hgl:=(Array.getElem?_eq_some_iff.1 hg).1
  have hnl:List.length (l:List Int)<=cap:=hnl
  have hl2:(sortI l).length=List.length (l:List Int):=List.length_mergeSort ..
  refine (Tryz.slices_Sort_int g 0 cap l w (holds_of_blockI hg (row_ints hrr)) hgl (by have hlen:List.length (l:List Int)<=1000000:=hlen;omega)).mono ?_
  rintro e' w' ⟨rfl,n,os,rfl⟩
  have hG:=grownBy_sortedI (w:=w) (n:=n) (g:=g) (os:=os) (sortI l).toArray
  refine⟨_,sortI l,rfl,hp,⟨h0,.inr ⟨g,cap,_,congrArg (λn=>Value.slice (some ⟨g,0,none⟩) n cap) hl2.symm,hFg,heap_sortedI _ hg,hl2 ▸ hnl,hcm,by simp[putCells,hcs],λi (x:Int) hx j c hc=> ?_⟩⟩,hG.os,hG.tape,hG.output,hG.size,λb hb hnF=>hG.block b hb λe=>hnF ((hFg b).2 (Option.some.inj e))⟩
  have hi:i<(sortI l).length:=(List.getElem?_eq_some_iff.1 hx).1
  cases j with
  |succ j=>cases (show ([]:List D)[j]? =some c from hc)
  |zero=>
   have hc:[D.v (.int .i64 x)][0]? =some c:=hc
   simp at hc
   subst hc
   refine⟨.int .i64 x,?_,rfl,.v _⟩
   show (putCells (Value.int .i64) 0 (sortI l).toArray cur)[i * 1+0]? =_
   rw[Nat.mul_one,Nat.add_zero]
   have hcs:cur.size=cap * 1:=hcs
   have h1:i<cur.size:=by omega
   simp only[putCells,Array.getElem?_mapIdx,Array.getElem?_eq_getElem h1,Option.map_some,Nat.zero_le,true_and,Nat.zero_add,List.size_toArray,if_pos hi,Nat.sub_zero]
   have:(sortI l).toArray[i]! =x:=by
    have h2:(sortI l)[i]=x:=(List.getElem?_eq_some_iff.1 hx).2
    rw[<-h2]
    simp[hi]
   rw[this]
end RE
end Go.Proofs.YtpeggkeenboacaaGreat
set_option linter.unusedVariables false
namespace Go.Proofs.YtpeggkeenboacaaGreat
open Go.RowKit Go.Sort
namespace RE
open PL
namespace PL
def compI (l:List Int):List Int:=Lib.compact l
noncomputable def uniqI (l:List Int):List Int:=compI (sortI l)
end PL
theorem compact_up {d:Array Int}(h:∀j k,j<=k->k<d.size->d[j]! <=d[k]!):∀m,m<=d.size->(Lib.compactUpTo d m).Pairwise (·<·)/\∀x,x∈Lib.compactUpTo d m↔∃j,j<m/\d[j]! =x
 |0,_=>⟨by simp[Lib.compactUpTo],λx=>by simp[Lib.compactUpTo]⟩
 |m+1,hm=>by
  obtain⟨h1,h2⟩:=compact_up h m (by omega)
  rw[Lib.compactUpTo_succ]
  by_cases hk:Lib.keeps d m=true
  ·rw[if_pos hk]
   constructor
   ·rw[List.pairwise_append]
    refine⟨h1,List.pairwise_singleton _ _,λx hx y hy=> ?_⟩
    rw[List.mem_singleton] at hy
    subst hy
    obtain⟨j,hj,rfl⟩:=(h2 x).1 hx
    have hne:d[m]!≠d[m-1]! :=by
     simp only[Lib.keeps,decide_eq_true_eq] at hk
     rcases hk with hk|hk
     ·omega
     ·exact hk
    have a1:=h j (m-1) (by omega) (by omega)
    have a2:=h (m-1) m (by omega) (by omega)
    omega
   ·intro x
    rw[List.mem_append,h2,List.mem_singleton]
    constructor
    ·rintro (⟨j,hj,e⟩|e)
     ·exact⟨j,by omega,e⟩
     ·exact⟨m,by omega,e.symm⟩
    ·rintro ⟨j,hj,e⟩
     by_cases he:j=m
     ·subst he;exact .inr e.symm
     ·exact .inl ⟨j,by omega,e⟩
  ·rw[if_neg hk,List.append_nil]
   refine⟨h1,λx=> ?_⟩
   rw[h2]
   have hk:¬(m=0\/d[m]!≠d[m-1]!):=by simpa [Lib.keeps] using hk
   constructor
   ·rintro ⟨j,hj,e⟩;exact⟨j,by omega,e⟩
   ·rintro ⟨j,hj,e⟩
    by_cases he:j=m
    ·subst he
     refine⟨j-1,by omega,?_⟩
     rw[<-e]
     exact (Classical.not_not.1 λh=>hk (.inr h)).symm
    ·exact⟨j,by omega,e⟩
theorem uniqI_ok (l:List Int):(uniqI l).Pairwise (·<·)/\∀x,x∈uniqI l↔x∈l:=by
 have hs:(sortI l).Pairwise (λx y=>decide (x<=y)=true):=List.pairwise_mergeSort (λa b c=>by simp;omega) (λa b=>by simp;omega) l
 have hmono:∀j k,j<=k->k<(sortI l).toArray.size->(sortI l).toArray[j]! <=(sortI l).toArray[k]! :=by
  intro j k hjk hk
  have hk:k<(sortI l).length:=by simpa using hk
  rw[List.pairwise_iff_getElem] at hs
  by_cases e:j=k
  ·subst e;exact Int.le_refl _
  ·have:=hs j k (by omega) hk (by omega)
   simp only[decide_eq_true_eq] at this
   simpa [hk,(by omega:j<(sortI l).length)] using this
 obtain⟨h1,h2⟩:=compact_up hmono (sortI l).length (by simp)
 refine⟨h1,λx=> ?_⟩
 rw[show uniqI l=Lib.compactUpTo (sortI l).toArray (sortI l).length from rfl,h2]
 have hm:x∈sortI l↔x∈l:=List.mem_mergeSort
 rw[<-hm]
 constructor
 ·rintro ⟨j,hj,e⟩
  have:(sortI l)[j]=x:=by simpa [hj] using e
  rw[<-this];exact List.getElem_mem hj
 ·intro h
  obtain⟨j,hj,rfl⟩:=List.getElem_of_mem h
  exact⟨j,hj,by simp[hj]⟩
theorem uniqI_eq {l xs:List Int}(h1:xs.Pairwise (·<·))(h2:∀x,x∈xs↔x∈l):uniqI l=xs:=inc_uniq (uniqI_ok l).1 h1 λx=>by rw[(uniqI_ok l).2,h2]
theorem uniqI_len (l:List Int):(uniqI l).length<=l.length:=Nat.le_trans (Go.Lib.compact_length_le (α:=Int) _) (by unfold sortI;simp)
theorem Spec2OK.of_row {P:Program}{f:FuncId}{e:TypeId}{t:Ty}{pt:List (den t)->(List (den t)->Prop)->Prop}(hE:Nat.ble 1000000 e=false)
 (h:∀l post,pt l post->∀w (S:Cells)(v:Value)(F:Nat->Prop),RowAt w S v F e t l->(∀b o,S b o->b<w.heap.size)->(∀b,F b->b<w.heap.size/\∀k,¬S b k)->
  Calls P f #[v] w λe' w'=>∃r l',e'= .returned r/\post l'/\RowAt w' S r F e t l'/\w'.os=w.os/\w'.tape=w.tape/\w'.output=w.output/\w.heap.size<=w'.heap.size/\∀b,b<w.heap.size->¬F b->w'.heap[b]? =w.heap[b]?):
 Spec2OK P ⟨f,[.own e t],.own e t,λx post=>pt (x.1:List (den t)) λy=>post (y,())⟩:=by
 rintro ⟨(l:List (den t)),⟨⟩⟩ post hp us w c hox hl hr
 match us,hl with
 |[u],_=>
 have hu:=srel_os (hr 0 (.os 0) u rfl rfl).1
 subst hu
 have hob:(mem2 [.own e t] ((l,()):dens (shTL [.own e t] []))).obs 0=some (.row e t l):=by
  show some (rowOb (e,⟨t,l⟩))=_
  rw[rowOb_row _ _ _ hE]
 obtain⟨_,_,hrow⟩:=hox.objs 0 _ hob
 have hfb:=hox.fb 0 _ hob rfl
 refine (h l _ hp w c.S (c.H 0) (c.F 0) hrow hox.sb λb hb=>⟨(hfb b hb).1,(hfb b hb).2.1⟩).mono ?_
 rintro e' w' ⟨rv,l',rfl,hp,hrow',g1,g2,g3,g4,g5⟩
 have hone:∀x y,put (λ_=>none) 1 (some (Ob.row e t l')) x=some y->x=1/\y= .row e t l':=λx y hx=>by
  by_cases e:x=1
  ·subst e
   rw[put_same] at hx
   injection hx with hx
   exact⟨rfl,hx.symm⟩
  ·rw[put_ne _ _ e] at hx;cases hx
 have hU:∀k,(mem2 [.own e t] ((l,()):dens (shTL [.own e t] []))).U k->k=0:=λk hk=>by
  have:k<1:=hk
  omega
 refine⟨rv,(l',()),⟨c.S,put c.H 1 rv,put c.F 1 (c.F 0),c.T⟩,put (λ_=>none) 1 (some (.row e t l')),λk=>k<2,rfl,hp,⟨λb o hb=>Nat.lt_of_lt_of_le (hox.sb b o hb) g4,λx y hx=> ?_,λx y hx ho b hb=> ?_,λi j x y hx ox hy oy hne b hb hb'=> ?_,λT hT=> ?_,λe=> ?_,hox.tF⟩,⟨g1,g2,g3,g4,λ_ h=>h,λ_ h=> .inl h,λk hk=> ?_,λk hk=> ?_,λ_ _ h=>h,λ_ _ h=> .inl h,λb hb hf hT=>g5 b hb λhF=>hf ⟨0,_,hob,rfl,hF⟩,λb hb=> ?_⟩,?_,λj r hj=> ?_⟩
 ·obtain⟨rfl,rfl⟩:=hone x y hx
  refine⟨by omega,trivial,?_⟩
  show RowAt w' c.S (put c.H 1 rv 1) (put c.F 1 (c.F 0) 1) e t l'
  rw[put_same,put_same]
  exact hrow'
 ·obtain⟨rfl,rfl⟩:=hone x y hx
  have hb:put c.F 1 (c.F 0) 1 b:=hb
  rw[put_same] at hb
  obtain⟨u1,u2,u3⟩:=hfb b hb
  exact⟨Nat.lt_of_lt_of_le u1 g4,u2,u3⟩
 ·obtain⟨rfl,rfl⟩:=hone i x hx
  obtain⟨rfl,rfl⟩:=hone j y hy
  exact absurd rfl hne
 ·obtain⟨t1,t2⟩:=hox.nT T hT
  exact⟨Nat.lt_of_lt_of_le t1 g4,t2⟩
 ·cases e
 ·have:=hU k hk
  show k<2
  omega
 ·have:=hU k hk
  subst this
  exact⟨put_ne (k:=1) (i:=0) c.H rv (by omega),put_ne (k:=1) (i:=0) c.F (c.F 0) (by omega)⟩
 ·obtain⟨x,y,hx,ho,hb⟩:=hb
  obtain⟨rfl,rfl⟩:=hone x y hx
  have hb:put c.F 1 (c.F 0) 1 b:=hb
  rw[put_same] at hb
  exact .inl ⟨0,_,hob,rfl,hb⟩
 ·show SRel ⟨c.S,put c.H 1 rv,put c.F 1 (c.F 0),c.T⟩ w' (.os 1) rv
  have:=SRel.os (c:=⟨c.S,put c.H 1 rv,put c.F 1 (c.F 0),c.T⟩) (w:=w') 1
  rwa [show (Cx.mk c.S (put c.H 1 rv) (put c.F 1 (c.F 0)) c.T).H 1=rv from put_same c.H 1 rv] at this
 ·match j,hj with
  |0,hj=>
   have hj:some ((e,⟨t,l'⟩):Row)=some r:=hj
   injection hj with hj
   subst hj
   rw[rowOb_row _ _ _ hE]
   exact put_same _ _ _
  |j+1,hj=>cases (show (none:Option Row)=some r from hj)
def scompact_sp:Spec2:=⟨198,[.own 3 (.int .i64)],.own 3 (.int .i64),λx post=>(λ(l:List Int) (post:List Int->Prop)=>l.length<=1000000/\post (compI l)) (x.1:List Int) λy=>post (y,())⟩
theorem scompact_row:∀(l:List Int)(post:List Int->Prop),(l.length<=1000000/\post (compI l))->∀(w:World)(S:Cells)(v:Value)(F:Nat->Prop),RowAt w S v F 3 (.int .i64) l->(∀b o,S b o->b<w.heap.size)->(∀b,F b->b<w.heap.size/\∀k,¬S b k)->
 Calls Tryz.prog 198 #[v] w λe' w'=>∃(r:Value)(l':List Int),e'= .returned r/\post l'/\RowAt w' S r F 3 (.int .i64) l'/\w'.os=w.os/\w'.tape=w.tape/\w'.output=w.output/\w.heap.size<=w'.heap.size/\∀b,b<w.heap.size->¬F b->w'.heap[b]? =w.heap[b]? :=by
 intro l post ⟨hlen,hp⟩ w S v F hrow hS hF
 obtain⟨h0,⟨rfl,⟨ad,rfl⟩,hn⟩|⟨g,cap,cur,rfl,hFg,hg,hnl,hcm,hcs,hrr⟩⟩:=hrow
 ·refine (Tryz.slices_Compact_int_empty ad 0 w).mono ?_
  rintro e' w' ⟨rfl,rfl⟩
  have e:Lib.compact ([]:List Int)=[]:=rfl
  have hp:post (Lib.compact ([]:List Int)):=hp
  rw[e] at hp
  exact⟨_,[],rfl,hp,⟨h0,.inl ⟨rfl,⟨ad,rfl⟩,hn⟩⟩,rfl,rfl,rfl,Nat.le_refl _,λ_ _ _=>rfl⟩
 ·have hnl:List.length (l:List Int)<=cap:=hnl
  have hlen:List.length (l:List Int)<=1000000:=hlen
  have hcl:(Lib.compact (l:List Int)).length<=List.length (l:List Int):=Go.Lib.compact_length_le (α:=Int) l
  refine (Tryz.slices_Compact_int g 0 cap l w (holds_of_blockI hg (row_ints hrr)) (by omega) hnl).mono ?_
  rintro e' w' ⟨rfl,n,rfl⟩
  generalize hd:(Lib.compact (l:List Int)++List.replicate (List.length (l:List Int)-(Lib.compact (l:List Int)).length) 0).toArray=d
  have hG:=grownBy_sortedI (w:=w) (n:=n) (g:=g) (os:= #[]) d
  have hH:=heap_sortedI (n:=n) (os:= #[]) d hg
  rw[grow_empty] at hG hH
  refine⟨_,Lib.compact (l:List Int),rfl,hp,⟨h0,.inr ⟨g,cap,_,rfl,hFg,hH,Nat.le_trans hcl hnl,hcm,by simp[putCells,hcs],λi (x:Int) hx j c hc=> ?_⟩⟩,hG.os,hG.tape,hG.output,hG.size,λb hb hnF=>hG.block b hb λe=>hnF ((hFg b).2 (Option.some.inj e))⟩
  have hi:i<(Lib.compact (l:List Int)).length:=(List.getElem?_eq_some_iff.1 hx).1
  cases j with
  |succ j=>cases (show ([]:List D)[j]? =some c from hc)
  |zero=>
   have hc:[D.v (.int .i64 x)][0]? =some c:=hc
   simp at hc
   subst hc
   refine⟨.int .i64 x,?_,rfl,.v _⟩
   show (putCells (Value.int .i64) 0 d cur)[i * 1+0]? =_
   rw[Nat.mul_one,Nat.add_zero]
   have hcs:cur.size=cap * 1:=hcs
   have h1:i<cur.size:=by omega
   have h2:i<d.size:=by rw[<-hd];simp;omega
   simp only[putCells,Array.getElem?_mapIdx,Array.getElem?_eq_getElem h1,Option.map_some,Nat.zero_le,true_and,Nat.zero_add,if_pos h2,Nat.sub_zero]
   have:d[i]! =x:=by
    have h2:(Lib.compact (l:List Int))[i]=x:=(List.getElem?_eq_some_iff.1 hx).2
    rw[<-h2,<-hd]
    simp[List.getElem?_append_left hi,List.getElem?_eq_getElem hi]
   rw[this]
theorem scompact_ok:Spec2OK Tryz.prog scompact_sp:=Spec2OK.of_row rfl (t:= .int .i64) scompact_row
end RE
end Go.Proofs.YtpeggkeenboacaaGreat
namespace Go.Proofs
open Go.Shelf
def Tryz.sortSp_ren:Go.Shelf.Ren:=⟨λ|6=>201|15=>172|14=>230|28=>213|29=>214|20=>250|21=>251|22=>252|23=>253|24=>254|25=>255|26=>256|27=>257|46=>264|47=>233|48=>234|49=>265|50=>266|57=>268|n=>n,λ|22=>203|24=>232|25=>238|3=>3|39=>214|0=>0|53=>250|55=>252|4=>4|46=>243|45=>242|50=>247|5=>5|9=>9|66=>265|70=>269|76=>285|77=>119|n=>n,λ|n=>n⟩
theorem Tryz.sortSp:Go.Proofs.SlLaysF0.n6 Tryz.prog Tryz.sortSp_ren:={
 mixed:=by kernel_rfl
 f6:=⟨Tryz.f201.name,by decide,Tryz.func201.trans (congrArg some (by kernel_rfl))⟩
 f14:=⟨Tryz.f230.name,by decide,Tryz.func230.trans (congrArg some (by kernel_rfl))⟩
 f15:=Tryz.func172.trans (congrArg some (by kernel_rfl))
 f20:=⟨Tryz.f250.name,by decide,Tryz.func250.trans (congrArg some (by kernel_rfl))⟩
 f21:=⟨Tryz.f251.name,by decide,Tryz.func251.trans (congrArg some (by kernel_rfl))⟩
 f22:=⟨Tryz.f252.name,by decide,Tryz.func252.trans (congrArg some (by kernel_rfl))⟩
 f23:=⟨Tryz.f253.name,by decide,Tryz.func253.trans (congrArg some (by kernel_rfl))⟩
 f24:=⟨Tryz.f254.name,by decide,Tryz.func254.trans (congrArg some (by kernel_rfl))⟩
 f25:=⟨Tryz.f255.name,by decide,Tryz.func255.trans (congrArg some (by kernel_rfl))⟩
 f26:=⟨Tryz.f256.name,by decide,Tryz.func256.trans (congrArg some (by kernel_rfl))⟩
 f27:=⟨Tryz.f257.name,by decide,Tryz.func257.trans (congrArg some (by kernel_rfl))⟩
 f28:=Tryz.func213.trans (congrArg some (by kernel_rfl))
 f29:=Tryz.func214.trans (congrArg some (by kernel_rfl))
 f46:=⟨Tryz.f264.name,by decide,Tryz.func264.trans (congrArg some (by kernel_rfl))⟩
 f47:=Tryz.func233.trans (congrArg some (by kernel_rfl))
 f48:=Tryz.func234.trans (congrArg some (by kernel_rfl))
 f49:=⟨Tryz.f265.name,by decide,Tryz.func265.trans (congrArg some (by kernel_rfl))⟩
 f50:=⟨Tryz.f266.name,by decide,Tryz.func266.trans (congrArg some (by kernel_rfl))⟩
 f57:=⟨Tryz.f268.name,by decide,Tryz.func268.trans (congrArg some (by kernel_rfl))⟩
 t0:=Tryz.underlying0
 a0:=Tryz.isAgg0
 z0:=Tryz.sizeOf0
 v0:=Tryz.zeroValue0
 t3:=Tryz.underlying3
 a3:=Tryz.isAgg3
 z3:=Tryz.sizeOf3
 v3:=Tryz.zeroValue3
 t4:=Tryz.underlying4
 a4:=Tryz.isAgg4
 z4:=Tryz.sizeOf4
 v4:=Tryz.zeroValue4
 t5:=Tryz.underlying5
 a5:=Tryz.isAgg5
 z5:=Tryz.sizeOf5
 v5:=Tryz.zeroValue5
 t9:=Tryz.underlying9
 a9:=Tryz.isAgg9
 z9:=Tryz.sizeOf9
 v9:=Tryz.zeroValue9
 t22:=Tryz.underlying203
 a22:=Tryz.isAgg203
 z22:=Tryz.sizeOf203
 v22:=Tryz.zeroValue203
 t25:=Tryz.underlying238
 a25:=Tryz.isAgg238
 z25:=Tryz.sizeOf238
 v25:=Tryz.zeroValue238
 t39:=Tryz.underlying214
 a39:=Tryz.isAgg214
 z39:=Tryz.sizeOf214
 v39:=Tryz.zeroValue214
 t45:=Tryz.underlying242
 a45:=Tryz.isAgg242
 z45:=Tryz.sizeOf242
 v45:=Tryz.zeroValue242
 t46:=Tryz.underlying243
 a46:=Tryz.isAgg243
 z46:=Tryz.sizeOf243
 v46:=Tryz.zeroValue243
 t50:=Tryz.underlying247
 a50:=Tryz.isAgg247
 z50:=Tryz.sizeOf247
 v50:=Tryz.zeroValue247
 t53:=Tryz.underlying250
 a53:=Tryz.isAgg250
 z53:=Tryz.sizeOf250
 v53:=Tryz.zeroValue250
 t55:=Tryz.underlying252
 a55:=Tryz.isAgg252
 z55:=Tryz.sizeOf252
 v55:=Tryz.zeroValue252
 t66:=Tryz.underlying265
 a66:=Tryz.isAgg265
 z66:=Tryz.sizeOf265
 v66:=Tryz.zeroValue265
 t70:=Tryz.underlying269
 a70:=Tryz.isAgg269
 z70:=Tryz.sizeOf269
 v70:=Tryz.zeroValue269
 t76:=Tryz.underlying285
 a76:=Tryz.isAgg285
 z76:=Tryz.sizeOf285
 v76:=Tryz.zeroValue285
 t77:=Tryz.underlying119
 a77:=Tryz.isAgg119
 z77:=Tryz.sizeOf119
 v77:=Tryz.zeroValue119}
def Tryz.cmpSp_ren:Go.Shelf.Ren:=⟨λ|5=>104|7=>167|n=>n,λ|22=>3|3=>3|4=>4|n=>n,λ|n=>n⟩
theorem Tryz.cmpSp:Go.Proofs.SlLaysC2.n5 Tryz.prog Tryz.cmpSp_ren:={
 mixed:=by kernel_rfl
 f5:=⟨Tryz.f104.name,by decide,Tryz.func104.trans (congrArg some (by kernel_rfl))⟩
 f7:=⟨Tryz.f167.name,by decide,Tryz.func167.trans (congrArg some (by kernel_rfl))⟩
 t3:=Tryz.underlying3
 a3:=Tryz.isAgg3
 z3:=Tryz.sizeOf3
 v3:=Tryz.zeroValue3
 t4:=Tryz.underlying4
 a4:=Tryz.isAgg4
 z4:=Tryz.sizeOf4
 v4:=Tryz.zeroValue4
 t22:=Tryz.underlying3
 a22:=Tryz.isAgg3
 z22:=Tryz.sizeOf3
 v22:=Tryz.zeroValue3}
def Tryz.growSp_ren:Go.Shelf.Ren:=⟨λ|4=>227|n=>n,λ|22=>203|25=>232|3=>3|4=>4|9=>9|20=>20|0=>0|2=>3|n=>n,λ|n=>n⟩
theorem Tryz.growSp:Go.Proofs.Lays8.n4 Tryz.prog Tryz.growSp_ren:={
 mixed:=by kernel_rfl
 f4:=⟨Tryz.f227.name,by decide,Tryz.func227.trans (congrArg some (by kernel_rfl))⟩
 t0:=Tryz.underlying0
 a0:=Tryz.isAgg0
 z0:=Tryz.sizeOf0
 v0:=Tryz.zeroValue0
 t3:=Tryz.underlying3
 a3:=Tryz.isAgg3
 z3:=Tryz.sizeOf3
 v3:=Tryz.zeroValue3
 t4:=Tryz.underlying4
 a4:=Tryz.isAgg4
 z4:=Tryz.sizeOf4
 v4:=Tryz.zeroValue4
 t9:=Tryz.underlying9
 a9:=Tryz.isAgg9
 z9:=Tryz.sizeOf9
 v9:=Tryz.zeroValue9
 t20:=Tryz.underlying20
 a20:=Tryz.isAgg20
 z20:=Tryz.sizeOf20
 v20:=Tryz.zeroValue20
 t22:=Tryz.underlying203
 a22:=Tryz.isAgg203
 z22:=Tryz.sizeOf203
 v22:=Tryz.zeroValue203}
end Go.Proofs
namespace Go.Proofs.YtpeggkeenboacaaGreat
namespace RE
open Go.RowKit
open Go.Sort
open Go.Lib
open PL
def encS (x:region_Span):List Value:=[.int .i64 x.1,.int .i64 x.2]
def cfS (x y:region_Span):Int:=Lib.compareInt x.1 y.1
theorem ltS (x y:region_Span):ltOf cfS x y=decide (x.1<y.1):=by
 unfold ltOf cfS Lib.compareInt
 by_cases h1:x.1<y.1
 ·simp[h1]
 ·by_cases h2:y.1<x.1<;>simp[h1,h2]
theorem swoS:SWO (ltOf cfS) where
 irrefl x:=by rw[ltS];simp
 trans x y z h1 h2:=by rw[ltS] at *;simp at *;omega
 ntrans x y z h1 h2:=by rw[ltS] at *;simp at *;omega
set_option maxHeartbeats 1000000 in
theorem clos158 (x y:region_Span)(W:World):Calls Tryz.prog 202 #[.agg #[.int .i64 x.1,.int .i64 x.2],.agg #[.int .i64 y.1,.int .i64 y.2]] W λe w'=>e= .returned (.int .i64 (Lib.compareInt x.1 y.1))/\∃q os',w'=grow (W.drewN q) os':=by
 have hcon:=λW'=>AnyG.cmp_Compare_int Tryz.cmpSp x.1 y.1 W'
 change ∀W',Calls Tryz.prog 104 _ _ _ at hcon
 generalize Lib.compareInt x.1 y.1=r at hcon ⊢
 go_enter Tryz.func202,Tryz.ntmps202
 go_wp2_with (go_at_call 104;refine (hcon _).mono ?_;rintro e w' ⟨rfl,rfl⟩)
 go_ret
 exact⟨rfl,0,_,by rw[alloc_eq_grow,alloc_eq_grow,grow_grow];rfl⟩
theorem cmpLays158 (blk off size:Nat)(w:World):CmpLays Tryz.prog 202 #[] encS 2 cfS blk off size w:=
 λ_ _ _ _ x y=>clos158 x y _
theorem heap_sortedV {w:World}{g n:Nat}{os:Array Obj}{cur:Array Value}{e:TypeId}{fr:Nat×Nat}(d:Array Value)(hb:w.heap[g]? =some (.cells cur e fr)):
 (grow (putRow id (Sort.ahead w n) g 0 d) os).heap[g]? =some (.cells (putCells id 0 d cur) e fr):=by
 have hg:g<w.heap.size:=(Array.getElem?_eq_some_iff.1 hb).1
 rw[heap_grow_old _ _ (by simpa using hg)]
 simp[putRow,mapBlock,Sort.ahead,Array.getElem?_modify,hb,onCells]
theorem grownBy_sortedV {w:World}{g n:Nat}{os:Array Obj}(d:Array Value):w.grownBy (grow (putRow id (Sort.ahead w n) g 0 d) os) (some g):=by
 refine⟨rfl,rfl,rfl,by simp,λk hk hne=> ?_⟩
 rw[heap_grow_old _ _ (by simpa using hk)]
 have:g≠k:=λe=>hne (by rw[e])
 simp[putRow,mapBlock,Sort.ahead,Array.getElem?_modify,this]
theorem holdsS {w:World}{S:Cells}{g cap:Nat}{cur:Array Value}{e:TypeId}{l:List region_Span}(hb:w.heap[g]? =some (.cells cur e (0,0)))
 (h:∀(i:Nat)(x:region_Span),l[i]? =some x->∀(j:Nat)(c:D),(enc (.st .region_Span) x)[j]? =some c->∃u:Value,cur[i * 2+j]? =some u/\u.oneCell'=true/\Rd S w c u):
 HoldsK encS 2 w g 0 l.toArray:=by
 intro t ht
 have ht:t<l.length * 2:=by simpa using ht
 have hi:t/2<l.length:=by omega
 refine⟨?_,by simp[World.frozen?,hb]⟩
 have hx:=List.getElem?_eq_getElem hi
 have key:∀j,j<2->t % 2=j->cur[t]? =some (encS l[t/2])[j]! :=by
  intro j hj htj
  have ht2:t/2 * 2+j=t:=by omega
  match j,hj with
  |0,_=>
   obtain⟨u,h1,_,h3⟩:=h (t/2) l[t/2] hx 0 _ rfl
   have h3:Rd S w (.v (.int .i64 l[t/2].1)) u:=h3
   rw[ht2] at h1
   rw[h1,rd_v h3];rfl
  |1,_=>
   obtain⟨u,h1,_,h3⟩:=h (t/2) l[t/2] hx 1 _ rfl
   have h3:Rd S w (.v (.int .i64 l[t/2].2)) u:=h3
   rw[ht2] at h1
   rw[h1,rd_v h3];rfl
 have hk:=key (t % 2) (Nat.mod_lt _ (by omega)) rfl
 show w.cell? ⟨g,0+t,none⟩=some (flatK encS 2 l.toArray)[t]!
 rw[get_flatK _ _ _ t (by simpa using ht)]
 have e1:(l.toArray)[t/2]! =l[t/2]:=by simp[hi]
 rw[e1,Nat.zero_add]
 rw[<-hk]
 simp[World.cell?,hb]
def psort_sp:Spec3:=⟨201,.st .region_Span,some 202,λ(l:List region_Span) post=>(l.length<=1000000)/\∀l2,l2.Perm l->l2.Pairwise (λs t=>s.1<=t.1)->post l2⟩
theorem psort_row (l:List region_Span)(post:List region_Span->Prop)(hp:(l.length<=1000000)/\∀l2,l2.Perm l->l2.Pairwise (λs t=>s.1<=t.1)->post l2)(w:World)(S:Cells)(v:Value)(F:Nat->Prop)(e:TypeId)(hrow:RowAt w S v F e (.st .region_Span) l):
 Calls Tryz.prog 201 #[v,.func (.func 202) #[] #[]] w λe' w'=>∃r,∃l':List region_Span,e'= .returned r/\post l'/\RowAt w' S v F e (.st .region_Span) l'/\w'.os=w.os/\w'.tape=w.tape/\w'.output=w.output/\w.heap.size<=w'.heap.size/\∀b,b<w.heap.size->¬F b->w'.heap[b]? =w.heap[b]? :=by
 obtain⟨hlen,hp⟩:=hp
 obtain⟨h0,⟨rfl,⟨ad,rfl⟩,hn⟩|⟨g,cap,cur,rfl,hFg,hg,hnl,hcm,hcs,hrr⟩⟩:=hrow
 ·refine (AnyF.slices_SortFunc_none Tryz.sortSp ad 0 _ w).mono ?_
  rintro e' w' ⟨rfl,rfl⟩
  exact⟨_,[],rfl,hp [] (List.Perm.refl _) List.Pairwise.nil,⟨h0,.inl ⟨rfl,⟨ad,rfl⟩,hn⟩⟩,rfl,rfl,rfl,Nat.le_refl _,λ_ _ _=>rfl⟩
 ·have hgl:=(Array.getElem?_eq_some_iff.1 hg).1
  have hnl:List.length (l:List region_Span)<=cap:=hnl
  have eg:∀args w,(callFunc 202 args).run Tryz.prog w= .ok (.enter 202 args) w:=enters_of Tryz.func202 (by kernel_rfl) rfl
  refine (AnyQ.slices_SortFunc Tryz.sortSp 2 Tryz.isAgg232 Tryz.sizeOf232 encS (λ_=>rfl) (λx v hv=>by simp[encS] at hv;rcases hv with rfl|rfl<;>rfl) cfS swoS 202 #[] g 0 cap l.toArray w eg (cmpLays158 g 0 _ w) (holdsS (cap:=cap) hg hrr) hgl (by simp;omega)).mono ?_
  rintro e' w' ⟨rfl,d,n,os,⟨q1,q2,q3⟩,q4,rfl⟩
  have hdl:d.size=l.length:=by rw[q1];simp
  have hdt:List.length (d.toList:List region_Span)=l.length:=by rw[Array.length_toList];exact hdl
  have hG:=grownBy_sortedV (w:=w) (n:=n) (g:=g) (os:=os) (flatK encS 2 d)
  have hH:=heap_sortedV (n:=n) (os:=os) (flatK encS 2 d) hg
  refine⟨_,d.toList,rfl,hp _ ?_ ?_,⟨h0,.inr ⟨g,cap,_,?_,hFg,hH,Nat.le_trans (Nat.le_of_eq hdt) hnl,hcm,by simp[putCells,hcs],λi (x:region_Span) hx j c hc=> ?_⟩⟩,hG.os,hG.tape,hG.output,hG.size,λb hb hnF=>hG.block b hb λe=>hnF ((hFg b).2 (Option.some.inj e))⟩
  ·have e1:d.extract 0 l.toArray.size=d:=by rw[<-q1];simp
   have e2:l.toArray.extract 0 l.toArray.size=l.toArray:=by simp
   rw[e1,e2] at q3
   simpa using q3
  ·rw[List.pairwise_iff_getElem]
   intro i j hi hj hij
   have hi':i<d.size:=by simpa using hi
   have hj':j<d.size:=by simpa using hj
   have:=q4 i j (Nat.zero_le _) hij (by rw[<-q1];exact hj')
   rw[ltS,getElem!_pos d i hi',getElem!_pos d j hj'] at this
   have:=of_decide_eq_false this
   simp only[Array.getElem_toList]
   omega
  ·show Value.slice (some ⟨g,0,none⟩) l.length cap=Value.slice (some ⟨g,0,none⟩) (List.length (d.toList:List region_Span)) cap
   rw[hdt]
  ·have hx:(d.toList:List region_Span)[i]? =some x:=hx
   rw[Array.getElem?_toList] at hx
   have hi:i<d.size:=(Array.getElem?_eq_some_iff.1 hx).1
   have hxe:d[i]! =x:=by
    rw[getElem!_pos d i hi]
    exact (Array.getElem?_eq_some_iff.1 hx).2
   have hcs:cur.size=cap * 2:=hcs
   have key:∀k,k<2->(putCells id 0 (flatK encS 2 d) cur)[i * 2+k]? =some (encS x)[k]! :=by
    intro k hk
    have h1:i * 2+k<cur.size:=by omega
    have h2:i * 2+k<d.size * 2:=by omega
    simp only[putCells,Array.getElem?_mapIdx,Array.getElem?_eq_getElem h1,Option.map_some,Nat.zero_le,true_and,Nat.zero_add,size_flatK,if_pos h2,Nat.sub_zero,id]
    rw[get_flatK _ _ _ _ h2,show (i * 2+k)/2=i by omega,show (i * 2+k) % 2=k by omega,hxe]
   match j,hc with
   |0,hc=>
    have hc:some (D.v (.int .i64 x.1))=some c:=hc
    injection hc with hc
    subst hc
    exact⟨_,key 0 (by omega),rfl,.v _⟩
   |1,hc=>
    have hc:some (D.v (.int .i64 x.2))=some c:=hc
    injection hc with hc
    subst hc
    exact⟨_,key 1 (by omega),rfl,.v _⟩
   |j+2,hc=>cases (show (none:Option D)=some c from hc)
theorem psort_ok:Spec3OK Tryz.prog psort_sp:=λl post hp w S v F e hrow _ _=>psort_row l post hp w S v F e hrow
def pcuts_P (ls:List (List (api_Rect)))(post:List (Int)->Prop):Prop:=(ls.flatten.length<=10000/\ls.length<=10)/\post (cutsS ls.flatten)
def pcuts_sp:Spec:=⟨161,false,true,[.sl (.sl (.st .api_Rect))],.dat (.sl (.int .i64)),λx post=>pcuts_P (x.1:List (List (api_Rect))) (λy0=>post (y0,()))⟩
def pcuts_C:CtxR:=⟨tau,[rule3 ssort_sp,rule2 scompact_sp],lookJ [(0,7,⟨[(10,.dat (.int .i64)),(3,.own 3 (.int .i64))],[],(List.range' 11 18++[5,7]),[],[]⟩),(0,13,⟨[(16,.dat (.int .i64)),(3,.own 3 (.int .i64))],[],(List.range' 17 11++[7]),[0],[]⟩)]⟩
def pcuts_W (ls:List (List (api_Rect)))(post:List (Int)->Prop):Prop:=(↑ls.length:Int)<=9223372036854775807->LOOP [Ty.int IntKind.i64,(Ty.int IntKind.i64).sl] (λ(rec1:Int->List Int->Prop) (z2:Int) (z3:List Int)=>IFB (decide (z2<(↑ls.length:Int))) (((0:Int)<=z2/\z2<(↑ls.length:Int))/\((↑(ix ls z2).length:Int)<=9223372036854775807->LOOP [Ty.int IntKind.i64,(Ty.int IntKind.i64).sl] (λ(rec4:Int->List Int->Prop) (z5:Int) (z6:List Int)=>IFB (decide (z5<(↑(ix ls z2).length:Int))) (((0:Int)<=z5/\z5<(↑(ix ls z2).length:Int))/\(z6.length+[(ix (ix ls z2) z5).2,(ix (ix ls z2) z5).4].length) * (8:Nat)<=140737488355328/\rec4 (IntKind.i64.wrap (z5+1)) (z6++[(ix (ix ls z2) z5).2,(ix (ix ls z2) z5).4])) (rec1 (IntKind.i64.wrap (z2+1)) z6)) ((0:Int),z3,PUnit.unit))) (z3.length<=1000000/\(sortI z3).length<=1000000/\post (compI (sortI z3)))) ((0:Int),[],PUnit.unit)
theorem pcuts_w (ls:List (List (api_Rect)))(post:dens (shT pcuts_sp.rs [])->Prop):pcuts_W ls (λy0=>post (y0,()))=walkG (callR Tryz.prog pcuts_C (drawR Tryz.prog tau) 8 0) 161 false [tv (.sl (.sl (.st .api_Rect))) ls] pcuts_sp.rs post:=by kernel_rfl
theorem pcuts_of (h:∀ls post,pcuts_P ls post->pcuts_W ls post):SpecOK Tryz.prog pcuts_sp:=SpecOK.of_rules (C:=pcuts_C) (dr:=drawR Tryz.prog tau) (n:=8) (fk:=0) (.cons (rule3_ok ssort_ok) (.cons (rule2_ok scompact_ok) .nil)) (drawR_ok tau) λx post hp=>HoldW.of (pcuts_w x.1 post) (h x.1 (λy0=>post (y0,())) hp)
def cutL (l:List Rc):List Int:=l.flatMap λr=>[r.Low,r.High]
theorem cutL_cons {r:Rc}{l:List Rc}:cutL (r::l)=r.Low::r.High::cutL l:=rfl
theorem cutL_app {a b:List Rc}:cutL (a++b)=cutL a++cutL b:=by unfold cutL;simp
theorem cutL_len {l:List Rc}:(cutL l).length=2 * l.length:=by
 induction l with
 |nil=>rfl
 |cons r l ih=>rw[cutL_cons];simp only[List.length_cons,ih];omega
theorem cutL_mem {l:List Rc}{x:Int}:x∈cutL l↔∃r∈l,x=r.Low\/x=r.High:=by unfold cutL;simp
theorem cuts_uniq (l:List Rc):uniqI (cutL l)=cutsS l:=uniqI_eq cutsS_ok.1 λx=>by rw[cutsS_ok.2,cutL_mem]
theorem cuts_in {l:List Rc}{A:List Int}{K:List Int->Prop}(hl:A.length+2 * l.length<=100000)(hK:K (A++cutL l)):
 LOOP [Ty.int IntKind.i64,(Ty.int IntKind.i64).sl] (λ(rec4:Int->List Int->Prop) (z5:Int) (z6:List Int)=>IFB (decide (z5<(↑l.length:Int))) (((0:Int)<=z5/\z5<(↑l.length:Int))/\(z6.length+[(ix l z5).2,(ix l z5).4].length) * 8<=140737488355328/\rec4 (IntKind.i64.wrap (z5+(1:Int))) (z6++[(ix l z5).2,(ix l z5).4])) (K z6)) ((0:Int),A,PUnit.unit):=by
 refine LOOP.list l (λk (s:List Int)=>((k:Int),s,())) (λu=>Int.toNat u.1) (λk r (s:List Int)=>s++cutL r=A++cutL l/\s.length=A.length+2 * k) A rfl ⟨rfl,by omega⟩ (λk s h=>by simp) ?_ ?_
 ·intro rec k x r s hd hk hkl ⟨g1,g2⟩ hrec
  have hx:=ix_of hk
  show IFB _ _ _
  refine IFB.mk (λ_=>⟨by show 0<=(k:Int)/\(k:Int)<l.length;omega,?_⟩) (λh=>absurd (of_decide_eq_false h) (by show ¬¬((k:Int)<l.length);omega))
  dsimp only
  rw[hx]
  refine⟨by simp only[List.length_cons,List.length_nil];omega,?_⟩
  rw[wrapS (by omega)]
  refine hrec _ ⟨?_,?_⟩
  ·rw[<-g1,cutL_cons];simp
  ·simp only[List.length_append,List.length_cons,List.length_nil];omega
 ·intro rec s ⟨g1,g2⟩
  show IFB _ _ _
  refine IFB.mk (λh=>absurd (of_decide_eq_true h) (by show ¬((l.length:Int)<l.length);omega)) (λ_=> ?_)
  have g1:s=A++cutL l:=by simpa [cutL] using g1
  show K s
  rw[g1];exact hK
theorem pcuts_ok:SpecOK Tryz.prog pcuts_sp:=pcuts_of λls post hp=>by
 obtain⟨⟨h1,h2⟩,hp⟩:=hp
 unfold pcuts_W
 intro _
 refine LOOP.list ls (λk (s:List Int)=>((k:Int),s,())) (λu=>Int.toNat u.1) (λk r (s:List Int)=>s++cutL r.flatten=cutL ls.flatten) [] rfl rfl (λk s h=>by simp) ?_ ?_
 ·intro rec k x r s hd hk hkl g1 hrec
  have hx:=ix_of hk
  have hlen:s.length+(2 * x.length+2 * r.flatten.length)<=20000:=by
   have:=congrArg List.length g1
   rw[List.length_append,cutL_len,cutL_len,List.flatten_cons,List.length_append] at this
   omega
  show IFB _ _ _
  refine IFB.mk (λ_=>⟨by show 0<=(k:Int)/\(k:Int)<ls.length;omega,?_⟩) (λh=>absurd (of_decide_eq_false h) (by show ¬¬((k:Int)<ls.length);omega))
  dsimp only
  rw[hx]
  intro _
  refine cuts_in (l:=x) (A:=s) (K:=λz6=>rec (IntKind.i64.wrap ((k:Int)+1)) z6) (by omega) ?_
  rw[wrapS (by omega)]
  refine hrec _ ?_
  rw[<-g1,List.flatten_cons,cutL_app,List.append_assoc]
 ·intro rec s g1
  show IFB _ _ _
  refine IFB.mk (λh=>absurd (of_decide_eq_true h) (by show ¬((ls.length:Int)<ls.length);omega)) (λ_=> ?_)
  have g1:s=cutL ls.flatten:=by simpa [cutL] using g1
  have hlen:s.length<=20000:=by rw[g1,cutL_len];omega
  have hsl:(sortI s).length=s.length:=by unfold sortI;simp
  dsimp only
  refine⟨by omega,by omega,?_⟩
  rw[<-cuts_uniq,<-g1] at hp
  exact hp
def prow_P (l:List (api_Rect))(y:Int)(post:List (region_Span)->Prop):Prop:=((∀r∈l,r.Left<r.Right)/\l.length<=10000)/\post (rowS l y)
def prow_sp:Spec:=⟨164,false,true,[.sl (.st .api_Rect),.int .i64],.dat (.sl (.st .region_Span)),λx post=>prow_P (x.1:List (api_Rect)) (x.2.1:Int) (λy0=>post (y0,()))⟩
def prow_C:CtxR:=⟨tau,[rule3 psort_sp],lookJ [(0,23,⟨[(41,.dat (.int .i64)),(8,.own 232 (.st .region_Span))],[],(List.range' 42 37++[10,11]),[],[]⟩),(0,34,⟨[(8,.own 232 (.st .region_Span))],[],(List.range' 43 35++[10,11]),[1],[]⟩),(0,7,⟨[(14,.dat (.int .i64)),(5,.own 232 (.st .region_Span))],[],(List.range' 15 22++[7]),[],[]⟩),(0,14,⟨[(5,.own 232 (.st .region_Span))],[],(List.range' 16 20++[7]),[0],[]⟩)]⟩
def prow_W (l:List (api_Rect))(y:Int)(post:List (region_Span)->Prop):Prop:=(↑l.length:Int)<=9223372036854775807->LOOP [Ty.int IntKind.i64,(Ty.st Sn.region_Span).sl] (λ(rec1:Int->List region_Span->Prop) (z2:Int) (z3:List region_Span)=>IFB (decide (z2<(↑l.length:Int))) (JOIN [(Ty.st Sn.region_Span).sl] (λ(y4:List region_Span)=>rec1 (IntKind.i64.wrap (z2+1)) y4) λ(J5:List region_Span->Prop)=>((0:Int)<=z2/\z2<(↑l.length:Int))/\IFB (decide ((ix l z2).2<=y)&&decide (y<(ix l z2).4)) ((z3.length+[(⟨(ix l z2).1,(ix l z2).3⟩:region_Span)].length) * (16:Nat)<=140737488355328/\J5 (z3++[(⟨(ix l z2).1,(ix l z2).3⟩:region_Span)])) (J5 z3)) (z3.length<=1000000/\∀(v6:List region_Span),v6.Perm z3->List.Pairwise (λ(s t:region_Span)=>s.1<=t.1) v6->(↑v6.length:Int)<=9223372036854775807->LOOP [Ty.int IntKind.i64,(Ty.st Sn.region_Span).sl] (λ(rec7:Int->List region_Span->Prop) (z8:Int) (z9:List region_Span)=>IFB (decide (z8<(↑v6.length:Int))) (JOIN [(Ty.st Sn.region_Span).sl] (λ(y10:List region_Span)=>rec7 (IntKind.i64.wrap (z8+1)) y10) λ(J11:List region_Span->Prop)=>((0:Int)<=z8/\z8<(↑v6.length:Int))/\((↑z9.length:Int)<=9223372036854775807->(gx true (decide ((0:Int)<(↑z9.length:Int)))=true->0<=IntKind.i64.wrap ((↑z9.length:Int)-1)/\IntKind.i64.wrap ((↑z9.length:Int)-1)<(↑z9.length:Int))/\IFB (decide ((0:Int)<(↑z9.length:Int))&&decide ((ix v6 z8).1<=(ix z9 (IntKind.i64.wrap ((↑z9.length:Int)-1))).2)) (((0:Int)<=IntKind.i64.wrap ((↑z9.length:Int)-1)/\IntKind.i64.wrap ((↑z9.length:Int)-1)<(↑z9.length:Int))/\((0:Int)<=IntKind.i64.wrap ((↑z9.length:Int)-1)/\IntKind.i64.wrap ((↑z9.length:Int)-1)<(↑z9.length:Int))/\J11 (z9.set (IntKind.i64.wrap ((↑z9.length:Int)-1)).toNat (⟨(ix z9 (IntKind.i64.wrap ((↑z9.length:Int)-1))).1,Max.max (ix z9 (IntKind.i64.wrap ((↑z9.length:Int)-1))).2 (ix v6 z8).2⟩:region_Span))) ((z9.length+[{Left:=(ix v6 z8).1,Right:=(ix v6 z8).2:region_Span}].length) * (16:Nat)<=140737488355328/\J11 (z9++[{Left:=(ix v6 z8).1,Right:=(ix v6 z8).2:region_Span}])))) (post z9)) ((0:Int),[],PUnit.unit))) ((0:Int),[],PUnit.unit)
theorem prow_w (l:List (api_Rect))(y:Int)(post:dens (shT prow_sp.rs [])->Prop):prow_W l y (λy0=>post (y0,()))=walkG (callR Tryz.prog prow_C (drawR Tryz.prog tau) 10 0) 164 false [tv (.sl (.st .api_Rect)) l,tv (.int .i64) y] prow_sp.rs post:=by kernel_rfl
theorem prow_of (h:∀l y post,prow_P l y post->prow_W l y post):SpecOK Tryz.prog prow_sp:=SpecOK.of_rules (C:=prow_C) (dr:=drawR Tryz.prog tau) (n:=10) (fk:=0) (.cons (rule3_ok psort_ok) .nil) (drawR_ok tau) λx post hp=>HoldW.of (prow_w x.1 x.2.1 post) (h x.1 x.2.1 (λy0=>post (y0,())) hp)
theorem onRow_cons {y:Int}{r:Rc}{l:List Rc}:onRow y (r::l)=if (decide (r.Low<=y)&&decide (y<r.High))=true then r::onRow y l else onRow y l:=by
 unfold onRow
 rw[List.filter_cons]
theorem prow_ok:SpecOK Tryz.prog prow_sp:=prow_of λl y post hp=>by
 obtain⟨⟨h1,h2⟩,hp⟩:=hp
 unfold prow_W
 intro _
 refine LOOP.list l (λk (s:List Sp)=>((k:Int),s,())) (λu=>Int.toNat u.1) (λk r (s:List Sp)=>s++(onRow y r).map spanOf=(onRow y l).map spanOf/\s.length<=k) [] rfl ⟨rfl,Nat.le_refl _⟩ (λk s h=>by simp) ?_ ?_
 ·intro rec k x r s hd hk hkl ⟨g1,g2⟩ hrec
  have hx:=ix_of hk
  show IFB _ _ _
  refine IFB.mk (λ_=> ?_) (λh=>absurd (of_decide_eq_false h) (by show ¬¬((k:Int)<l.length);omega))
  refine JOIN.opq λ(J:List Sp->Prop) hJ=> ?_
  dsimp only
  rw[hx]
  refine⟨by omega,IFB.mk (λhb=> ?_) (λhb=> ?_)⟩
  ·refine⟨by simp only[List.length_cons,List.length_nil];omega,?_⟩
   rw[hJ]
   show rec (IntKind.i64.wrap ((k:Int)+1)) _
   rw[wrapS (by omega)]
   refine hrec _ ⟨?_,by simp only[List.length_append,List.length_cons,List.length_nil];omega⟩
   rw[<-g1,onRow_cons,if_pos hb]
   simp[spanOf]
  ·rw[hJ]
   show rec (IntKind.i64.wrap ((k:Int)+1)) _
   rw[wrapS (by omega)]
   refine hrec _ ⟨?_,by omega⟩
   rw[<-g1,onRow_cons,if_neg (by rw[hb];simp)]
 ·intro rec s ⟨g1,g2⟩
  show IFB _ _ _
  refine IFB.mk (λh=>absurd (of_decide_eq_true h) (by show ¬((l.length:Int)<l.length);omega)) (λ_=> ?_)
  have g1:s=(onRow y l).map spanOf:=by simpa [onRow] using g1
  have hsl:s.length<=10000:=by omega
  refine⟨by show s.length<=1000000;omega,λv hperm hsort _=> ?_⟩
  have hvl:v.length=s.length:=hperm.length_eq
  rw[<-rowS_sorted h1 (g1 ▸ hperm) hsort] at hp
  refine LOOP.list v (λk (s:List Sp)=>((k:Int),s,())) (λu=>Int.toNat u.1) (λk r (s:List Sp)=>rowG s r=rowG [] v/\s.length<=k) [] rfl ⟨rfl,Nat.le_refl _⟩ (λk s h=>by simp) ?_ ?_
  ·intro rec k x r out hd hk hkl ⟨q1,q2⟩ hrec
   have hx:=ix_of hk
   show IFB _ _ _
   refine IFB.mk (λ_=> ?_) (λh=>absurd (of_decide_eq_false h) (by show ¬¬((k:Int)<v.length);omega))
   refine JOIN.opq λ(J:List Sp->Prop) hJ=> ?_
   dsimp only
   rw[hx]
   have hgo:(joinSp out x).length<=k+1->J (joinSp out x):=λhle=>by
    rw[hJ]
    show rec (IntKind.i64.wrap ((k:Int)+1)) _
    rw[wrapS (by omega)]
    exact hrec _ ⟨q1,hle⟩
   refine⟨by omega,λ_=> ?_⟩
   rcases List.eq_nil_or_concat out with rfl|⟨A,q,rfl⟩
   ·have hj:joinSp [] x=[x]:=rfl
    rw[hj] at hgo
    refine⟨λh=> ?_,IFB.mk (λhb=> ?_) (λhb=>⟨by simp,hgo (by simp)⟩)⟩
    ·cases h
    ·cases hb
   ·rw[List.concat_eq_append] at *
    have w1:IntKind.i64.wrap (((A++[q]).length:Int)-1)=A.length:=by
     simp only[List.length_append,List.length_cons,List.length_nil]
     rw[wrap_in (by omega) (by simp only[List.length_append,List.length_cons,List.length_nil] at q2;omega)]
     omega
    have hq:ix (A++[q]) (A.length:Int)=q:=ix_app rfl
    have hset:∀z,(A++[q]).set (A.length:Int).toNat z=A++[z]:=λz=>set_app (by simp)
    rw[w1,hq,hset]
    have hAl:(A++[q]).length=A.length+1:=by simp
    have hj:joinSp (A++[q]) x=if x.Left<=q.Right then A++[⟨q.Left,max q.Right x.Right⟩] else A++[q]++[x]:=by
     unfold joinSp
     simp
    rw[hj] at hgo
    refine⟨λ_=>by omega,IFB.mk (λhb=>⟨by omega,by omega,?_⟩) (λhb=>⟨by simp only[List.length_append,List.length_cons,List.length_nil] at *;omega,?_⟩)⟩
    ·rw[Bool.and_eq_true] at hb
     have hb2:x.Left<=q.Right:=of_decide_eq_true hb.2
     rw[if_pos hb2] at hgo
     exact hgo (by simp only[List.length_append,List.length_cons,List.length_nil] at *;omega)
    ·have hb2:¬x.Left<=q.Right:=by
      intro h
      rw[Bool.and_eq_false_iff] at hb
      rcases hb with hb|hb
      ·have:=of_decide_eq_false hb;omega
      ·exact of_decide_eq_false hb h
     rw[if_neg hb2] at hgo
     exact hgo (by simp only[List.length_append,List.length_cons,List.length_nil] at *;omega)
  ·intro rec out ⟨q1,q2⟩
   show IFB _ _ _
   refine IFB.mk (λh=>absurd (of_decide_eq_true h) (by show ¬((v.length:Int)<v.length);omega)) (λ_=> ?_)
   have q1:out=rowG [] v:=q1
   show post out
   rw[q1];exact hp
open Go.Shelf
def growCp (ss:List SV)(m:MS)(k:SV->MS->Prop):Prop:=match ss with
 |[.d (.v (.slice none 0 0)),.d (.v (.int .i64 n))]=>(0<=n/\n<=1000000)/\k (.os m.nx) ⟨(m.nx,some (.row 232 (.st .region_Span) []))::m.ob,m.nx+1,m.tp⟩
 |_=>False
def pgrow_rule:Rule:=⟨227,growCp⟩
noncomputable def info187:TypeInfo:=(Tryz.prog.info? 232).get!
noncomputable def zero187:Value:=info187.zero.get!
theorem info187_eq:Tryz.prog.info? 232=some info187:=by kernel_rfl
theorem zero187_eq:info187.zero=some zero187:=by kernel_rfl
theorem size187:info187.size=2:=by kernel_rfl
theorem bytes187:info187.bytes=16:=by kernel_rfl
theorem cells187:zero187.cells.size=2:=by kernel_rfl
theorem newRow {m:MS}{w w':World}{c:Cx}(hox:OXM m w c){v:Value}{F:Nat->Prop}{e:TypeId}{t:Ty}{l:List (den t)}(h1:w'.os=w.os)(h2:w'.tape=w.tape)(h3:w'.output=w.output)(h4:w.heap.size<=w'.heap.size)(h5:∀b,b<w.heap.size->w'.heap[b]? =w.heap[b]?)
 (hF:∀b,F b->w.heap.size<=b/\b<w'.heap.size) (hr:RowAt w' c.S v F e t l):
 ∃c',OXM ⟨(m.nx,some (.row e t l))::m.ob,m.nx+1,m.tp⟩ w' c'/\TrM m w c ⟨(m.nx,some (.row e t l))::m.ob,m.nx+1,m.tp⟩ w' c'/\c'.H m.nx=v:=by
 have ho:(MS.obs ⟨(m.nx,some (.row e t l))::m.ob,m.nx+1,m.tp⟩)=put m.obs m.nx (some (.row e t l)):=lookO_cons _ _ _
 have hU:∀i,m.U i->i≠m.nx:=λi hi e=>by have:i<m.nx:=hi;omega
 obtain⟨k1,k2⟩:=OX.upd (ob':=put m.obs m.nx (some (.row e t l))) (U':=λi=>i<m.nx+1) (w':=w') (c':=⟨c.S,put c.H m.nx v,put c.F m.nx F,c.T⟩) hox m.nx (.row e t l) (λi=>i≠m.nx)
  (λi hi=>Nat.lt_succ_of_lt hi) (Nat.lt_succ_self _) (put_same _ _ _) (λi y hi e=>⟨e,by rw[put_ne _ _ e] at hi;exact hi⟩) (λe=>e rfl) (λi hi=>⟨put_ne _ _ (hU i hi),put_ne _ _ (hU i hi)⟩) (λ_ _ h=>h) (λ_ _ h=> .inl h) (λb o hb=>Nat.lt_of_lt_of_le (hox.sb b o hb) h4)
  rfl h1 h2 h3 h4 (λb hb _=>h5 b hb) (by
   show RowAt w' c.S (put c.H m.nx v m.nx) (put c.F m.nx F m.nx) e t l
   rw[put_same,put_same];exact hr) trivial (λ_ b hb=> .inr (hF b (by
    have hb:put c.F m.nx F m.nx b:=hb
    rw[put_same] at hb;exact hb)).1) (λ_ b hb=>by
    have hb:put c.F m.nx F m.nx b:=hb
    rw[put_same] at hb
    obtain⟨q1,q2⟩:=hF b hb
    exact⟨q2,λo hs=>by have:=hox.sb b o hs;omega⟩)
 refine⟨⟨c.S,put c.H m.nx v,put c.F m.nx F,c.T⟩,?_,?_,put_same _ _ _⟩
 ·show OX _ _ _ _ _
  rw[ho];exact k1
 ·show Tr _ _ _ _ _ _ _ _
  rw[ho];exact k2
theorem growRun (n:Nat)(hn:n<=1000000)(w:World)(S:Cells):Calls Tryz.prog 227 #[.slice none 0 0,.int .i64 n] w λe w'=>∃v F,e= .returned v/\w'.os=w.os/\w'.tape=w.tape/\w'.output=w.output/\w.heap.size<=w'.heap.size/\(∀b,b<w.heap.size->w'.heap[b]? =w.heap[b]?)/\(∀b,F b->w.heap.size<=b/\b<w'.heap.size)/\RowAt w' S v F 232 (.st .region_Span) []:=by
 by_cases h0:n=0
 ·subst h0
  refine (Any8.slices_Grow_room Tryz.growSp none 0 0 0 w (by omega) (by omega) (by omega) (by omega)).mono ?_
  rintro e w' ⟨rfl,rfl⟩
  exact⟨_,λ_=>False,rfl,rfl,rfl,rfl,Nat.le_refl _,λ_ _=>rfl,λb h=>h.elim,by decide,.inl ⟨rfl,⟨none,rfl⟩,λb h=>h⟩⟩
 ·refine (Any8.slices_Grow_grow Tryz.growSp info187 zero187 info187_eq zero187_eq (by rw[size187];omega) none 0 0 n [] w (by omega) (by omega) ?_ (by omega) rfl (λ_=>rfl) (λa h=>by cases h)).mono ?_
  ·rw[bytes187]
   omega
  rintro e w' ⟨rfl,rfl⟩
  have hge:=grownCap_ge w (0+n) 0 232
  refine⟨_,λb=>b=w.heap.size,rfl,rfl,rfl,rfl,by simp,λb hb=>heap_alloc_old w.drew _ hb,λb h=>⟨by omega,by simp[h]⟩,by decide,.inr ⟨w.heap.size,_,_,rfl,λb=>Iff.rfl,heap_alloc_new w.drew _,Nat.zero_le _,grownCap_le_maxLen w (0+n) 0 232 (by simp only[maxLen];omega),?_,λi x hx=>by simp at hx⟩⟩
  show _=_ * 2
  simp only[Array.size_append,List.size_toArray,List.length_nil,size_zeroCells,cells187,Nat.zero_add,show Tryz.growSp_ren.t 25=232 from rfl] at hge ⊢
  omega
theorem pgrow_rule_ok:RuleOK Tryz.prog pgrow_rule:=by
 intro ss m k hk us w c hox hl hr
 have hk2:growCp ss m k:=hk
 clear hk
 unfold growCp at hk2
 split at hk2
 ·rename_i n
  obtain⟨⟨p1,p2⟩,hk2⟩:=hk2
  match us,hl with
  |[a,b],_=>
  have ha:a= .slice none 0 0:=srel_v (hr 0 _ a rfl rfl).1
  have hb:b= .int .i64 n:=srel_v (hr 1 _ b rfl rfl).1
  subst ha hb
  obtain⟨q,rfl⟩:∃q:Nat,n=q:=⟨n.toNat,by omega⟩
  refine (growRun q (by omega) w c.S).mono ?_
  rintro e w' ⟨v,F,rfl,g1,g2,g3,g4,g5,g6,g7⟩
  obtain⟨c',k1,k2,k3⟩:=newRow hox g1 g2 g3 g4 g5 g6 g7
  exact⟨v,_,_,c',rfl,hk2,⟨⟨[(m.nx,some (.row 232 (.st .region_Span) []))],rfl⟩,id⟩,k1,k2,by rw[<-k3];exact .os _,Nat.lt_succ_self _⟩
 ·exact hk2.elim
def pins_P (l:List (region_Span))(x:Int)(post:Bool->Prop):Prop:=(l.length<=1000000)/\post (insS l x)
def pins_sp:Spec:=⟨200,false,false,[.sl (.st .region_Span),.int .i64],.dat (.bool),λx post=>pins_P (x.1:List (region_Span)) (x.2.1:Int) (λy0=>post (y0,()))⟩
def pins_C:CtxR:=⟨tau,[],lookJ [(1067460608,0,⟨[(0,.dat (.int .i64))],[],[],[],[]⟩),(1067460608,5,⟨[(8,.dat (.int .i64))],[],(List.range' 9 8++[5,18]),[],[]⟩)]⟩
def pins_W (l:List (region_Span))(x:Int)(post:Bool->Prop):Prop:=JOIN [Ty.int IntKind.i64] (λ(y1:Int)=>post (decide ((0:Int)<=y1))) λ(J2:Int->Prop)=>(↑l.length:Int)<=9223372036854775807->LOOP [Ty.int IntKind.i64] (λ(rec3:Int->Prop) (z4:Int)=>IFB (decide (z4<(↑l.length:Int))) (((0:Int)<=z4/\z4<(↑l.length:Int))/\IFB (decide ((ix l z4).1<=x)&&decide (x<(ix l z4).2)) (J2 z4) (rec3 (IntKind.i64.wrap (z4+1)))) (J2 (-1:Int))) ((0:Int),PUnit.unit)
theorem pins_w (l:List (region_Span))(x:Int)(post:dens (shT pins_sp.rs [])->Prop):pins_W l x (λy0=>post (y0,()))=walkG (callR Tryz.prog pins_C (drawR Tryz.prog tau) 8 0) 200 false [tv (.sl (.st .region_Span)) l,tv (.int .i64) x] pins_sp.rs post:=by kernel_rfl
theorem pins_of (h:∀l x post,pins_P l x post->pins_W l x post):SpecOK Tryz.prog pins_sp:=SpecOK.of_rules (C:=pins_C) (dr:=drawR Tryz.prog tau) (n:=8) (fk:=0) .nil (drawR_ok tau) λx post hp=>HoldW.of (pins_w x.1 x.2.1 post) (h x.1 x.2.1 (λy0=>post (y0,())) hp)
theorem pins_ok:SpecOK Tryz.prog pins_sp:=pins_of λl x post hp=>by
 obtain⟨hl,hp⟩:=hp
 unfold pins_W
 refine JOIN.opq λ(J:Int->Prop) hJ=> ?_
 intro _
 have hJ:∀z,post (decide (0<=z))->J z:=λz h=>by rw[hJ];exact h
 refine loopCmp (n:=l.length) (by omega) (p:=λj=>(decide ((ix l (j:Int)).1<=x)&&decide (x<(ix l (j:Int)).2))=false) (λrec k hk hpre hrec=>⟨by omega,IFB.mk (λhb=>hJ _ ?_) (λhb=>hrec hb)⟩) λhall=>hJ _ ?_
 ·have:insS l x=true:=by
   unfold insS
   rw[List.any_eq_true]
   exact⟨_,ix_mem (l:=l) (i:=(k:Int)) (by omega) (by omega),hb⟩
  rw[this] at hp
  rw[decide_eq_true (by omega)]
  exact hp
 ·have:insS l x=false:=by
   unfold insS
   rw[List.any_eq_false]
   intro r hr
   obtain⟨j,hj,rfl⟩:=List.getElem_of_mem hr
   have:=hall j hj
   rw[ix_lt hj] at this
   simpa using this
  rw[this] at hp
  rw[decide_eq_false (by omega)]
  exact hp
def pconc_P (ls:List (List (region_Span)))(post:List (region_Span)->Prop):Prop:=(ls.flatten.length<=100000/\ls.length<=10)/\post (ls.flatten)
def pconc_sp:Spec:=⟨199,false,true,[.sl (.sl (.st .region_Span))],.dat (.sl (.st .region_Span)),λx post=>pconc_P (x.1:List (List (region_Span))) (λy0=>post (y0,()))⟩
def pconc_C:CtxR:=⟨tau,[pgrow_rule],lookJ [(0,23,⟨[(27,.dat (.int .i64)),(6,.own 232 (.st .region_Span))],[],[28,29,30,8,31,32,33,34],[0],[]⟩),(0,7,⟨[(11,.dat (.int .i64)),(3,.dat (.int .i64))],[],(List.range' 12 11++[5]),[],[]⟩),(0,16,⟨[(3,.dat (.int .i64))],[],(List.range' 13 9++[5]),[],[]⟩)]⟩
def pconc_W (ls:List (List (region_Span)))(post:List (region_Span)->Prop):Prop:=(↑ls.length:Int)<=9223372036854775807->LOOP [Ty.int IntKind.i64,Ty.int IntKind.i64] (λ(rec1:Int->Int->Prop) (z2 z3:Int)=>IFB (decide (z2<(↑ls.length:Int))) (JOIN [Ty.int IntKind.i64] (λ(y4:Int)=>rec1 (IntKind.i64.wrap (z2+1)) y4) λ(J5:Int->Prop)=>((0:Int)<=z2/\z2<(↑ls.length:Int))/\((↑(ix ls z2).length:Int)<=9223372036854775807->IFB (decide (IntKind.i64.wrap (z3+(↑(ix ls z2).length:Int))<0)) False (J5 (IntKind.i64.wrap (z3+(↑(ix ls z2).length:Int)))))) (((0:Int)<=z3/\z3<=1000000)/\((↑ls.length:Int)<=9223372036854775807->LOOP [Ty.int IntKind.i64,(Ty.st Sn.region_Span).sl] (λ(rec6:Int->List region_Span->Prop) (z7:Int) (z8:List region_Span)=>IFB (decide (z7<(↑ls.length:Int))) (((0:Int)<=z7/\z7<(↑ls.length:Int))/\(z8.length+(ix ls z7).length) * (16:Nat)<=140737488355328/\rec6 (IntKind.i64.wrap (z7+1)) (z8++ix ls z7)) (post z8)) ((0:Int),[],PUnit.unit)))) ((0:Int),(0:Int),PUnit.unit)
theorem pconc_w (ls:List (List (region_Span)))(post:dens (shT pconc_sp.rs [])->Prop):pconc_W ls (λy0=>post (y0,()))=walkG (callR Tryz.prog pconc_C (drawR Tryz.prog tau) 8 0) 199 false [tv (.sl (.sl (.st .region_Span))) ls] pconc_sp.rs post:=by kernel_rfl
theorem pconc_of (h:∀ls post,pconc_P ls post->pconc_W ls post):SpecOK Tryz.prog pconc_sp:=SpecOK.of_rules (C:=pconc_C) (dr:=drawR Tryz.prog tau) (n:=8) (fk:=0) (.cons pgrow_rule_ok .nil) (drawR_ok tau) λx post hp=>HoldW.of (pconc_w x.1 post) (h x.1 (λy0=>post (y0,())) hp)
theorem pconc_ok:SpecOK Tryz.prog pconc_sp:=pconc_of λls post hp=>by
 obtain⟨⟨h1,h2⟩,hp⟩:=hp
 unfold pconc_W
 intro _
 refine LOOP.list ls (λk (s:Int)=>((k:Int),s,())) (λu=>Int.toNat u.1) (λk r (s:Int)=>0<=s/\s+r.flatten.length=ls.flatten.length) 0 rfl ⟨Int.le_refl _,by omega⟩ (λk s h=>by simp) ?_ ?_
 ·intro rec k x r s hd hk hkl ⟨g1,g2⟩ hrec
  have hx:=ix_of hk
  rw[List.flatten_cons,List.length_append] at g2
  show IFB _ _ _
  refine IFB.mk (λ_=> ?_) (λh=>absurd (of_decide_eq_false h) (by show ¬¬((k:Int)<ls.length);omega))
  refine JOIN.opq λ(J:Int->Prop) hJ=> ?_
  dsimp only
  rw[hx]
  have w1:IntKind.i64.wrap (s+(x.length:Int))=s+x.length:=wrap_in (by omega) (by omega)
  rw[w1]
  refine⟨by omega,λ_=>IFB.mk (λhb=>absurd (of_decide_eq_true hb) (by omega)) (λ_=> ?_)⟩
  rw[hJ]
  show rec (IntKind.i64.wrap ((k:Int)+1)) _
  rw[wrapS (by omega)]
  exact hrec _ ⟨by omega,by omega⟩
 ·intro rec s ⟨g1,g2⟩
  have g2:s+(([]:List (List Sp)).flatten.length:Int)=ls.flatten.length:=g2
  simp only[List.flatten_nil,List.length_nil] at g2
  show IFB _ _ _
  refine IFB.mk (λh=>absurd (of_decide_eq_true h) (by show ¬((ls.length:Int)<ls.length);omega)) (λ_=> ?_)
  dsimp only
  refine⟨by omega,λ_=> ?_⟩
  refine LOOP.list ls (λk (s:List Sp)=>((k:Int),s,())) (λu=>Int.toNat u.1) (λk r (s:List Sp)=>s++r.flatten=ls.flatten) [] rfl rfl (λk s h=>by simp) ?_ ?_
  ·intro rec k x r s hd hk hkl g1 hrec
   have hx:=ix_of hk
   have hlen:s.length+(x.length+r.flatten.length)<=100000:=by
    have:=congrArg List.length g1
    rw[List.length_append,List.flatten_cons,List.length_append] at this
    omega
   show IFB _ _ _
   refine IFB.mk (λ_=>⟨by show 0<=(k:Int)/\(k:Int)<ls.length;omega,?_⟩) (λh=>absurd (of_decide_eq_false h) (by show ¬¬((k:Int)<ls.length);omega))
   dsimp only
   rw[hx,wrapS (by omega)]
   refine⟨by omega,hrec _ ?_⟩
   rw[<-g1,List.flatten_cons,List.append_assoc]
  ·intro rec s g1
   show IFB _ _ _
   refine IFB.mk (λh=>absurd (of_decide_eq_true h) (by show ¬((ls.length:Int)<ls.length);omega)) (λ_=> ?_)
   have g1:s=ls.flatten:=by simpa using g1
   show post s
   rw[g1];exact hp
def peqs_P (a:List (region_Span))(b:List (region_Span))(post:Bool->Prop):Prop:=(a.length<=1000000000)/\∀q:Bool,(q=true↔a=b)->post q
def peqs_sp:Spec:=⟨195,false,false,[.sl (.st .region_Span),.sl (.st .region_Span)],.dat (.bool),λx post=>peqs_P (x.1:List (region_Span)) (x.2.1:List (region_Span)) (λy0=>post (y0,()))⟩
def peqs_C:CtxR:=⟨tau,[],lookJ [(0,9,⟨[(13,.dat (.int .i64))],[],(List.range' 14 12++[5]),[],[]⟩)]⟩
def peqs_W (a:List (region_Span))(b:List (region_Span))(post:Bool->Prop):Prop:=(↑a.length:Int)<=9223372036854775807->(↑b.length:Int)<=9223372036854775807->IFB (!decide ((↑a.length:Int)=(↑b.length:Int))) (post false) ((↑a.length:Int)<=9223372036854775807->LOOP [Ty.int IntKind.i64] (λ(rec1:Int->Prop) (z2:Int)=>IFB (decide (z2<(↑a.length:Int))) (((0:Int)<=z2/\z2<(↑a.length:Int))/\((0:Int)<=z2/\z2<(↑b.length:Int))/\IFB (!(decide ((ix a z2).1=(ix b z2).1)&&(decide ((ix a z2).2=(ix b z2).2)&&true))) (post false) (rec1 (IntKind.i64.wrap (z2+1)))) (post true)) ((0:Int),PUnit.unit))
theorem peqs_w (a:List (region_Span))(b:List (region_Span))(post:dens (shT peqs_sp.rs [])->Prop):peqs_W a b (λy0=>post (y0,()))=walkG (callR Tryz.prog peqs_C (drawR Tryz.prog tau) 8 0) 195 false [tv (.sl (.st .region_Span)) a,tv (.sl (.st .region_Span)) b] peqs_sp.rs post:=by kernel_rfl
theorem peqs_of (h:∀a b post,peqs_P a b post->peqs_W a b post):SpecOK Tryz.prog peqs_sp:=SpecOK.of_rules (C:=peqs_C) (dr:=drawR Tryz.prog tau) (n:=8) (fk:=0) .nil (drawR_ok tau) λx post hp=>HoldW.of (peqs_w x.1 x.2.1 post) (h x.1 x.2.1 (λy0=>post (y0,())) hp)
theorem peqs_ok:SpecOK Tryz.prog peqs_sp:=peqs_of λa b post hp=>by
 obtain⟨hl,hp⟩:=hp
 unfold peqs_W
 intro _ _
 refine IFB.mk (λhb=>hp _ ?_) (λhb _=> ?_)
 ·have hb:¬(a.length:Int)=b.length:=by simpa using hb
  constructor
  ·intro h;cases h
  ·intro h;rw[h] at hb;exact absurd rfl hb
 ·have hb:(a.length:Int)=b.length:=by simpa using hb
  have hab:a.length=b.length:=by omega
  have hiff:=list_eq_iff hab
  refine loopCmp (n:=a.length) (by omega) (p:=λj=>ix a (j:Int)=ix b (j:Int)) (λrec k hk hpre hrec=>⟨by omega,by omega,IFB.mk (λhb=>hp _ ?_) (λhb=>hrec ?_)⟩) λhall=>hp _ ?_
  ·constructor
   ·intro h;cases h
   ·intro h
    rw[hiff.1 h k hk] at hb
    simp at hb
  ·generalize ix a (k:Int)=u at hb ⊢
   generalize ix b (k:Int)=v at hb ⊢
   cases u
   cases v
   simp at hb
   simp[hb]
  ·exact⟨λ_=>hiff.2 hall,λ_=>rfl⟩
def peqr_P (a:List (api_Rect))(b:List (api_Rect))(post:Bool->Prop):Prop:=(a.length<=1000000000)/\∀q:Bool,(q=true↔a=b)->post q
def peqr_sp:Spec:=⟨178,false,false,[.sl (.st .api_Rect),.sl (.st .api_Rect)],.dat (.bool),λx post=>peqr_P (x.1:List (api_Rect)) (x.2.1:List (api_Rect)) (λy0=>post (y0,()))⟩
def peqr_C:CtxR:=⟨tau,[],lookJ [(0,9,⟨[(13,.dat (.int .i64))],[],(List.range' 14 12++[5]),[],[]⟩)]⟩
def peqr_W (a:List (api_Rect))(b:List (api_Rect))(post:Bool->Prop):Prop:=(↑a.length:Int)<=9223372036854775807->(↑b.length:Int)<=9223372036854775807->IFB (!decide ((↑a.length:Int)=(↑b.length:Int))) (post false) ((↑a.length:Int)<=9223372036854775807->LOOP [Ty.int IntKind.i64] (λ(rec1:Int->Prop) (z2:Int)=>IFB (decide (z2<(↑a.length:Int))) (((0:Int)<=z2/\z2<(↑a.length:Int))/\((0:Int)<=z2/\z2<(↑b.length:Int))/\IFB (!(decide ((ix a z2).1=(ix b z2).1)&&(decide ((ix a z2).2=(ix b z2).2)&&(decide ((ix a z2).3=(ix b z2).3)&&(decide ((ix a z2).4=(ix b z2).4)&&true))))) (post false) (rec1 (IntKind.i64.wrap (z2+1)))) (post true)) ((0:Int),PUnit.unit))
theorem peqr_w (a:List (api_Rect))(b:List (api_Rect))(post:dens (shT peqr_sp.rs [])->Prop):peqr_W a b (λy0=>post (y0,()))=walkG (callR Tryz.prog peqr_C (drawR Tryz.prog tau) 8 0) 178 false [tv (.sl (.st .api_Rect)) a,tv (.sl (.st .api_Rect)) b] peqr_sp.rs post:=by kernel_rfl
theorem peqr_of (h:∀a b post,peqr_P a b post->peqr_W a b post):SpecOK Tryz.prog peqr_sp:=SpecOK.of_rules (C:=peqr_C) (dr:=drawR Tryz.prog tau) (n:=8) (fk:=0) .nil (drawR_ok tau) λx post hp=>HoldW.of (peqr_w x.1 x.2.1 post) (h x.1 x.2.1 (λy0=>post (y0,())) hp)
theorem peqr_ok:SpecOK Tryz.prog peqr_sp:=peqr_of λa b post hp=>by
 obtain⟨hl,hp⟩:=hp
 unfold peqr_W
 intro _ _
 refine IFB.mk (λhb=>hp _ ?_) (λhb _=> ?_)
 ·have hb:¬(a.length:Int)=b.length:=by simpa using hb
  constructor
  ·intro h;cases h
  ·intro h;rw[h] at hb;exact absurd rfl hb
 ·have hb:(a.length:Int)=b.length:=by simpa using hb
  have hab:a.length=b.length:=by omega
  have hiff:=list_eq_iff hab
  refine loopCmp (n:=a.length) (by omega) (p:=λj=>ix a (j:Int)=ix b (j:Int)) (λrec k hk hpre hrec=>⟨by omega,by omega,IFB.mk (λhb=>hp _ ?_) (λhb=>hrec ?_)⟩) λhall=>hp _ ?_
  ·constructor
   ·intro h;cases h
   ·intro h
    rw[hiff.1 h k hk] at hb
    simp at hb
  ·generalize ix a (k:Int)=u at hb ⊢
   generalize ix b (k:Int)=v at hb ⊢
   cases u
   cases v
   simp at hb
   simp[hb]
  ·exact⟨λ_=>hiff.2 hall,λ_=>rfl⟩
def prects_P (l:List (region_band))(post:List (api_Rect)->Prop):Prop:=((flat l).length<=1000000000/\l.length<=1000000000)/\post (flat l)
def prects_sp:Spec:=⟨196,false,true,[.sl (.st .region_band)],.dat (.sl (.st .api_Rect)),λx post=>prects_P (x.1:List (region_band)) (λy0=>post (y0,()))⟩
def prects_C:CtxR:=⟨tau,[],lookJ [(0,7,⟨[(10,.dat (.int .i64)),(3,.own 65 (.st .api_Rect))],[],(List.range' 11 24++[5,7]),[],[]⟩),(0,13,⟨[(17,.dat (.int .i64)),(3,.own 65 (.st .api_Rect))],[],(List.range' 18 16++[7]),[0],[]⟩)]⟩
def prects_W (l:List (region_band))(post:List (api_Rect)->Prop):Prop:=(↑l.length:Int)<=9223372036854775807->LOOP [Ty.int IntKind.i64,(Ty.st Sn.api_Rect).sl] (λ(rec1:Int->List api_Rect->Prop) (z2:Int) (z3:List api_Rect)=>IFB (decide (z2<(↑l.length:Int))) (((0:Int)<=z2/\z2<(↑l.length:Int))/\((↑(ix l z2).3.length:Int)<=9223372036854775807->LOOP [Ty.int IntKind.i64,(Ty.st Sn.api_Rect).sl] (λ(rec4:Int->List api_Rect->Prop) (z5:Int) (z6:List api_Rect)=>IFB (decide (z5<(↑(ix l z2).3.length:Int))) (((0:Int)<=z5/\z5<(↑(ix l z2).3.length:Int))/\(z6.length+[(⟨(ix (ix l z2).3 z5).1,(ix l z2).1,(ix (ix l z2).3 z5).2,(ix l z2).2⟩:api_Rect)].length) * (32:Nat)<=140737488355328/\rec4 (IntKind.i64.wrap (z5+1)) (z6++[(⟨(ix (ix l z2).3 z5).1,(ix l z2).1,(ix (ix l z2).3 z5).2,(ix l z2).2⟩:api_Rect)])) (rec1 (IntKind.i64.wrap (z2+1)) z6)) ((0:Int),z3,PUnit.unit))) (post z3)) ((0:Int),[],PUnit.unit)
theorem prects_w (l:List (region_band))(post:dens (shT prects_sp.rs [])->Prop):prects_W l (λy0=>post (y0,()))=walkG (callR Tryz.prog prects_C (drawR Tryz.prog tau) 8 0) 196 false [tv (.sl (.st .region_band)) l] prects_sp.rs post:=by kernel_rfl
theorem prects_of (h:∀l post,prects_P l post->prects_W l post):SpecOK Tryz.prog prects_sp:=SpecOK.of_rules (C:=prects_C) (dr:=drawR Tryz.prog tau) (n:=8) (fk:=0) .nil (drawR_ok tau) λx post hp=>HoldW.of (prects_w x.1 post) (h x.1 (λy0=>post (y0,())) hp)
theorem flat1_cons {u v:Int}{s:Sp}{r:List Sp}:flat1 ⟨u,v,s::r⟩=⟨s.1,u,s.2,v⟩::flat1 ⟨u,v,r⟩:=rfl
theorem rects_in {b:Bd}{A:List Rc}{K:List Rc->Prop}(hl:A.length+(flat1 b).length<=1000000000)(hK:K (A++flat1 b)):
 LOOP [Ty.int IntKind.i64,(Ty.st Sn.api_Rect).sl] (λ(rec4:Int->List api_Rect->Prop) (z5:Int) (z6:List api_Rect)=>IFB (decide (z5<(↑b.3.length:Int))) (((0:Int)<=z5/\z5<(↑b.3.length:Int))/\(z6.length+[{Left:=(ix b.3 z5).1,Low:=b.1,Right:=(ix b.3 z5).2,High:=b.2:api_Rect}].length) * 32<=140737488355328/\rec4 (IntKind.i64.wrap (z5+(1:Int))) (z6++[{Left:=(ix b.3 z5).1,Low:=b.1,Right:=(ix b.3 z5).2,High:=b.2:api_Rect}])) (K z6)) ((0:Int),A,PUnit.unit):=by
 have hfl:(flat1 b).length=b.3.length:=by unfold flat1;simp
 refine LOOP.list b.3 (λk (s:List Rc)=>((k:Int),s,())) (λu=>Int.toNat u.1) (λk r (s:List Rc)=>s++flat1 ⟨b.1,b.2,r⟩=A++flat1 b/\s.length=A.length+k) A rfl ⟨rfl,rfl⟩ (λk s h=>by simp) ?_ ?_
 ·intro rec k x r s hd hk hkl ⟨g1,g2⟩ hrec
  have hx:=ix_of hk
  show IFB _ _ _
  refine IFB.mk (λ_=>⟨by show 0<=(k:Int)/\(k:Int)<b.3.length;omega,?_⟩) (λh=>absurd (of_decide_eq_false h) (by show ¬¬((k:Int)<b.3.length);omega))
  dsimp only
  rw[hx]
  refine⟨by simp only[List.length_cons,List.length_nil];omega,?_⟩
  rw[wrapS (by omega)]
  refine hrec _ ⟨?_,?_⟩
  ·rw[<-g1,flat1_cons];simp
  ·simp only[List.length_append,List.length_cons,List.length_nil];omega
 ·intro rec s ⟨g1,g2⟩
  show IFB _ _ _
  refine IFB.mk (λh=>absurd (of_decide_eq_true h) (by show ¬((b.3.length:Int)<b.3.length);omega)) (λ_=> ?_)
  have g1:s=A++flat1 b:=by simpa [flat1] using g1
  show K s
  rw[g1];exact hK
theorem prects_ok:SpecOK Tryz.prog prects_sp:=prects_of λl post hp=>by
 obtain⟨⟨h1,h2⟩,hp⟩:=hp
 unfold prects_W
 intro _
 refine LOOP.list l (λk (s:List Rc)=>((k:Int),s,())) (λu=>Int.toNat u.1) (λk r (s:List Rc)=>s++flat r=flat l) [] rfl rfl (λk s h=>by simp) ?_ ?_
 ·intro rec k x r s hd hk hkl g1 hrec
  have hx:=ix_of hk
  have hfc:flat (x::r)=flat1 x++flat r:=rfl
  have hlen:s.length+((flat1 x).length+(flat r).length)<=1000000000:=by
   have:=congrArg List.length g1
   rw[List.length_append,hfc,List.length_append] at this
   omega
  show IFB _ _ _
  refine IFB.mk (λ_=>⟨by show 0<=(k:Int)/\(k:Int)<l.length;omega,?_⟩) (λh=>absurd (of_decide_eq_false h) (by show ¬¬((k:Int)<l.length);omega))
  dsimp only
  rw[hx]
  intro _
  refine rects_in (b:=x) (A:=s) (K:=λz6=>rec (IntKind.i64.wrap ((k:Int)+1)) z6) (by omega) ?_
  rw[wrapS (by omega)]
  refine hrec _ ?_
  rw[<-g1,hfc,List.append_assoc]
 ·intro rec s g1
  show IFB _ _ _
  refine IFB.mk (λh=>absurd (of_decide_eq_true h) (by show ¬((l.length:Int)<l.length);omega)) (λ_=> ?_)
  have g1:s=flat l:=by simpa [flat] using g1
  show post s
  rw[g1];exact hp
def bandM (z3:List region_band)(u v:Int)(ss:List region_Span)(J5:List region_band->Prop):Prop:=((↑z3.length:Int)<=(9223372036854775807:Int)->(gx true (decide ((0:Int)<(↑z3.length:Int)))=true->(0:Int)<=IntKind.i64.wrap ((↑z3.length:Int)-(1:Int))/\IntKind.i64.wrap ((↑z3.length:Int)-(1:Int))<(↑z3.length:Int))/\(gx true (decide ((0:Int)<(↑z3.length:Int))&&decide ((ix z3 (IntKind.i64.wrap ((↑z3.length:Int)-(1:Int)))).2=u))=true->(0:Int)<=IntKind.i64.wrap ((↑z3.length:Int)-(1:Int))/\IntKind.i64.wrap ((↑z3.length:Int)-(1:Int))<(↑z3.length:Int))/\JOIN [Ty.bool] (λ(y14:Bool)=>IFB (decide ((0:Int)<(↑z3.length:Int))&&decide ((ix z3 (IntKind.i64.wrap ((↑z3.length:Int)-(1:Int)))).2=u)&&y14) (((0:Int)<=IntKind.i64.wrap ((↑z3.length:Int)-(1:Int))/\IntKind.i64.wrap ((↑z3.length:Int)-(1:Int))<(↑z3.length:Int))/\J5 (z3.set (IntKind.i64.wrap ((↑z3.length:Int)-(1:Int))).toNat {low:=(ix z3 (IntKind.i64.wrap ((↑z3.length:Int)-(1:Int)))).1,high:=v,spans:=(ix z3 (IntKind.i64.wrap ((↑z3.length:Int)-(1:Int)))).3:region_band})) ((z3.length+[{low:=u,high:=v,spans:=ss:region_band}].length) * (40:Nat)<=(140737488355328:Nat)/\J5 (z3++[{low:=u,high:=v,spans:=ss:region_band}]))) λ(J15:Bool->Prop)=>IFB (gx true (decide ((0:Int)<(↑z3.length:Int))&&decide ((ix z3 (IntKind.i64.wrap ((↑z3.length:Int)-(1:Int)))).2=u))) ((ix z3 (IntKind.i64.wrap ((↑z3.length:Int)-(1:Int)))).3.length<=(1000000000:Nat)/\∀(v16:Bool),(v16=true↔(ix z3 (IntKind.i64.wrap ((↑z3.length:Int)-(1:Int)))).3=ss)->J15 v16) (J15 false))
theorem bandM_ok {out:List Bd}{u v:Int}{ss:List Sp}{J:List Bd->Prop}(hN:out.length<=1000000)(hS:∀b∈out,b.3.length<=1000000000)(hJ:J (addBd out u v ss)):bandM out u v ss J:=by
 unfold bandM
 intro _
 rcases List.eq_nil_or_concat out with rfl|⟨A,b,rfl⟩
 ·have hj:addBd [] u v ss=[⟨u,v,ss⟩]:=rfl
  rw[hj] at hJ
  refine⟨λh=>(by cases h),λh=>(by cases h),JOIN.opq λ(J8:Bool->Prop) hJ8=>IFB.mk (λhb=>(by cases hb)) (λ_=> ?_)⟩
  rw[hJ8]
  exact IFB.mk (λhb=>(by cases hb)) (λ_=>⟨by simp,hJ⟩)
 ·rw[List.concat_eq_append] at *
  have hAl:(A++[b]).length=A.length+1:=by simp
  have w1:IntKind.i64.wrap (((A++[b]).length:Int)-1)=A.length:=by
   rw[hAl,wrap_in (by omega) (by omega)]
   omega
  have hq:ix (A++[b]) (A.length:Int)=b:=ix_app rfl
  have hset:∀z,(A++[b]).set (A.length:Int).toNat z=A++[z]:=λz=>set_app (by simp)
  rw[w1,hq,hset]
  have hj:addBd (A++[b]) u v ss=if b.high=u/\b.spans=ss then A++[⟨b.low,v,b.spans⟩] else A++[b]++[⟨u,v,ss⟩]:=by
   unfold addBd
   simp
  rw[hj] at hJ
  have hd:decide ((0:Int)<((A++[b]).length:Int))=true:=decide_eq_true (by omega)
  rw[hd,Bool.true_and]
  have hsz:((A++[b]).length+[({low:=u,high:=v,spans:=ss}:region_band)].length) * 40<=140737488355328:=by
   rw[hAl];simp only[List.length_cons,List.length_nil];omega
  refine⟨λ_=>by omega,λ_=>by omega,JOIN.opq λ(J8:Bool->Prop) hJ8=>IFB.mk (λhb=>⟨hS b (by simp),λy hy=> ?_⟩) (λhb=> ?_)⟩
  ·have hb:b.high=u:=of_decide_eq_true hb
   have hb2:decide (b.high=u)=true:=decide_eq_true hb
   rw[hJ8]
   dsimp only
   refine IFB.mk (λh=>⟨by omega,?_⟩) (λh=>⟨hsz,?_⟩)
   ·rw[Bool.and_eq_true] at h
    rw[if_pos ⟨hb,hy.1 h.2⟩] at hJ
    exact hJ
   ·rw[if_neg (λhh=>by rw[hy.2 hh.2] at h;rw[show b.2=u from hb] at h;simp at h)] at hJ
    exact hJ
  ·have hb:¬b.high=u:=of_decide_eq_false hb
   rw[hJ8]
   dsimp only
   refine IFB.mk (λh=> ?_) (λh=>⟨hsz,?_⟩)
   ·rw[Bool.and_eq_true] at h
    cases h.2
   ·rw[if_neg (λhh=>hb hh.1)] at hJ
    exact hJ
theorem addBd_len1 {out:List Bd}{u v:Int}{ss:List Sp}:(addBd out u v ss).length<=out.length+1:=by
 rcases List.eq_nil_or_concat out with rfl|⟨A,b,rfl⟩
 ·simp[addBd]
 ·unfold addBd
  simp
  split<;>simp
theorem addBd_sp {out:List Bd}{u v:Int}{ss:List Sp}{N:Nat}(h:∀b∈out,b.3.length<=N)(hs:ss.length<=N):∀b∈addBd out u v ss,b.3.length<=N:=by
 rcases List.eq_nil_or_concat out with rfl|⟨A,c,rfl⟩
 ·intro b hb
  simp[addBd] at hb
  subst hb;exact hs
 ·rw[List.concat_eq_append] at *
  have hj:addBd (A++[c]) u v ss=if c.high=u/\c.spans=ss then A++[⟨c.low,v,c.spans⟩] else A++[c]++[⟨u,v,ss⟩]:=by
   unfold addBd
   simp
  rw[hj]
  intro b hb
  split at hb
  ·rcases List.mem_append.1 hb with hb|hb
   ·exact h b (by simp[hb])
   ·rw[List.mem_singleton] at hb
    subst hb
    exact h c (by simp)
  ·rcases List.mem_append.1 hb with hb|hb
   ·exact h b hb
   ·rw[List.mem_singleton] at hb
    subst hb
    exact hs
theorem build_loop {xs:List Int}{R:Int->List Sp}(hR:∀y,(R y).length<=100000)(hx:xs.length<=100000){B:(Int->List region_band->Prop)->Int->List region_band->Prop}{K:List region_band->Prop}
 (hB:∀(rec:Int->List Bd->Prop)(k:Nat)(acc:List Bd),k+1<xs.length->acc.length<=k->(∀b∈acc,b.3.length<=100000)->rec ((k+2:Nat):Int) (addBd acc (ix xs (k:Int)) (ix xs ((k+1:Nat):Int)) (R (ix xs (k:Int))))->B rec ((k+1:Nat):Int) acc)
 (hK:(buildG R [] xs).length<=100000->K (buildG R [] xs)):
 LOOP [Ty.int IntKind.i64,(Ty.st Sn.region_band).sl] (λ(rec1:Int->List region_band->Prop) (z2:Int) (z3:List region_band)=>(xs.length:Int)<=(9223372036854775807:Int)->IFB (decide (z2<(xs.length:Int))) (B rec1 z2 z3) (K z3)) ((1:Int),[],PUnit.unit):=by
 refine LOOP.fuel (λu=>∃(k:Nat)(acc:List Bd),u.1=((k+1:Nat):Int)/\u.2.1=acc/\k<=xs.length/\buildG R acc (xs.drop k)=buildG R [] xs/\acc.length<=k/\∀b∈acc,b.3.length<=100000) (λu=>xs.length+1-Int.toNat u.1) ⟨0,[],rfl,rfl,Nat.zero_le _,rfl,Nat.le_refl _,λb hb=>by cases hb⟩ ?_
 rintro rec ⟨(z2:Int),(z3:List region_band),⟨⟩⟩ ⟨k,acc,h1,h2,h3,h4,h5,h6⟩ hrec
 have h1:z2=((k+1:Nat):Int):=h1
 have h2:z3=acc:=h2
 subst h1 h2
 have h5:z3.length<=k:=h5
 intro _
 refine IFB.mk (λhb=> ?_) (λhb=> ?_)
 ·have hb:((k+1:Nat):Int)<xs.length:=of_decide_eq_true hb
  have hb:k+1<xs.length:=by omega
  refine hB rec k z3 hb h5 h6 ?_
  obtain⟨d1,d2⟩:=drop_two hb
  refine hrec (((k+2:Nat):Int),_,()) ⟨k+1,_,rfl,rfl,by omega,?_,Nat.le_trans addBd_len1 (by show z3.length+1<=k+1;omega),addBd_sp h6 (hR _)⟩ (by show xs.length+1-((k+2:Nat):Int).toNat<xs.length+1-((k+1:Nat):Int).toNat;omega)
  rw[<-h4,d1,d2]
  rfl
 ·have hb:¬((k+1:Nat):Int)<xs.length:=of_decide_eq_false hb
  rw[short_drop (by omega)] at h4
  rw[<-h4] at hK
  exact hK (by omega)
theorem rowS_len {l:List Rc}{y:Int}:(rowS l y).length<=2 * l.length:=by
 unfold rowS spansOf
 have h1:=spansG_len (p:=λx=>cov l x y) (xs:=edgesS l) (out:=[])
 have h2:=fold_len (f:=λr=>r.Left) (g:=λr=>r.Right) (l:=l) (a:=[])
 have h3:(edgesS l).length<=([]:List Int).length+2 * l.length:=h2
 simp only[List.length_nil] at h1 h3
 omega
theorem cutsS_len {l:List Rc}:(cutsS l).length<=2 * l.length:=by
 have h3:(cutsS l).length<=([]:List Int).length+2 * l.length:=fold_len (f:=λr=>r.Low) (g:=λr=>r.High) (l:=l) (a:=[])
 simpa using h3
theorem can_build (l:List Rc):canonF (cov l)=flat (buildG (rowS l) [] (cutsS l)):=by
 have h:=comb_build (howS_0 1) (a:=l) (b:=[]) (R:=rowS l) λu hu=>by
  have h:=comb_row (howS_0 1) (a:=l) (b:=[]) (y:=u)
  rw[comb_or_nil,List.append_nil] at h
  rw[comb_or_nil]
  exact h
 rw[comb_or_nil,List.append_nil] at h
 exact h.2.2
def pcan_P (l:List (api_Rect))(post:List (api_Rect)->Prop):Prop:=((∀r∈l,proper r)/\l.length<=10000)/\post (canonF (cov l))
def pcan_sp:Spec:=⟨179,false,true,[.sl (.st .api_Rect)],.dat (.sl (.st .api_Rect)),λx post=>pcan_P (x.1:List (api_Rect)) (λy0=>post (y0,()))⟩
def pcan_C:CtxR:=⟨tau,[rule1 pcuts_sp,rule1 prow_sp,rule1 peqs_sp,rule1 prects_sp],lookJ [(1026,7,⟨[(6,.dat (.int .i64)),(5,.own 229 (.st .region_band))],[],(List.range' 7 62),[],[]⟩),(1026,8,⟨[(5,.own 229 (.st .region_band))],[],(List.range' 15 54++[7,8]),[2],[]⟩)]⟩
abbrev pcan_a0 (z3:List region_band):=(ix z3 (IntKind.i64.wrap ((↑z3.length:Int)-(1:Int))))
abbrev pcan_a1 (l:List (api_Rect))(z2:Int):={low:=ix (cutsS (l.append [])) (IntKind.i64.wrap (z2-(1:Int))),high:=ix (cutsS (l.append [])) z2,spans:=rowS l (ix (cutsS (l.append [])) (IntKind.i64.wrap (z2-(1:Int)))):region_band}
abbrev pcan_a2 (z3:List region_band)(l:List (api_Rect))(z2:Int):=(decide ((0:Int)<(↑z3.length:Int))&&decide ((pcan_a0 z3).2=ix (cutsS (l.append [])) (IntKind.i64.wrap (z2-(1:Int)))))
abbrev pcan_a3 (z3:List region_band)(J5:List region_band->Prop)(l:List (api_Rect))(z2:Int):=(((0:Int)<=IntKind.i64.wrap ((↑z3.length:Int)-(1:Int))/\IntKind.i64.wrap ((↑z3.length:Int)-(1:Int))<(↑z3.length:Int))/\J5 (z3.set (IntKind.i64.wrap ((↑z3.length:Int)-(1:Int))).toNat {low:=(pcan_a0 z3).1,high:=ix (cutsS (l.append [])) z2,spans:=(pcan_a0 z3).3:region_band}))
abbrev pcan_a4 (z3:List region_band):=(gx true (decide ((0:Int)<(↑z3.length:Int)))=true->(0:Int)<=IntKind.i64.wrap ((↑z3.length:Int)-(1:Int))/\IntKind.i64.wrap ((↑z3.length:Int)-(1:Int))<(↑z3.length:Int))
abbrev pcan_a5 (z3:List region_band)(l:List (api_Rect))(z2:Int):=(gx true (pcan_a2 z3 l z2)=true->(0:Int)<=IntKind.i64.wrap ((↑z3.length:Int)-(1:Int))/\IntKind.i64.wrap ((↑z3.length:Int)-(1:Int))<(↑z3.length:Int))
def pcan_W (l:List (api_Rect))(post:List (api_Rect)->Prop):Prop:=((l.append []).length<=10000/\[l].length<=10)/\LOOP [Ty.int IntKind.i64,(Ty.st Sn.region_band).sl] (λ(rec1:Int->List region_band->Prop) (z2:Int) (z3:List region_band)=>(↑(cutsS (l.append [])).length:Int)<=9223372036854775807->IFB (decide (z2<(↑(cutsS (l.append [])).length:Int))) (JOIN [(Ty.st Sn.region_band).sl] (λ(y4:List region_band)=>rec1 (IntKind.i64.wrap (z2+1)) y4) λ(J5:List region_band->Prop)=>((0:Int)<=IntKind.i64.wrap (z2-1)/\IntKind.i64.wrap (z2-1)<(↑(cutsS (l.append [])).length:Int))/\((0:Int)<=z2/\z2<(↑(cutsS (l.append [])).length:Int))/\((0:Int)<=IntKind.i64.wrap (z2-1)/\IntKind.i64.wrap (z2-1)<(↑(cutsS (l.append [])).length:Int))/\(((∀(v6:api_Rect),v6∈l->v6.1<v6.3)/\l.length<=10000)/\((↑z3.length:Int)<=9223372036854775807->(pcan_a4 z3)/\(pcan_a5 z3 l z2)/\JOIN [Ty.bool] (λ(y7:Bool)=>IFB (decide ((0:Int)<(↑z3.length:Int))&&decide ((pcan_a0 z3).2=ix (cutsS (l.append [])) (IntKind.i64.wrap (z2-1)))&&y7) (pcan_a3 z3 J5 l z2) ((z3.length+[(pcan_a1 l z2)].length) * (40:Nat)<=140737488355328/\J5 (z3++[(pcan_a1 l z2)]))) λ(J8:Bool->Prop)=>IFB (gx true (pcan_a2 z3 l z2)) ((pcan_a0 z3).3.length<=1000000000/\∀(v9:Bool),(v9=true↔(pcan_a0 z3).3=rowS l (ix (cutsS (l.append [])) (IntKind.i64.wrap (z2-1))))->J8 v9) (J8 false))/\((↑z3.length:Int)<=9223372036854775807->(pcan_a4 z3)/\(pcan_a5 z3 l z2)/\JOIN [Ty.bool] (λ(y10:Bool)=>IFB (decide ((0:Int)<(↑z3.length:Int))&&decide ((pcan_a0 z3).2=ix (cutsS (l.append [])) (IntKind.i64.wrap (z2-1)))&&y10) (pcan_a3 z3 J5 l z2) ((z3.length+[(pcan_a1 l z2)].length) * (40:Nat)<=140737488355328/\J5 (z3++[(pcan_a1 l z2)]))) λ(J11:Bool->Prop)=>IFB (gx true (pcan_a2 z3 l z2)) ((pcan_a0 z3).3.length<=1000000000/\∀(v12:Bool),(v12=true↔(pcan_a0 z3).3=rowS l (ix (cutsS (l.append [])) (IntKind.i64.wrap (z2-1))))->J11 v12) (J11 false)))/\((∀(v13:api_Rect),v13∈l->v13.1<v13.3)/\l.length<=10000)/\((↑z3.length:Int)<=9223372036854775807->(pcan_a4 z3)/\(pcan_a5 z3 l z2)/\JOIN [Ty.bool] (λ(y14:Bool)=>IFB (decide ((0:Int)<(↑z3.length:Int))&&decide ((pcan_a0 z3).2=ix (cutsS (l.append [])) (IntKind.i64.wrap (z2-1)))&&y14) (pcan_a3 z3 J5 l z2) ((z3.length+[(pcan_a1 l z2)].length) * (40:Nat)<=140737488355328/\J5 (z3++[(pcan_a1 l z2)]))) λ(J15:Bool->Prop)=>IFB (gx true (pcan_a2 z3 l z2)) ((pcan_a0 z3).3.length<=1000000000/\∀(v16:Bool),(v16=true↔(pcan_a0 z3).3=rowS l (ix (cutsS (l.append [])) (IntKind.i64.wrap (z2-1))))->J15 v16) (J15 false))) (((flat z3).length<=1000000000/\z3.length<=1000000000)/\post (flat z3))) ((1:Int),[],PUnit.unit)
theorem pcan_w (l:List (api_Rect))(post:dens (shT pcan_sp.rs [])->Prop):pcan_W l (λy0=>post (y0,()))=walkG (callR Tryz.prog pcan_C (drawR Tryz.prog tau) 10 0) 179 false [tv (.sl (.st .api_Rect)) l] pcan_sp.rs post:=by kernel_rfl
theorem pcan_of (h:∀l post,pcan_P l post->pcan_W l post):SpecOK Tryz.prog pcan_sp:=SpecOK.of_rules (C:=pcan_C) (dr:=drawR Tryz.prog tau) (n:=10) (fk:=0) (.cons (rule1_ok pcuts_ok) (.cons (rule1_ok prow_ok) (.cons (rule1_ok peqs_ok) (.cons (rule1_ok prects_ok) .nil)))) (drawR_ok tau) λx post hp=>HoldW.of (pcan_w x.1 post) (h x.1 (λy0=>post (y0,())) hp)
theorem pcan_ok:SpecOK Tryz.prog pcan_sp:=pcan_of λl post hp=>by
 obtain⟨⟨h1,h2⟩,hp⟩:=hp
 have hcl:=cov_len h1
 rw[can_build] at hp hcl
 unfold pcan_W pcan_a5 pcan_a4 pcan_a3 pcan_a2 pcan_a1 pcan_a0
 have e:l.append []=l:=List.append_nil l
 rw[e]
 have hc:=cutsS_len (l:=l)
 have hlr:∀r∈l,r.1<r.3:=λr hr=>(h1 r hr).2.1
 refine⟨⟨h2,by simp⟩,?_⟩
 refine build_loop (xs:=cutsS l) (R:=rowS l) (λy=>by have:=rowS_len (l:=l) (y:=y);omega) (by omega) (λrec k acc hk hal has hrec=> ?_) (λhlen=>⟨⟨by omega,by omega⟩,hp⟩)
 refine JOIN.opq λ(J:List Bd->Prop) hJ=> ?_
 have w1:IntKind.i64.wrap (((k+1:Nat):Int)-1)=k:=by rw[wrap_in (by omega) (by omega)];omega
 rw[w1]
 have hJ:J (addBd acc (ix (cutsS l) (k:Int)) (ix (cutsS l) ((k+1:Nat):Int)) (rowS l (ix (cutsS l) (k:Int)))):=by
  rw[hJ]
  show rec (IntKind.i64.wrap (((k+1:Nat):Int)+1)) _
  rw[wrapS (by omega)]
  exact hrec
 have main:=bandM_ok (by omega) (λb hb=>Nat.le_trans (has b hb) (by omega)) hJ
 have hD:(∀v6:api_Rect,v6∈l->v6.1<v6.3)/\l.length<=10000:=⟨hlr,h2⟩
 exact⟨by omega,by omega,by omega,⟨hD,main,main⟩,hD,main⟩
variable {P:Program}
def clo (g:FuncId):Value:= .func (.func g) #[] #[]
def SpecCOK (P:Program)(s:Spec)(cl:List Value):Prop:=∀x post,s.pt x post->∀w (S:Cells)(T:Option Nat)(us:List Value),(∀b o,S b o->b<w.heap.size)->TapeC s.tp w S T->us.length=s.ts.length->
 (∀(i:Nat)(d:D)(u:Value),(tvs s.ts x)[i]? =some d->us[i]? =some u->Rd S w d u)->
 Calls P s.f (tpArg T us++cl).toArray w λe w'=>∃v y c',e= .returned v/\post y/\OXM (MS.add ⟨[],0,s.tp⟩ (instS s.rs [] y 0).2.1) w' c'/\TrM ⟨[],0,s.tp⟩ w (cx0 S T) (MS.add ⟨[],0,s.tp⟩ (instS s.rs [] y 0).2.1) w' c'/\SRel c' w' (instS s.rs [] y 0).1 v
theorem byConC_ok {cl:List Value}{s:Spec}(hs:SpecCOK P s cl){ss:List SV}{m:MS}{k:SV->MS->Prop}(h:byCon s ss m k){us:List Value}{w:World}{c:Cx}(hox:OXM m w c)(hl:us.length=ss.length)(hr:∀(i:Nat)(x:SV)(u:Value),ss[i]? =some x->us[i]? =some u->SRel c w x u/\x.inU m.U):
 Calls P s.f (us++cl).toArray w λe w'=>∃v r m' c',e= .returned v/\k r m'/\FrM m m'/\OXM m' w' c'/\TrM m w c m' w' c'/\SRel c' w' r v/\r.inU m'.U:=by
 unfold byCon at h
 split at h
 ·exact h.elim
 ·rename_i ss' hta
  have harg:∃(us':List Value)(T0:Option Nat),us=tpArg T0 us'/\us'.length=ss'.length/\(∀(i:Nat)(x:SV)(u:Value),ss'[i]? =some x->us'[i]? =some u->SRel c w x u/\x.inU m.U)/\((s.tp=true/\T0=c.T/\m.tp=true/\∃t,c.T=some t)\/(s.tp=false/\T0=none)):=by
   cases htp:s.tp with
   |false=>
    rw[htp] at hta
    injection hta with hta
    subst hta
    exact⟨us,none,rfl,hl,hr,.inr ⟨rfl,rfl⟩⟩
   |true=>
    rw[htp] at hta
    unfold tapeArg at hta
    split at hta
    ·split at hta
     ·rename_i r
      cases hm:m.tp with
      |false=>rw[hm] at hta;cases hta
      |true=>
       rw[hm] at hta
       injection hta with hta
       subst hta
       match us,hl,hr with
       |u::us',hl,hr=>
        obtain⟨T,hT,rfl⟩:=srel_tp (hr 0 .tp u rfl rfl).1
        exact⟨us',some T,rfl,by simpa using hl,λi x u hx hu=>hr (i+1) x u hx hu,.inl ⟨rfl,hT.symm,rfl,T,hT⟩⟩
     ·cases hta
    ·rename_i he;cases he
  obtain⟨us',T0,rfl,hl',hr',hT⟩:=harg
  have hTC:∀S:Cells,(∀b o,c.S b o->S b o)->(s.tp=true->S=c.S)->TapeC s.tp w S T0:=λS hS hSe=>by
   rcases hT with⟨e1,e2,e3,t,e4⟩|⟨e1,e2⟩
   ·rw[e1]
    obtain⟨T,h1,h2⟩:=hox.tpe e3
    refine⟨T,e2.trans h1,?_,?_⟩
    ·rw[hSe e1];exact h2
    ·rw[hSe e1];exact (hox.nT T h1).2
   ·rw[e1];exact e2
  cases hal:s.al with
  |true=>
   rw[hal] at h
   simp only[cond_true] at h
   split at h
   ·rename_i ds ids hd
    split at h
    ·rename_i x hx
     cases hp:shPure s.rs with
     |false=>rw[hp] at h;exact h.elim
     |true=>
      rw[hp] at h
      simp only[cond_true] at h
      obtain⟨c1,ox1,t1,hH1,hT1⟩:=hox.freezes ids
      have ob1:MS.obs ⟨fzU m.obs ids++m.ob,m.nx,m.tp⟩=ovr m.obs (fzU m.obs ids):=lookO_app _ _
      have ox1':OXM ⟨fzU m.obs ids++m.ob,m.nx,m.tp⟩ w c1:=by show OX (MS.obs _) _ _ _ _;rw[ob1];exact ox1
      have t1':TrM m w c ⟨fzU m.obs ids++m.ob,m.nx,m.tp⟩ w c1:=by show Tr _ _ _ _ (MS.obs ⟨_,_,_⟩) _ _ _;rw[ob1];exact t1
      obtain⟨d1,d2⟩:=dataL_rel (m:=m.mem) hox ox1 t1 hH1 ss' hd (λ_ h=>h)
      obtain⟨x1,x2⟩:=undoL_rd hx
      have hTC':TapeC s.tp w c1.S T0:=by
       rcases hT with⟨e1,e2,e3,t,e4⟩|⟨e1,e2⟩
       ·rw[e1]
        obtain⟨T,h1,h2⟩:=ox1'.tpe e3
        exact⟨T,e2.trans (by rw[<-hT1];exact h1),h2,(ox1'.nT T h1).2⟩
       ·rw[e1];exact e2
      refine (hs x _ h w c1.S T0 us' ox1.sb hTC' (by omega) (λi d u hdi hu=> ?_)).mono ?_
      ·have hi:i<ds.length:=by have:=(List.getElem?_eq_some_iff.1 hdi).1;rw[tvs_len] at this;omega
       have his:i<ss'.length:=by omega
       exact x2 i d ds[i] hdi (List.getElem?_eq_getElem hi) (d2 i ss'[i] ds[i] (List.getElem?_eq_getElem his) (List.getElem?_eq_getElem hi) (hr' i _ u (List.getElem?_eq_getElem his) hu).1)
      ·rintro e w' ⟨v,y,c',rfl,hy,oxr,tr,hsr⟩
       have hTT:(s.tp=true/\true=true/\T0=c1.T)\/T0=none:=by
        rcases hT with⟨e1,e2,_⟩|⟨_,e2⟩
        ·exact .inl ⟨e1,rfl,by rw[hT1];exact e2⟩
        ·exact .inr e2
       obtain⟨c2,b1,b2,b3,b4⟩:=call_back (al:=true) ox1' hTT (λ_ _ _ h=>h) (.inl rfl) oxr tr (λe=>by
        rcases hT with⟨_,e2,_⟩|⟨e2,_⟩
        ·rw[hT1];exact e2
        ·rw[e] at e2;cases e2)
       have hsh:=instS_shift (c:=c') (c2:=c2) (w:=w') (n:=m.nx) (al:=true) (λ_=>b4 rfl) b3 s.rs [] y 0 hp rfl hsr
       refine⟨v,_,_,c2,rfl,hy,⟨⟨_,by show rowsOb _ _++(fzU m.obs ids++m.ob)=_;rw[<-List.append_assoc]⟩,id⟩,b1,t1'.trans b2,by rw[Nat.add_zero] at hsh;exact hsh,?_⟩
       refine SV.inU_mono (λi hi=> ?_) _ (instS_inU (n:=0) s.rs [] y m.nx hp)
       show i<m.nx+_
       rw[instS_rows s.rs [] y m.nx 0] at hi
       exact hi.2
    ·exact h.elim
   ·exact h.elim
  |false=>
   rw[hal] at h
   simp only[cond_false] at h
   split at h
   ·rename_i ds hd
    split at h
    ·rename_i x hx
     cases hp:(shPure s.rs&&shFlat s.rs&& !s.tp) with
     |false=>rw[hp] at h;exact h.elim
     |true=>
      rw[hp] at h
      simp only[cond_true] at h
      simp only[Bool.and_eq_true,Bool.not_eq_true'] at hp
      obtain⟨⟨p1,p2⟩,p3⟩:=hp
      have hT0:T0=none:=by
       rcases hT with⟨e1,_⟩|⟨_,e2⟩
       ·rw[p3] at e1;cases e1
       ·exact e2
      obtain⟨d1,d2⟩:=viewL_rel (m:=m.mem) hox ss' hd
      obtain⟨x1,x2⟩:=undoL_rd hx
      refine (hs x _ h w (lentS m.obs c) T0 us' (λb o hb=> ?_) (by rw[p3];exact hT0) (by omega) (λi d u hdi hu=> ?_)).mono ?_
      ·rcases hb with hb|⟨id,y,hy,ho,hb⟩
       ·exact hox.sb b o hb
       ·exact (hox.fb id y hy ho b hb).1
      ·have hi:i<ds.length:=by have:=(List.getElem?_eq_some_iff.1 hdi).1;rw[tvs_len] at this;omega
       have his:i<ss'.length:=by omega
       exact x2 i d ds[i] hdi (List.getElem?_eq_getElem hi) (d2 i ss'[i] ds[i] (List.getElem?_eq_getElem his) (List.getElem?_eq_getElem hi) (hr' i _ u (List.getElem?_eq_getElem his) hu).1)
      ·rintro e w' ⟨v,y,c',rfl,hy,oxr,tr,hsr⟩
       obtain⟨c2,b1,b2,b3,b4⟩:=call_back (al:=false) hox (.inr hT0) (λe=>by cases e) (.inr (instS_flat s.rs [] y 0 p2)) oxr tr (λe=>by rw[p3] at e;cases e)
       have hsh:=instS_shift (c:=c') (c2:=c2) (w:=w') (n:=m.nx) (al:=false) (λe=>by cases e) b3 s.rs [] y 0 p1 (by simpa using p2) hsr
       refine⟨v,_,_,c2,rfl,hy,⟨⟨_,rfl⟩,id⟩,b1,b2,by rw[Nat.add_zero] at hsh;exact hsh,?_⟩
       refine SV.inU_mono (λi hi=> ?_) _ (instS_inU (n:=0) s.rs [] y m.nx p1)
       show i<m.nx+_
       rw[instS_rows s.rs [] y m.nx 0] at hi
       exact hi.2
    ·exact h.elim
   ·exact h.elim
def dropCl (g:FuncId):List SV->Option (List SV)
 |[]=>none
 |[x]=>bif isCl g x then some [] else none
 |x::r=>(dropCl g r).map (x::·)
theorem dropCl_ok {g:FuncId}:∀{ss ss':List SV},dropCl g ss=some ss'->∃x,ss=ss'++[x]/\isCl g x=true
 |[],ss',h=>by cases h
 |[x],ss',h=>by
  unfold dropCl at h
  cases hb:isCl g x with
  |false=>rw[hb] at h;cases h
  |true=>
   rw[hb] at h
   injection h with h
   subst h
   exact⟨x,rfl,hb⟩
 |x::y::r,ss',h=>by
  unfold dropCl at h
  rw[Option.map_eq_some_iff] at h
  obtain⟨t,h1,rfl⟩:=h
  obtain⟨z,h2,h3⟩:=dropCl_ok h1
  exact⟨z,by rw[h2];rfl,h3⟩
def byConC (s:Spec)(g:FuncId)(ss:List SV)(m:MS)(k:SV->MS->Prop):Prop:=match dropCl g ss with
 |some ss'=>byCon s ss' m k
 |none=>False
def ruleC (s:Spec)(g:FuncId):Rule:=⟨s.f,byConC s g⟩
theorem ruleC_ok {s:Spec}{g:FuncId}(h:SpecCOK P s [clo g]):RuleOK P (ruleC s g):=λss m k hk us w c hox hl hr=>by
 have hk2:byConC s g ss m k:=hk
 clear hk
 unfold byConC at hk2
 split at hk2
 ·rename_i ss' hd
  obtain⟨x,rfl,hx⟩:=dropCl_ok hd
  rcases List.eq_nil_or_concat us with rfl|⟨us',u,rfl⟩
  ·simp at hl
  ·rw[List.concat_eq_append] at *
   have hl':us'.length=ss'.length:=by simpa using hl
   have hu:u=clo g:=isCl_rel hx (hr ss'.length x u (by simp) (by rw[<-hl'];simp)).1
   subst hu
   refine byConC_ok h hk2 hox hl' λi y v hy hv=>hr i y v ?_ ?_
   ·rw[List.getElem?_append_left (List.getElem?_eq_some_iff.1 hy).1];exact hy
   ·rw[List.getElem?_append_left (List.getElem?_eq_some_iff.1 hv).1];exact hv
 ·exact hk2.elim
theorem SpecCOK.of_rules {C:CtxR}{dr:DR}(hR:RulesOK P C.rs)(hdr:DrOK P dr){n fk:Nat}{s:Spec}{g:FuncId}(h:∀x post,s.pt x post->HoldW (walkG (callR P C dr n fk) s.f s.tp (tvs s.ts x++[.v (clo g)]) s.rs post)):SpecCOK P s [clo g]:=by
 intro x post hp w S T us h1 h2 h3 h4
 have e:tpArg T us++[clo g]=tpArg T (us++[clo g]):=by
  unfold tpArg
  split<;>simp
 rw[e]
 refine walkG_ok (callR_ok hR hdr n fk) (h x post hp).h h1 h2 (by simp[h3,tvs_len]) λi d u hd hu=> ?_
 by_cases hi:i<us.length
 ·rw[List.getElem?_append_left hi] at hu
  rw[List.getElem?_append_left (by rw[tvs_len];omega)] at hd
  exact h4 i d u hd hu
 ·have hi':(tvs s.ts x).length<=i:=by rw[tvs_len];omega
  rw[List.getElem?_append_right hi'] at hd
  rw[List.getElem?_append_right (by omega)] at hu
  have e2:i-(tvs s.ts x).length=i-us.length:=by rw[tvs_len,h3]
  rw[e2] at hd
  match hq:i-us.length,hd,hu with
  |0,hd,hu=>
   simp at hd hu
   subst hd hu
   exact .v _
  |k+1,hd,hu=>simp at hd
def pval_P (a:api_Region)(post:Bool->Prop):Prop:=∀q:Bool,(q=true↔validP a.1)->post q
def pval_sp:Spec:=⟨120,false,false,[.st .api_Region],.dat (.bool),λx post=>pval_P (x.1:api_Region) (λy0=>post (y0,()))⟩
def pval_C:CtxR:=⟨tau,[rule1 pcan_sp,rule1 peqr_sp],lookJ [(0,1000003,⟨[(2,.dat .bool)],[],[12,13,14,15,16,17],[],[]⟩),(1072672813,0,⟨[(0,.dat (.int .i64))],[],[],[],[]⟩),(1072672813,5,⟨[(8,.dat (.int .i64))],[],(List.range' 9 8++[5,18]),[],[]⟩)]⟩
def pval_W (a:api_Region)(post:Bool->Prop):Prop:=(↑a.1.length:Int)<=9223372036854775807->JOIN [Ty.bool] (λ(y1:Bool)=>IFB (decide ((120:Int)<(↑a.1.length:Int))||y1) (post false) (JOIN [Ty.bool] (λ(y2:Bool)=>post y2) λ(J3:Bool->Prop)=>((∀(v4:api_Rect),v4∈a.1->0<=v4.1/\v4.1<v4.3/\v4.3<=16384/\0<=v4.2/\v4.2<v4.4/\v4.4<=16384)/\a.1.length<=10000)/\(canonF (cov a.1)).length<=1000000000/\∀(v5:Bool),(v5=true↔canonF (cov a.1)=a.1)->J3 v5)) λ(J6:Bool->Prop)=>IFB (gx false (decide ((120:Int)<(↑a.1.length:Int)))) (JOIN [Ty.int IntKind.i64] (λ(y7:Int)=>J6 (decide ((0:Int)<=y7))) λ(J8:Int->Prop)=>(↑a.1.length:Int)<=9223372036854775807->LOOP [Ty.int IntKind.i64] (λ(rec9:Int->Prop) (z10:Int)=>IFB (decide (z10<(↑a.1.length:Int))) (((0:Int)<=z10/\z10<(↑a.1.length:Int))/\IFB (!(decide ((0:Int)<=(ix a.1 z10).1)&&decide ((ix a.1 z10).1<(ix a.1 z10).3)&&decide ((ix a.1 z10).3<=16384)&&decide ((0:Int)<=(ix a.1 z10).2)&&decide ((ix a.1 z10).2<(ix a.1 z10).4)&&decide ((ix a.1 z10).4<=16384))) (J8 z10) (rec9 (IntKind.i64.wrap (z10+1)))) (J8 (-1:Int))) ((0:Int),PUnit.unit)) (J6 false)
theorem pval_w (a:api_Region)(post:dens (shT pval_sp.rs [])->Prop):pval_W a (λy0=>post (y0,()))=walkG (callR Tryz.prog pval_C (drawR Tryz.prog tau) 10 0) 120 false [tv (.st .api_Region) a] pval_sp.rs post:=by kernel_rfl
theorem pval_of (h:∀a post,pval_P a post->pval_W a post):SpecOK Tryz.prog pval_sp:=SpecOK.of_rules (C:=pval_C) (dr:=drawR Tryz.prog tau) (n:=10) (fk:=0) (.cons (rule1_ok pcan_ok) (.cons (rule1_ok peqr_ok) .nil)) (drawR_ok tau) λx post hp=>HoldW.of (pval_w x.1 post) (h x.1 (λy0=>post (y0,())) hp)
theorem pval_ok:SpecOK Tryz.prog pval_sp:=pval_of λa post hp=>by
 obtain⟨l⟩:=a
 unfold pval_P at hp
 unfold pval_W
 dsimp only at hp ⊢
 intro _
 refine JOIN.opq λ(J:Bool->Prop) hJ=> ?_
 refine IFB.mk (λhb=> ?_) (λhb=> ?_)
 ·have hb:(!decide ((120:Int)<l.length))=true:=hb
  have hb:decide ((120:Int)<l.length)=false:=by simpa using hb
  have hle:=of_decide_eq_false hb
  refine JOIN.opq λ(J8:Int->Prop) hJ8=> ?_
  intro _
  refine loopCmp (n:=l.length) (by omega) (p:=λj=>proper (ix l (j:Int))) (λrec k hk hpre hrec=>⟨by omega,IFB.mk (λhb2=> ?_) (λhb2=>hrec ?_)⟩) λhall=> ?_
  ·rw[hJ8]
   show J (decide (0<=(k:Int)))
   rw[decide_eq_true (by omega:(0:Int)<=k),hJ]
   dsimp only
   refine IFB.mk (λ_=>hp _ ?_) (λh=> ?_)
   ·constructor
    ·intro h;cases h
    ·intro h
     have:=properB_iff.2 (h.2.1 _ (ix_mem (l:=l) (i:=(k:Int)) (by omega) (by omega)))
     unfold properB at this
     rw[this] at hb2
     cases hb2
   ·rw[Bool.or_true] at h;cases h
  ·exact properB_iff.1 (by unfold properB;simpa using hb2)
  ·have hall:=all_ix hall
   rw[hJ8]
   show J (decide (0<=(-1:Int)))
   have hm:decide (0<=(-1:Int))=false:=rfl
   rw[hm,hJ]
   dsimp only
   rw[hb]
   refine IFB.mk (λh=>by cases h) (λ_=> ?_)
   refine JOIN.opq λ(J3:Bool->Prop) hJ3=> ?_
   have:=cov_len hall
   refine⟨⟨hall,by omega⟩,by omega,λq hq=> ?_⟩
   rw[hJ3]
   refine hp q (hq.trans ⟨λh=>⟨by omega,hall,(canon_iff l).1 h⟩,λh=>(canon_iff l).2 h.2.2⟩)
 ·have hb:(!decide ((120:Int)<l.length))=false:=hb
  have hb:decide ((120:Int)<l.length)=true:=by simpa using hb
  rw[hJ]
  dsimp only
  rw[hb]
  refine IFB.mk (λ_=>hp _ ?_) (λh=>by cases h)
  have hb:=of_decide_eq_true hb
  constructor
  ·intro h;cases h
  ·intro h;have:=h.1;omega
namespace PL
def edgL (l:List Sp):List Int:=l.flatMap λs=>[s.Left,s.Right]
noncomputable def mergeS (h:Int) (A B:List Sp):List Sp:=spansOf (λx=>howS h (insS A x) (insS B x)) (uniqI (edgL (A++B)))
end PL
theorem insS_iff {l:List Sp}{x:Int}:insS l x=true↔inSp l x:=by
 unfold insS inSp
 simp[List.any_eq_true]
theorem edgL_len {l:List Sp}:(edgL l).length=2 * l.length:=by
 induction l with
 |nil=>rfl
 |cons r l ih=>
  have e:edgL (r::l)=r.Left::r.Right::edgL l:=rfl
  rw[e];simp only[List.length_cons,ih];omega
theorem edgL_mem {l:List Sp}{x:Int}:x∈uniqI (edgL l)↔∃s∈l,x=s.Left\/x=s.Right:=by
 rw[(uniqI_ok _).2]
 unfold edgL;simp
theorem insS_cols {l:List Sp}{x u:Int}(hux:u<=x)(hm:∀s∈l,(s.Left<=x->s.Left<=u)/\(s.Right<=x->s.Right<=u)):insS l x=insS l u:=by
 refine bool_iff ?_
 rw[insS_iff,insS_iff]
 constructor
 ·rintro ⟨r,hr,h1,h2⟩
  have h1:r.Left<=x:=h1
  have h2:x<r.Right:=h2
  exact⟨r,hr,(hm r hr).1 h1,by show u<r.Right;omega⟩
 ·rintro ⟨r,hr,h1,h2⟩
  have h1:r.Left<=u:=h1
  have h2:u<r.Right:=h2
  refine⟨r,hr,by show r.Left<=x;omega,?_⟩
  rcases Int.lt_or_le x r.Right with h|h
  ·exact h
  ·have:=(hm r hr).2 h;omega
theorem mergeS_ok (h:Int)(A B:List Sp):SpOK (mergeS h A B)/\∀x,inSp (mergeS h A B) x↔howS h (insS A x) (insS B x)=true:=by
 have c1:=(uniqI_ok (edgL (A++B))).1
 have c2:=λx=>edgL_mem (l:=A++B) (x:=x)
 obtain⟨h1,h2⟩:=spansOf_ok (p:=λx=>howS h (insS A x) (insS B x)) c1
 have hin:∀x,howS h (insS A x) (insS B x)=true->∃s∈A++B,s.Left<=x/\x<s.Right:=λx hx=>by
  cases ha:insS A x with
  |true=>
   obtain⟨s,hs,q1,q2⟩:=insS_iff.1 ha
   exact⟨s,by simp[hs],q1,q2⟩
  |false=>
   cases hb:insS B x with
   |true=>
    obtain⟨s,hs,q1,q2⟩:=insS_iff.1 hb
    exact⟨s,by simp[hs],q1,q2⟩
   |false=>rw[ha,hb,howS_0] at hx;cases hx
 refine⟨h1,λx=> ?_⟩
 unfold mergeS
 rw[h2]
 refine edges_set (f:=λx=>howS h (insS A x) (insS B x)) c1 (λx hx=> ?_) (λx hx=> ?_) (λu x hu hux hm=> ?_) x
 ·obtain⟨r,hr,h3,h4⟩:=hin x hx
  exact⟨r.Left,(c2 _).2 ⟨r,hr,.inl rfl⟩,h3⟩
 ·obtain⟨r,hr,h3,h4⟩:=hin x hx
  exact⟨r.Right,(c2 _).2 ⟨r,hr,.inr rfl⟩,h4⟩
 ·have hm':∀r∈A++B,(r.Left<=x->r.Left<=u)/\(r.Right<=x->r.Right<=u):=λr hr=>⟨hm _ ((c2 _).2 ⟨r,hr,.inl rfl⟩),hm _ ((c2 _).2 ⟨r,hr,.inr rfl⟩)⟩
  show howS h (insS A x) (insS B x)=howS h (insS A u) (insS B u)
  rw[insS_cols hux (λr hr=>hm' r (by simp[hr])),insS_cols hux (λr hr=>hm' r (by simp[hr]))]
theorem rowS_ins {l:List Rc}{u x:Int}:insS (rowS l u) x=cov l x u:=by
 refine bool_iff ?_
 rw[insS_iff]
 have h:=(comb_row (howS_0 1) (a:=l) (b:=[]) (y:=u)).2 x
 rw[comb_or_nil,List.append_nil] at h
 exact h
theorem choose_build (h:Int)(l m:List Rc):canonF (comb (howS h) l m)=flat (buildG (λy=>mergeS h (rowS l y) (rowS m y)) [] (cutsS (l++m))):=
 (comb_build (howS_0 h) (a:=l) (b:=m) (R:=λy=>mergeS h (rowS l y) (rowS m y)) λu hu=>⟨(mergeS_ok h _ _).1,λx=>by
  rw[(mergeS_ok h _ _).2,rowS_ins,rowS_ins];rfl⟩).2.2
theorem edg_in {l:List Sp}{A:List Int}{K:List Int->Prop}(hl:A.length+2 * l.length<=100000)(hK:K (A++edgL l)):
 LOOP [Ty.int IntKind.i64,(Ty.int IntKind.i64).sl] (λ(rec4:Int->List Int->Prop) (z5:Int) (z6:List Int)=>IFB (decide (z5<(↑l.length:Int))) (((0:Int)<=z5/\z5<(↑l.length:Int))/\(z6.length+[(ix l z5).1,(ix l z5).2].length) * 8<=140737488355328/\rec4 (IntKind.i64.wrap (z5+(1:Int))) (z6++[(ix l z5).1,(ix l z5).2])) (K z6)) ((0:Int),A,PUnit.unit):=by
 refine LOOP.list l (λk (s:List Int)=>((k:Int),s,())) (λu=>Int.toNat u.1) (λk r (s:List Int)=>s++edgL r=A++edgL l/\s.length=A.length+2 * k) A rfl ⟨rfl,by omega⟩ (λk s h=>by simp) ?_ ?_
 ·intro rec k x r s hd hk hkl ⟨g1,g2⟩ hrec
  have hx:=ix_of hk
  show IFB _ _ _
  refine IFB.mk (λ_=>⟨by show 0<=(k:Int)/\(k:Int)<l.length;omega,?_⟩) (λh=>absurd (of_decide_eq_false h) (by show ¬¬((k:Int)<l.length);omega))
  dsimp only
  rw[hx]
  refine⟨by simp only[List.length_cons,List.length_nil];omega,?_⟩
  rw[wrapS (by omega)]
  refine hrec _ ⟨?_,?_⟩
  ·rw[<-g1]
   have e:edgL (x::r)=x.Left::x.Right::edgL r:=rfl
   rw[e];simp
  ·simp only[List.length_append,List.length_cons,List.length_nil];omega
 ·intro rec s ⟨g1,g2⟩
  show IFB _ _ _
  refine IFB.mk (λh=>absurd (of_decide_eq_true h) (by show ¬((l.length:Int)<l.length);omega)) (λ_=> ?_)
  have g1:s=A++edgL l:=by simpa [edgL] using g1
  show K s
  rw[g1];exact hK
theorem howS_3 (a b:Bool):howS 3 a b=(a&& !b):=by unfold howS;simp
def krange_P (lo:Int)(hi:Int)(post:Int->Prop):Prop:=(-1099511627776<=lo/\lo<=1099511627776/\ -1099511627776<=hi/\hi<=1099511627776)/\∀r:Int,lo<=r->(r<=hi\/r=lo)->post r
def krange_sp:Spec:=⟨72,true,true,[.int .i64,.int .i64],.dat (.int .i64),λx post=>krange_P (x.1:Int) (x.2.1:Int) (λy0=>post (y0,()))⟩
def krange_C:CtxR:=⟨tau,[rule1 knext_sp],lookJ []⟩
def krange_W (lo:Int)(hi:Int)(post:Int->Prop):Prop:=IntKind.i64.wrap (IntKind.i64.wrap (hi-lo)+1)<=9223372036854775807/\∀(v1:Int),0<=v1->v1<IntKind.i64.wrap (IntKind.i64.wrap (hi-lo)+1)\/v1=0->post (IntKind.i64.wrap (lo+v1))
theorem krange_w (lo:Int)(hi:Int)(post:dens (shT krange_sp.rs [])->Prop):krange_W lo hi (λy0=>post (y0,()))=walkG (callR Tryz.prog krange_C (drawR Tryz.prog tau) 8 0) 72 true [tv (.int .i64) lo,tv (.int .i64) hi] krange_sp.rs post:=by kernel_rfl
theorem krange_of (h:∀lo hi post,krange_P lo hi post->krange_W lo hi post):SpecOK Tryz.prog krange_sp:=SpecOK.of_rules (C:=krange_C) (dr:=drawR Tryz.prog tau) (n:=8) (fk:=0) (.cons (rule1_ok knext_ok) .nil) (drawR_ok tau) λx post hp=>HoldW.of (krange_w x.1 x.2.1 post) (h x.1 x.2.1 (λy0=>post (y0,())) hp)
theorem krange_ok:SpecOK Tryz.prog krange_sp:=krange_of λlo hi post hp=>by
 obtain⟨⟨h1,h2,h3,h4⟩,hp⟩:=hp
 unfold krange_W
 have w1:IntKind.i64.wrap (hi-lo)=hi-lo:=wrap_in (by omega) (by omega)
 have w2:IntKind.i64.wrap (hi-lo+1)=hi-lo+1:=wrap_in (by omega) (by omega)
 rw[w1,w2]
 refine⟨by omega,λv a b=> ?_⟩
 rw[wrap_in (by omega) (by omega)]
 exact hp _ (by omega) (by omega)
def kone_P (n:Int)(post:Bool->Prop):Prop:=n<=1099511627776/\∀b:Bool,post b
def kone_sp:Spec:=⟨39,true,true,[.int .i64],.dat (.bool),λx post=>kone_P (x.1:Int) (λy0=>post (y0,()))⟩
def kone_C:CtxR:=⟨tau,[rule1 knext_sp],lookJ []⟩
def kone_W (n:Int)(post:Bool->Prop):Prop:=n<=9223372036854775807/\∀(v1:Int),0<=v1->v1<n\/v1=0->post (decide (v1=IntKind.i64.wrap (n-1)))
theorem kone_w (n:Int)(post:dens (shT kone_sp.rs [])->Prop):kone_W n (λy0=>post (y0,()))=walkG (callR Tryz.prog kone_C (drawR Tryz.prog tau) 8 0) 39 true [tv (.int .i64) n] kone_sp.rs post:=by kernel_rfl
theorem kone_of (h:∀n post,kone_P n post->kone_W n post):SpecOK Tryz.prog kone_sp:=SpecOK.of_rules (C:=kone_C) (dr:=drawR Tryz.prog tau) (n:=8) (fk:=0) (.cons (rule1_ok knext_ok) .nil) (drawR_ok tau) λx post hp=>HoldW.of (kone_w x.1 post) (h x.1 (λy0=>post (y0,())) hp)
theorem kone_ok:SpecOK Tryz.prog kone_sp:=kone_of λn post hp=>by
 obtain⟨h1,hp⟩:=hp
 exact⟨by omega,λv a b=>hp _⟩
def krect_P (n:Int)(post:api_Rect->Prop):Prop:=(1<=n/\n<=16384)/\∀r:api_Rect,(proper r/\r.Right<=n/\r.High<=n)->post r
def krect_sp:Spec:=⟨73,true,true,[.int .i64],.dat (.st .api_Rect),λx post=>krect_P (x.1:Int) (λy0=>post (y0,()))⟩
def krect_C:CtxR:=⟨tau,[rule1 knext_sp],lookJ []⟩
def krect_W (n:Int)(post:api_Rect->Prop):Prop:=n<=9223372036854775807/\∀(v1:Int),0<=v1->v1<n\/v1=0->n<=9223372036854775807/\∀(v2:Int),0<=v2->v2<n\/v2=0->IntKind.i64.wrap (n-v1)<=9223372036854775807/\∀(v3:Int),0<=v3->v3<IntKind.i64.wrap (n-v1)\/v3=0->IntKind.i64.wrap (n-v2)<=9223372036854775807/\∀(v4:Int),0<=v4->v4<IntKind.i64.wrap (n-v2)\/v4=0->post (⟨v1,v2,IntKind.i64.wrap (IntKind.i64.wrap (v1+1)+v3),IntKind.i64.wrap (IntKind.i64.wrap (v2+1)+v4)⟩:api_Rect)
theorem krect_w (n:Int)(post:dens (shT krect_sp.rs [])->Prop):krect_W n (λy0=>post (y0,()))=walkG (callR Tryz.prog krect_C (drawR Tryz.prog tau) 8 0) 73 true [tv (.int .i64) n] krect_sp.rs post:=by kernel_rfl
theorem krect_of (h:∀n post,krect_P n post->krect_W n post):SpecOK Tryz.prog krect_sp:=SpecOK.of_rules (C:=krect_C) (dr:=drawR Tryz.prog tau) (n:=8) (fk:=0) (.cons (rule1_ok knext_ok) .nil) (drawR_ok tau) λx post hp=>HoldW.of (krect_w x.1 post) (h x.1 (λy0=>post (y0,())) hp)
theorem valid_nil:validP []:=⟨by simp,λr h=>(by cases h),canon_nil⟩
theorem canon_one {r:Rc}(h:proper r):Canon [r]:=by
 obtain⟨p1,p2,p3,p4,p5,p6⟩:=h
 refine⟨[⟨r.Low,r.High,[⟨r.Left,r.Right⟩]⟩],⟨λb hb=> ?_,List.pairwise_singleton _ _,?_⟩,rfl⟩
 ·rw[List.mem_singleton] at hb
  subst hb
  exact⟨p5,by simp,λs hs=>by rw[List.mem_singleton] at hs;subst hs;exact p2,List.pairwise_singleton _ _⟩
 ·first|exact List.pairwise_singleton _ _|exact trivial|(intro i;simp)
theorem canon_proper {l:List Rc}(h:Canon l){n m:Int}(hn:n<=16384)(hm:m<=16384)(hb:∀x y,cov l x y=true->0<=x/\x<n/\0<=y/\y<m):∀r∈l,proper r:=λr hr=>by
 obtain⟨q1,q2,q3,q4,q5,q6⟩:=canon_box h hb r hr
 exact⟨q1,q2,by omega,q4,q5,by omega⟩
theorem ofS_valid {l:List Rc}{n:Int}(hn:n<=16384)(h:∀r∈l,proper r/\r.Right<=n/\r.High<=n):validP (ofS l).1/\∀x y,cov (ofS l).1 x y=true->x<n/\y<n:=by
 unfold ofS
 have hnil:validP ([]:List Rc)/\∀x y,cov ([]:List Rc) x y=true->x<n/\y<n:=⟨valid_nil,λx y h=>by simp[cov_nil] at h⟩
 split
 ·exact hnil
 ·split
  ·exact hnil
  ·split
   ·exact hnil
   ·rename_i h3
    have hc:=canon_cov l
    have hb:∀x y,cov (canonF (cov l)) x y=true->0<=x/\x<n/\0<=y/\y<n:=λx y hxy=>by
     rw[hc.2] at hxy
     obtain⟨r,hr,q1,q2,q3,q4⟩:=cov_iff.1 hxy
     obtain⟨⟨p1,p2,p3,p4,p5,p6⟩,p7,p8⟩:=h r hr
     omega
    exact⟨⟨by show (canonF (cov l)).length<=120;omega,canon_proper hc.1 hn hn hb,hc.1⟩,λx y hxy=>⟨(hb x y hxy).2.1,(hb x y hxy).2.2.2⟩⟩
theorem krect_ok:SpecOK Tryz.prog krect_sp:=krect_of λn post hp=>by
 obtain⟨⟨h1,h2⟩,hp⟩:=hp
 unfold krect_W
 refine⟨by omega,λv1 a1 b1=>⟨by omega,λv2 a2 b2=> ?_⟩⟩
 have w1:IntKind.i64.wrap (n-v1)=n-v1:=wrap_in (by omega) (by omega)
 have w2:IntKind.i64.wrap (n-v2)=n-v2:=wrap_in (by omega) (by omega)
 rw[w1,w2]
 refine⟨by omega,λv3 a3 b3=>⟨by omega,λv4 a4 b4=> ?_⟩⟩
 rw[wrap_in (z:=v1+1) (by omega) (by omega),wrap_in (z:=v2+1) (by omega) (by omega),wrap_in (z:=v1+1+v3) (by omega) (by omega),wrap_in (z:=v2+1+v4) (by omega) (by omega)]
 refine hp _ ⟨⟨?_,?_,?_,?_,?_,?_⟩,?_,?_⟩<;>dsimp only<;>omega
def kregion_P (n:Int)(m:Int)(post:api_Region->Prop):Prop:=(1<=n/\n<=16384/\0<=m/\m<=100)/\∀a:api_Region,(validP a.1/\∀x y,cov a.1 x y=true->x<n/\y<n)->post a
def kregion_sp:Spec:=⟨74,true,true,[.int .i64,.int .i64],.dat (.st .api_Region),λx post=>kregion_P (x.1:Int) (x.2.1:Int) (λy0=>post (y0,()))⟩
def kregion_C:CtxR:=⟨tau,[rule1 knext_sp,rule1 krect_sp,rule1 rof_sp],lookJ [(0,7,⟨[(8,.dat (.int .i64)),(7,.own 65 (.st .api_Rect))],[],(List.range' 15 10),[],[]⟩)]⟩
def kregion_W (n:Int)(m:Int)(post:api_Region->Prop):Prop:=IntKind.i64.wrap (m+1)<=9223372036854775807/\∀(v1:Int),0<=v1->v1<IntKind.i64.wrap (m+1)\/v1=0->LOOP [Ty.int IntKind.i64,(Ty.st Sn.api_Rect).sl] (λ(rec2:Int->List api_Rect->Prop) (z3:Int) (z4:List api_Rect)=>IFB (decide ((0:Int)<z3)) (((1:Int)<=n/\n<=16384)/\∀(v5:api_Rect),proper v5/\v5.3<=n/\v5.4<=n->(z4.length+[{Left:=v5.1,Low:=v5.2,Right:=v5.3,High:=v5.4:api_Rect}].length) * (32:Nat)<=140737488355328/\rec2 (IntKind.i64.wrap (z3-1)) (z4++[{Left:=v5.1,Low:=v5.2,Right:=v5.3,High:=v5.4:api_Rect}])) (post {Rects:=(ofS z4).1:api_Region})) (v1,[],PUnit.unit)
theorem kregion_w (n:Int)(m:Int)(post:dens (shT kregion_sp.rs [])->Prop):kregion_W n m (λy0=>post (y0,()))=walkG (callR Tryz.prog kregion_C (drawR Tryz.prog tau) 8 0) 74 true [tv (.int .i64) n,tv (.int .i64) m] kregion_sp.rs post:=by kernel_rfl
theorem kregion_of (h:∀n m post,kregion_P n m post->kregion_W n m post):SpecOK Tryz.prog kregion_sp:=SpecOK.of_rules (C:=kregion_C) (dr:=drawR Tryz.prog tau) (n:=8) (fk:=0) (.cons (rule1_ok knext_ok) (.cons (rule1_ok krect_ok) (.cons (rule1_ok rof_ok) .nil))) (drawR_ok tau) λx post hp=>HoldW.of (kregion_w x.1 x.2.1 post) (h x.1 x.2.1 (λy0=>post (y0,())) hp)
def regI (n z:Int)(l:List Rc):Prop:=0<=z/\z+(l.length:Int)<=200/\∀r∈l,proper r/\r.Right<=n/\r.High<=n
theorem kregion_ok:SpecOK Tryz.prog kregion_sp:=kregion_of λn m post hp=>by
 obtain⟨⟨h1,h2,h3,h4⟩,hp⟩:=hp
 unfold kregion_W
 have w1:IntKind.i64.wrap (m+1)=m+1:=wrap_in (by omega) (by omega)
 rw[w1]
 refine⟨by omega,λv a b=> ?_⟩
 refine LOOP.fuel (λu=>regI n u.1 u.2.1) (λu=>Int.toNat u.1) ⟨a,by show v+(([]:List Rc).length:Int)<=200;simp only[List.length_nil];omega,λr hr=>(by cases hr)⟩ ?_
 rintro rec ⟨(z:Int),(l:List Rc),⟨⟩⟩ ⟨i1,i2,i3⟩ hrec
 have i1:0<=z:=i1
 have i2:z+(l.length:Int)<=200:=i2
 refine IFB.mk (λhb=>⟨⟨h1,h2⟩,λr hr=>⟨by simp only[List.length_cons,List.length_nil];omega,?_⟩⟩) (λhb=> ?_)
 ·have hb:0<z:=of_decide_eq_true hb
  rw[wrap_in (by omega) (by omega)]
  refine hrec (z-1,_,()) ⟨?_,?_,?_⟩ (by show (z-1).toNat<z.toNat;omega)
  ·show 0<=z-1;omega
  ·show z-1+(List.length (l++_):Int)<=200
   simp only[List.length_append,List.length_cons,List.length_nil];omega
  ·intro q hq
   rcases List.mem_append.1 hq with hq|hq
   ·exact i3 q hq
   ·rw[List.mem_singleton] at hq
    subst hq
    exact hr
 ·exact hp ⟨(ofS l).1⟩ (ofS_valid h2 i3)
def rcombO_P (a:List (api_Rect))(b:List (api_Rect))(h:Int)(post:List (api_Rect)->Prop):Prop:=(a.length<=1000/\b.length<=1000)/\post (canonF (comb (howS h) a b))
def rcombO_sp:Spec:=⟨80,false,true,[.sl (.st .api_Rect),.sl (.st .api_Rect),.int .i64],.own 65 (.st .api_Rect),λx post=>rcombO_P (x.1:List (api_Rect)) (x.2.1:List (api_Rect)) (x.2.2.1:Int) (λy0=>post (y0,()))⟩
def rcombO_C:CtxR:=⟨tau,[rule1 rput_sp,rule1 rins_sp,rule1 rsm_sp],lookJ [(0,27,⟨[(15,.dat (.int .i64)),(14,.own 65 (.st .api_Rect)),(13,.own 65 (.st .api_Rect))],[],(List.range' 50 124++[16,17,18,19]),[],[]⟩),(0,28,⟨[(14,.own 65 (.st .api_Rect)),(13,.own 65 (.st .api_Rect))],[],(List.range' 57 117++[16,17,18,19]),[2,1],[]⟩),(0,53,⟨[(157,.dat (.int .i64))],[],(List.range' 158 12++[19]),[],[(1,65,(.st .api_Rect))]⟩),(0,35,⟨[(17,.dat (.int .i64)),(16,.own 65 (.st .api_Rect))],[],(List.range' 57 79++[18]),[],[]⟩),(0,36,⟨[(16,.own 65 (.st .api_Rect))],[],(List.range' 64 72++[18]),[3],[]⟩),(0,1000023,⟨[(16,.own 65 (.st .api_Rect))],[],(List.range' 114 22),[3],[]⟩),(0,1000019,⟨[(86,.dat .bool)],[],(List.range' 64 22),[],[]⟩),(19421,0,⟨[(0,.dat .bool)],[],[],[],[]⟩),(0,7,⟨[(24,.dat (.int .i64)),(8,.dat (.sl (.int .i64))),(7,.dat (.sl (.int .i64)))],[],(List.range' 25 25++[10,12]),[],[]⟩),(0,13,⟨[(30,.dat (.int .i64)),(8,.dat (.sl (.int .i64))),(7,.dat (.sl (.int .i64)))],[],(List.range' 31 18++[12]),[],[]⟩),(0,1000008,⟨[(8,.dat (.sl (.int .i64))),(7,.dat (.sl (.int .i64)))],[],(List.range' 34 14),[],[]⟩)]⟩
def rcombO_W (a:List (api_Rect))(b:List (api_Rect))(h:Int)(post:List (api_Rect)->Prop):Prop:=(↑[a,b].length:Int)<=9223372036854775807->LOOP [Ty.int IntKind.i64,(Ty.int IntKind.i64).sl,(Ty.int IntKind.i64).sl] (λ(rec1:Int->List Int->List Int->Prop) (z2:Int) (z3 z4:List Int)=>IFB (decide (z2<(↑[a,b].length:Int))) (((0:Int)<=z2/\z2<(↑[a,b].length:Int))/\((↑(ix [a,b] z2).length:Int)<=9223372036854775807->LOOP [Ty.int IntKind.i64,(Ty.int IntKind.i64).sl,(Ty.int IntKind.i64).sl] (λ(rec5:Int->List Int->List Int->Prop) (z6:Int) (z7 z8:List Int)=>IFB (decide (z6<(↑(ix [a,b] z2).length:Int))) (((0:Int)<=z6/\z6<(↑(ix [a,b] z2).length:Int))/\JOIN [(Ty.int IntKind.i64).sl,(Ty.int IntKind.i64).sl] (λ(y9 y10:List Int)=>rec5 (IntKind.i64.wrap (z6+1)) y9 y10) λ(J11:List Int->List Int->Prop)=>z8.length<=1000000/\(putS (ix (ix [a,b] z2) z6).1 z8).length<=1000000/\z7.length<=1000000/\(putS (ix (ix [a,b] z2) z6).2 z7).length<=1000000/\J11 (putS (ix (ix [a,b] z2) z6).4 (putS (ix (ix [a,b] z2) z6).2 z7)) (putS (ix (ix [a,b] z2) z6).3 (putS (ix (ix [a,b] z2) z6).1 z8))) (rec1 (IntKind.i64.wrap (z2+1)) z7 z8)) ((0:Int),z3,z4,PUnit.unit))) (LOOP [Ty.int IntKind.i64,(Ty.st Sn.api_Rect).sl,(Ty.st Sn.api_Rect).sl] (λ(rec12:Int->List api_Rect->List api_Rect->Prop) (z13:Int) (z14 z15:List api_Rect)=>(↑z3.length:Int)<=9223372036854775807->IFB (decide (IntKind.i64.wrap (z13+1)<(↑z3.length:Int))) (JOIN [(Ty.st Sn.api_Rect).sl,(Ty.st Sn.api_Rect).sl] (λ(y16 y17:List api_Rect)=>rec12 (IntKind.i64.wrap (z13+1)) y16 y17) λ(J18:List api_Rect->List api_Rect->Prop)=>LOOP [Ty.int IntKind.i64,(Ty.st Sn.api_Rect).sl] (λ(rec19:Int->List api_Rect->Prop) (z20:Int) (z21:List api_Rect)=>(↑z4.length:Int)<=9223372036854775807->IFB (decide (IntKind.i64.wrap (z20+1)<(↑z4.length:Int))) (JOIN [(Ty.st Sn.api_Rect).sl] (λ(y22:List api_Rect)=>rec19 (IntKind.i64.wrap (z20+1)) y22) λ(J23:List api_Rect->Prop)=>JOIN [Ty.bool] (λ(y24:Bool)=>IFB y24 (J23 z21) ((↑z21.length:Int)<=9223372036854775807->(gx true (decide ((0:Int)<(↑z21.length:Int)))=true->0<=IntKind.i64.wrap ((↑z21.length:Int)-1)/\IntKind.i64.wrap ((↑z21.length:Int)-1)<(↑z21.length:Int))/\(gx true (decide ((0:Int)<(↑z21.length:Int)))=true->0<=z20/\z20<(↑z4.length:Int))/\IFB (decide ((0:Int)<(↑z21.length:Int))&&decide ((ix z21 (IntKind.i64.wrap ((↑z21.length:Int)-1))).3=ix z4 z20)) (((0:Int)<=IntKind.i64.wrap (z20+1)/\IntKind.i64.wrap (z20+1)<(↑z4.length:Int))/\((0:Int)<=IntKind.i64.wrap ((↑z21.length:Int)-1)/\IntKind.i64.wrap ((↑z21.length:Int)-1)<(↑z21.length:Int))/\J23 (z21.set (IntKind.i64.wrap ((↑z21.length:Int)-1)).toNat (⟨(ix z21 (IntKind.i64.wrap ((↑z21.length:Int)-1))).1,(ix z21 (IntKind.i64.wrap ((↑z21.length:Int)-1))).2,ix z4 (IntKind.i64.wrap (z20+1)),(ix z21 (IntKind.i64.wrap ((↑z21.length:Int)-1))).4⟩:api_Rect))) (JOIN [(Ty.st Sn.api_Rect).sl] (λ(y25:List api_Rect)=>J23 y25) λ(J26:List api_Rect->Prop)=>((0:Int)<=z20/\z20<(↑z4.length:Int))/\((0:Int)<=z13/\z13<(↑z3.length:Int))/\((0:Int)<=IntKind.i64.wrap (z20+1)/\IntKind.i64.wrap (z20+1)<(↑z4.length:Int))/\((0:Int)<=IntKind.i64.wrap (z13+1)/\IntKind.i64.wrap (z13+1)<(↑z3.length:Int))/\(z21.length+[(⟨ix z4 z20,ix z3 z13,ix z4 (IntKind.i64.wrap (z20+1)),ix z3 (IntKind.i64.wrap (z13+1))⟩:api_Rect)].length) * (32:Nat)<=140737488355328/\J26 (z21++[(⟨ix z4 z20,ix z3 z13,ix z4 (IntKind.i64.wrap (z20+1)),ix z3 (IntKind.i64.wrap (z13+1))⟩:api_Rect)])))) λ(J27:Bool->Prop)=>((0:Int)<=z20/\z20<(↑z4.length:Int))/\((0:Int)<=z13/\z13<(↑z3.length:Int))/\((0:Int)<=z20/\z20<(↑z4.length:Int))/\((0:Int)<=z13/\z13<(↑z3.length:Int))/\a.length<=1000000/\b.length<=1000000/\JOIN [Ty.bool] (λ(y28:Bool)=>J27 !y28) λ(J29:Bool->Prop)=>IFB (decide (h=1)) (J29 (cov a (ix z4 z20) (ix z3 z13)||cov b (ix z4 z20) (ix z3 z13))) (IFB (decide (h=2)) (J29 (cov a (ix z4 z20) (ix z3 z13)&&cov b (ix z4 z20) (ix z3 z13))) (J29 (cov a (ix z4 z20) (ix z3 z13)&& !cov b (ix z4 z20) (ix z3 z13))))) ((↑z14.length:Int)<=9223372036854775807->JOIN [Ty.bool] (λ(y30:Bool)=>(gx true (decide ((0:Int)<(↑z14.length:Int))&&y30)=true->Int.NonNeg 0/\0<(↑z14.length:Int))/\(gx true (decide ((0:Int)<(↑z14.length:Int))&&y30)=true->0<=z13/\z13<(↑z3.length:Int))/\IFB (decide ((0:Int)<(↑z14.length:Int))&&y30&&decide ((ix z14 0).4=ix z3 z13)) ((↑z14.length:Int)<=9223372036854775807->LOOP [Ty.int IntKind.i64,(Ty.st Sn.api_Rect).sl] (λ(rec31:Int->List api_Rect->Prop) (z32:Int) (z33:List api_Rect)=>IFB (decide (z32<(↑z14.length:Int))) (((0:Int)<=IntKind.i64.wrap (z13+1)/\IntKind.i64.wrap (z13+1)<(↑z3.length:Int))/\((0:Int)<=z32/\z32<(↑z33.length:Int))/\rec31 (IntKind.i64.wrap (z32+1)) (z33.set z32.toNat (⟨(ix z33 z32).1,(ix z33 z32).2,(ix z33 z32).3,ix z3 (IntKind.i64.wrap (z13+1))⟩:api_Rect))) (J18 z33 z15)) ((0:Int),z14,PUnit.unit)) ((z15.length+z14.length) * (32:Nat)<=140737488355328/\J18 z21 (z15++z14))/\IFB (decide ((0:Int)<(↑z14.length:Int))&&y30&&decide ((ix z14 0).4=ix z3 z13)) ((↑z14.length:Int)<=9223372036854775807->LOOP [Ty.int IntKind.i64,(Ty.st Sn.api_Rect).sl] (λ(rec34:Int->List api_Rect->Prop) (z35:Int) (z36:List api_Rect)=>IFB (decide (z35<(↑z14.length:Int))) (((0:Int)<=IntKind.i64.wrap (z13+1)/\IntKind.i64.wrap (z13+1)<(↑z3.length:Int))/\((0:Int)<=z35/\z35<(↑z36.length:Int))/\rec34 (IntKind.i64.wrap (z35+1)) (z36.set z35.toNat (⟨(ix z36 z35).1,(ix z36 z35).2,(ix z36 z35).3,ix z3 (IntKind.i64.wrap (z13+1))⟩:api_Rect))) (J18 z36 z15)) ((0:Int),z14,PUnit.unit)) ((z15.length+z14.length) * (32:Nat)<=140737488355328/\J18 z21 (z15++z14))) λ(J37:Bool->Prop)=>IFB (gx true (decide ((0:Int)<(↑z14.length:Int)))) (z14.length<=100000000/\∀(v38:Bool),(v38=true↔List.map spanOf z14=List.map spanOf z21)->J37 v38) (J37 false))) ((0:Int),[],PUnit.unit)) ((z15.length+z14.length) * (32:Nat)<=140737488355328/\post (z15++z14))) ((0:Int),[],[],PUnit.unit))) ((0:Int),[],[],PUnit.unit)
theorem rcombO_w (a:List (api_Rect))(b:List (api_Rect))(h:Int)(post:dens (shT rcombO_sp.rs [])->Prop):rcombO_W a b h (λy0=>post (y0,()))=walkG (callR Tryz.prog rcombO_C (drawR Tryz.prog tau) 8 0) 80 false [tv (.sl (.st .api_Rect)) a,tv (.sl (.st .api_Rect)) b,tv (.int .i64) h] rcombO_sp.rs post:=by kernel_rfl
theorem rcombO_of (h:∀a b h post,rcombO_P a b h post->rcombO_W a b h post):SpecOK Tryz.prog rcombO_sp:=SpecOK.of_rules (C:=rcombO_C) (dr:=drawR Tryz.prog tau) (n:=8) (fk:=0) (.cons (rule1_ok rput_ok) (.cons (rule1_ok rins_ok) (.cons (rule1_ok rsm_ok) .nil))) (drawR_ok tau) λx post hp=>HoldW.of (rcombO_w x.1 x.2.1 x.2.2.1 post) (h x.1 x.2.1 x.2.2.1 (λy0=>post (y0,())) hp)
theorem rcombO_ok:SpecOK Tryz.prog rcombO_sp:=rcombO_of rcomb_main
def rofO_P (l:List (api_Rect))(post:List (api_Rect)->Int->Prop):Prop:=post (ofS l).1 (ofS l).2
def rofO_sp:Spec:=⟨36,false,true,[.sl (.st .api_Rect)],.tup [.agg [.own 65 (.st .api_Rect)],.dat (.int .i64)],λx post=>rofO_P (x.1:List (api_Rect)) (λy0 y1=>post (y0,y1,()))⟩
def rofO_C:CtxR:=⟨tau,[rule1 rcombO_sp],lookJ [(9192,0,⟨[(0,.tup [.agg [.own 65 (.st .api_Rect)],.dat (.int .i64)])],[],[],[1],[]⟩),(0,9,⟨[(12,.dat (.int .i64))],[],[13,14,15,5,16,17,18,20],[],[]⟩)]⟩
def rofO_W (l:List (api_Rect))(post:List (api_Rect)->Int->Prop):Prop:=(↑l.length:Int)<=9223372036854775807->IFB (decide ((120:Int)<(↑l.length:Int))) (post [] 1) ((↑l.length:Int)<=9223372036854775807->LOOP [Ty.int IntKind.i64] (λ(rec1:Int->Prop) (z2:Int)=>IFB (decide (z2<(↑l.length:Int))) (((0:Int)<=z2/\z2<(↑l.length:Int))/\IFB (!(decide ((0:Int)<=(ix l z2).1)&&decide ((ix l z2).1<(ix l z2).3)&&decide ((ix l z2).3<=16384)&&decide ((0:Int)<=(ix l z2).2)&&decide ((ix l z2).2<(ix l z2).4)&&decide ((ix l z2).4<=16384))) (post [] 2) (rec1 (IntKind.i64.wrap (z2+1)))) ((l.length<=1000/\(0:Nat)<=1000)/\JOIN [(Ty.st Sn.api_Rect).sl,Ty.int IntKind.i64] (λ(y3:List api_Rect) (y4:Int)=>post y3 y4) λ(J5:List api_Rect->Int->Prop)=>(↑(canonF λ(x y:Int)=>howS (1:Int) (cov l x y) (cov [] x y)).length:Int)<=9223372036854775807->IFB (decide ((120:Int)<(↑(canonF λ(x y:Int)=>howS (1:Int) (cov l x y) (cov [] x y)).length:Int))) (J5 [] 1) (J5 (canonF λ(x y:Int)=>howS (1:Int) (cov l x y) (cov [] x y)) 0))) ((0:Int),PUnit.unit))
theorem rofO_w (l:List (api_Rect))(post:dens (shT rofO_sp.rs [])->Prop):rofO_W l (λy0 y1=>post (y0,y1,()))=walkG (callR Tryz.prog rofO_C (drawR Tryz.prog tau) 8 0) 36 false [tv (.sl (.st .api_Rect)) l] rofO_sp.rs post:=by kernel_rfl
theorem rofO_of (h:∀l post,rofO_P l post->rofO_W l post):SpecOK Tryz.prog rofO_sp:=SpecOK.of_rules (C:=rofO_C) (dr:=drawR Tryz.prog tau) (n:=8) (fk:=0) (.cons (rule1_ok rcombO_ok) .nil) (drawR_ok tau) λx post hp=>HoldW.of (rofO_w x.1 post) (h x.1 (λy0 y1=>post (y0,y1,())) hp)
theorem rofO_ok:SpecOK Tryz.prog rofO_sp:=rofO_of rof_main
def kregionO_P (n:Int)(m:Int)(post:List (api_Rect)->Prop):Prop:=(1<=n/\n<=16384/\0<=m/\m<=100)/\∀a:List api_Rect,(validP a/\∀x y,cov a x y=true->x<n/\y<n)->post a
def kregionO_sp:Spec:=⟨74,true,true,[.int .i64,.int .i64],.agg [.own 65 (.st .api_Rect)],λx post=>kregionO_P (x.1:Int) (x.2.1:Int) (λy0=>post (y0,()))⟩
def kregionO_C:CtxR:=⟨tau,[rule1 knext_sp,rule1 krect_sp,rule1 rofO_sp],lookJ [(0,7,⟨[(8,.dat (.int .i64)),(7,.own 65 (.st .api_Rect))],[],(List.range' 15 10),[],[]⟩)]⟩
def kregionO_W (n:Int)(m:Int)(post:List (api_Rect)->Prop):Prop:=IntKind.i64.wrap (m+1)<=9223372036854775807/\∀(v1:Int),0<=v1->v1<IntKind.i64.wrap (m+1)\/v1=0->LOOP [Ty.int IntKind.i64,(Ty.st Sn.api_Rect).sl] (λ(rec2:Int->List api_Rect->Prop) (z3:Int) (z4:List api_Rect)=>IFB (decide ((0:Int)<z3)) (((1:Int)<=n/\n<=16384)/\∀(v5:api_Rect),proper v5/\v5.3<=n/\v5.4<=n->(z4.length+[{Left:=v5.1,Low:=v5.2,Right:=v5.3,High:=v5.4:api_Rect}].length) * (32:Nat)<=140737488355328/\rec2 (IntKind.i64.wrap (z3-1)) (z4++[{Left:=v5.1,Low:=v5.2,Right:=v5.3,High:=v5.4:api_Rect}])) (post (ofS z4).1)) (v1,[],PUnit.unit)
theorem kregionO_w (n:Int)(m:Int)(post:dens (shT kregionO_sp.rs [])->Prop):kregionO_W n m (λy0=>post (y0,()))=walkG (callR Tryz.prog kregionO_C (drawR Tryz.prog tau) 8 0) 74 true [tv (.int .i64) n,tv (.int .i64) m] kregionO_sp.rs post:=by kernel_rfl
theorem kregionO_of (h:∀n m post,kregionO_P n m post->kregionO_W n m post):SpecOK Tryz.prog kregionO_sp:=SpecOK.of_rules (C:=kregionO_C) (dr:=drawR Tryz.prog tau) (n:=8) (fk:=0) (.cons (rule1_ok knext_ok) (.cons (rule1_ok krect_ok) (.cons (rule1_ok rofO_ok) .nil))) (drawR_ok tau) λx post hp=>HoldW.of (kregionO_w x.1 x.2.1 post) (h x.1 x.2.1 (λy0=>post (y0,())) hp)
theorem kregionO_ok:SpecOK Tryz.prog kregionO_sp:=kregionO_of λn m post hp=>by
 obtain⟨⟨h1,h2,h3,h4⟩,hp⟩:=hp
 unfold kregionO_W
 have w1:IntKind.i64.wrap (m+1)=m+1:=wrap_in (by omega) (by omega)
 rw[w1]
 refine⟨by omega,λv a b=> ?_⟩
 refine LOOP.fuel (λu=>regI n u.1 u.2.1) (λu=>Int.toNat u.1) ⟨a,by show v+(([]:List Rc).length:Int)<=200;simp only[List.length_nil];omega,λr hr=>(by cases hr)⟩ ?_
 rintro rec ⟨(z:Int),(l:List Rc),⟨⟩⟩ ⟨i1,i2,i3⟩ hrec
 have i1:0<=z:=i1
 have i2:z+(l.length:Int)<=200:=i2
 refine IFB.mk (λhb=>⟨⟨h1,h2⟩,λr hr=>⟨by simp only[List.length_cons,List.length_nil];omega,?_⟩⟩) (λhb=> ?_)
 ·have hb:0<z:=of_decide_eq_true hb
  rw[wrap_in (by omega) (by omega)]
  refine hrec (z-1,_,()) ⟨?_,?_,?_⟩ (by show (z-1).toNat<z.toNat;omega)
  ·show 0<=z-1;omega
  ·show z-1+(List.length (l++_):Int)<=200
   simp only[List.length_append,List.length_cons,List.length_nil];omega
  ·intro q hq
   rcases List.mem_append.1 hq with hq|hq
   ·exact i3 q hq
   ·rw[List.mem_singleton] at hq
    subst hq
    exact hr
 ·exact hp (ofS l).1 (ofS_valid h2 i3)
def klandO_P (n:Int)(m:Int)(post:List (api_Rect)->Prop):Prop:=(1<=n/\n<=16384/\0<=m/\m<=100)/\∀a:List api_Rect,(validP a/\a≠[]/\∀x y,cov a x y=true->x<n/\y<n)->post a
def klandO_sp:Spec:=⟨30,true,true,[.int .i64,.int .i64],.agg [.own 65 (.st .api_Rect)],λx post=>klandO_P (x.1:Int) (x.2.1:Int) (λy0=>post (y0,()))⟩
def klandO_C:CtxR:=⟨tau,[rule1 kregionO_sp,rule1 krect_sp],lookJ [(0,8,⟨[],[(2,[.own 65 (.st .api_Rect)])],[12,13,14,15,16,17,18,19,20],[1],[]⟩)]⟩
def klandO_W (n:Int)(m:Int)(post:List (api_Rect)->Prop):Prop:=((1:Int)<=n/\n<=16384/\0<=m/\m<=100)/\∀(v1:List api_Rect),(validP v1/\∀(x y:Int),cov v1 x y=true->x<n/\y<n)->JOIN [(Ty.st Sn.api_Rect).sl] (λ(y2:List api_Rect)=>post y2) λ(J3:List api_Rect->Prop)=>(↑v1.length:Int)<=9223372036854775807->IFB (decide ((↑v1.length:Int)=0)) (((1:Int)<=n/\n<=16384)/\∀(v4:api_Rect),proper v4/\v4.3<=n/\v4.4<=n->J3 [{Left:=v4.1,Low:=v4.2,Right:=v4.3,High:=v4.4:api_Rect}]) (J3 v1)
theorem klandO_w (n:Int)(m:Int)(post:dens (shT klandO_sp.rs [])->Prop):klandO_W n m (λy0=>post (y0,()))=walkG (callR Tryz.prog klandO_C (drawR Tryz.prog tau) 8 0) 30 true [tv (.int .i64) n,tv (.int .i64) m] klandO_sp.rs post:=by kernel_rfl
theorem klandO_of (h:∀n m post,klandO_P n m post->klandO_W n m post):SpecOK Tryz.prog klandO_sp:=SpecOK.of_rules (C:=klandO_C) (dr:=drawR Tryz.prog tau) (n:=8) (fk:=0) (.cons (rule1_ok kregionO_ok) (.cons (rule1_ok krect_ok) .nil)) (drawR_ok tau) λx post hp=>HoldW.of (klandO_w x.1 x.2.1 post) (h x.1 x.2.1 (λy0=>post (y0,())) hp)
theorem klandO_ok:SpecOK Tryz.prog klandO_sp:=klandO_of λn m post hp=>by
 obtain⟨hd,hp⟩:=hp
 unfold klandO_W
 refine⟨hd,λl ha=> ?_⟩
 obtain⟨h1,h2⟩:=ha
 refine JOIN.opq λ(J:List Rc->Prop) hJ _=>IFB.mk (λhb=>⟨⟨hd.1,hd.2.1⟩,λr hr=> ?_⟩) (λhb=> ?_)
 ·rw[hJ]
  refine hp [r] ⟨⟨by simp,λq hq=> ?_,canon_one hr.1⟩,by simp,λx y hxy=> ?_⟩
  ·rw[List.mem_singleton] at hq
   subst hq
   exact hr.1
  ·obtain⟨q,hq,q1,q2,q3,q4⟩:=cov_iff.1 hxy
   rw[List.mem_singleton] at hq
   subst hq
   obtain⟨_,p7,p8⟩:=hr
   omega
 ·have hb:¬(l.length:Int)=0:=of_decide_eq_false hb
  rw[hJ]
  exact hp l ⟨h1,λe=>hb (by show (l.length:Int)=0;rw[show l=[] from e];rfl),h2⟩
end RE
end Go.Proofs.YtpeggkeenboacaaGreat
set_option linter.unusedVariables false
namespace Go.Proofs.YtpeggkeenboacaaGreat
open Go.RowKit
namespace RE
open PL
namespace PL
def boxed (p:Int)(l:List Rc):Prop:=Canon l/\∀x y,cov l x y=true->10 * p<=x/\x<10 * p+9/\0<=y/\y<9
def linesOK (a:List api_Line):Prop:=∀x∈a,∃p:Int,0<=p/\p<=2/\boxed p x.Region.Rects
end PL
theorem boxed_len {p:Int}{l:List Rc}(h:boxed p l):l.length<=81:=by
 have:=canon_len h.1 (x0:=10 * p) (x1:=10 * p+9) (y0:=0) (y1:=9) (by omega) (by omega) h.2
 have e:(9-0:Int) * (10 * p+9-10 * p)=81:=by
  rw[show 10 * p+9-10 * p=(9:Int) by omega];rfl
 rw[e] at this
 omega
theorem boxed_and {p:Int}{l:List Rc}{r:Rc}(h1:r.Left=10 * p)(h2:r.Right<=10 * p+9)(h3:0<=r.Low)(h4:r.High<=9):boxed p (canonF (comb (howS 2) l [r])):=by
 obtain⟨c1,c2⟩:=comb_ok (howS_0 2) l [r]
 refine⟨c1,λx y hxy=> ?_⟩
 rw[c2] at hxy
 have:cov [r] x y=true:=by
  unfold comb howS at hxy
  revert hxy
  cases cov l x y<;>cases cov [r] x y<;>simp
 obtain⟨q,hq,q1,q2,q3,q4⟩:=cov_iff.1 this
 rw[List.mem_singleton] at hq
 subst hq
 omega
theorem boxed_not {p:Int}{l m:List Rc}(h:boxed p l):boxed p (canonF (comb (howS 3) l m)):=by
 obtain⟨c1,c2⟩:=comb_ok (howS_0 3) l m
 refine⟨c1,λx y hxy=>h.2 x y ?_⟩
 rw[c2] at hxy
 unfold comb howS at hxy
 revert hxy
 cases cov l x y<;>simp
def regsOK (z4:List api_Region):Prop:=∀j:Nat,j<z4.length->∃r:Rc,(ix z4 (j:Int)).1=[r]/\r.Left=10 * (j:Int)/\r.Right<=10 * (j:Int)+9/\0<=r.Low/\r.High<=9
def parI (v z3:Int)(z4:List api_Region)(z5:List Int):Prop:=0<=z3/\z3+(z5.length:Int)=v/\z4.length=z5.length/\regsOK z4
def linI (m z:Int)(l:List api_Line):Prop:=0<=z/\z+(l.length:Int)<=m/\linesOK l
def shI (n:Nat)(z:Int)(l:List Rc):Prop:=∃k:Nat,z=(k:Int)/\k<=n/\l.length=n
def cutI (n:Nat)(p z:Int)(l:List Rc):Prop:=∃k:Nat,z=(k:Int)/\k<=n/\boxed p l
theorem regs_snoc {z4:List api_Region}{r:Rc}(h:regsOK z4)(h1:r.Left=10 * (z4.length:Int))(h2:r.Right<=10 * (z4.length:Int)+9)(h3:0<=r.Low)(h4:r.High<=9):regsOK (z4++[⟨[r]⟩]):=by
 intro j hj
 by_cases e:j<z4.length
 ·obtain⟨q,g⟩:=h j e
  refine⟨q,?_⟩
  have:ix (z4++[⟨[r]⟩]) (j:Int)=ix z4 (j:Int):=by
   rw[ix_lt hj,ix_lt e]
   exact List.getElem_append_left e
  rw[this];exact g
 ·have hj':j=z4.length:=by simp at hj;omega
  subst hj'
  exact⟨r,by rw[ix_app rfl],h1,h2,h3,h4⟩
end RE
end Go.Proofs.YtpeggkeenboacaaGreat
namespace Go.Proofs.YtpeggkeenboacaaGreat
namespace RE
open Go.RowKit
open PL
def kcrops_P (post:List (api_Crop)->Prop):Prop:=∀l:List api_Crop,(3<=l.length/\l.length<=8)->post l
def kcrops_sp:Spec:=⟨49,true,true,[],.dat (.sl (.st .api_Crop)),λx post=>kcrops_P (λy0=>post (y0,()))⟩
def kcrops_C:CtxR:=⟨tau,[rule1 knext_sp,rule1 krange_sp],lookJ [(0,9,⟨[(13,.dat (.int .i64)),(4,.own 157 (.st .api_Crop))],[],(List.range' 14 16++[6]),[],[]⟩)]⟩
abbrev kcrops_a0 (z3:Int)(v5:Int)(v6:Int):={Name:=ix [{data:={toList:=[(98:UInt8),(97:UInt8),(114:UInt8),(108:UInt8),(101:UInt8),(121:UInt8)]:Array UInt8}:ByteArray},{data:={toList:=[(99:UInt8),(108:UInt8),(111:UInt8),(118:UInt8),(101:UInt8),(114:UInt8)]:Array UInt8}:ByteArray},{data:={toList:=[(103:UInt8),(114:UInt8),(97:UInt8),(115:UInt8),(115:UInt8)]:Array UInt8}:ByteArray},{data:={toList:=[(109:UInt8),(97:UInt8),(105:UInt8),(122:UInt8),(101:UInt8)]:Array UInt8}:ByteArray},{data:={toList:=[(111:UInt8),(97:UInt8),(116:UInt8),(115:UInt8)]:Array UInt8}:ByteArray},{data:={toList:=[(114:UInt8),(121:UInt8),(101:UInt8)]:Array UInt8}:ByteArray},{data:={toList:=[(118:UInt8),(101:UInt8),(116:UInt8),(99:UInt8),(104:UInt8)]:Array UInt8}:ByteArray},{data:={toList:=[(119:UInt8),(104:UInt8),(101:UInt8),(97:UInt8),(116:UInt8)]:Array UInt8}:ByteArray}] ((0:Int)+z3),Family:=v5,Marks:=ix [(0:Int),(0:Int),(0:Int),(2:Int),(20:Int),(8:Int),(1:Int),(31:Int)] v6:api_Crop}
def kcrops_W (post:List (api_Crop)->Prop):Prop:=(Int.NonNeg 1099511627779/\Int.NonNeg 1099511627773/\Int.NonNeg 1099511627784/\(8:Int)<=1099511627776)/\∀(v1:Int),3<=v1->v1<=8\/v1=3->(Int.NonNeg 0/\0<=v1/\v1<=8)/\((0:Int)<=0/\0<=v1->LOOP [Ty.int IntKind.i64,(Ty.st Sn.api_Crop).sl] (λ(rec2:Int->List api_Crop->Prop) (z3:Int) (z4:List api_Crop)=>IFB (decide (z3<v1-0)) ((((0:Int)<=z3/\z3<v1-0)/\(0:Int)<=0+z3/\0+z3<8)/\Int.NonNeg 9223372036854775804/\∀(v5:Int),0<=v5->v5<3\/v5=0->Int.NonNeg 9223372036854775799/\∀(v6:Int),0<=v6->v6<8\/v6=0->((0:Int)<=v6/\v6<8)/\(z4.length+[(kcrops_a0 z3 v5 v6)].length) * (32:Nat)<=140737488355328/\rec2 (IntKind.i64.wrap (z3+1)) (z4++[(kcrops_a0 z3 v5 v6)])) (post z4)) ((0:Int),[],PUnit.unit))
theorem kcrops_w (post:dens (shT kcrops_sp.rs [])->Prop):kcrops_W (λy0=>post (y0,()))=walkG (callR Tryz.prog kcrops_C (drawR Tryz.prog tau) 8 0) 49 true [] kcrops_sp.rs post:=by kernel_rfl
theorem kcrops_of (h:∀post,kcrops_P post->kcrops_W post):SpecOK Tryz.prog kcrops_sp:=SpecOK.of_rules (C:=kcrops_C) (dr:=drawR Tryz.prog tau) (n:=8) (fk:=0) (.cons (rule1_ok knext_ok) (.cons (rule1_ok krange_ok) .nil)) (drawR_ok tau) λx post hp=>HoldW.of (kcrops_w post) (h (λy0=>post (y0,())) hp)
def crI (v z:Int)(l:List api_Crop):Prop:=∃k:Nat,z=(k:Int)/\(k:Int)<=v/\l.length=k
theorem kcrops_ok:SpecOK Tryz.prog kcrops_sp:=kcrops_of λpost hp=>by
 unfold kcrops_P at hp
 unfold kcrops_W kcrops_a0
 refine⟨⟨Int.NonNeg.mk _,Int.NonNeg.mk _,Int.NonNeg.mk _,by omega⟩,λv1 a1 b1=>⟨⟨Int.NonNeg.mk _,by omega,by omega⟩,λ_=> ?_⟩⟩
 refine LOOP.fuel (λu=>crI v1 u.1 u.2.1) (λu=>v1.toNat-Int.toNat u.1) ⟨0,rfl,by omega,rfl⟩ ?_
 rintro rec ⟨(z:Int),(l:List api_Crop),⟨⟩⟩ ⟨k,i1,i2,i3⟩ hrec
 have i1:z=(k:Int):=i1
 subst i1
 have i3:l.length=k:=i3
 refine IFB.mk (λhb=> ?_) (λhb=> ?_)
 ·have hb:(k:Int)<v1-0:=of_decide_eq_true hb
  refine⟨⟨⟨by omega,hb⟩,by omega,by omega⟩,Int.NonNeg.mk _,λv5 a5 b5=>⟨Int.NonNeg.mk _,λv6 a6 b6=>⟨by omega,by simp only[List.length_cons,List.length_nil];omega,?_⟩⟩⟩
  rw[wrapS (by omega)]
  refine hrec (((k+1:Nat):Int),_,()) ⟨k+1,rfl,by omega,?_⟩ (by show v1.toNat-((k+1:Nat):Int).toNat<v1.toNat-(k:Int).toNat;omega)
  show List.length (l++[_])=k+1
  rw[List.length_append]
  simp only[List.length_cons,List.length_nil]
  omega
 ·have hb:¬(k:Int)<v1-0:=of_decide_eq_false hb
  refine hp l ⟨by omega,by omega⟩
def pclr_P (l:List (api_Rect))(post:List (api_Rect)->Prop):Prop:=(l.length<=4000000)/\post (l)
def pclr_sp:Spec:=⟨165,false,true,[.sl (.st .api_Rect)],.dat (.sl (.st .api_Rect)),λx post=>pclr_P (x.1:List (api_Rect)) (λy0=>post (y0,()))⟩
def pclr_C:CtxR:=⟨tau,[],lookJ []⟩
def pclr_W (l:List (api_Rect))(post:List (api_Rect)->Prop):Prop:=∀(v1:Bool),(v1=true->l=[])->IFB v1 (post []) (((0:Nat)+l.length) * (32:Nat)<=140737488355328/\post ([]++l))
theorem pclr_w (l:List (api_Rect))(post:dens (shT pclr_sp.rs [])->Prop):pclr_W l (λy0=>post (y0,()))=walkG (callR Tryz.prog pclr_C (drawR Tryz.prog tau) 6 0) 165 false [tv (.sl (.st .api_Rect)) l] pclr_sp.rs post:=by kernel_rfl
theorem pclr_of (h:∀l post,pclr_P l post->pclr_W l post):SpecOK Tryz.prog pclr_sp:=SpecOK.of_rules (C:=pclr_C) (dr:=drawR Tryz.prog tau) (n:=6) (fk:=0) .nil (drawR_ok tau) λx post hp=>HoldW.of (pclr_w x.1 post) (h x.1 (λy0=>post (y0,())) hp)
theorem pclr_ok:SpecOK Tryz.prog pclr_sp:=pclr_of λl post hp=>by
 obtain⟨hl,hp⟩:=hp
 unfold pclr_W
 refine λv hv=>IFB.mk (λh=> ?_) (λ_=>⟨by omega,?_⟩)
 ·rw[hv h] at hp;exact hp
 ·rw[List.nil_append];exact hp
def pcll_P (l:List (api_Line))(post:List (api_Line)->Prop):Prop:=(l.length<=4000000)/\post (l)
def pcll_sp:Spec:=⟨181,false,true,[.sl (.st .api_Line)],.own 98 (.st .api_Line),λx post=>pcll_P (x.1:List (api_Line)) (λy0=>post (y0,()))⟩
def pcll_C:CtxR:=⟨tau,[],lookJ []⟩
def pcll_W (l:List (api_Line))(post:List (api_Line)->Prop):Prop:=∀(v1:Bool),(v1=true->l=[])->IFB v1 (post []) (((0:Nat)+l.length) * (48:Nat)<=140737488355328/\post ([]++l))
theorem pcll_w (l:List (api_Line))(post:dens (shT pcll_sp.rs [])->Prop):pcll_W l (λy0=>post (y0,()))=walkG (callR Tryz.prog pcll_C (drawR Tryz.prog tau) 6 0) 181 false [tv (.sl (.st .api_Line)) l] pcll_sp.rs post:=by kernel_rfl
theorem pcll_of (h:∀l post,pcll_P l post->pcll_W l post):SpecOK Tryz.prog pcll_sp:=SpecOK.of_rules (C:=pcll_C) (dr:=drawR Tryz.prog tau) (n:=6) (fk:=0) .nil (drawR_ok tau) λx post hp=>HoldW.of (pcll_w x.1 post) (h x.1 (λy0=>post (y0,())) hp)
theorem pcll_ok:SpecOK Tryz.prog pcll_sp:=pcll_of λl post hp=>by
 obtain⟨hl,hp⟩:=hp
 unfold pcll_W
 refine λv hv=>IFB.mk (λh=> ?_) (λ_=>⟨by omega,?_⟩)
 ·rw[hv h] at hp;exact hp
 ·rw[List.nil_append];exact hp
def pclv_P (l:List (api_Version))(post:List (api_Version)->Prop):Prop:=(l.length<=4000000)/\post (l)
def pclv_sp:Spec:=⟨180,false,true,[.sl (.st .api_Version)],.own 96 (.st .api_Version),λx post=>pclv_P (x.1:List (api_Version)) (λy0=>post (y0,()))⟩
def pclv_C:CtxR:=⟨tau,[],lookJ []⟩
def pclv_W (l:List (api_Version))(post:List (api_Version)->Prop):Prop:=∀(v1:Bool),(v1=true->l=[])->IFB v1 (post []) (((0:Nat)+l.length) * (32:Nat)<=140737488355328/\post ([]++l))
theorem pclv_w (l:List (api_Version))(post:dens (shT pclv_sp.rs [])->Prop):pclv_W l (λy0=>post (y0,()))=walkG (callR Tryz.prog pclv_C (drawR Tryz.prog tau) 6 0) 180 false [tv (.sl (.st .api_Version)) l] pclv_sp.rs post:=by kernel_rfl
theorem pclv_of (h:∀l post,pclv_P l post->pclv_W l post):SpecOK Tryz.prog pclv_sp:=SpecOK.of_rules (C:=pclv_C) (dr:=drawR Tryz.prog tau) (n:=6) (fk:=0) .nil (drawR_ok tau) λx post hp=>HoldW.of (pclv_w x.1 post) (h x.1 (λy0=>post (y0,())) hp)
theorem pclv_ok:SpecOK Tryz.prog pclv_sp:=pclv_of λl post hp=>by
 obtain⟨hl,hp⟩:=hp
 unfold pclv_W
 refine λv hv=>IFB.mk (λh=> ?_) (λ_=>⟨by omega,?_⟩)
 ·rw[hv h] at hp;exact hp
 ·rw[List.nil_append];exact hp
end RE
end Go.Proofs.YtpeggkeenboacaaGreat
set_option linter.unusedVariables false
namespace Go.Proofs.YtpeggkeenboacaaGreat
open Go.RowKit Go.Sort Go.Lib
namespace RE
open PL
namespace Nest
def Small (l:List api_Version):Prop:=l.length<=4000000/\∀x∈l,x.Lines.length<=4000000/\∀y∈x.Lines,y.Region.Rects.length<=4000000
set_option maxHeartbeats 4000000 in
theorem copied_walk (l:List api_Version)(hp:Small l)(hne:l≠[])(w:World)(S:Cells)(b off cap0:Nat)(f:Nat->Nat->Value)(hS:∀b o,S b o->b<w.heap.size)
 (hu:Rd S w (.sl (.st .api_Version) l) (.slice (some ⟨b,off,none⟩) l.length cap0))
 (hcell:∀i,i<l.length->w.cell? ⟨b,off+i * 2,none⟩=some (.int .i64 (ix l (i:Int)).Day)/\w.cell? ⟨b,off+i * 2+1,none⟩=some (f i 1)) (hold:∀i x,l[i]? =some x->Rd S w (.sl (.st .api_Line) x.Lines) (f i 1)):
 Calls Tryz.prog 121 #[.slice (some ⟨b,off,none⟩) l.length cap0] w λex w'=>∃(g cap:Nat)(vs:Nat->Value)(Fi:Nat->Nat->Prop)(S':Cells),ex= .returned (.slice (some ⟨g,0,none⟩) l.length cap)/\Half w' S' g cap l w.heap.size l.length vs Fi/\(∀b o,S b o->S' b o)/\(∀b o,S' b o->(S b o\/w.heap.size<=b)/\b<w'.heap.size)/\Below w.heap.size w w':=by
 have hc:=Lib.hid (SpecOK.ownAt pclv_ok (x:=l) (l':=l) ⟨hp.1,rfl⟩ hS hu)
 obtain⟨n,hn⟩:∃n,l.length=n:=⟨_,rfl⟩
 rw[hn] at hc ⊢
 have hn':=Lib.hid hn
 have hnb:n<=4000000:=by rw[<-hn];exact hp.1
 have hcell':=Lib.hid hcell
 have hold':=Lib.hid hold
 have hp':=Lib.hid hp
 have hS':=Lib.hid hS
 clear hn hcell hold hp hu hS
 go_enter Tryz.func121,Tryz.ntmps121
 go_wp2_with fail
 refine hc.out.mono ?_
 rintro e w1 ⟨v,F,S1,rfl,hrow,s1,s2,s3,hb⟩
 have hh:∃g cap,v= .slice (some ⟨g,0,none⟩) n cap/\∃vs,Half w1 S1 g cap l w.heap.size 0 vs (λ_ _=>False):=by
  obtain⟨_,⟨q0,_⟩|⟨g,cap,cur,k0,kF,kg,k1,k2,k3,k4⟩⟩:=hrow
  ·exact absurd q0 hne
  ·obtain⟨f1,f2,f3⟩:=s3 g ((kF g).2 rfl)
   have hv0:v= .slice (some ⟨g,0,none⟩) n cap:=by rw[k0];exact congrArg (λq=>Value.slice (some ⟨g,0,none⟩) q cap) hn'.out
   refine⟨g,cap,hv0,λj=>cur.getD (j * 2+1) undef,⟨cur,kg,k3,λj x hx=> ?_⟩,λj x hx hj=>absurd hj (Nat.not_lt_zero _),λj x hx _=> ?_,λj hj=>absurd hj (Nat.not_lt_zero _),λj j' b hj=>absurd hj (Nat.not_lt_zero _),f3,⟨f1,f2⟩,λb o h=>(s2 b o h).2,k1,k2⟩
   ·obtain⟨u0,a1,a2,a3⟩:=k4 j x hx 0 (.v (.int .i64 x.Day)) rfl
    obtain⟨u1,b1,b2,b3⟩:=k4 j x hx 1 (.sl (.st .api_Line) x.Lines) rfl
    rw[rd_v a3] at a1
    have b1:cur[j * 2+1]? =some u1:=b1
    exact⟨a1,by show _=some (cur.getD (j * 2+1) undef);rw[Array.getD_eq_getD_getElem?,b1];rfl⟩
   ·obtain⟨u1,b1,b2,b3⟩:=k4 j x hx 1 (.sl (.st .api_Line) x.Lines) rfl
    have b1:cur[j * 2+1]? =some u1:=b1
    show Rd S1 w1 _ (cur.getD (j * 2+1) undef)
    rw[Array.getD_eq_getD_getElem?,b1]
    exact b3
 obtain⟨g,cap,rfl,vs,hH⟩:=hh
 have hH':=Lib.hid hH
 have s1':=Lib.hid s1
 have s2':=Lib.hid s2
 have hb1:=Lib.hid hb
 clear hrow s1 s2 s3 hb hH hc
 go_wp2_with fail
 go_loopw [12] (λx wr=>∃(i:Nat)(vs:Nat->Value)(Fi:Nat->Nat->Prop)(S2:Cells),i<=n/\x= .int .i64 i/\Half wr S2 g cap l w.heap.size i vs Fi/\(∀b o,S b o->S2 b o)/\(∀b o,S2 b o->(S b o\/w.heap.size<=b))/\Below w.heap.size w wr) (λx _=>n-(intOf x).toNat)
 case atStart=>exact⟨0,vs,_,S1,by omega,rfl,hH'.out,s1'.out,λb o h=>(s2'.out b o h).1,hb1.out⟩
 case round=>
  obtain⟨i,vs,Fi,S2,hi,rfl,hH,t1,t2,hB⟩:=hrel
  by_cases hlt:i<n
  ·have hlx:=Lib.hid hlt
   have hil:i<l.length:=by have:=hn'.out;omega
   obtain⟨x,hx⟩:∃x,l[i]? =some x:=⟨_,List.getElem?_eq_getElem hil⟩
   obtain⟨c0,c1⟩:=hcell'.out i hil
   have hxd:(ix l (i:Int)).Day=x.Day:=by rw[ix_lt hil];exact congrArg _ (List.getElem?_eq_some_iff.1 hx).2
   rw[hxd] at c0
   have c0:=(hB.cell (World.block_lt_of_cell? w _ c0)).trans c0
   have c1:=(hB.cell (World.block_lt_of_cell? w _ c1)).trans c1
   have hold2:=Lib.hid ((hold'.out i x hx).mono t1 λb o hs=>hB.cell (p:=⟨b,o,none⟩) (hS'.out b o hs))
   obtain⟨ad2,c2,hou⟩:∃ad2 c2,f i 1= .slice ad2 x.Lines.length c2:=by
    obtain⟨ad,cap,_,_,_,e,_⟩:=(hold2.out).slInv
    exact⟨ad,cap,e⟩
   rw[hou] at c1 hold2
   obtain⟨m,hm⟩:∃m,x.Lines.length=m:=⟨_,rfl⟩
   rw[hm] at c1 hold2
   have hm':=Lib.hid hm
   have hmb:m<=4000000:=by rw[<-hm];exact (hp'.out.2 x (List.mem_of_getElem? hx)).1
   have hou':=Lib.hid (show f i 1= .slice ad2 m c2 by rw[<-hm];exact hou)
   have hBx:=Lib.hid hB
   have hHx:=Lib.hid hH
   have t1x:=Lib.hid t1
   have t2x:=Lib.hid t2
   have hxx:=Lib.hid hx
   obtain⟨dx,hdx⟩:∃d,x.Day=d:=⟨_,rfl⟩
   rw[hdx] at c0
   have hdx':=Lib.hid hdx
   clear hB hH t1 t2 hx hdx hxd hou hm
   go_upto_region 5 with fail
   obtain⟨W1,hW1⟩:∃W1,W1=wr.alloc (.cells #[.int .i64 dx,.slice ad2 m c2] 96):=⟨_,rfl⟩
   have hb2:=Lib.hid (show Below wr.heap.size wr W1 by rw[hW1];exact (Below.refl _ _).alloc (Nat.le_refl _) _)
   have hsz1:=Lib.hid (show W1.heap.size=wr.heap.size+1 by rw[hW1];simp)
   have bx:=Lib.hid (show W1.heap[wr.heap.size]? =some (.cells #[.int .i64 dx,.slice ad2 m c2] 96 (0,0)) by rw[hW1];exact heap_alloc_new wr _)
   have hH1:=Lib.hid (hHx.out.grow hb2.out (λ_ _ h=>h) λb o hs=>⟨.inl hs,Nat.lt_of_lt_of_le (hHx.out.sS b o hs) hb2.out.size⟩)
   have hold3:=Lib.hid (hold2.out.mono (λ_ _ h=>h) λb o hs=>hb2.out.cell (p:=⟨b,o,none⟩) (hHx.out.sS b o hs))
   have hcl:=Lib.hid (SpecOK.ownAt pcll_ok (x:=x.Lines) (l':=x.Lines) ⟨(hp'.out.2 x (List.mem_of_getElem? hxx.out)).1,rfl⟩ hH1.out.sS hold3.out)
   rw[<-hW1]
   obtain⟨b5,hb5⟩:∃b5,wr.heap.size=b5:=⟨_,rfl⟩
   rw[hb5] at bx hsz1 ⊢
   have hb5':=Lib.hid hb5
   have d0:W1.cell? ⟨b5,0,none⟩=some (.int .i64 dx):=by rw[cell_row bx.out];rfl
   have d1:W1.cell? ⟨b5,1,none⟩=some (.slice ad2 m c2):=by rw[cell_row bx.out];rfl
   clear hW1 c0 c1 hb5
   go_wp2_with fail
   refine hcl.out.mono ?_
   rintro e W2 ⟨v3,F3,S3,rfl,hrow,r1,r2,r3,hb3⟩
   obtain⟨_,ad3,c3,e3,_⟩:=hrow.slice
   have e4:v3= .slice ad3 m c3:=by rw[<-hm'.out];exact e3
   clear e3
   subst e4
   have hH2:=hH1.out.grow hb3 r1 r2
   obtain⟨⟨ho1,ho2⟩,hH3⟩:=hH2.adopt hxx.out hrow (λb hb=>⟨Nat.le_trans (Nat.le_trans hBx.out.size hb2.out.size) (r3 b hb).1,(r3 b hb).2.1,λe=>by have h1:=(r3 b hb).1;have h2:=hH1.out.gn.2;omega,(r3 b hb).2.2⟩) (λj hj b hb hf=>by have h1:=(r3 b hb).1;have h2:=(hH1.out.fr j hj b hf).2.1;omega)
   obtain⟨vo,ho1⟩:=Option.isSome_iff_exists.1 ho1
   have d0:=(hb3.cell (World.block_lt_of_cell? W1 _ d0)).trans d0
   have d1:=(hb3.cell (World.block_lt_of_cell? W1 _ d1)).trans d1
   have hHy:=Lib.hid hH3
   have hb3':=Lib.hid hb3
   have r1':=Lib.hid r1
   have r2':=Lib.hid r2
   clear hrow r1 r2 r3 hb3 hH2 hH3 hcl
   go_upto_region 6 with fail
   obtain⟨W3,hW3⟩:∃W3,W3=W2.setCell ⟨g,i * 2+1,none⟩ (.slice ad3 m c3):=⟨_,rfl⟩
   rw[<-hW3]
   have hg5:g<b5:=by rw[<-hb5'.out];exact hHx.out.gn.2
   have d1:W3.cell? ⟨b5,1,none⟩=some (.slice ad2 m c2):=by
    rw[hW3]
    exact (World.cell?_of_block (setCell_blk _ _ _ _ (Nat.ne_of_gt hg5))).trans d1
   have hH3:Half W3 S3 g cap l w.heap.size (i+1) (put vs i (.slice ad3 m c3)) (put Fi i F3):=by
    rw[hW3];exact hHy.out
   have hB3:Below w.heap.size w W3:=by
    rw[hW3]
    exact (((hBx.out.trans (hb2.out.mono hBx.out.size)).trans (hb3'.out.mono (Nat.le_trans hBx.out.size hb2.out.size))).setCell (hHx.out.gn.1) _)
   have u1:∀b o,S b o->S3 b o:=λb o h=>r1'.out b o (t1x.out b o h)
   have u2:∀b o,S3 b o->(S b o\/w.heap.size<=b):=λb o h=>(r2'.out b o h).1.elim (λh=>t2x.out b o h) λh=> .inr (Nat.le_trans (Nat.le_trans hBx.out.size hb2.out.size) h)
   have hH3':=Lib.hid hH3
   have hB3':=Lib.hid hB3
   have u1':=Lib.hid u1
   have u2':=Lib.hid u2
   clear hW3 hH3 hB3 u1 u2 hHy d0 ho1 ho2 hH1 hold2 hold3 r1' r2' hb3' hb2 bx hHx hBx t1x t2x hsz1
   have hxl:=Lib.hid (hold'.out i x hxx.out)
   rw[hou'.out] at hxl
   go_wp2_with fail
   go_loopw [27] (λq wi=>∃(k:Nat)(S4:Cells),k<=m/\q= .int .i64 k/\Half wi S4 g cap l w.heap.size (i+1) (put vs i (.slice ad3 m c3)) (put Fi i F3)/\(∀b o,S b o->S4 b o)/\(∀b o,S4 b o->(S b o\/w.heap.size<=b))/\Below w.heap.size w wi) (λq _=>m-(intOf q).toNat)
   case atStart=>exact⟨0,S3,by omega,rfl,hH3'.out,u1'.out,u2'.out,hB3'.out⟩
   case round=>
    obtain⟨k,S4,hk,rfl,hH,t1,t2,hB⟩:=hrel
    by_cases hlt2:k<m
    ·have hkm:=Lib.hid hlt2
     have hkl:k<x.Lines.length:=by have:=hm'.out;omega
     obtain⟨y,hy⟩:∃y,x.Lines[k]? =some y:=⟨_,List.getElem?_eq_getElem hkl⟩
     obtain⟨bb,oo,ar,nr,cr,e0,e1,e2,e3,e4,e5⟩:∃bb oo ar nr cr,ad2=some ⟨bb,oo,none⟩/\w.cell? ⟨bb,oo+k * 4,none⟩=some (.int .i64 y.Parcel)/\w.cell? ⟨bb,oo+k * 4+1,none⟩=some (.slice ar nr cr)/\w.cell? ⟨bb,oo+k * 4+2,none⟩=some (.int .i64 y.Crop)/\w.cell? ⟨bb,oo+k * 4+3,none⟩=some (.int .i64 y.Schemes)/\Rd S w (.sl (.st .api_Rect) y.Region.Rects) (.slice ar nr cr):=by
      obtain⟨ad,cap',bb,oo,fc,e,hc1,hc2,ha,hx1,hx2⟩:=hxl.out.slInv
      injection e with e1 e2 e3
      rcases ha with ha|ha
      ·rw[ha] at hkl;exact absurd hkl (Nat.not_lt_zero _)
      ·have g0:=hx2 k y 0 _ hy rfl
       have g1:=hx2 k y 1 _ hy rfl
       have g2:=hx2 k y 2 _ hy rfl
       have g3:=hx2 k y 3 _ hy rfl
       have g0:Rd S w (.v (.int .i64 y.Parcel)) (fc k 0):=g0
       have g1:Rd S w (.sl (.st .api_Rect) y.Region.Rects) (fc k 1):=g1
       have g2:Rd S w (.v (.int .i64 y.Crop)) (fc k 2):=g2
       have g3:Rd S w (.v (.int .i64 y.Schemes)) (fc k 3):=g3
       obtain⟨ar,cr,_,_,_,er,_⟩:=g1.slInv
       have q:=λj (hj:j<4)=>(hx1 k hkl j hj).2.1
       have q0:=q 0 (by omega)
       have q1:=q 1 (by omega)
       have q2:=q 2 (by omega)
       have q3:=q 3 (by omega)
       rw[rd_v g0] at q0
       rw[er] at q1 g1
       rw[rd_v g2] at q2
       rw[rd_v g3] at q3
       exact⟨bb,oo,ar,_,cr,by rw[e1,ha],q0,q1,q2,q3,g1⟩
     subst e0
     have e1:=(hB.cell (World.block_lt_of_cell? w _ e1)).trans e1
     have e2:=(hB.cell (World.block_lt_of_cell? w _ e2)).trans e2
     have e3:=(hB.cell (World.block_lt_of_cell? w _ e3)).trans e3
     have e4:=(hB.cell (World.block_lt_of_cell? w _ e4)).trans e4
     have e5':=Lib.hid (e5.mono t1 λb o hs=>hB.cell (p:=⟨b,o,none⟩) (hS'.out b o hs))
     obtain⟨pa,hpa⟩:∃d,y.Parcel=d:=⟨_,rfl⟩
     obtain⟨cro,hcro⟩:∃d,y.Crop=d:=⟨_,rfl⟩
     obtain⟨sch,hsch⟩:∃d,y.Schemes=d:=⟨_,rfl⟩
     rw[hpa] at e1
     rw[hcro] at e3
     rw[hsch] at e4
     have hHx:=Lib.hid hH
     have t1x:=Lib.hid t1
     have t2x:=Lib.hid t2
     have hBx:=Lib.hid hB
     have hyy:=Lib.hid hy
     clear hpa hcro hsch e5 hH t1 t2 hB hy
     go_upto_region 9 with fail
     obtain⟨W4,hW4⟩:∃W4,W4=wr.alloc (.cells #[.int .i64 pa,.slice ar nr cr,.int .i64 cro,.int .i64 sch] 98):=⟨_,rfl⟩
     have hb4:Below wr.heap.size wr W4:=by rw[hW4];exact (Below.refl _ _).alloc (Nat.le_refl _) _
     have bx:W4.heap[wr.heap.size]? =some (.cells #[.int .i64 pa,.slice ar nr cr,.int .i64 cro,.int .i64 sch] 98 (0,0)):=by rw[hW4];exact heap_alloc_new wr _
     rw[<-hW4]
     obtain⟨b7,hb7⟩:∃b7,wr.heap.size=b7:=⟨_,rfl⟩
     rw[hb7] at bx ⊢
     have hb4d:=hb4.drew
     have hH4:=hHx.out.grow hb4d (λ_ _ h=>h) λb o hs=>⟨.inl hs,Nat.lt_of_lt_of_le (hHx.out.sS b o hs) hb4d.size⟩
     have hr4:=e5'.out.mono (λ_ _ h=>h) λb o hs=>hb4d.cell (p:=⟨b,o,none⟩) (hHx.out.sS b o hs)
     have hB4:Below w.heap.size w W4.drew:=hBx.out.trans (hb4d.mono hBx.out.size)
     obtain⟨gi,had⟩:∃gi,ad3=some ⟨gi,0,none⟩:=by
      obtain⟨_,ad,cap',e,_,_,q⟩:=(hH4.own i x hxx.out (Nat.lt_succ_self i)).slice
      obtain⟨gi,q1,_⟩:=q k y hyy.out
      rw[put_same] at e
      injection e with e
      exact⟨gi,e.trans q1⟩
     subst had
     have hsz7:b7<W4.drew.heap.size:=by
      have:=(Array.getElem?_eq_some_iff.1 bx).1
      exact this
     have f0:W4.cell? ⟨g,i * 2+1,none⟩=some (.slice (some ⟨gi,0,none⟩) m c3):=by
      obtain⟨cur,k1,_,k3⟩:=hH4.row
      have k1:W4.heap[g]? =some (.cells cur 96 (0,0)):=k1
      rw[cell_row k1]
      have:=(k3 i x hxx.out).2
      rwa [put_same] at this
     have f1:W4.cell? ⟨b7,1,none⟩=some (.slice ar nr cr):=by rw[cell_row bx];rfl
     have hcall:=Lib.hid (show Calls Tryz.prog 165 #[.slice ar nr cr] W4.drew λe W5=>∃ar5 nr5 cr5,e= .returned (.slice ar5 nr5 cr5)/\W5.cell? ⟨g,i * 2+1,none⟩=some (.slice (some ⟨gi,0,none⟩) m c3)/\W5.cell? ⟨b7,1,none⟩=some (.slice ar nr cr)/\(∃vo,W5.cell? ⟨gi,k * 4+1,none⟩=some vo)/\W5.frozen? ⟨gi,k * 4+1,none⟩=false/\(W5.setCell ⟨gi,k * 4+1,none⟩ (.slice ar5 nr5 cr5)).cell? ⟨g,i * 2+1,none⟩=some (.slice (some ⟨gi,0,none⟩) m c3)/\(W5.setCell ⟨gi,k * 4+1,none⟩ (.slice ar5 nr5 cr5)).cell? ⟨b7,1,none⟩=some (.slice ar nr cr)/\
      ∃S5,Half (W5.setCell ⟨gi,k * 4+1,none⟩ (.slice ar5 nr5 cr5)) S5 g cap l w.heap.size (i+1) (put vs i (.slice (some ⟨gi,0,none⟩) m c3)) (put Fi i F3)/\(∀b o,S b o->S5 b o)/\(∀b o,S5 b o->(S b o\/w.heap.size<=b))/\Below w.heap.size w (W5.setCell ⟨gi,k * 4+1,none⟩ (.slice ar5 nr5 cr5)) by
      refine (SpecOK.datAt pclr_ok (x:=y.Region.Rects) (y':=y.Region.Rects) ⟨(hp'.out.2 x (List.mem_of_getElem? hxx.out)).2 y (List.mem_of_getElem? hyy.out),rfl⟩ hH4.sS hr4).mono ?_
      rintro e W5 ⟨v5,S5,rfl,hr5,z1,z2,hb5⟩
      have hr5:Rd S5 W5 (.sl (.st .api_Rect) y.Region.Rects) v5:=hr5
      obtain⟨ar5,cr5,_,_,_,er,_⟩:=hr5.slInv
      have hH5:=hH4.grow hb5 z1 z2
      subst er
      obtain⟨hgi,⟨y1,y2⟩,y3⟩:=hH5.lay hxx.out (Nat.lt_succ_self i) hyy.out (put_same _ _ _) hr5 rfl
      have hgn:=(hH5.fr i (Nat.lt_succ_self i) gi hgi).1
      have hgg:=(hH5.fr i (Nat.lt_succ_self i) gi hgi).2.2.1
      have hg7:b7≠gi:=λe=>by have h1:=(hHx.out.fr i (Nat.lt_succ_self i) gi hgi).2.1;omega
      have w1:=(hb5.cell (World.block_lt_of_cell? W4.drew _ f0)).trans f0
      have w2:=(hb5.cell (p:=⟨b7,1,none⟩) hsz7).trans f1
      exact⟨ar5,_,cr5,rfl,w1,w2,Option.isSome_iff_exists.1 y1,y2,(World.cell?_of_block (setCell_blk _ _ _ _ (λe=>hgg e.symm))).trans w1,(World.cell?_of_block (setCell_blk _ _ _ _ hg7)).trans w2,S5,y3,λb o h=>z1 b o (t1x.out b o h),λb o h=>(z2 b o h).1.elim (λh=>t2x.out b o h) λh=> .inr (Nat.le_trans hB4.size h),(hB4.trans (hb5.mono hB4.size)).setCell hgn _⟩)
     clear hW4 hb4 bx hb7 hb4d hH4 hr4 hB4 hsz7 e1 e2 e3 e4 d1
     go_region_held3 (λW'=>W'.cell? ⟨g,i * 2+1,none⟩=some (.slice (some ⟨gi,0,none⟩) m c3)/\W'.cell? ⟨b7,1,none⟩=some (.slice ar nr cr)) (first|exact⟨z6,z7⟩|go_keep) (first|(go_at_call 165;refine hcall.out.mono ?_;rintro e W5 ⟨ar5,nr5,cr5,rfl,z1,z2,⟨vo,z3⟩,z4,z6,z7,S5,z5⟩))
     all_goals
      have z5':=Lib.hid z5
      clear z1 z2 z3 z4 z5 z6 z7 f0 f1
      have hkm2:k<m:=hkm.out
      go_wp2
      go_round
      case rel=>exact⟨k+1,S5,hkm.out,by go_num,z5'.out.1,z5'.out.2.1,z5'.out.2.2.1,z5'.out.2.2.2⟩
      case measure=>have:=hkm.out;simp[intOf];omega
    ·have hHx:=Lib.hid hH
     have t1x:=Lib.hid t1
     have t2x:=Lib.hid t2
     have hBx:=Lib.hid hB
     clear hH t1 t2 hB
     have hlx2:i<n:=hlx.out
     go_wp2
     go_round
     case rel=>exact⟨i+1,_,_,S4,hlx.out,by go_num,hHx.out,t1x.out,t2x.out,hBx.out⟩
     case measure=>have:=hlx.out;simp[intOf];omega
  ·have hie:i=n:=by omega
   have hHx:=Lib.hid hH
   have t1x:=Lib.hid t1
   have t2x:=Lib.hid t2
   have hBx:=Lib.hid hB
   clear hH t1 t2 hB
   go_wp2
   go_ret
   subst hie
   exact⟨g,cap,vs,Fi,S2,rfl,hHx.out,t1x.out,λb o h=>⟨t2x.out b o h,hHx.out.sS b o h⟩,hBx.out⟩
set_option maxHeartbeats 1000000 in
theorem copied_nil (w:World)(S:Cells)(ad:Option Addr)(cap0:Nat)(hS:∀b o,S b o->b<w.heap.size)(hu:Rd S w (.sl (.st .api_Version) []) (.slice ad 0 cap0)):
 Calls Tryz.prog 121 #[.slice ad 0 cap0] w λex w'=>∃(v:Value)(F:Nat->Prop)(S':Cells),ex= .returned v/\RowAt w' S' v F 96 (.st .api_Version) []/\(∀b o,S b o->S' b o)/\(∀b o,S' b o->(S b o\/w.heap.size<=b)/\b<w'.heap.size)/\(∀b,F b->w.heap.size<=b/\b<w'.heap.size/\∀o,¬S' b o)/\Below w.heap.size w w':=by
 have hc:=Lib.hid (SpecOK.ownAt pclv_ok (x:=[]) (l':=[]) ⟨by decide,rfl⟩ hS hu)
 clear hu hS
 go_enter Tryz.func121,Tryz.ntmps121
 go_wp2_with fail
 refine hc.out.mono ?_
 rintro e w1 ⟨v,F,S1,rfl,hrow,s1,s2,s3,hb⟩
 obtain⟨_,ad1,cap1,e1,_⟩:=hrow.slice
 have e2:v= .slice ad1 0 cap1:=e1
 clear e1
 subst e2
 have hfin:=Lib.hid (And.intro hrow (And.intro s1 (And.intro s2 (And.intro s3 hb))))
 clear hrow s1 s2 s3 hb hc
 go_wp2_with fail
 refine wp_loop_rounds 1 ?_
 rw[rounds_succ]
 go_wp2
 go_ret
 exact⟨_,F,S1,rfl,hfin.out.1,hfin.out.2.1,hfin.out.2.2.1,hfin.out.2.2.2.1,hfin.out.2.2.2.2⟩
theorem nst_empty {W:World}{S:Cells}{v:Value}{F:Nat->Prop}{e:TypeId}{t:Ty}{k:Nat}{e':TypeId}{t':Ty}(hk:k<size t)(h:RowAt W S v F e t []):NstAt W S (.tuple (v::([]:List Value)).toArray) F e t k e' t' []:=by
 obtain⟨h0,⟨_,q1,q2⟩|⟨g,cap,cur,k0,kF,kg,k1,k2,k3,k4⟩⟩:=h
 ·exact⟨h0,hk,_,_,λ_ _=>False,rfl,rfl,.inl ⟨rfl,q1,q2⟩⟩
 ·exact⟨h0,hk,_,_,λ_ _=>False,rfl,rfl,.inr ⟨g,cap,cur,k0,λb=>⟨λh=> .inl ((kF b).1 h),λh=>h.elim (λh=>(kF b).2 h) λ⟨_,h,_⟩=>absurd h (Nat.not_lt_zero _)⟩,λ_ h=>h,λ_ _ _ h=>h.elim,kg,k1,k2,k3,λi x hx=>by simp at hx⟩⟩
theorem copied_mk:NstMk Tryz.prog 121 (.st .api_Version) 96 1 98 (.st .api_Line) Small:=by
 intro l hp w S u hS hu
 have hp:Small l:=hp
 by_cases hne:l=[]
 ·subst hne
  obtain⟨ad,cap0,_,_,_,e,_⟩:=hu.slInv
  have e:u= .slice ad 0 cap0:=e
  subst e
  refine (copied_nil w S ad cap0 hS hu).mono ?_
  rintro ex w' ⟨v,F,S',rfl,h1,h2,h3,h4,h5⟩
  exact⟨v,[],F,S',rfl,nst_empty (by decide) h1,h2,h3,h4,h5⟩
 ·obtain⟨ad,cap0,b,off,f,e,hc1,hc2,ha,hx1,hx2⟩:=hu.slInv
  rcases ha with ha|ha
  ·exact absurd ha hne
  subst e ha
  have hf0:∀i x,l[i]? =some x->f i 0= .int .i64 x.Day:=λi x hx=>rd_v (hx2 i x 0 (.v (.int .i64 x.Day)) hx rfl)
  refine (copied_walk l hp hne w S b off cap0 f hS hu (λi hi=> ?_) (λi x hx=>hx2 i x 1 (.sl (.st .api_Line) x.Lines) hx rfl)).mono ?_
  ·have h0:=(hx1 i hi 0 (by decide)).2.1
   have h1:=(hx1 i hi 1 (by decide)).2.1
   rw[hf0 i l[i] (List.getElem?_eq_getElem hi)] at h0
   rw[ix_lt hi]
   exact⟨h0,h1⟩
  ·rintro ex w' ⟨g,cap,vs,Fi,S',rfl,hH,h2,h3,h4⟩
   obtain⟨us,F,k1,k2⟩:=hH.nst hne
   exact⟨_,us,F,S',rfl,k1,h2,h3,k2,h4⟩
end Nest
end RE
end Go.Proofs.YtpeggkeenboacaaGreat
set_option linter.unusedVariables false
namespace Go.Proofs.YtpeggkeenboacaaGreat
open Go.RowKit Go.Sort Go.Lib
namespace RE
open PL
namespace Nest
def RawAt (w:World)(v:Value)(F:Nat->Prop)(e:TypeId)(sz n:Nat):Prop:=
 (n=0/\(∃ad,v= .slice ad 0 0)/\∀b,¬F b)\/∃g cap cur,v= .slice (some ⟨g,0,none⟩) n cap/\(∀b,F b↔b=g)/\w.heap[g]? =some (.cells cur e (0,0))/\n<=cap/\cap<=maxLen/\cur.size=cap * sz
theorem app_raw {P:Program}(w:World)(t ty e:TypeId)(i:TypeInfo)(z:Value)(τ:Ty)(ht:P.underlying t=some (.slice e))(hi:P.info? e=some i)(hz:i.zero=some z)(hsize:i.size=size τ)(hzs:z.cells.size=size τ)
 {v:Value} {F:Nat->Prop} {n:Nat} (ho:RawAt w v F e (size τ) n) {x:Value} {m:Nat} {news:List Value} (hs:Src P (size τ) t x m news w) (h63:n+m<=maxLen) (hb:(n+m) * i.bytes<=140737488355328):
 ∃v' w',(Builtin.append_ #[t,t] ty #[v,x]).run P w= .ok v' w'/\((m=0/\v'=v/\w'=w)\/
  ∃(g cap:Nat)(arr:Array Value),v'= .slice (some ⟨g,0,none⟩) (n+m) cap/\n+m<=cap/\cap<=maxLen/\w'.heap[g]? =some (.cells arr e (0,0))/\arr.size=cap * size τ/\
   (∀(g0 c0:Nat)(cur:Array Value),v= .slice (some ⟨g0,0,none⟩) n c0->w.heap[g0]? =some (.cells cur e (0,0))->∀q,q<n * size τ->arr[q]? =cur[q]?)/\
   (∀(q:Nat)(u:Value),news[q]? =some u->arr[n * size τ+q]? =some u)/\w'.os=w.os/\w'.tape=w.tape/\w'.output=w.output/\w.heap.size<=w'.heap.size/\(∀k,k<w.heap.size->k≠g->w'.heap[k]? =w.heap[k]?)/\g<w'.heap.size/\((g=w.heap.size)\/F g)):=by
 rw[<-hsize] at hs hzs ⊢
 have hsmall:n+m<=9223372036854775807:=by simp only[maxLen] at h63;omega
 obtain⟨hl,⟨ad,hv⟩,_⟩|⟨g,cap,cur,hv,hF,hg,hn,hcm,hcs⟩:=ho
 ·subst hl
  by_cases hm:m=0
  ·subst hm
   have hnw:news=[]:=List.eq_nil_of_length_eq_zero (by simpa using hs.newsLen)
   subst hnw
   subst hv
   exact⟨_,_,run_append_nothing (P:=P) w t t ty e i ht hi ad 0 0 (Nat.le_refl _) x hs,.inl ⟨rfl,rfl,rfl⟩⟩
  ·have hfc:(Builtin.firstCells i.size 0 (.slice ad 0 0)).run P w.drew= .ok #[] w.drew:=by
    cases ad with
    |none=>exact run_firstCells_none (P:=P) w.drew i.size 0 0 0
    |some a=>exact run_firstCells_some w.drew i.size 0 a 0 0 [] (by simp) (λj v h=>by simp at h)
   have hrun:=run_append_grow_src (P:=P) w t t ty e i z ht hi hz ad 0 0 [] hfc x m news hs (by omega) (by omega) (growslice_fits (by omega) hb)
   rw[hv]
   refine⟨_,_,hrun,.inr ⟨w.heap.size,_,_,rfl,grownCap_ge w (0+m) 0 e,grownCap_le_maxLen w (0+m) 0 e h63,heap_alloc_new w.drew _,?_,λg0 c0 cur hv0=> ?_,λq u hq=> ?_,rfl,rfl,rfl,by simp,λk hk _=>heap_alloc_old w.drew _ hk,by simp,.inl rfl⟩⟩
   ·have hge:=grownCap_ge w (0+m) 0 e
    simp only[Array.size_append,List.size_toArray,List.length_append,size_zeroCells,hzs,hs.newsLen,List.length_nil,Nat.zero_add,<-Nat.add_mul] at hge ⊢
    first|done|(congr 1;omega)
   ·intro _ q hq;simp at hq
   ·have hl:q<news.length:=(List.getElem?_eq_some_iff.1 hq).1
    simp only[Nat.zero_mul,Nat.zero_add,List.nil_append]
    rw[Array.getElem?_append_left (by simpa using hl)]
    simpa using hq
 ·have hv2:v= .slice (some ⟨g,0,none⟩) n cap:=hv
  have hn2:n<=cap:=hn
  have hcs2:cur.size=cap * i.size:=by rw[hsize];exact hcs
  have hgl:=(Array.getElem?_eq_some_iff.1 hg).1
  by_cases hroom:n+m<=cap
  ·have hlen:n * i.size+news.length<=cur.size:=by rw[hs.newsLen,hcs2,<-Nat.add_mul];exact Nat.mul_le_mul_right _ hroom
   have hrun:=run_append_room_src (P:=P) w t t ty e i ht hi g 0 n cap x m news hs hroom (λj hj=>by rw[cell_row hg,Array.getElem?_eq_getElem (by rw[Nat.zero_add];omega)];rfl) (λj hj=>by simp[World.frozen?,hg])
   rw[<-hv2] at hrun
   have hg':w.heap[g]? =some (.cells cur.toList.toArray e (0,0)):=by simpa using hg
   obtain⟨o1,o2,o3,o4,o5⟩:=setCells_os g news (0+n * i.size) w
   have hfit:0+n * i.size+news.length<=cur.toList.length:=by have e:cur.toList.length=cur.size:=Array.length_toList;omega
   refine⟨_,_,hrun,.inr ⟨g,cap,_,rfl,hroom,hcm,heap_setCells_at g news (0+n * i.size) w cur.toList e (0,0) hg' hfit,?_,λg0 c0 cur0 hv0 hg0 q hq=> ?_,λq u hq=> ?_,o1,o2,o3,Nat.le_of_eq o4.symm,λk _ hk=>o5 k hk,by rw[o4];exact hgl,.inr ((hF g).2 rfl)⟩⟩
   ·rw[List.size_toArray,spl_len hfit,Array.length_toList];exact hcs2
   ·rw[hv2] at hv0
    injection hv0 with e1 e2 e3
    injection e1 with e1
    injection e1 with e1
    subst e1
    rw[hg] at hg0
    injection hg0 with hg0
    injection hg0 with hg0
    subst hg0
    rw[List.getElem?_toArray,spl_get hfit,if_pos (by omega)]
    simp
   ·have hl:q<news.length:=(List.getElem?_eq_some_iff.1 hq).1
    rw[List.getElem?_toArray,spl_get hfit,if_neg (by omega),if_pos (by omega),show n * i.size+q-(0+n * i.size)=q by omega]
    exact hq
  ·have hol:(cur.toList.take (n * i.size)).length=n * i.size:=by
    rw[List.length_take,Array.length_toList,hcs2]
    exact Nat.min_eq_left (Nat.mul_le_mul_right _ hn2)
   have hfc:(Builtin.firstCells i.size n (.slice (some ⟨g,0,none⟩) n cap)).run P w.drew= .ok (cur.toList.take (n * i.size)).toArray w.drew:=
    run_firstCells_some w.drew i.size n ⟨g,0,none⟩ n cap _ hol (λj u hj=>by
     rw[addr_add]
     have hjl:j<n * i.size:=by have:=(List.getElem?_eq_some_iff.1 hj).1;rwa [hol] at this
     rw[List.getElem?_take,if_pos hjl] at hj
     have:=cell_of_row w g j cur e (0,0) hg
     simp at hj
     simpa [this] using hj)
   have hrun:=run_append_grow_src (P:=P) w t t ty e i z ht hi hz (some ⟨g,0,none⟩) n cap _ hfc x m news hs (by omega) (by omega) (growslice_fits (by omega) hb)
   rw[<-hv2] at hrun
   refine⟨_,_,hrun,.inr ⟨w.heap.size,_,_,rfl,grownCap_ge w (n+m) cap e,grownCap_le_maxLen w (n+m) cap e h63,heap_alloc_new w.drew _,?_,λg0 c0 cur0 hv0 hg0 q hq=> ?_,λq u hq=> ?_,rfl,rfl,rfl,by simp,λk hk _=>heap_alloc_old w.drew _ hk,by simp,.inl rfl⟩⟩
   ·have hge:=grownCap_ge w (n+m) cap e
    simp only[Array.size_append,List.size_toArray,List.length_append,size_zeroCells,hzs,hs.newsLen,hol,<-Nat.add_mul]
    congr 1;omega
   ·rw[hv2] at hv0
    injection hv0 with e1 e2 e3
    injection e1 with e1
    injection e1 with e1
    subst e1
    rw[hg] at hg0
    injection hg0 with hg0
    injection hg0 with hg0
    subst hg0
    rw[Array.getElem?_append_left (by simp only[List.size_toArray,List.length_append,hol];omega),List.getElem?_toArray,List.getElem?_append_left (by rw[hol];exact hq),List.getElem?_take,if_pos hq]
    simp
   ·have hl:q<news.length:=(List.getElem?_eq_some_iff.1 hq).1
    rw[Array.getElem?_append_left (by simp only[List.size_toArray,List.length_append,hol];omega),List.getElem?_toArray,List.getElem?_append_right (by rw[hol];omega),hol,Nat.add_sub_cancel_left]
    exact hq
theorem app_row {P:Program}{w:World}{S:Cells}(hS:∀b o,S b o->b<w.heap.size)(t ty e:TypeId)(i:TypeInfo)(z:Value)(τ:Ty)(ht:P.underlying t=some (.slice e))(hi:P.info? e=some i)(hz:i.zero=some z)(hsize:i.size=size τ)(hzs:z.cells.size=size τ)(h0:0<size τ)
 (ad:Option Addr) {l2:List (den τ)} {x:Value} (hs:SrcOK P w S t τ l2 x) (h63:l2.length<=maxLen) (hb:l2.length * i.bytes<=140737488355328):
 ∃v' w' F S',(Builtin.append_ #[t,t] ty #[.slice ad 0 0,x]).run P w= .ok v' w'/\RowAt w' S' v' F e τ l2/\(∀b o,S b o->S' b o)/\(∀b o,S' b o->(S b o\/w.heap.size<=b)/\b<w'.heap.size)/\(∀b,F b->w.heap.size<=b/\b<w'.heap.size/\∀o,¬S' b o)/\Below w.heap.size w w':=by
 let c:Cx:=⟨S,λ_=> .slice ad 0 0,λ_ _=>False,none⟩
 have hox:OX (λ_=>none) (λ_=>False) false w c:=⟨hS,λid x hx=>(by cases hx),λid x hx=>(by cases hx),λi j x y hx=>(by cases hx),λT h=>(by cases h),λh=>(by cases h),λ_=>rfl⟩
 have ho:RowAt w c.S (.slice ad 0 0) (λ_=>False) e τ []:=⟨h0,.inl ⟨rfl,⟨ad,rfl⟩,λ_ h=>h⟩⟩
 obtain⟨v',w',c',hrun,hH,hox',htr⟩:=hox.append (k:=0) (λh=>h) (old:=none) t ty e i z τ ht hi hz hsize hzs ho (λb h=>h.elim) hs (by simpa using h63) (by simpa using hb)
 have hid:(put (dropO (λ_=>none) none) 0 (some (Ob.row e τ ([]++l2)))) 0=some (.row e τ ([]++l2)):=put_same _ _ _
 obtain⟨_,_,hrow⟩:=hox'.objs 0 _ hid
 have hfb:=hox'.fb 0 _ hid rfl
 have hrow:RowAt w' c'.S (c'.H 0) (c'.F 0) e τ ([]++l2):=hrow
 rw[hH,List.nil_append] at hrow
 refine⟨v',w',c'.F 0,c'.S,hrun,hrow,htr.sS,λb o hb=>⟨?_,hox'.sb b o hb⟩,λb hb=>⟨?_,(hfb b hb).1,(hfb b hb).2.1⟩,⟨htr.os,htr.tape,htr.output,htr.sz,λk hk=>htr.blk k hk (λ⟨_,_,hx,_⟩=>(by cases hx)) (λh=>by cases h)⟩⟩
 ·rcases htr.sN b o hb with h|⟨_,_,hx,_⟩|h
  ·exact .inl h
  ·cases hx
  ·exact .inr h
 ·rcases htr.fp b ⟨0,_,hid,rfl,hb⟩ with⟨_,_,hx,_⟩|h
  ·cases hx
  ·exact h
noncomputable def infoL:TypeInfo:=(Tryz.prog.info? 98).get!
noncomputable def zeroL:Value:=infoL.zero.get!
theorem infoL_eq:Tryz.prog.info? 98=some infoL:=by kernel_rfl
theorem zeroL_eq:infoL.zero=some zeroL:=by kernel_rfl
theorem sizeL:infoL.size=4:=by kernel_rfl
theorem cellsL:zeroL.cells.size=4:=by kernel_rfl
noncomputable def infoV:TypeInfo:=(Tryz.prog.info? 96).get!
noncomputable def zeroV:Value:=infoV.zero.get!
theorem infoV_eq:Tryz.prog.info? 96=some infoV:=by kernel_rfl
theorem zeroV_eq:infoV.zero=some zeroV:=by kernel_rfl
theorem sizeV:infoV.size=2:=by kernel_rfl
theorem cellsV:zeroV.cells.size=2:=by kernel_rfl
theorem wpList_app {P:Program}{w w':World}{ops:Array Oper}{rest:List Oper}{o:Oper}{a:Act}{Q:Exit->Act->World->Prop}(hg:o.guard=none)(s x:Operand)(t:TypeId)(hop:o.op=Op.call {callee:=Callee.builtin Builtin.append,args:= #[s,x],argTypes:= #[t,t]})
 {v xv v':Value} (hs:a.eval s=v) (hx:a.eval x=xv) (hrun:(Builtin.append_ #[t,t] o.type #[v,xv]).run P w= .ok v' w') (h:wpList P ops Q rest (a.put o.dst v') w'):wpList P ops Q (o::rest) a w:=by
 refine wpList_plain hg λK hK'=> ?_
 unfold Oper.wp
 simp[execOp,hop,resolve,invoke,builtin,hs,hx,hrun,Result.andThen]
 exact hK' _ _ h
def Out (W:World)(S:Cells)(v:Value)(l:List api_Version)(n0 i:Nat)(vs:Nat->Value)(Fi:Nat->Nat->Prop):Prop:=
 (i=0/\v= .slice none 0 0)\/∃g cap,v= .slice (some ⟨g,0,none⟩) i cap/\0<i/\Half W S g cap (l.take i) n0 i vs Fi
theorem Out.push {w0 W:World}{S S3:Cells}{v:Value}{l:List api_Version}{n0 i:Nat}{vs:Nat->Value}{Fi:Nat->Nat->Prop}(h:Out w0 S v l n0 i vs Fi)(hb:Below w0.heap.size w0 W)(hn0:n0<=w0.heap.size)(s1:∀b o,S b o->S3 b o)(s2:∀b o,S3 b o->(S b o\/w0.heap.size<=b)/\b<W.heap.size)
 {x:api_Version} (hx:l[i]? =some x) (hi:i<4000001) {u:Value} {F:Nat->Prop} (hr:RowAt W S3 u F 98 (.st .api_Line) x.Lines) (hF:∀b,F b->w0.heap.size<=b/\b<W.heap.size/\∀o,¬S3 b o) {q:Nat} (q0:W.cell? ⟨q,0,none⟩=some (.int .i64 x.Day)) (q1:W.cell? ⟨q,1,none⟩=some u) (hu1:u.oneCell'=true) (ty:TypeId):
 ∃v' W',(Builtin.append_ #[88,88] ty #[v,.slice (some ⟨q,0,none⟩) 1 1]).run Tryz.prog W= .ok v' W'/\(∃g cap,v'= .slice (some ⟨g,0,none⟩) (i+1) cap/\Half W' S3 g cap (l.take (i+1)) n0 (i+1) (put vs i u) (put Fi i F))/\Below n0 W W':=by
 have hil:=(List.getElem?_eq_some_iff.1 hx).1
 have hut:Tryz.prog.underlying 88=some (.slice 96):=by kernel_rfl
 have hbytes:infoV.bytes=32:=by kernel_rfl
 have hsrc:Src Tryz.prog (size (.st .api_Version)) 88 (.slice (some ⟨q,0,none⟩) 1 1) 1 [.int .i64 x.Day,u] W:=Src.ofSlice W hut ⟨q,0,none⟩ 1 1 [.int .i64 x.Day,u] rfl (λj u' hj=>by
  match j,hj with
  |0,hj=>cases hj;exact q0
  |1,hj=>cases hj;exact q1
  |j+2,hj=>cases hj) (λu' hu'=>by
  rcases List.mem_cons.1 hu' with rfl|hu'
  ·rfl
  ·rw[List.mem_singleton] at hu';rw[hu'];exact hu1)
 have hraw:∃G:Nat->Prop,RawAt W v G 96 (size (.st .api_Version)) i/\∀b,G b->n0<=b/\b<w0.heap.size/\(∀o,¬S3 b o)/\∀j,j<i->¬Fi j b:=by
  rcases h with⟨rfl,rfl⟩|⟨g,cap,rfl,h0,hH⟩
  ·exact⟨λ_=>False,.inl ⟨rfl,⟨none,rfl⟩,λ_ h=>h⟩,λb h=>h.elim⟩
  ·have hH':=hH.grow hb s1 s2
   obtain⟨cur,k1,k2,_⟩:=hH'.row
   refine⟨λb=>b=g,.inr ⟨g,cap,cur,rfl,λb=>Iff.rfl,k1,?_,hH'.cp.2,k2⟩,λb e=> ?_⟩
   ·have:=hH'.cp.1
    rw[List.length_take] at this
    omega
   ·subst e
    exact⟨hH.gn.1,hH.gn.2,hH'.gS,λj hj hf=>(hH.fr j hj _ hf).2.2.1 rfl⟩
 obtain⟨G,hraw,hG⟩:=hraw
 obtain⟨v',W',hrun,hres⟩:=app_raw (P:=Tryz.prog) W 88 ty 96 infoV zeroV (.st .api_Version) hut infoV_eq zeroV_eq (by rw[sizeV];rfl) (by rw[cellsV];rfl) hraw hsrc (by simp only[maxLen];omega) (by rw[hbytes];omega)
 refine⟨v',W',hrun,?_⟩
 rcases hres with⟨h1,_⟩|⟨g,cap,arr,rfl,hcap,hcm,hg,harr,hold,hnew,o1,o2,o3,o4,o5,o6,hwhere⟩
 ·cases h1
 have hgn:n0<=g/\(∀o,¬S3 g o)/\(∀j,j<i->∀b,Fi j b->b<w0.heap.size->b≠g)/\∀b,F b->b≠g:=by
  rcases hwhere with e|e
  ·have:=hb.size
   exact⟨by omega,λo hs=>by have:=(s2 g o hs).2;omega,λj _ b _ hlt e'=>by omega,λb hf e'=>by have:=(hF b hf).2.1;omega⟩
  ·obtain⟨e1,e2,e3,e4⟩:=hG g e
   exact⟨e1,e3,λj hj b hf _ e'=>e4 j hj (e' ▸ hf),λb hf e'=>by have:=(hF b hf).1;omega⟩
 obtain⟨g1,g2,g3,g4⟩:=hgn
 have hc:∀b o,S3 b o->W'.cell? ⟨b,o,none⟩=W.cell? ⟨b,o,none⟩:=λb o hs=>World.cell?_of_block (o5 b (s2 b o hs).2 λe=>g2 o (e ▸ hs))
 have htl:(l.take (i+1)).length=i+1:=by rw[List.length_take];omega
 have hget:∀j y,(l.take (i+1))[j]? =some y->(j<i/\(l.take i)[j]? =some y)\/(j=i/\y=x):=λj y hj=>by
  have hjl:=(List.getElem?_eq_some_iff.1 hj).1
  rw[htl] at hjl
  rw[List.getElem?_take,if_pos hjl] at hj
  by_cases e:j=i
  ·subst e
   rw[hx] at hj
   injection hj with hj
   exact .inr ⟨rfl,hj.symm⟩
  ·exact .inl ⟨by omega,by rw[List.getElem?_take,if_pos (by omega)];exact hj⟩
 have hH':0<i->∃gg cc,v= .slice (some ⟨gg,0,none⟩) i cc/\Half w0 S gg cc (l.take i) n0 i vs Fi/\Half W S3 gg cc (l.take i) n0 i vs Fi:=λh0=>by
  rcases h with⟨e,_⟩|⟨gg,cc,e,_,hH⟩
  ·omega
  ·exact⟨gg,cc,e,hH,hH.grow hb s1 s2⟩
 refine⟨⟨g,cap,rfl,⟨arr,hg,harr,λj y hj=> ?_⟩,λj y hj hji=> ?_,λj y hj hji=> ?_,λj hj b hf=> ?_,λj j' b hj hj' hf hf'=> ?_,g2,⟨g1,o6⟩,λb o hs=>Nat.lt_of_lt_of_le (s2 b o hs).2 o4,⟨by rw[htl];exact hcap,hcm⟩⟩,⟨o1,o2,o3,o4,λk hk=> ?_⟩⟩
 ·rcases hget j y hj with⟨e1,e2⟩|⟨rfl,rfl⟩
  ·obtain⟨gg,cc,ev,_,hH⟩:=hH' (by omega)
   obtain⟨cur,k1,k2,k3⟩:=hH.row
   obtain⟨d1,d2⟩:=k3 j y e2
   have ho:=hold gg cc cur ev k1
   have hsz:size (.st .api_Version)=2:=rfl
   rw[hsz] at ho
   rw[ho _ (by omega),ho _ (by omega),put_ne _ _ (by omega)]
   exact⟨d1,d2⟩
  ·rw[put_same]
   exact⟨hnew 0 _ rfl,hnew 1 _ rfl⟩
 ·rcases hget j y hj with⟨e1,e2⟩|⟨rfl,rfl⟩
  ·obtain⟨gg,cc,ev,hH0,hH⟩:=hH' (by omega)
   rw[put_ne _ _ (by omega),put_ne _ _ (by omega)]
   exact (hH.own j y e2 e1).keep (λ_ _ h=>h) hc λb hf=>o5 b (hH.fr j e1 b hf).2.1 (g3 j e1 b hf (hH0.fr j e1 b hf).2.1)
  ·rw[put_same,put_same]
   exact hr.keep (λ_ _ h=>h) hc λb hf=>o5 b (hF b hf).2.1 (g4 b hf)
 ·rcases hget j y hj with⟨e1,e2⟩|⟨e1,e2⟩<;>omega
 ·by_cases e:j=i
  ·subst e
   rw[put_same] at hf
   obtain⟨f1,f2,f3⟩:=hF b hf
   exact⟨by omega,Nat.lt_of_lt_of_le f2 o4,g4 b hf,f3⟩
  ·rw[put_ne _ _ e] at hf
   obtain⟨gg,cc,ev,hH0,hH⟩:=hH' (by omega)
   obtain⟨f1,f2,f3,f4⟩:=hH.fr j (by omega) b hf
   exact⟨f1,Nat.lt_of_lt_of_le f2 o4,g3 j (by omega) b hf (hH0.fr j (by omega) b hf).2.1,f4⟩
 ·have key:∀a c,a<i->Fi a b->F b->c=i->False:=λa c ha h1 h2 _=>by
   obtain⟨gg,cc,ev,hH0,hH⟩:=hH' (by omega)
   have:=(hH0.fr a ha b h1).2.1
   have:=(hF b h2).1
   omega
  by_cases e:j=i
  ·by_cases e':j'=i
   ·omega
   ·rw[e,put_same] at hf
    rw[put_ne _ _ e'] at hf'
    exact (key j' i (by omega) hf' hf rfl).elim
  ·by_cases e':j'=i
   ·rw[e',put_same] at hf'
    rw[put_ne _ _ e] at hf
    exact (key j i (by omega) hf hf' rfl).elim
   ·rw[put_ne _ _ e] at hf
    rw[put_ne _ _ e'] at hf'
    obtain⟨gg,cc,ev,hH0,hH⟩:=hH' (by omega)
    exact hH.dj j j' b (by omega) (by omega) hf hf'
 ·exact o5 k (by have:=hb.size;omega) (λe=>by omega)
set_option maxHeartbeats 4000000 in
theorem copy_walk (l:List api_Version)(hp:Small l)(hne:l≠[])(w:World)(S:Cells)(b off cap0:Nat)(f:Nat->Nat->Value)(hS:∀b o,S b o->b<w.heap.size)
 (hcell:∀i,i<l.length->w.cell? ⟨b,off+i * 2,none⟩=some (.int .i64 (ix l (i:Int)).Day)/\w.cell? ⟨b,off+i * 2+1,none⟩=some (f i 1)) (hold:∀i x,l[i]? =some x->Rd S w (.sl (.st .api_Line) x.Lines) (f i 1)):
 Calls Tryz.prog 124 #[.slice (some ⟨b,off,none⟩) l.length cap0] w λex w'=>∃(g cap:Nat)(vs:Nat->Value)(Fi:Nat->Nat->Prop)(S':Cells),ex= .returned (.slice (some ⟨g,0,none⟩) l.length cap)/\Half w' S' g cap l w.heap.size l.length vs Fi/\(∀b o,S b o->S' b o)/\(∀b o,S' b o->(S b o\/w.heap.size<=b)/\b<w'.heap.size)/\Below w.heap.size w w':=by
 obtain⟨n,hn⟩:∃n,l.length=n:=⟨_,rfl⟩
 rw[hn]
 have hn':=Lib.hid hn
 have hnb:n<=4000000:=by rw[<-hn];exact hp.1
 have hcell':=Lib.hid hcell
 have hold':=Lib.hid hold
 have hp':=Lib.hid hp
 have hS':=Lib.hid hS
 clear hn hcell hold hp hS
 go_enter Tryz.func124,Tryz.ntmps124
 go_wp2_with fail
 go_loopw [3,8] (λo q wr=>∃(i:Nat)(v:Value)(vs:Nat->Value)(Fi:Nat->Nat->Prop)(S2:Cells),i<=n/\q= .int .i64 i/\o=v/\Out wr S2 v l w.heap.size i vs Fi/\(∀b o,S b o->S2 b o)/\(∀b o,S2 b o->(S b o\/w.heap.size<=b)/\b<wr.heap.size)/\Below w.heap.size w wr) (λ_ q _=>n-(intOf q).toNat)
 case atStart=>exact⟨0,_,λ_=>undef,λ_ _=>False,S,by omega,rfl,rfl,.inl ⟨rfl,rfl⟩,λ_ _ h=>h,λb o h=>⟨.inl h,hS'.out b o h⟩,Below.refl _ _⟩
 case round=>
  obtain⟨i,v,vs,Fi,S2,hi,rfl,rfl,hH,t1,t2,hB⟩:=hrel
  by_cases hlt:i<n
  ·have hlx:=Lib.hid hlt
   have hil:i<l.length:=by have:=hn'.out;omega
   obtain⟨x,hx⟩:∃x,l[i]? =some x:=⟨_,List.getElem?_eq_getElem hil⟩
   obtain⟨c0,c1⟩:=hcell'.out i hil
   have hxd:(ix l (i:Int)).Day=x.Day:=by rw[ix_lt hil];exact congrArg _ (List.getElem?_eq_some_iff.1 hx).2
   rw[hxd] at c0
   have c0:=(hB.cell (World.block_lt_of_cell? w _ c0)).trans c0
   have c1:=(hB.cell (World.block_lt_of_cell? w _ c1)).trans c1
   have hold2:=Lib.hid ((hold'.out i x hx).mono t1 λb o hs=>hB.cell (p:=⟨b,o,none⟩) (hS'.out b o hs))
   obtain⟨ad2,c2,hou⟩:∃ad2 c2,f i 1= .slice ad2 x.Lines.length c2:=by
    obtain⟨ad,cap,_,_,_,e,_⟩:=(hold2.out).slInv
    exact⟨ad,cap,e⟩
   rw[hou] at c1 hold2
   obtain⟨m,hm⟩:∃m,x.Lines.length=m:=⟨_,rfl⟩
   rw[hm] at c1 hold2
   have hm':=Lib.hid hm
   have hmb:m<=4000000:=by rw[<-hm];exact (hp'.out.2 x (List.mem_of_getElem? hx)).1
   have hBx:=Lib.hid hB
   have hHx:=Lib.hid hH
   have t1x:=Lib.hid t1
   have t2x:=Lib.hid t2
   have hxx:=Lib.hid hx
   obtain⟨dx,hdx⟩:∃d,x.Day=d:=⟨_,rfl⟩
   rw[hdx] at c0
   have hdx':=Lib.hid hdx
   clear hB hH t1 t2 hx hdx hxd hou hm
   go_upto_region 5 with fail
   obtain⟨W1,hW1⟩:∃W1,W1=wr.alloc (.cells #[.int .i64 dx,.slice ad2 m c2] 96):=⟨_,rfl⟩
   rw[<-hW1]
   have hb2:=Lib.hid (show Below wr.heap.size wr W1 by rw[hW1];exact (Below.refl _ _).alloc (Nat.le_refl _) _)
   have bx:=Lib.hid (show W1.heap[wr.heap.size]? =some (.cells #[.int .i64 dx,.slice ad2 m c2] 96 (0,0)) by rw[hW1];exact heap_alloc_new wr _)
   obtain⟨b5,hb5⟩:∃b5,wr.heap.size=b5:=⟨_,rfl⟩
   rw[hb5] at bx ⊢
   have hb5':=Lib.hid hb5
   have d1:W1.cell? ⟨b5,1,none⟩=some (.slice ad2 m c2):=by rw[cell_row bx.out];rfl
   have hold1:Rd S2 W1 (.sl (.st .api_Line) x.Lines) (.slice ad2 m c2):=hold2.out.mono (λ_ _ h=>h) λb o hs=>hb2.out.cell (p:=⟨b,o,none⟩) (t2x.out b o hs).2
   obtain⟨W2,hW2⟩:∃W2,W2=W1.alloc (.cells #[] 98):=⟨_,rfl⟩
   have hba:Below W1.heap.size W1 W2:=by rw[hW2];exact (Below.refl _ _).alloc (Nat.le_refl _) _
   have hS2:∀b o,S2 b o->b<W2.heap.size:=λb o hs=>Nat.lt_of_lt_of_le (t2x.out b o hs).2 (Nat.le_trans hb2.out.size hba.size)
   have hold3:Rd S2 W2 (.sl (.st .api_Line) x.Lines) (.slice ad2 m c2):=hold1.mono (λ_ _ h=>h) λb o hs=>hba.cell (p:=⟨b,o,none⟩) (Nat.lt_of_lt_of_le (t2x.out b o hs).2 hb2.out.size)
   have hul:Tryz.prog.underlying 94=some (.slice 98):=by kernel_rfl
   have hbl:infoL.bytes=48:=by kernel_rfl
   obtain⟨v3,W3,F3,S3,hrun,hrow,r1,r2,r3,hb3⟩:=app_row (P:=Tryz.prog) (w:=W2) (S:=S2) hS2 94 94 98 infoL zeroL (.st .api_Line) hul infoL_eq zeroL_eq (by rw[sizeL];rfl) (by rw[cellsL];rfl) (by decide) (some ⟨W1.heap.size,0,none⟩) (SrcOK.ofRd hul (by decide) hold3) (by have:List.length (α:=den (.st .api_Line)) x.Lines=m:=hm'.out;rw[this];simp only[maxLen];omega) (by have:List.length (α:=den (.st .api_Line)) x.Lines=m:=hm'.out;rw[this,hbl];omega)
   obtain⟨_,ad3,c3,e3,_⟩:=hrow.slice
   have e4:v3= .slice ad3 m c3:=by rw[<-hm'.out];exact e3
   clear e3
   subst e4
   have hb5l:b5<W1.heap.size:=(Array.getElem?_eq_some_iff.1 bx.out).1
   have d1:W2.cell? ⟨b5,1,none⟩=some (.slice ad2 m c2):=(hba.cell (World.block_lt_of_cell? W1 _ d1)).trans d1
   have bx3:W3.heap[b5]? =some (.cells #[.int .i64 dx,.slice ad2 m c2] 96 (0,0)):=(hb3.block b5 (Nat.lt_of_lt_of_le hb5l hba.size)).trans ((hba.block b5 hb5l).trans bx.out)
   have f1:W3.cell? ⟨b5,1,none⟩=some (.slice ad2 m c2):=by rw[cell_row bx3];rfl
   have f2:W3.frozen? ⟨b5,1,none⟩=false:=by simp[World.frozen?,bx3]
   obtain⟨W4,hW4⟩:∃W4,W4=W3.setCell ⟨b5,1,none⟩ (.slice ad3 m c3):=⟨_,rfl⟩
   have bx4:W4.heap[b5]? =some (.cells #[.int .i64 dx,.slice ad3 m c3] 96 (0,0)):=by
    rw[hW4]
    exact heap_setCell_at (arr:=[.int .i64 dx,.slice ad2 m c2]) bx3
   have f3:W4.cell? ⟨b5,0,none⟩=some (.int .i64 dx):=by rw[cell_row bx4];rfl
   have f4:W4.cell? ⟨b5,1,none⟩=some (.slice ad3 m c3):=by rw[cell_row bx4];rfl
   obtain⟨W5,hW5⟩:∃W5,W5=W4.alloc (.cells #[.int .i64 dx,.slice ad3 m c3] 96):=⟨_,rfl⟩
   have bx5:W5.heap[W4.heap.size]? =some (.cells #[.int .i64 dx,.slice ad3 m c3] 96 (0,0)):=by rw[hW5];exact heap_alloc_new W4 _
   have hs4:W4.heap.size=W3.heap.size:=by rw[hW4];simp[World.setCell]
   have hs5:W5.heap.size=W4.heap.size+1:=by rw[hW5];simp
   have hblk:∀k,k<W3.heap.size->k≠b5->W5.heap[k]? =W3.heap[k]? :=λk hk hk5=>by
    rw[hW5,hW4]
    exact (heap_alloc_old _ _ (by rw[<-hW4,hs4];exact hk)).trans (setCell_blk _ _ _ _ hk5)
   have hb23:Below b5 wr W5:=by
    have h1:Below b5 wr W3:=by
     rw[<-hb5'.out]
     exact (hb2.out.trans (hba.mono hb2.out.size)).trans (hb3.mono (Nat.le_trans hb2.out.size hba.size))
    have h2:Below b5 wr W4:=by rw[hW4];exact h1.setCell (Nat.le_refl _) _
    rw[hW5]
    exact h2.alloc (by rw[hs4];exact Nat.le_of_lt (Nat.lt_of_lt_of_le hb5l (Nat.le_trans hba.size hb3.size))) _
   have hlow:∀b o,S3 b o->b≠b5:=λb o hs e=>by
    rcases (r2 b o hs).1 with h|h
    ·have:=(t2x.out b o h).2
     have:=hb5'.out
     omega
    ·have:=hba.size
     omega
   have hrow5:RowAt W5 S3 (.slice ad3 m c3) F3 98 (.st .api_Line) x.Lines:=hrow.keep (λ_ _ h=>h) (λb o hs=>World.cell?_of_block (hblk b (r2 b o hs).2 (hlow b o hs))) λb hf=>hblk b (r3 b hf).2.1 λe=>by have h1:=(r3 b hf).1;have:=hba.size;omega
   obtain⟨v6,W6,hrun6,⟨g6,cap6,e6,hH6⟩,hb6⟩:=hHx.out.push (W:=W5) (S3:=S3) (by rw[hb5'.out];exact hb23) hBx.out.size r1 (λb o hs=>⟨(r2 b o hs).1.imp_right λh=>by have:=hba.size;have:=hb2.out.size;omega,by have:=(r2 b o hs).2;omega⟩) hxx.out (by omega) hrow5 (λb hf=>⟨by have:=(r3 b hf).1;have:=hba.size;have:=hb2.out.size;omega,by have:=(r3 b hf).2.1;omega,(r3 b hf).2.2⟩) (q:=W3.heap.size) (by rw[<-hs4,cell_row bx5,hdx'.out];rfl) (by rw[<-hs4,cell_row bx5];rfl) rfl 88
   subst e6
   have hfin:=Lib.hid (show (∀b o,S b o->S3 b o)/\(∀b o,S3 b o->(S b o\/w.heap.size<=b)/\b<W6.heap.size)/\Below w.heap.size w W6 from ⟨λb o h=>r1 b o (t1x.out b o h),λb o h=>⟨(r2 b o h).1.elim (λh=>(t2x.out b o h).1) λh=> .inr (by have:=hba.size;have:=hb2.out.size;have:=hBx.out.size;omega),hH6.sS b o h⟩,(hBx.out.trans (hb23.mono (by rw[<-hb5'.out];exact hBx.out.size))).trans hb6⟩)
   have hH6':=Lib.hid hH6
   rw[hW2] at hrun d1
   rw[hW4] at f3 f4
   rw[hW5,hW4] at hrun6
   clear hb6 hH6 hrow5 hlow hb23 hblk hs5 hs4 bx5 hW5 bx4 hW4 bx3 hb3 r1 r2 r3 hrow hold3 hold1 hS2 hba hW2 c0 c1 hW1 hb5l hb5
   have hrun':=Lib.hid hrun
   have hrun6':=Lib.hid hrun6
   clear hrun hrun6 hul hbl
   go_upto_region 6 with (at_builtin;refine wpList_app rfl _ _ _ rfl rfl rfl hrun'.out ?_)
   clear d1 f1 f2
   have hlx2:i<n:=hlx.out
   go_wp2_with (at_builtin;refine wpList_app rfl _ _ _ rfl rfl rfl hrun6'.out ?_)
   go_round
   case rel=>exact⟨i+1,_,_,_,S3,hlx.out,by go_num,rfl,.inr ⟨g6,cap6,rfl,Nat.succ_pos i,hH6'.out⟩,hfin.out.1,hfin.out.2.1,hfin.out.2.2⟩
   case measure=>have:=hlx.out;simp[intOf];omega
  ·have hie:i=n:=by omega
   have hHx:=Lib.hid hH
   have t1x:=Lib.hid t1
   have t2x:=Lib.hid t2
   have hBx:=Lib.hid hB
   clear hH t1 t2 hB
   go_wp2
   go_ret
   subst hie
   rcases hHx.out with⟨e,_⟩|⟨g,cap,e,h0,hH⟩
   ·exact absurd (List.eq_nil_of_length_eq_zero (hn'.out.trans e)) hne
   ·have htk:l.take i=l:=by rw[<-hn'.out];exact List.take_length
    rw[htk] at hH
    subst e
    exact⟨g,cap,vs,Fi,S2,rfl,hH,t1x.out,t2x.out,hBx.out⟩
set_option maxHeartbeats 1000000 in
theorem copy_nil (w:World)(ad:Option Addr)(cap0:Nat):
 Calls Tryz.prog 124 #[.slice ad 0 cap0] w λex w'=>ex= .returned (.slice none 0 0)/\w'=w:=by
 go_enter Tryz.func124,Tryz.ntmps124
 go_wp2_with fail
 refine wp_loop_rounds 1 ?_
 rw[rounds_succ]
 go_wp2
 go_ret
 exact⟨rfl,rfl⟩
theorem copy_mk:NstMk Tryz.prog 124 (.st .api_Version) 96 1 98 (.st .api_Line) Small:=by
 intro l hp w S u hS hu
 have hp:Small l:=hp
 obtain⟨ad,cap0,b,off,f,e,hc1,hc2,ha,hx1,hx2⟩:=hu.slInv
 by_cases hne:l=[]
 ·subst hne
  have e:u= .slice ad 0 cap0:=e
  subst e
  refine (copy_nil w ad cap0).mono ?_
  rintro ex w' ⟨rfl,rfl⟩
  exact⟨_,[],λ_=>False,S,rfl,nst_empty (by decide) ⟨by decide,.inl ⟨rfl,⟨none,rfl⟩,λ_ h=>h⟩⟩,λ_ _ h=>h,λb o h=>⟨.inl h,hS b o h⟩,λb h=>h.elim,Below.refl _ _⟩
 ·rcases ha with ha|ha
  ·exact absurd ha hne
  subst e ha
  have hf0:∀i x,l[i]? =some x->f i 0= .int .i64 x.Day:=λi x hx=>rd_v (hx2 i x 0 (.v (.int .i64 x.Day)) hx rfl)
  refine (copy_walk l hp hne w S b off cap0 f hS (λi hi=> ?_) (λi x hx=>hx2 i x 1 (.sl (.st .api_Line) x.Lines) hx rfl)).mono ?_
  ·have h0:=(hx1 i hi 0 (by decide)).2.1
   have h1:=(hx1 i hi 1 (by decide)).2.1
   rw[hf0 i l[i] (List.getElem?_eq_getElem hi)] at h0
   rw[ix_lt hi]
   exact⟨h0,h1⟩
  ·rintro ex w' ⟨g,cap,vs,Fi,S',rfl,hH,h2,h3,h4⟩
   obtain⟨us,F,k1,k2⟩:=hH.nst hne
   exact⟨_,us,F,S',rfl,k1,h2,h3,k2,h4⟩
end Nest
end RE
end Go.Proofs.YtpeggkeenboacaaGreat
set_option linter.unusedVariables false
namespace Go.Proofs.YtpeggkeenboacaaGreat
open Go.RowKit
namespace RE
open PL
namespace PL
def plcN (l:List api_Version)(k:Nat):List api_Place:=(List.range k).flatMap λ(i:Nat)=>(List.range (ix l (i:Int)).Lines.length).map λ(j:Nat)=>(⟨(i:Int),(j:Int)⟩:api_Place)
def regN (l:List api_Version)(k:Nat):List api_Region:=(List.range k).flatMap λ(i:Nat)=>(ix l (i:Int)).Lines.map (·.Region)
theorem plcN_succ (l:List api_Version)(k:Nat):plcN l (k+1)=plcN l k++(List.range (ix l (k:Int)).Lines.length).map λ(j:Nat)=>(⟨(k:Int),(j:Int)⟩:api_Place):=by
 unfold plcN;rw[List.range_succ,List.flatMap_append];simp
theorem regN_succ (l:List api_Version)(k:Nat):regN l (k+1)=regN l k++(ix l (k:Int)).Lines.map (·.Region):=by
 unfold regN;rw[List.range_succ,List.flatMap_append];simp
def manyV (l:List api_Version):Prop:=l.length<=1000/\∀v∈l,v.Lines.length<=1000
def plcI (l:List api_Version)(z:Int)(a:List api_Region)(b:List api_Place):Prop:=∃k:Nat,z=(k:Int)/\k<=l.length/\a=regN l k/\b=plcN l k/\a.length<=1000 * k/\b.length<=1000 * k
def plcJ (l:List api_Version)(i:Nat)(z:Int)(a:List api_Region)(b:List api_Place):Prop:=∃k:Nat,z=(k:Int)/\k<=(ix l (i:Int)).Lines.length/\a=regN l i++((ix l (i:Int)).Lines.take k).map (·.Region)/\b=plcN l i++(List.range k).map λ(j:Nat)=>(⟨(i:Int),(j:Int)⟩:api_Place)
end PL
def rplaces_P (l:List (api_Version))(post:List (api_Place)->List (api_Region)->Prop):Prop:=(manyV l)/\post (plcN l l.length) (regN l l.length)
def rplaces_sp:Spec:=⟨174,false,true,[.sl (.st .api_Version)],.tup [.dat (.sl (.st .api_Place)),.dat (.sl (.st .api_Region))],λx post=>rplaces_P (x.1:List (api_Version)) (λy0 y1=>post (y0,y1,()))⟩
def rplaces_C:CtxR:=⟨tau,[],lookJ [(0,9,⟨[(12,.dat (.int .i64)),(5,.own 29 (.st .api_Region)),(4,.own 82 (.st .api_Place))],[],[13,14,15,16,7,6,17,18,19,36,25,26,27,28,29,30,31,32,33,34,35,8,9,24,23,22,20,21,37],[],[]⟩),(0,15,⟨[(20,.dat (.int .i64)),(5,.own 29 (.st .api_Region)),(4,.own 82 (.st .api_Place))],[],[21,22,23,24,9,8,35,34,33,32,31,30,29,28,27,26,25,36],[0,1],[]⟩),(0,1000009,⟨[(5,.own 29 (.st .api_Region)),(4,.own 82 (.st .api_Place))],[],[25,26,27,28,29,30,31,32,33,34,35],[4,3],[]⟩)]⟩
def rplaces_W (l:List (api_Version))(post:List (api_Place)->List (api_Region)->Prop):Prop:=(↑l.length:Int)<=9223372036854775807->LOOP [Ty.int IntKind.i64,(Ty.st Sn.api_Region).sl,(Ty.st Sn.api_Place).sl] (λ(rec1:Int->List api_Region->List api_Place->Prop) (z2:Int) (z3:List api_Region) (z4:List api_Place)=>IFB (decide (z2<(↑l.length:Int))) (((0:Int)<=z2/\z2<(↑l.length:Int))/\((↑(ix l z2).2.length:Int)<=9223372036854775807->LOOP [Ty.int IntKind.i64,(Ty.st Sn.api_Region).sl,(Ty.st Sn.api_Place).sl] (λ(rec5:Int->List api_Region->List api_Place->Prop) (z6:Int) (z7:List api_Region) (z8:List api_Place)=>IFB (decide (z6<(↑(ix l z2).2.length:Int))) (((0:Int)<=z6/\z6<(↑(ix l z2).2.length:Int))/\JOIN [(Ty.st Sn.api_Region).sl,(Ty.st Sn.api_Place).sl] (λ(y9:List api_Region) (y10:List api_Place)=>rec5 (IntKind.i64.wrap (z6+1)) y9 y10) λ(J11:List api_Region->List api_Place->Prop)=>((((z8.length+[(⟨z2,z6⟩:api_Place)].length) * (16:Nat)<=140737488355328/\(z7.length+[{Rects:=(ix (ix l z2).2 z6).2.1:api_Region}].length) * (24:Nat)<=140737488355328/\J11 (z7++[{Rects:=(ix (ix l z2).2 z6).2.1:api_Region}]) (z8++[(⟨z2,z6⟩:api_Place)]))/\(z8.length+[(⟨z2,z6⟩:api_Place)].length) * (16:Nat)<=140737488355328/\(z7.length+[{Rects:=(ix (ix l z2).2 z6).2.1:api_Region}].length) * (24:Nat)<=140737488355328/\J11 (z7++[{Rects:=(ix (ix l z2).2 z6).2.1:api_Region}]) (z8++[(⟨z2,z6⟩:api_Place)]))/\(z8.length+[(⟨z2,z6⟩:api_Place)].length) * (16:Nat)<=140737488355328/\(z7.length+[{Rects:=(ix (ix l z2).2 z6).2.1:api_Region}].length) * (24:Nat)<=140737488355328/\J11 (z7++[{Rects:=(ix (ix l z2).2 z6).2.1:api_Region}]) (z8++[(⟨z2,z6⟩:api_Place)]))/\(z8.length+[(⟨z2,z6⟩:api_Place)].length) * (16:Nat)<=140737488355328/\(z7.length+[{Rects:=(ix (ix l z2).2 z6).2.1:api_Region}].length) * (24:Nat)<=140737488355328/\J11 (z7++[{Rects:=(ix (ix l z2).2 z6).2.1:api_Region}]) (z8++[(⟨z2,z6⟩:api_Place)])) (rec1 (IntKind.i64.wrap (z2+1)) z7 z8)) ((0:Int),z3,z4,PUnit.unit))) (post z4 z3)) ((0:Int),[],[],PUnit.unit)
theorem rplaces_w (l:List (api_Version))(post:dens (shT rplaces_sp.rs [])->Prop):rplaces_W l (λy0 y1=>post (y0,y1,()))=walkG (callR Tryz.prog rplaces_C (drawR Tryz.prog tau) 6 0) 174 false [tv (.sl (.st .api_Version)) l] rplaces_sp.rs post:=by kernel_rfl
theorem rplaces_of (h:∀(l:List (api_Version))(post:List (api_Place)->List (api_Region)->Prop),rplaces_P l post->rplaces_W l post):SpecOK Tryz.prog rplaces_sp:=SpecOK.of_rules (C:=rplaces_C) (dr:=drawR Tryz.prog tau) (n:=6) (fk:=0) .nil (drawR_ok tau) λx post hp=>HoldW.of (rplaces_w x.1 post) (h x.1 (λy0 y1=>post (y0,y1,())) hp)
theorem rplaces_ok:SpecOK Tryz.prog rplaces_sp:=rplaces_of λl post hp=>by
 obtain⟨⟨h1,h2⟩,hp⟩:=hp
 unfold rplaces_W
 refine λ_=> ?_
 refine LOOP.fuel (λu=>plcI l u.1 u.2.1 u.2.2.1) (λu=>l.length-Int.toNat u.1) ⟨0,rfl,Nat.zero_le _,rfl,rfl,Nat.zero_le _,Nat.zero_le _⟩ ?_
 rintro rec ⟨(z:Int),(a:List api_Region),(b:List api_Place),⟨⟩⟩ ⟨k,i1,i2,i3,i4,i5,i6⟩ hrec
 have i1:z=(k:Int):=i1
 have q3:a=regN l k:=i3
 have q4:b=plcN l k:=i4
 have q5:a.length<=1000 * k:=i5
 have q6:b.length<=1000 * k:=i6
 clear i3 i4 i5 i6
 subst i1
 refine IFB.mk (λhb=> ?_) (λhb=> ?_)
 ·have hb:(k:Int)<l.length:=of_decide_eq_true hb
  have hx:=h2 _ (ix_mem (l:=l) (i:=(k:Int)) (by omega) hb)
  refine⟨⟨by omega,hb⟩,λ_=> ?_⟩
  refine LOOP.fuel (λu=>plcJ l k u.1 u.2.1 u.2.2.1) (λu=>(ix l (k:Int)).Lines.length-Int.toNat u.1) ⟨0,rfl,Nat.zero_le _,by rw[List.take_zero,List.map_nil,List.append_nil];exact q3,by rw[List.range_zero,List.map_nil,List.append_nil];exact q4⟩ ?_
  rintro rec2 ⟨(z2:Int),(a2:List api_Region),(b2:List api_Place),⟨⟩⟩ ⟨k2,j1,j2,j3,j4⟩ hrec2
  have j1:z2=(k2:Int):=j1
  have r3:a2=regN l k++((ix l (k:Int)).Lines.take k2).map (·.Region):=j3
  have r4:b2=plcN l k++(List.range k2).map λ(j:Nat)=>(⟨(k:Int),(j:Int)⟩:api_Place):=j4
  clear j3 j4
  subst j1
  have la:List.length a2<=1000000+1000:=by
   have e:List.length a2=List.length a+min k2 (ix l (k:Int)).Lines.length:=by rw[r3,List.length_append,List.length_map,List.length_take,<-q3]
   rw[e];omega
  have lb:List.length b2<=1000000+1000:=by
   have e:List.length b2=List.length b+k2:=by rw[r4,List.length_append,List.length_map,List.length_range,<-q4]
   rw[e];omega
  refine IFB.mk (λhc=> ?_) (λhc=> ?_)
  ·have hc:(k2:Int)<(ix l (k:Int)).Lines.length:=of_decide_eq_true hc
   have hk2:k2<(ix l (k:Int)).Lines.length:=by omega
   refine⟨⟨by omega,hc⟩,?_⟩
   dsimp only
   refine JOIN.opq λ(J:List api_Region->List api_Place->Prop) hJ=> ?_
   have fin:J (a2++[(⟨(ix (ix l (k:Int)).2 (k2:Int)).2.1⟩:api_Region)]) (b2++[(⟨(k:Int),(k2:Int)⟩:api_Place)]):=by
    rw[hJ]
    show rec2 (IntKind.i64.wrap ((k2:Int)+1)) _ _
    rw[wrapS (by omega)]
    refine hrec2 (((k2+1:Nat):Int),_,_,()) ⟨k2+1,rfl,hk2,?_,?_⟩ (by show (ix l (k:Int)).Lines.length-((k2+1:Nat):Int).toNat<(ix l (k:Int)).Lines.length-(k2:Int).toNat;omega)
    ·show a2++_=_
     rw[r3,List.take_succ_eq_append_getElem hk2,List.map_append,<-List.append_assoc,ix_lt hk2];rfl
    ·show b2++_=_
     rw[r4,List.range_succ,List.map_append,<-List.append_assoc];rfl
   have p1:(List.length b2+List.length [(⟨(k:Int),(k2:Int)⟩:api_Place)]) * 16<=140737488355328:=by rw[List.length_singleton];omega
   have p2:(List.length a2+List.length [(⟨(ix (ix l (k:Int)).2 (k2:Int)).2.1⟩:api_Region)]) * 24<=140737488355328:=by rw[List.length_singleton];omega
   exact⟨⟨⟨⟨p1,p2,fin⟩,p1,p2,fin⟩,p1,p2,fin⟩,p1,p2,fin⟩
  ·have hc:¬(k2:Int)<(ix l (k:Int)).Lines.length:=of_decide_eq_false hc
   have hk2:k2=(ix l (k:Int)).Lines.length:=by omega
   show rec (IntKind.i64.wrap ((k:Int)+1)) a2 b2
   rw[wrapS (by omega)]
   have e1:a2=regN l (k+1):=by rw[r3,hk2,List.take_length,regN_succ]
   have e2:b2=plcN l (k+1):=by rw[r4,hk2,plcN_succ]
   have hlx:(ix l (k:Int)).Lines.length<=1000:=hx
   refine hrec (((k+1:Nat):Int),a2,b2,()) ⟨k+1,rfl,by omega,e1,e2,?_,?_⟩ (by show l.length-((k+1:Nat):Int).toNat<l.length-(k:Int).toNat;omega)
   ·show List.length a2<=_
    have e:List.length a2=List.length a+min k2 (ix l (k:Int)).Lines.length:=by rw[r3,List.length_append,List.length_map,List.length_take,<-q3]
    rw[e];omega
   ·show List.length b2<=_
    have e:List.length b2=List.length b+k2:=by rw[r4,List.length_append,List.length_map,List.length_range,<-q4]
    rw[e];omega
 ·have hb:¬(k:Int)<l.length:=of_decide_eq_false hb
  have hk:k=l.length:=by omega
  show post b a
  rw[q3,q4,hk];exact hp
end RE
end Go.Proofs.YtpeggkeenboacaaGreat
set_option linter.unusedVariables false
namespace Go.Proofs.YtpeggkeenboacaaGreat
open Go.RowKit
namespace RE
open PL
namespace PL
def beginP (l:List api_Version)(e:Int):Prop:=(60<(regN l l.length).length/\e=1)\/((regN l l.length).length<=60/\(¬∀a∈regN l l.length,validP a.1)/\e=7)\/((regN l l.length).length<=60/\(∀a∈regN l l.length,validP a.1)/\e=0)
def valI (l:List api_Region)(z:Int):Prop:=∃k:Nat,z=(k:Int)/\k<=l.length/\∀a∈l.take k,validP a.1
end PL
def rbegin_P (l:List (api_Version))(post:Int->Prop):Prop:=manyV l/\∀e:Int,beginP l e->post e
def rbegin_sp:Spec:=⟨116,false,true,[.sl (.st .api_Version)],.dat (.int .i64),λx post=>rbegin_P (x.1:List (api_Version)) (λy0=>post (y0,()))⟩
def rbegin_C:CtxR:=⟨tau,[rule1 rplaces_sp,rule1 rval_sp],lookJ [(0,11,⟨[(17,.dat (.int .i64))],[],[18,19,20,6,21,22,23,24],[],[]⟩)]⟩
def rbegin_W (l:List (api_Version))(post:Int->Prop):Prop:=(l.length<=1000/\∀(v1:api_Version),v1∈l->v1.2.length<=1000)/\((↑(regN l l.length).length:Int)<=9223372036854775807->IFB (decide ((60:Int)<(↑(regN l l.length).length:Int))) (post 1) ((↑(regN l l.length).length:Int)<=9223372036854775807->LOOP [Ty.int IntKind.i64] (λ(rec2:Int->Prop) (z3:Int)=>IFB (decide (z3<(↑(regN l l.length).length:Int))) (((0:Int)<=z3/\z3<(↑(regN l l.length).length:Int))/\∀(v4:Bool),(v4=true↔validP (ix (regN l l.length) z3).1)->IFB (!v4) (post 7) (rec2 (IntKind.i64.wrap (z3+1)))) (post 0)) ((0:Int),PUnit.unit)))
theorem rbegin_w (l:List (api_Version))(post:dens (shT rbegin_sp.rs [])->Prop):rbegin_W l (λy0=>post (y0,()))=walkG (callR Tryz.prog rbegin_C (drawR Tryz.prog tau) 6 0) 116 false [tv (.sl (.st .api_Version)) l] rbegin_sp.rs post:=by kernel_rfl
theorem rbegin_of (h:∀(l:List (api_Version))(post:Int->Prop),rbegin_P l post->rbegin_W l post):SpecOK Tryz.prog rbegin_sp:=SpecOK.of_rules (C:=rbegin_C) (dr:=drawR Tryz.prog tau) (n:=6) (fk:=0) (.cons (rule1_ok rplaces_ok) (.cons (rule1_ok rval_ok) .nil)) (drawR_ok tau) λx post hp=>HoldW.of (rbegin_w x.1 post) (h x.1 (λy0=>post (y0,())) hp)
theorem rbegin_ok:SpecOK Tryz.prog rbegin_sp:=rbegin_of λl post hp=>by
 obtain⟨h1,hp⟩:=hp
 unfold rbegin_W
 refine⟨h1,λ_=> ?_⟩
 refine IFB.mk (λhb=> ?_) (λhb=> ?_)
 ·have hb:(60:Int)<(List.length (regN l l.length):Int):=of_decide_eq_true hb
  exact hp 1 (.inl ⟨by omega,rfl⟩)
 have hb:¬(60:Int)<(List.length (regN l l.length):Int):=of_decide_eq_false hb
 have h60:(regN l l.length).length<=60:=by omega
 refine λ_=> ?_
 generalize hr:regN l l.length=r at *
 refine LOOP.fuel (λu=>valI r u.1) (λu=>r.length-Int.toNat u.1) ⟨0,rfl,Nat.zero_le _,by simp⟩ ?_
 rintro rec ⟨(z:Int),⟨⟩⟩ ⟨k,i1,i2,i3⟩ hrec
 have i1:z=(k:Int):=i1
 subst i1
 refine IFB.mk (λhc=> ?_) (λhc=> ?_)
 ·have hc:(k:Int)<r.length:=of_decide_eq_true hc
  have hk:k<r.length:=by omega
  refine⟨⟨by omega,hc⟩,λv hv=> ?_⟩
  have hv:v=true↔validP r[k].1:=by
   have:=hv
   dsimp only at this
   rwa [ix_lt hk] at this
  refine IFB.mk (λhn=> ?_) (λhn=> ?_)
  ·refine hp 7 (.inr (.inl ⟨by rw[hr];exact h60,λhall=> ?_,rfl⟩))
   rw[hr] at hall
   have:=hv.2 (hall _ (List.getElem_mem hk))
   rw[this] at hn;cases hn
  ·have hn:v=true:=by cases v<;>simp_all
   show rec (IntKind.i64.wrap ((k:Int)+1))
   rw[wrapS (by omega)]
   refine hrec (((k+1:Nat):Int),()) ⟨k+1,rfl,hk,λa ha=> ?_⟩ (by show r.length-((k+1:Nat):Int).toNat<r.length-(k:Int).toNat;omega)
   rw[List.take_succ_eq_append_getElem hk] at ha
   rcases List.mem_append.1 ha with h|h
   ·exact i3 a h
   ·rw[List.mem_singleton] at h;rw[h];exact hv.1 hn
 ·have hc:¬(k:Int)<r.length:=of_decide_eq_false hc
  have hk:k=r.length:=by omega
  rw[hk,List.take_length] at i3
  exact hp 0 (.inr (.inr ⟨by rw[hr];exact h60,by rw[hr];exact i3,rfl⟩))
end RE
end Go.Proofs.YtpeggkeenboacaaGreat
set_option linter.unusedVariables false
namespace Go.Proofs.YtpeggkeenboacaaGreat
open Go.RowKit
namespace RE
open PL
namespace PL
def limitF (l:List api_Version):Int:=if ∀a∈regN l l.length,a.1.length<=120 then 0 else 1
def limI (l:List api_Region)(z:Int):Prop:=∃k:Nat,z=(k:Int)/\k<=l.length/\∀a∈l.take k,a.1.length<=120
theorem limitF_0 {l:List api_Version}(h:∀a∈regN l l.length,a.1.length<=120):limitF l=0:=if_pos h
theorem limitF_1 {l:List api_Version}(h:¬∀a∈regN l l.length,a.1.length<=120):limitF l=1:=if_neg h
end PL
def rlimit_P (l:List (api_Version))(post:Int->Prop):Prop:=(manyV l)/\post (limitF l)
def rlimit_sp:Spec:=⟨125,false,false,[.sl (.st .api_Version)],.dat (.int .i64),λx post=>rlimit_P (x.1:List (api_Version)) (λy0=>post (y0,()))⟩
def rlimit_C:CtxR:=⟨tau,[rule1 rplaces_sp],lookJ [(0,7,⟨[(14,.dat (.int .i64))],[],[15,16,17,6,18,19,20,21,22],[],[]⟩)]⟩
def rlimit_W (l:List (api_Version))(post:Int->Prop):Prop:=(l.length<=1000/\∀(v1:api_Version),v1∈l->v1.2.length<=1000)/\((↑(regN l l.length).length:Int)<=9223372036854775807->LOOP [Ty.int IntKind.i64] (λ(rec2:Int->Prop) (z3:Int)=>IFB (decide (z3<(↑(regN l l.length).length:Int))) (((0:Int)<=z3/\z3<(↑(regN l l.length).length:Int))/\((↑(ix (regN l l.length) z3).1.length:Int)<=9223372036854775807->IFB (decide ((120:Int)<(↑(ix (regN l l.length) z3).1.length:Int))) (post 1) (rec2 (IntKind.i64.wrap (z3+1))))) (post 0)) ((0:Int),PUnit.unit))
theorem rlimit_w (l:List (api_Version))(post:dens (shT rlimit_sp.rs [])->Prop):rlimit_W l (λy0=>post (y0,()))=walkG (callR Tryz.prog rlimit_C (drawR Tryz.prog tau) 6 0) 125 false [tv (.sl (.st .api_Version)) l] rlimit_sp.rs post:=by kernel_rfl
theorem rlimit_of (h:∀(l:List (api_Version))(post:Int->Prop),rlimit_P l post->rlimit_W l post):SpecOK Tryz.prog rlimit_sp:=SpecOK.of_rules (C:=rlimit_C) (dr:=drawR Tryz.prog tau) (n:=6) (fk:=0) (.cons (rule1_ok rplaces_ok) .nil) (drawR_ok tau) λx post hp=>HoldW.of (rlimit_w x.1 post) (h x.1 (λy0=>post (y0,())) hp)
theorem rlimit_ok:SpecOK Tryz.prog rlimit_sp:=rlimit_of λl post hp=>by
 obtain⟨h1,hp⟩:=hp
 unfold rlimit_W
 refine⟨h1,λhlen=> ?_⟩
 have hlen:(List.length (regN l l.length):Int)<=9223372036854775807:=hlen
 generalize hr:regN l l.length=r at *
 refine LOOP.fuel (λu=>limI r u.1) (λu=>r.length-Int.toNat u.1) ⟨0,rfl,Nat.zero_le _,by simp⟩ ?_
 rintro rec ⟨(z:Int),⟨⟩⟩ ⟨k,i1,i2,i3⟩ hrec
 have i1:z=(k:Int):=i1
 subst i1
 refine IFB.mk (λhc=> ?_) (λhc=> ?_)
 ·have hc:(k:Int)<r.length:=of_decide_eq_true hc
  have hk:k<r.length:=by omega
  refine⟨⟨by omega,hc⟩,λ_=> ?_⟩
  dsimp only
  rw[ix_lt hk]
  refine IFB.mk (λhn=> ?_) (λhn=> ?_)
  ·have hn:(120:Int)<(r[k].1.length:Int):=of_decide_eq_true hn
   rw[limitF_1 (λhall=>by rw[hr] at hall;have:=hall _ (List.getElem_mem hk);omega)] at hp
   exact hp
  ·have hn:¬(120:Int)<(r[k].1.length:Int):=of_decide_eq_false hn
   show rec (IntKind.i64.wrap ((k:Int)+1))
   have hk64:(k:Int)+1<=9223372036854775807:=by omega
   rw[wrap_in (by omega) (by omega)]
   refine hrec ((k:Int)+1,()) ⟨k+1,rfl,hk,λa ha=> ?_⟩ (by show r.length-((k:Int)+1).toNat<r.length-(k:Int).toNat;omega)
   rw[List.take_succ_eq_append_getElem hk] at ha
   rcases List.mem_append.1 ha with h|h
   ·exact i3 a h
   ·rw[List.mem_singleton] at h;rw[h];omega
 ·have hc:¬(k:Int)<r.length:=of_decide_eq_false hc
  have hk:k=r.length:=by omega
  rw[hk,List.take_length] at i3
  rw[limitF_0 (by rw[hr];exact i3)] at hp
  exact hp
end RE
end Go.Proofs.YtpeggkeenboacaaGreat
set_option linter.unusedVariables false
namespace Go.Proofs.YtpeggkeenboacaaGreat
open Go.RowKit
namespace RE
open PL
namespace PL
def thereP (l:List api_Version)(p:api_Place):Prop:=0<=p.1/\p.1<(l.length:Int)/\0<=p.2/\p.2<((ix l p.1).Lines.length:Int)
instance (l:List api_Version) (p:api_Place):Decidable (thereP l p):=by unfold thereP;infer_instance
def withR (x:api_Line)(r:List api_Rect):api_Line:=⟨x.1,⟨r⟩,x.3,x.4⟩
def setAt (l:List api_Version)(p:api_Place)(r:List api_Rect):List api_Version:=l.set p.1.toNat ⟨(ix l p.1).1,(ix l p.1).2.set p.2.toNat (withR (ix (ix l p.1).2 p.2) r)⟩
noncomputable def give1 (l:List api_Version) (z:api_Yield):List api_Version:=setAt l z.1 (canonF (comb (howS 3) (ix (ix l z.1.1).2 z.1.2).2.1 z.2.1))
open Classical in
noncomputable def errY (l:List api_Version):List api_Yield->Int
 |[]=>0
 |z::r=>if ¬thereP l z.1 then 15 else if ¬validP z.2.1 then 7 else errY l r
open Classical in
noncomputable def beginF (l:List api_Version):Int:=if 60<(regN l l.length).length then 1 else if ∀a∈regN l l.length,validP a.1 then 0 else 7
theorem beginP_F {l:List api_Version}{e:Int}(h:beginP l e):e=beginF l:=by
 unfold beginF
 rcases h with⟨h1,h2⟩|⟨h1,h2,h3⟩|⟨h1,h2,h3⟩
 ·rw[if_pos h1,h2]
 ·rw[if_neg (by omega),if_neg h2,h3]
 ·rw[if_neg (by omega),if_pos h2,h3]
noncomputable def givS (l:List api_Version) (y:List api_Yield):List api_Version×Int:=
 if beginF l≠0 then ([],beginF l) else if 200<y.length then ([],1) else if errY l y≠0 then ([],errY l y) else if limitF (y.foldl give1 l)≠0 then ([],1) else (y.foldl give1 l,0)
def okG (l:List api_Version)(y:List api_Yield):Prop:=beginF l=0->∀k,k<=y.length->errY l (y.take k)=0->∀v∈(y.take k).foldl give1 l,∀x∈v.Lines,x.Region.Rects.length<=1000
def shapeV (l m:List api_Version):Prop:=m.length=l.length/\∀i:Nat,(ix m (i:Int)).Lines.length=(ix l (i:Int)).Lines.length
theorem shapeV.refl (l:List api_Version):shapeV l l:=⟨rfl,λ_=>rfl⟩
theorem ix_set {α:Type}[Inhabited α]{l:List α}{i j:Nat}{x:α}:ix (l.set i x) (j:Int)=if i=j/\i<l.length then x else ix l (j:Int):=by
 unfold ix
 simp only[Int.toNat_natCast,List.getD_eq_getElem?_getD,List.getElem?_set]
 by_cases h:i=j
 ·subst h
  by_cases h2:i<l.length
  ·simp[h2]
  ·simp[h2]
 ·simp[h]
theorem shapeV.set {l m:List api_Version}(h:shapeV l m)(p:api_Place)(r:List api_Rect)(h0:0<=p.1):shapeV l (setAt m p r):=by
 refine⟨by unfold setAt;rw[List.length_set];exact h.1,λi=> ?_⟩
 unfold setAt
 rw[ix_set]
 split
 ·rename_i hc
  have e:(p.1:Int)=(i:Int):=by omega
  show (List.set _ _ _).length=_
  rw[List.length_set,e];exact h.2 i
 ·exact h.2 i
theorem thereP_shape {l m:List api_Version}(h:shapeV l m){p:api_Place}(hp:thereP l p):thereP m p:=by
 obtain⟨a,b,c,d⟩:=hp
 obtain⟨n,hn⟩:∃n:Nat,p.1=(n:Int):=⟨p.1.toNat,by omega⟩
 refine⟨a,by rw[h.1];exact b,c,?_⟩
 rw[hn,h.2 n,<-hn];exact d
theorem errY_snoc {l:List api_Version}{y:List api_Yield}{z:api_Yield}(h:errY l y=0):errY l (y++[z])=errY l [z]:=by
 induction y with
 |nil=>rfl
 |cons a r ih=>
  unfold errY at h
  show errY l (a::(r++[z]))=_
  rw[errY]
  split at h
  ·cases h
  ·rename_i h1
   split at h
   ·cases h
   ·rename_i h2
    rw[if_neg h1,if_neg h2];exact ih h
theorem errY_app {l:List api_Version}{y r:List api_Yield}(h:errY l y≠0):errY l (y++r)=errY l y:=by
 induction y with
 |nil=>exact absurd rfl h
 |cons a t ih=>
  show errY l (a::(t++r))=_
  rw[errY,errY] at *
  split
  ·rfl
  ·rename_i h1
   split
   ·rfl
   ·rename_i h2
    rw[if_neg h1,if_neg h2] at h
    exact ih h
theorem regN_mem {l:List api_Version}{v:api_Version}(hv:v∈l){x:api_Line}(hx:x∈v.Lines):x.Region∈regN l l.length:=by
 obtain⟨i,hi,rfl⟩:=List.getElem_of_mem hv
 unfold regN
 refine List.mem_flatMap.2 ⟨i,List.mem_range.2 hi,?_⟩
 rw[ix_lt hi]
 exact List.mem_map.2 ⟨x,hx,rfl⟩
def givI (l:List api_Version)(y:List api_Yield)(z:Int)(m:List api_Version):Prop:=∃k:Nat,z=(k:Int)/\k<=y.length/\m=(y.take k).foldl give1 l/\errY l (y.take k)=0/\shapeV l m
end PL
def rgive_P (l:List (api_Version))(ys:List (api_Yield))(post:List (api_Version)->Int->Prop):Prop:=(manyV l/\okG l ys)/\post ((givS l ys).1) ((givS l ys).2)
def rgive_sp:Spec:=⟨54,false,true,[.sl (.st .api_Version),.sl (.st .api_Yield)],.tup [.dat (.sl (.st .api_Version)),.dat (.int .i64)],λx post=>rgive_P (x.1:List (api_Version)) (x.2.1:List (api_Yield)) (λy0 y1=>post (y0,y1,()))⟩
def rgive_C:CtxR:=⟨tau,[ruleW 124 (.st .api_Version) 96 1 98 (.st .api_Line) Nest.Small,rule1 rbegin_sp,rule1 rval_sp,rule1 rcomb_sp,rule1 rlimit_sp],lookJ [(0,17,⟨[(25,.dat (.int .i64))],[],[26,27,28,9,29,30,10,31,32,33,34,40,41,45,46,57,35,36,37,38,39,42,43,44,47,48,49,50,51,52,53,54,55,56,58,59,60,61,62,63,64,65,66,67,68,69,70,11,71,72,73,74,75,76,77,78,79,80,81,82,83,84],[],[(0,96,(.st .api_Version))]⟩)]⟩
abbrev rgive_a0 (ys:List (api_Yield))(z6:Int)(z7:List api_Version)(rec5:Int->List api_Version->Prop):=(((0:Int)<=(ix ys z6).1.1/\(ix ys z6).1.1<(↑z7.length:Int))/\((0:Int)<=(ix ys z6).1.2/\(ix ys z6).1.2<(↑(ix z7 (ix ys z6).1.1).2.length:Int))/\((ix (ix z7 (ix ys z6).1.1).2 (ix ys z6).1.2).2.1.length<=(1000:Nat)/\(ix ys z6).2.1.length<=(1000:Nat))/\rec5 (IntKind.i64.wrap (z6+(1:Int))) (z7.set (ix ys z6).1.1.toNat {Day:=(ix z7 (ix ys z6).1.1).1,Lines:=(ix z7 (ix ys z6).1.1).2.set (ix ys z6).1.2.toNat {Parcel:=(ix (ix z7 (ix ys z6).1.1).2 (ix ys z6).1.2).1,Region:={Rects:=canonF λ(x y:Int)=>howS (3:Int) (cov (ix (ix z7 (ix ys z6).1.1).2 (ix ys z6).1.2).2.1 x y) (cov (ix ys z6).2.1 x y):api_Region},Crop:=(ix (ix z7 (ix ys z6).1.1).2 (ix ys z6).1.2).3,Schemes:=(ix (ix z7 (ix ys z6).1.1).2 (ix ys z6).1.2).4:api_Line}:api_Version}))
abbrev rgive_a1 (ys:List (api_Yield))(z6:Int)(l:List (api_Version)):=(gx false (decide ((ix ys z6).1.1<(0:Int))||decide ((↑l.length:Int)<=(ix ys z6).1.1)||decide ((ix ys z6).1.2<(0:Int)))=true->(↑(ix l (ix ys z6).1.1).2.length:Int)<=(9223372036854775807:Int))
abbrev rgive_a2 (ys:List (api_Yield))(z6:Int)(l:List (api_Version)):=(decide ((ix ys z6).1.1<(0:Int))||decide ((↑l.length:Int)<=(ix ys z6).1.1)||decide ((ix ys z6).1.2<(0:Int))||decide ((↑(ix l (ix ys z6).1.1).2.length:Int)<=(ix ys z6).1.2))
def rgive_W (l:List (api_Version))(ys:List (api_Yield))(post:List (api_Version)->Int->Prop):Prop:=(l.length<=1000/\∀(v1:api_Version),v1∈l->v1.2.length<=1000)/\∀(v2:Int),beginP l v2->IFB (!decide (v2=0)) (post [] v2) ((↑ys.length:Int)<=9223372036854775807->IFB (decide ((200:Int)<(↑ys.length:Int))) (post [] 1) ((l.length<=4000000/\∀(v3:api_Version),v3∈l->v3.2.length<=4000000/\∀(v4:api_Line),v4∈v3.2->v4.2.1.length<=4000000)/\((↑ys.length:Int)<=9223372036854775807->LOOP [Ty.int IntKind.i64,(Ty.st Sn.api_Version).sl] (λ(rec5:Int->List api_Version->Prop) (z6:Int) (z7:List api_Version)=>IFB (decide (z6<(↑ys.length:Int))) (((0:Int)<=z6/\z6<(↑ys.length:Int))/\((gx false (decide ((ix ys z6).1.1<0))=true->(↑l.length:Int)<=9223372036854775807)->((gx false (decide ((ix ys z6).1.1<0)||decide ((↑l.length:Int)<=(ix ys z6).1.1)||decide ((ix ys z6).1.2<0))=true->0<=(ix ys z6).1.1/\(ix ys z6).1.1<(↑l.length:Int))/\((rgive_a1 ys z6 l)->IFB (rgive_a2 ys z6 l) (post [] 15) (∀(v8:Bool),(v8=true↔validP (ix ys z6).2.1)->IFB (!v8) (post [] 7) (rgive_a0 ys z6 z7 rec5))))/\(gx false (decide ((ix ys z6).1.1<0)||decide ((↑l.length:Int)<=(ix ys z6).1.1)||decide ((ix ys z6).1.2<0))=true->0<=(ix ys z6).1.1/\(ix ys z6).1.1<(↑l.length:Int))/\((rgive_a1 ys z6 l)->IFB (rgive_a2 ys z6 l) (post [] 15) (∀(v9:Bool),(v9=true↔validP (ix ys z6).2.1)->IFB (!v9) (post [] 7) (rgive_a0 ys z6 z7 rec5)))/\((rgive_a1 ys z6 l)->IFB (rgive_a2 ys z6 l) (post [] 15) (∀(v10:Bool),(v10=true↔validP (ix ys z6).2.1)->IFB (!v10) (post [] 7) (rgive_a0 ys z6 z7 rec5)))/\((rgive_a1 ys z6 l)->IFB (rgive_a2 ys z6 l) (post [] 15) (∀(v11:Bool),(v11=true↔validP (ix ys z6).2.1)->IFB (!v11) (post [] 7) (rgive_a0 ys z6 z7 rec5))))) ((z7.length<=1000/\∀(v12:api_Version),v12∈z7->v12.2.length<=1000)/\IFB (!decide (limitF z7=0)) (post [] (limitF z7)) (post z7 0))) ((0:Int),l,PUnit.unit))))
theorem rgive_w (l:List (api_Version))(ys:List (api_Yield))(post:dens (shT rgive_sp.rs [])->Prop):rgive_W l ys (λy0 y1=>post (y0,y1,()))=walkG (callR Tryz.prog rgive_C (drawR Tryz.prog tau) 8 0) 54 false [tv (.sl (.st .api_Version)) l,tv (.sl (.st .api_Yield)) ys] rgive_sp.rs post:=by kernel_rfl
theorem rgive_of (h:∀(l:List (api_Version))(ys:List (api_Yield))(post:List (api_Version)->Int->Prop),rgive_P l ys post->rgive_W l ys post):SpecOK Tryz.prog rgive_sp:=SpecOK.of_rules (C:=rgive_C) (dr:=drawR Tryz.prog tau) (n:=8) (fk:=0) (.cons (ruleW_ok Nest.copy_mk) (.cons (rule1_ok rbegin_ok) (.cons (rule1_ok rval_ok) (.cons (rule1_ok rcomb_ok) (.cons (rule1_ok rlimit_ok) .nil))))) (drawR_ok tau) λx post hp=>HoldW.of (rgive_w x.1 x.2.1 post) (h x.1 x.2.1 (λy0 y1=>post (y0,y1,())) hp)
theorem givS_err {l:List api_Version}{ys:List api_Yield}{e:Int}{k:Nat}(hb:beginF l=0)(hc:¬200<ys.length)(he:errY l (ys.take (k+1))=e)(hne:e≠0):givS l ys=([],e):=by
 have h:errY l ys=e:=by
  rw[<-List.take_append_drop (k+1) ys,errY_app (by rw[he];exact hne),he]
 unfold givS
 rw[if_neg (by simp[hb]),if_neg hc,if_pos (by rw[h];exact hne),h]
theorem foldl_snoc {l:List api_Version}{y:List api_Yield}{z:api_Yield}:(y++[z]).foldl give1 l=give1 (y.foldl give1 l) z:=by rw[List.foldl_append];rfl
theorem rgive_ok:SpecOK Tryz.prog rgive_sp:=rgive_of λl ys post hp=>by
 obtain⟨⟨h1,h2⟩,hp⟩:=hp
 unfold rgive_W rgive_a2 rgive_a1 rgive_a0
 refine⟨h1,λe he=> ?_⟩
 have he:=beginP_F he
 subst he
 refine IFB.mk (λhb=> ?_) (λhb=> ?_)
 ·have hb:beginF l≠0:=by simpa using hb
  have e:givS l ys=([],beginF l):=by unfold givS;rw[if_pos hb]
  rw[e] at hp;exact hp
 have hb:beginF l=0:=by simpa using hb
 refine λ_=>IFB.mk (λhc=> ?_) (λhc=> ?_)
 ·have hc:(200:Int)<(ys.length:Int):=of_decide_eq_true hc
  have e:givS l ys=([],1):=by unfold givS;rw[if_neg (by simp[hb]),if_pos (by omega)]
  rw[e] at hp;exact hp
 have hc:¬(200:Int)<(ys.length:Int):=of_decide_eq_false hc
 have hc':¬200<ys.length:=by omega
 have hval:∀a∈regN l l.length,validP a.1:=by
  unfold beginF at hb
  split at hb
  ·exact absurd hb (by decide)
  ·split at hb
   ·assumption
   ·exact absurd hb (by decide)
 refine⟨⟨by have:=h1.1;omega,λv hv=>⟨by have:=h1.2 v hv;omega,λx hx=>by have:=(hval _ (regN_mem hv hx)).1;show x.Region.Rects.length<=4000000;omega⟩⟩,λ_=> ?_⟩
 refine LOOP.fuel (λu=>givI l ys u.1 u.2.1) (λu=>ys.length-Int.toNat u.1) ⟨0,rfl,Nat.zero_le _,rfl,rfl,shapeV.refl l⟩ ?_
 rintro rec ⟨(z0:Int),(m:List api_Version),⟨⟩⟩ ⟨k,i1,i2,i3,i4,i5⟩ hrec
 have i1:z0=(k:Int):=i1
 have q3:m=(ys.take k).foldl give1 l:=i3
 have q5:shapeV l m:=i5
 clear i3 i5
 subst i1
 refine IFB.mk (λhd=> ?_) (λhd=> ?_)
 ·have hd:(k:Int)<ys.length:=of_decide_eq_true hd
  have hk:k<ys.length:=by omega
  have hok:=h2 hb k i2 i4
  rw[<-q3] at hok
  obtain⟨z,hz⟩:∃z,ys[k]=z:=⟨_,rfl⟩
  have hix:ix ys (k:Int)=z:=by rw[ix_lt hk,hz]
  have htk:ys.take (k+1)=ys.take k++[z]:=by rw[List.take_succ_eq_append_getElem hk,hz]
  dsimp only
  rw[hix]
  have hl:(l.length:Int)<=1000:=by have:=h1.1;omega
  refine⟨⟨by omega,hd⟩,?_⟩
  have hA:gx false (decide (z.Place.Application<0)||decide ((l.length:Int)<=z.Place.Application)||decide (z.Place.Line<0))=true->0<=z.Place.Application/\z.Place.Application<(l.length:Int):=λh=>by
   simp[gx] at h
   omega
  have hne15:∀h:¬thereP l z.1,errY l (ys.take (k+1))=15:=λh=>by rw[htk,errY_snoc i4,errY,if_pos h]
  have hne7:∀h:thereP l z.1,¬validP z.2.1->errY l (ys.take (k+1))=7:=λh h'=>by rw[htk,errY_snoc i4,errY,if_neg (not_not_intro h),if_pos h']
  have hne0:∀h:thereP l z.1,validP z.2.1->errY l (ys.take (k+1))=0:=λh h'=>by rw[htk,errY_snoc i4,errY,if_neg (not_not_intro h),if_neg (not_not_intro h')];rfl
  repeat' (first|exact hA|(intro _;fail_if_success (exact absurd rfl rfl);skip)|apply And.intro)
  all_goals
   refine IFB.mk (λht=> ?_) (λht=> ?_)
   ·have hnt:¬thereP l z.1:=λ⟨a,b,c,d⟩=>by
     simp at ht
     omega
    rw[givS_err hb hc' (hne15 hnt) (by decide)] at hp
    exact hp
   ·have hth:thereP l z.1:=by
     simp at ht
     exact⟨by omega,by omega,by omega,by omega⟩
    intro v8 hv8
    refine IFB.mk (λhn=> ?_) (λhn=> ?_)
    ·have hnv:¬validP z.2.1:=λh=>by have:=hv8.2 h;rw[this] at hn;cases hn
     rw[givS_err hb hc' (hne7 hth hnv) (by decide)] at hp
     exact hp
    ·have hv:validP z.2.1:=hv8.1 (by cases v8<;>simp_all)
     have hm:=thereP_shape q5 hth
     obtain⟨m1,m2,m3,m4⟩:=hm
     refine⟨⟨m1,m2⟩,⟨m3,m4⟩,⟨?_,?_⟩,?_⟩
     ·exact hok _ (ix_mem m1 m2) _ (ix_mem m3 m4)
     ·have:=hv.1;show z.2.1.length<=1000;omega
     ·show rec (IntKind.i64.wrap ((k:Int)+1)) _
      rw[wrapS (by omega)]
      refine hrec (((k+1:Nat):Int),_,()) ⟨k+1,rfl,hk,?_,hne0 hth hv,?_⟩ (by show ys.length-((k+1:Nat):Int).toNat<ys.length-(k:Int).toNat;omega)
      ·rw[htk,foldl_snoc,<-q3];rfl
      ·exact q5.set z.1 _ hth.1
 ·have hd:¬(k:Int)<ys.length:=of_decide_eq_false hd
  have hk:k=ys.length:=by omega
  rw[hk,List.take_length] at q3 i4
  have hmany:manyV m:=by
   refine⟨by rw[q5.1];exact h1.1,λv hv=> ?_⟩
   obtain⟨i,hi,rfl⟩:=List.getElem_of_mem hv
   have:=q5.2 i
   rw[ix_lt hi,ix_lt (by rw[<-q5.1];exact hi)] at this
   rw[this];exact h1.2 _ (List.getElem_mem _)
  refine⟨hmany,?_⟩
  refine IFB.mk (λhn=> ?_) (λhn=> ?_)
  ·have hn:limitF m≠0:=by simpa using hn
   have h1':limitF m=1:=by unfold limitF at hn ⊢;split at hn<;>first|exact absurd rfl hn|(rename_i h;rw[if_neg h])
   have e:givS l ys=([],1):=by
    unfold givS
    rw[if_neg (by simp[hb]),if_neg hc',if_neg (by simp[i4]),if_pos (by rw[<-q3];exact hn)]
   rw[e] at hp
   show post [] (limitF m)
   rw[h1'];exact hp
  ·have hn:limitF m=0:=by simpa using hn
   have e:givS l ys=(m,0):=by
    unfold givS
    rw[if_neg (by simp[hb]),if_neg hc',if_neg (by simp[i4]),if_neg (by rw[<-q3];simp[hn]),<-q3]
   rw[e] at hp
   exact hp
end RE
end Go.Proofs.YtpeggkeenboacaaGreat
set_option linter.unusedVariables false
namespace Go.Proofs.YtpeggkeenboacaaGreat
open Go.RowKit
namespace RE
open PL
namespace PL
def gat (l:List api_Version)(p:api_Place):List Rc:=(ix (ix l p.1).Lines p.2).Region.Rects
def linN (l:List api_Version)(k:Nat):List Ln:=(List.range k).flatMap λ(i:Nat)=>(List.range (ix l (i:Int)).Lines.length).map λ(j:Nat)=>(⟨⟨(i:Int),(j:Int)⟩,(ix (ix l (i:Int)).Lines (j:Int)).Region.Rects⟩:Ln)
def linV (l:List api_Version):List Ln:=linN l l.length
def claimsY (ds:List Dbl):List api_Yield:=ds.flatMap λd=>d.Claims.map λp=>(⟨p,d.Region⟩:api_Yield)
noncomputable def setS (m:List api_Version) (ds:List Dbl):List api_Version:=(claimsY ds).foldl give1 m
def likeL (x y:api_Line):Prop:=x.1=y.1/\x.3=y.3/\x.4=y.4
def likeV (l m:List api_Version):Prop:=m.length=l.length/\∀i:Nat,i<l.length->(ix m (i:Int)).Day=(ix l (i:Int)).Day/\(ix m (i:Int)).Lines.length=(ix l (i:Int)).Lines.length/\∀j:Nat,j<(ix l (i:Int)).Lines.length->likeL (ix (ix m (i:Int)).Lines (j:Int)) (ix (ix l (i:Int)).Lines (j:Int))
end PL
theorem place_nat {l:List api_Version}{p:api_Place}(h:thereP l p):∃i j:Nat,p=⟨(i:Int),(j:Int)⟩/\i<l.length/\j<(ix l (i:Int)).Lines.length:=by
 obtain⟨h1,h2,h3,h4⟩:=h
 obtain⟨i,hi⟩:∃i:Nat,p.1=(i:Int):=⟨p.1.toNat,by omega⟩
 obtain⟨j,hj⟩:∃j:Nat,p.2=(j:Int):=⟨p.2.toNat,by omega⟩
 refine⟨i,j,place_ext hi hj,by omega,?_⟩
 rw[hi] at h4
 omega
theorem there_nat {l:List api_Version}{i j:Nat}:thereP l ⟨(i:Int),(j:Int)⟩↔i<l.length/\j<(ix l (i:Int)).Lines.length:=by
 unfold thereP
 constructor
 ·rintro ⟨h1,h2,h3,h4⟩
  have h2:(i:Int)<(l.length:Int):=h2
  have h4:(j:Int)<((ix l (i:Int)).Lines.length:Int):=h4
  exact⟨by omega,by omega⟩
 ·rintro ⟨h1,h2⟩
  refine⟨?_,?_,?_,?_⟩
  ·show (0:Int)<=(i:Int);omega
  ·show (i:Int)<(l.length:Int);omega
  ·show (0:Int)<=(j:Int);omega
  ·show (j:Int)<((ix l (i:Int)).Lines.length:Int);omega
theorem mem_linV {l:List api_Version}{x:Ln}:x∈linV l↔thereP l x.place/\x.rects=gat l x.place:=by
 unfold linV linN
 simp only[List.mem_flatMap,List.mem_map,List.mem_range]
 constructor
 ·rintro ⟨i,hi,j,hj,rfl⟩
  exact⟨there_nat.2 ⟨hi,hj⟩,rfl⟩
 ·rintro ⟨h,e⟩
  obtain⟨i,j,hp,hi,hj⟩:=place_nat h
  refine⟨i,hi,j,hj,?_⟩
  cases x with
  |mk p r=>
   have hp:p=⟨(i:Int),(j:Int)⟩:=hp
   subst hp
   have e:r=gat l ⟨(i:Int),(j:Int)⟩:=e
   subst e
   rfl
theorem linN_places (l:List api_Version)(k:Nat):(linN l k).map (·.place)=plcN l k:=by
 unfold linN plcN
 rw[List.map_flatMap]
 congr 1
 funext i
 rw[List.map_map]
 rfl
theorem plcN_mem {l:List api_Version}{k:Nat}{p:api_Place}:p∈plcN l k↔∃i j:Nat,p=⟨(i:Int),(j:Int)⟩/\i<k/\j<(ix l (i:Int)).Lines.length:=by
 unfold plcN
 simp only[List.mem_flatMap,List.mem_map,List.mem_range]
 constructor
 ·rintro ⟨i,hi,j,hj,rfl⟩;exact⟨i,j,rfl,hi,hj⟩
 ·rintro ⟨i,j,rfl,hi,hj⟩;exact⟨i,hi,j,hj,rfl⟩
theorem plcN_nodup (l:List api_Version):∀k,(plcN l k).Nodup
 |0=>by unfold plcN;simp
 |k+1=>by
  rw[plcN_succ,List.nodup_append]
  refine⟨plcN_nodup l k,?_,?_⟩
  ·rw[List.nodup_iff_pairwise_ne,List.pairwise_map]
   refine (List.nodup_iff_pairwise_ne.1 List.nodup_range).imp λ{a b} h e=>h ?_
   injection e with _ e
   omega
  ·intro a ha b hb e
   subst e
   obtain⟨i,j,rfl,hi,_⟩:=plcN_mem.1 ha
   obtain⟨j2,_,e⟩:=List.mem_map.1 hb
   injection e with e _
   omega
theorem linV_nodup (l:List api_Version):((linV l).map (·.place)).Nodup:=by
 unfold linV
 rw[linN_places]
 exact plcN_nodup l _
theorem mem_who {l:List api_Version}{x y:Int}{p:api_Place}:p∈who (linV l) x y↔thereP l p/\cov (gat l p) x y=true:=by
 rw[who_mem]
 constructor
 ·rintro ⟨m,hm,hc,rfl⟩
  obtain⟨h1,h2⟩:=mem_linV.1 hm
  rw[h2] at hc
  exact⟨h1,hc⟩
 ·rintro ⟨h1,h2⟩
  exact⟨⟨p,gat l p⟩,mem_linV.2 ⟨h1,rfl⟩,h2,rfl⟩
theorem dbls_each {L:List Ln}(h:(L.map (·.place)).Nodup){ds:List Dbl}(hd:dblsP L ds):∀d∈ds,Canon d.Region.Rects/\d.Region.Rects≠[]/\2<=d.Claims.length/\∀x y,cov d.Region.Rects x y=true->who L x y=d.Claims:=λd hm=>by
 obtain⟨f,hf,rfl⟩:=List.mem_map.1 (hd.1.mem_iff.1 hm)
 obtain⟨hf,h2⟩:=List.mem_filter.1 hf
 obtain⟨e1,e2,_,e4⟩:=(faces_ok h).each f hf
 exact⟨e1,e2,of_decide_eq_true h2,e4⟩
theorem dbls_all {L:List Ln}(h:(L.map (·.place)).Nodup){ds:List Dbl}(hd:dblsP L ds){x y:Int}(hw:2<=(who L x y).length):∃d∈ds,cov d.Region.Rects x y=true/\d.Claims=who L x y:=by
 obtain⟨f,hf,hc⟩:=(faces_ok h).all x y (λe=>by rw[e] at hw;simp at hw)
 obtain⟨_,_,_,e4⟩:=(faces_ok h).each f hf
 have e:=e4 x y hc
 refine⟨toD f,hd.1.mem_iff.2 (List.mem_map.2 ⟨f,List.mem_filter.2 ⟨hf,decide_eq_true (by rw[<-e];exact hw)⟩,rfl⟩),hc,e.symm⟩
theorem get_give {m:List api_Version}{z:api_Yield}{p:api_Place}(hz:thereP m z.1)(hp:thereP m p):gat (give1 m z) p=if z.1=p then notC (gat m p) z.2.1 else gat m p:=by
 obtain⟨i,j,e1,hi,hj⟩:=place_nat hz
 obtain⟨a,b,e2,ha,hb⟩:=place_nat hp
 obtain⟨q,r⟩:=z
 have e1:q=⟨(i:Int),(j:Int)⟩:=e1
 subst e1 e2
 unfold gat give1 setAt
 dsimp only
 rw[Int.toNat_natCast,Int.toNat_natCast,ix_set]
 by_cases e:i=a
 ·subst e
  rw[if_pos ⟨rfl,hi⟩]
  dsimp only
  rw[ix_set]
  by_cases e':j=b
  ·subst e'
   rw[if_pos ⟨rfl,hj⟩,if_pos rfl]
   rfl
  ·rw[if_neg (λh=>e' h.1),if_neg (λh=>e' (by injection h with _ h;omega))]
 ·rw[if_neg (λh=>e h.1),if_neg (λh=>e (by injection h with h _;omega))]
theorem PL.likeV.refl (l:List api_Version):likeV l l:=⟨rfl,λi _=>⟨rfl,rfl,λj _=>⟨rfl,rfl,rfl⟩⟩⟩
theorem PL.likeV.shape {l m:List api_Version}(h:likeV l m):shapeV l m:=by
 refine⟨h.1,λi=> ?_⟩
 by_cases hi:i<l.length
 ·exact (h.2 i hi).2.1
 ·have e:∀k:List api_Version,¬i<k.length->ix k (i:Int)=default:=λk hk=>by
   unfold ix
   simp only[Int.toNat_natCast]
   rw[List.getD_eq_getElem?_getD,List.getElem?_eq_none (by omega)];rfl
  rw[e l hi,e m (by rw[h.1];exact hi)]
theorem PL.likeV.there {l m:List api_Version}(h:likeV l m){p:api_Place}:thereP m p↔thereP l p:=by
 refine⟨λhp=> ?_,thereP_shape h.shape⟩
 obtain⟨i,j,rfl,hi,hj⟩:=place_nat hp
 rw[h.1] at hi
 rw[h.shape.2 i] at hj
 exact there_nat.2 ⟨hi,hj⟩
theorem PL.likeV.trans {a b c:List api_Version}(h:likeV a b)(k:likeV b c):likeV a c:=by
 refine⟨k.1.trans h.1,λi hi=> ?_⟩
 obtain⟨h1,h2,h3⟩:=h.2 i hi
 obtain⟨k1,k2,k3⟩:=k.2 i (by rw[h.1];exact hi)
 refine⟨k1.trans h1,k2.trans h2,λj hj=> ?_⟩
 obtain⟨a1,a2,a3⟩:=h3 j hj
 obtain⟨b1,b2,b3⟩:=k3 j (by rw[h2];exact hj)
 exact⟨b1.trans a1,b2.trans a2,b3.trans a3⟩
theorem like_give {m:List api_Version}{z:api_Yield}(hz:thereP m z.1):likeV m (give1 m z):=by
 obtain⟨i,j,e1,hi,hj⟩:=place_nat hz
 obtain⟨q,r⟩:=z
 have e1:q=⟨(i:Int),(j:Int)⟩:=e1
 subst e1
 unfold give1 setAt
 dsimp only
 rw[Int.toNat_natCast,Int.toNat_natCast]
 refine⟨by rw[List.length_set],λa ha=> ?_⟩
 rw[ix_set]
 by_cases e:i=a
 ·subst e
  rw[if_pos ⟨rfl,hi⟩]
  refine⟨rfl,by show (List.set _ _ _).length=_;rw[List.length_set],λb hb=> ?_⟩
  dsimp only
  rw[ix_set]
  by_cases e':j=b
  ·subst e'
   rw[if_pos ⟨rfl,hj⟩]
   exact⟨rfl,rfl,rfl⟩
  ·rw[if_neg (λh=>e' h.1)]
   exact⟨rfl,rfl,rfl⟩
 ·rw[if_neg (λh=>e h.1)]
  exact⟨rfl,rfl,λ_ _=>⟨rfl,rfl,rfl⟩⟩
theorem gives_ok:∀{zs:List api_Yield}{m:List api_Version},(∀z∈zs,thereP m z.1)->likeV m (zs.foldl give1 m)/\∀p,thereP m p->(Canon (gat m p)->Canon (gat (zs.foldl give1 m) p))/\∀x y,cov (gat (zs.foldl give1 m) p) x y=true↔cov (gat m p) x y=true/\∀z∈zs,z.1=p->cov z.2.1 x y=false
 |[],m,_=>⟨likeV.refl m,λp _=>⟨id,λx y=>⟨λh=>⟨h,λz hz=>by cases hz⟩,λh=>h.1⟩⟩⟩
 |z::zs,m,h=>by
  have hz:=h z (List.mem_cons_self ..)
  have hl:=like_give hz
  obtain⟨q1,q2⟩:=gives_ok (zs:=zs) (m:=give1 m z) λy hy=>hl.there.2 (h y (List.mem_cons_of_mem _ hy))
  refine⟨hl.trans q1,λp hp=> ?_⟩
  obtain⟨r1,r2⟩:=q2 p (hl.there.2 hp)
  rw[get_give hz hp] at r1 r2
  refine⟨λhc=>r1 ?_,λx y=> ?_⟩
  ·split
   ·exact can_not _ _
   ·exact hc
  ·show cov (gat (zs.foldl give1 (give1 m z)) p) x y=true↔_
   rw[r2 x y]
   by_cases e:z.1=p
   ·rw[if_pos e,cov_not]
    constructor
    ·rintro ⟨⟨a1,a2⟩,a3⟩
     exact⟨a1,λy hy he=>by
      rcases List.mem_cons.1 hy with rfl|hy
      ·exact a2
      ·exact a3 y hy he⟩
    ·rintro ⟨a1,a2⟩
     exact⟨⟨a1,a2 z (List.mem_cons_self ..) e⟩,λy hy=>a2 y (List.mem_cons_of_mem _ hy)⟩
   ·rw[if_neg e]
    constructor
    ·rintro ⟨a1,a3⟩
     exact⟨a1,λy hy he=>by
      rcases List.mem_cons.1 hy with rfl|hy
      ·exact absurd he e
      ·exact a3 y hy he⟩
    ·rintro ⟨a1,a2⟩
     exact⟨a1,λy hy=>a2 y (List.mem_cons_of_mem _ hy)⟩
theorem mem_claimsY {ds:List Dbl}{z:api_Yield}:z∈claimsY ds↔∃d∈ds,z.1∈d.Claims/\z.2=d.Region:=by
 unfold claimsY
 simp only[List.mem_flatMap,List.mem_map]
 constructor
 ·rintro ⟨d,hd,p,hp,rfl⟩;exact⟨d,hd,hp,rfl⟩
 ·rintro ⟨d,hd,hp,e⟩;exact⟨d,hd,z.1,hp,by rw[<-e]⟩
theorem claims_there {g:List api_Version}{ds:List Dbl}(hd:dblsP (linV g) ds){d:Dbl}(hm:d∈ds){p:api_Place}(hp:p∈d.Claims):thereP g p:=by
 obtain⟨c1,c2,_,c4⟩:=dbls_each (linV_nodup g) hd d hm
 obtain⟨x,y,hc⟩:=canon_some c1 c2
 rw[<-c4 x y hc] at hp
 exact (mem_who.1 hp).1
theorem set_there {g:List api_Version}{ds:List Dbl}(hd:dblsP (linV g) ds):∀z∈claimsY ds,thereP g z.1:=λz hz=>by
 obtain⟨d,hm,hp,_⟩:=mem_claimsY.1 hz
 exact claims_there hd hm hp
theorem set_like {g:List api_Version}{ds:List Dbl}(hd:dblsP (linV g) ds):likeV g (setS g ds):=(gives_ok (set_there hd)).1
end RE
end Go.Proofs.YtpeggkeenboacaaGreat
set_option linter.unusedVariables false
namespace Go.Proofs.YtpeggkeenboacaaGreat
open Go.RowKit
namespace RE
open PL
namespace PL
def rowL (l:List api_Version)(k j:Nat):List Ln:=(List.range j).map λ(j:Nat)=>(⟨⟨(k:Int),(j:Int)⟩,(ix (ix l (k:Int)).Lines (j:Int)).Region.Rects⟩:Ln)
end PL
theorem linN_succ (l:List api_Version)(k:Nat):linN l (k+1)=linN l k++rowL l k (ix l (k:Int)).Lines.length:=by
 unfold linN rowL;rw[List.range_succ,List.flatMap_append];simp
theorem rowL_succ (l:List api_Version)(k j:Nat):rowL l k (j+1)=rowL l k j++[⟨⟨(k:Int),(j:Int)⟩,(ix (ix l (k:Int)).Lines (j:Int)).Region.Rects⟩]:=by
 unfold rowL;rw[List.range_succ,List.map_append];rfl
theorem rowL_len (l:List api_Version)(k j:Nat):(rowL l k j).length=j:=by unfold rowL;simp
theorem range_ix {α:Type}[Inhabited α](l:List α):(List.range l.length).map (λ(j:Nat)=>ix l (j:Int))=l:=by
 refine List.ext_getElem (by simp) λi h1 h2=> ?_
 rw[List.getElem_map,List.getElem_range,ix_lt h2]
theorem lin_reg (l:List api_Version)(k:Nat):(linN l k).map (λx=>(⟨x.rects⟩:api_Region))=regN l k:=by
 unfold linN regN
 rw[List.map_flatMap]
 congr 1
 funext i
 rw[List.map_map]
 have h:=congrArg (List.map λx:api_Line=>x.Region) (range_ix (ix l (i:Int)).Lines)
 rw[List.map_map] at h
 exact h
theorem lin_len (l:List api_Version)(k:Nat):(linN l k).length=(regN l k).length:=by rw[<-lin_reg,List.length_map]
theorem linN_le {l:List api_Version}{k:Nat}:∀{n:Nat},k<=n->(linN l k).length<=(linN l n).length
 |0,h=>by rw[Nat.le_zero.1 h];exact Nat.le_refl _
 |n+1,h=>by
  by_cases e:k=n+1
  ·rw[e];exact Nat.le_refl _
  ·have:=linN_le (l:=l) (k:=k) (n:=n) (by omega)
   rw[linN_succ,List.length_append]
   omega
theorem lin_valid {l:List api_Version}:(∀a∈regN l l.length,validP a.1)↔∀x∈linV l,validP x.rects:=by
 rw[<-lin_reg]
 unfold linV
 constructor
 ·intro h x hx
  exact h ⟨x.rects⟩ (List.mem_map.2 ⟨x,hx,rfl⟩)
 ·intro h a ha
  obtain⟨x,hx,rfl⟩:=List.mem_map.1 ha
  exact h x hx
theorem begin_lim {l:List api_Version}{k:Nat}(hk:k<=l.length)(h:60<(linN l k).length):beginF l=1:=by
 unfold beginF
 have:=linN_le (l:=l) hk
 rw[if_pos (by rw[<-lin_len];omega)]
theorem begin_ok {l:List api_Version}(h1:(linV l).length<=60)(h2:∀x∈linV l,validP x.rects):beginF l=0:=by
 unfold beginF
 rw[if_neg (by rw[<-lin_len];show ¬60<(linV l).length;omega),if_pos (lin_valid.2 h2)]
theorem begin_bad {l:List api_Version}(h1:(linV l).length<=60)(h2:¬∀x∈linV l,validP x.rects):beginF l=7:=by
 unfold beginF
 rw[if_neg (by rw[<-lin_len];show ¬60<(linV l).length;omega),if_neg (λh=>h2 (lin_valid.1 h))]
theorem begin_zero {l:List api_Version}(h:beginF l=0):(linV l).length<=60/\∀x∈linV l,validP x.rects:=by
 unfold beginF at h
 split at h
 ·cases h
 ·rename_i h1
  rw[<-lin_len] at h1
  split at h
  ·rename_i h2
   exact⟨by show (linN l l.length).length<=60;omega,lin_valid.1 h2⟩
  ·cases h
theorem limit_row {l:List api_Version}:(∀a∈regN l l.length,a.1.length<=120)↔∀i:Nat,i<l.length->∀j:Nat,j<(ix l (i:Int)).Lines.length->(ix (ix l (i:Int)).Lines (j:Int)).Region.Rects.length<=120:=by
 rw[<-lin_reg]
 constructor
 ·intro h i hi j hj
  refine h ⟨(ix (ix l (i:Int)).Lines (j:Int)).Region.Rects⟩ (List.mem_map.2 ⟨⟨⟨(i:Int),(j:Int)⟩,_⟩,?_,rfl⟩)
  exact mem_linV.2 ⟨there_nat.2 ⟨hi,hj⟩,rfl⟩
 ·intro h a ha
  obtain⟨x,hx,rfl⟩:=List.mem_map.1 ha
  obtain⟨h1,h2⟩:=mem_linV.1 hx
  obtain⟨i,j,e,hi,hj⟩:=place_nat h1
  have:=h i hi j hj
  rw[h2,e]
  exact this
end RE
end Go.Proofs.YtpeggkeenboacaaGreat
