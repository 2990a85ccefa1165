/-
  Texts of the proof of ParcelApart, part GD.
-/
import Derived.Test.YtpeggkeenboacaaGreatAGC
import Derived.WalkKit
import Derived.WalkSpells
import Derived.WalkLawsBesides
import Derived.BigQuiet
import Derived.Deep.QuietTactic
import Derived.Lib.Hide
import Derived.RegionTactic
import Derived.Test.YtpeggkeenboacaaGreatProg
import Derived.Deep.DeepCutAuto
import Derived.Deep.CutBlock
import Derived.Deep.RegionHeld3
import Derived.StillTailTactics
import Derived.Carry
set_option linter.unusedVariables false
noncomputable section
namespace Go.Proofs.YtpeggkeenboacaaGreat
namespace RE
set_option maxRecDepth 100000
open Go.RowKit
open PL
def bandM (z3:List region_band)(u v:Int)(ss:List region_Span)(J5:List region_band->Prop):Prop:=((↑z3.length:Int)<=(9223372036854775807:Int)->(gx true (decide ((0:Int)<(↑z3.length:Int)))=true->(0:Int)<=IntKind.i64.wrap ((↑z3.length:Int)-(1:Int))/\IntKind.i64.wrap ((↑z3.length:Int)-(1:Int))<(↑z3.length:Int))/\(gx true (decide ((0:Int)<(↑z3.length:Int))&&decide ((ix z3 (IntKind.i64.wrap ((↑z3.length:Int)-(1:Int)))).2=u))=true->(0:Int)<=IntKind.i64.wrap ((↑z3.length:Int)-(1:Int))/\IntKind.i64.wrap ((↑z3.length:Int)-(1:Int))<(↑z3.length:Int))/\JOIN [Ty.bool] (λ(y14:Bool)=>IFB (decide ((0:Int)<(↑z3.length:Int))&&decide ((ix z3 (IntKind.i64.wrap ((↑z3.length:Int)-(1:Int)))).2=u)&&y14) (((0:Int)<=IntKind.i64.wrap ((↑z3.length:Int)-(1:Int))/\IntKind.i64.wrap ((↑z3.length:Int)-(1:Int))<(↑z3.length:Int))/\J5 (z3.set (IntKind.i64.wrap ((↑z3.length:Int)-(1:Int))).toNat {low:=(ix z3 (IntKind.i64.wrap ((↑z3.length:Int)-(1:Int)))).1,high:=v,spans:=(ix z3 (IntKind.i64.wrap ((↑z3.length:Int)-(1:Int)))).3:region_band})) ((z3.length+[{low:=u,high:=v,spans:=ss:region_band}].length) * (40:Nat)<=(140737488355328:Nat)/\J5 (z3++[{low:=u,high:=v,spans:=ss:region_band}]))) λ(J15:Bool->Prop)=>IFB (gx true (decide ((0:Int)<(↑z3.length:Int))&&decide ((ix z3 (IntKind.i64.wrap ((↑z3.length:Int)-(1:Int)))).2=u))) ((ix z3 (IntKind.i64.wrap ((↑z3.length:Int)-(1:Int)))).3.length<=(1000000000:Nat)/\∀(v16:Bool),(v16=true↔(ix z3 (IntKind.i64.wrap ((↑z3.length:Int)-(1:Int)))).3=ss)->J15 v16) (J15 false))
theorem bandM_ok {out:List Bd}{u v:Int}{ss:List Sp}{J:List Bd->Prop}(hN:out.length<=1000000)(hS:∀b∈out,b.3.length<=1000000000)(hJ:J (addBd out u v ss)):bandM out u v ss J:=by
 unfold bandM
 intro _
 rcases List.eq_nil_or_concat out with rfl|⟨A,b,rfl⟩
 ·have hj:addBd [] u v ss=[⟨u,v,ss⟩]:=rfl
  rw[hj] at hJ
  refine⟨λh=>(by cases h),λh=>(by cases h),JOIN.opq λ(J8:Bool->Prop) hJ8=>IFB.mk (λhb=>(by cases hb)) (λ_=> ?_)⟩
  rw[hJ8]
  exact IFB.mk (λhb=>(by cases hb)) (λ_=>⟨by simp,hJ⟩)
 ·rw[List.concat_eq_append] at *
  have hAl:(A++[b]).length=A.length+1:=by simp
  have w1:IntKind.i64.wrap (((A++[b]).length:Int)-1)=A.length:=by
   rw[hAl,wrap_in (by omega) (by omega)]
   omega
  have hq:ix (A++[b]) (A.length:Int)=b:=ix_app rfl
  have hset:∀z,(A++[b]).set (A.length:Int).toNat z=A++[z]:=λz=>set_app (by simp)
  rw[w1,hq,hset]
  have hj:addBd (A++[b]) u v ss=if b.high=u/\b.spans=ss then A++[⟨b.low,v,b.spans⟩] else A++[b]++[⟨u,v,ss⟩]:=by
   unfold addBd
   simp
  rw[hj] at hJ
  have hd:decide ((0:Int)<((A++[b]).length:Int))=true:=decide_eq_true (by omega)
  rw[hd,Bool.true_and]
  have hsz:((A++[b]).length+[({low:=u,high:=v,spans:=ss}:region_band)].length) * 40<=140737488355328:=by
   rw[hAl];simp only[List.length_cons,List.length_nil];omega
  refine⟨λ_=>by omega,λ_=>by omega,JOIN.opq λ(J8:Bool->Prop) hJ8=>IFB.mk (λhb=>⟨hS b (by simp),λy hy=> ?_⟩) (λhb=> ?_)⟩
  ·have hb:b.high=u:=of_decide_eq_true hb
   have hb2:decide (b.high=u)=true:=decide_eq_true hb
   rw[hJ8]
   dsimp only
   refine IFB.mk (λh=>⟨by omega,?_⟩) (λh=>⟨hsz,?_⟩)
   ·rw[Bool.and_eq_true] at h
    rw[if_pos ⟨hb,hy.1 h.2⟩] at hJ
    exact hJ
   ·rw[if_neg (λhh=>by rw[hy.2 hh.2] at h;rw[show b.2=u from hb] at h;simp at h)] at hJ
    exact hJ
  ·have hb:¬b.high=u:=of_decide_eq_false hb
   rw[hJ8]
   dsimp only
   refine IFB.mk (λh=> ?_) (λh=>⟨hsz,?_⟩)
   ·rw[Bool.and_eq_true] at h
    cases h.2
   ·rw[if_neg (λhh=>hb hh.1)] at hJ
    exact hJ
theorem addBd_len1 {out:List Bd}{u v:Int}{ss:List Sp}:(addBd out u v ss).length<=out.length+1:=by
 rcases List.eq_nil_or_concat out with rfl|⟨A,b,rfl⟩
 ·simp[addBd]
 ·unfold addBd
  simp
  split<;>simp
theorem addBd_sp {out:List Bd}{u v:Int}{ss:List Sp}{N:Nat}(h:∀b∈out,b.3.length<=N)(hs:ss.length<=N):∀b∈addBd out u v ss,b.3.length<=N:=by
 rcases List.eq_nil_or_concat out with rfl|⟨A,c,rfl⟩
 ·intro b hb
  simp[addBd] at hb
  subst hb;exact hs
 ·rw[List.concat_eq_append] at *
  have hj:addBd (A++[c]) u v ss=if c.high=u/\c.spans=ss then A++[⟨c.low,v,c.spans⟩] else A++[c]++[⟨u,v,ss⟩]:=by
   unfold addBd
   simp
  rw[hj]
  intro b hb
  split at hb
  ·rcases List.mem_append.1 hb with hb|hb
   ·exact h b (by simp[hb])
   ·rw[List.mem_singleton] at hb
    subst hb
    exact h c (by simp)
  ·rcases List.mem_append.1 hb with hb|hb
   ·exact h b hb
   ·rw[List.mem_singleton] at hb
    subst hb
    exact hs
theorem build_loop {xs:List Int}{R:Int->List Sp}(hR:∀y,(R y).length<=100000)(hx:xs.length<=100000){B:(Int->List region_band->Prop)->Int->List region_band->Prop}{K:List region_band->Prop}
 (hB:∀(rec:Int->List Bd->Prop)(k:Nat)(acc:List Bd),k+1<xs.length->acc.length<=k->(∀b∈acc,b.3.length<=100000)->rec ((k+2:Nat):Int) (addBd acc (ix xs (k:Int)) (ix xs ((k+1:Nat):Int)) (R (ix xs (k:Int))))->B rec ((k+1:Nat):Int) acc)
 (hK:(buildG R [] xs).length<=100000->K (buildG R [] xs)):
 LOOP [Ty.int IntKind.i64,(Ty.st Sn.region_band).sl] (λ(rec1:Int->List region_band->Prop) (z2:Int) (z3:List region_band)=>(xs.length:Int)<=(9223372036854775807:Int)->IFB (decide (z2<(xs.length:Int))) (B rec1 z2 z3) (K z3)) ((1:Int),[],PUnit.unit):=by
 refine LOOP.fuel (λu=>∃(k:Nat)(acc:List Bd),u.1=((k+1:Nat):Int)/\u.2.1=acc/\k<=xs.length/\buildG R acc (xs.drop k)=buildG R [] xs/\acc.length<=k/\∀b∈acc,b.3.length<=100000) (λu=>xs.length+1-Int.toNat u.1) ⟨0,[],rfl,rfl,Nat.zero_le _,rfl,Nat.le_refl _,λb hb=>by cases hb⟩ ?_
 rintro rec ⟨(z2:Int),(z3:List region_band),⟨⟩⟩ ⟨k,acc,h1,h2,h3,h4,h5,h6⟩ hrec
 have h1:z2=((k+1:Nat):Int):=h1
 have h2:z3=acc:=h2
 subst h1 h2
 have h5:z3.length<=k:=h5
 intro _
 refine IFB.mk (λhb=> ?_) (λhb=> ?_)
 ·have hb:((k+1:Nat):Int)<xs.length:=of_decide_eq_true hb
  have hb:k+1<xs.length:=by omega
  refine hB rec k z3 hb h5 h6 ?_
  obtain⟨d1,d2⟩:=drop_two hb
  refine hrec (((k+2:Nat):Int),_,()) ⟨k+1,_,rfl,rfl,by omega,?_,Nat.le_trans addBd_len1 (by show z3.length+1<=k+1;omega),addBd_sp h6 (hR _)⟩ (by show xs.length+1-((k+2:Nat):Int).toNat<xs.length+1-((k+1:Nat):Int).toNat;omega)
  rw[<-h4,d1,d2]
  rfl
 ·have hb:¬((k+1:Nat):Int)<xs.length:=of_decide_eq_false hb
  rw[short_drop (by omega)] at h4
  rw[<-h4] at hK
  exact hK (by omega)
theorem rowS_len {l:List Rc}{y:Int}:(rowS l y).length<=2 * l.length:=by
 unfold rowS spansOf
 have h1:=spansG_len (p:=λx=>cov l x y) (xs:=edgesS l) (out:=[])
 have h2:=fold_len (f:=λr=>r.Left) (g:=λr=>r.Right) (l:=l) (a:=[])
 have h3:(edgesS l).length<=([]:List Int).length+2 * l.length:=h2
 simp only[List.length_nil] at h1 h3
 omega
theorem cutsS_len {l:List Rc}:(cutsS l).length<=2 * l.length:=by
 have h3:(cutsS l).length<=([]:List Int).length+2 * l.length:=fold_len (f:=λr=>r.Low) (g:=λr=>r.High) (l:=l) (a:=[])
 simpa using h3
theorem can_build (l:List Rc):canonF (cov l)=flat (buildG (rowS l) [] (cutsS l)):=by
 have h:=comb_build (howS_0 1) (a:=l) (b:=[]) (R:=rowS l) λu hu=>by
  have h:=comb_row (howS_0 1) (a:=l) (b:=[]) (y:=u)
  rw[comb_or_nil,List.append_nil] at h
  rw[comb_or_nil]
  exact h
 rw[comb_or_nil,List.append_nil] at h
 exact h.2.2
def pcan_P (l:List (api_Rect))(post:List (api_Rect)->Prop):Prop:=((∀r∈l,proper r)/\l.length<=10000)/\post (canonF (cov l))
def pcan_sp:Spec:=⟨179,false,true,[.sl (.st .api_Rect)],.dat (.sl (.st .api_Rect)),λx post=>pcan_P (x.1:List (api_Rect)) (λy0=>post (y0,()))⟩
def pcan_C:CtxR:=⟨tau,[rule1 pcuts_sp,rule1 prow_sp,rule1 peqs_sp,rule1 prects_sp],lookJ [(1026,7,⟨[(6,.dat (.int .i64)),(5,.own 229 (.st .region_band))],[],(List.range' 7 62),[],[]⟩),(1026,8,⟨[(5,.own 229 (.st .region_band))],[],(List.range' 15 54++[7,8]),[2],[]⟩)]⟩
abbrev pcan_a0 (z3:List region_band):=(ix z3 (IntKind.i64.wrap ((↑z3.length:Int)-(1:Int))))
abbrev pcan_a1 (l:List (api_Rect))(z2:Int):={low:=ix (cutsS (l.append [])) (IntKind.i64.wrap (z2-(1:Int))),high:=ix (cutsS (l.append [])) z2,spans:=rowS l (ix (cutsS (l.append [])) (IntKind.i64.wrap (z2-(1:Int)))):region_band}
abbrev pcan_a2 (z3:List region_band)(l:List (api_Rect))(z2:Int):=(decide ((0:Int)<(↑z3.length:Int))&&decide ((pcan_a0 z3).2=ix (cutsS (l.append [])) (IntKind.i64.wrap (z2-(1:Int)))))
abbrev pcan_a3 (z3:List region_band)(J5:List region_band->Prop)(l:List (api_Rect))(z2:Int):=(((0:Int)<=IntKind.i64.wrap ((↑z3.length:Int)-(1:Int))/\IntKind.i64.wrap ((↑z3.length:Int)-(1:Int))<(↑z3.length:Int))/\J5 (z3.set (IntKind.i64.wrap ((↑z3.length:Int)-(1:Int))).toNat {low:=(pcan_a0 z3).1,high:=ix (cutsS (l.append [])) z2,spans:=(pcan_a0 z3).3:region_band}))
abbrev pcan_a4 (z3:List region_band):=(gx true (decide ((0:Int)<(↑z3.length:Int)))=true->(0:Int)<=IntKind.i64.wrap ((↑z3.length:Int)-(1:Int))/\IntKind.i64.wrap ((↑z3.length:Int)-(1:Int))<(↑z3.length:Int))
abbrev pcan_a5 (z3:List region_band)(l:List (api_Rect))(z2:Int):=(gx true (pcan_a2 z3 l z2)=true->(0:Int)<=IntKind.i64.wrap ((↑z3.length:Int)-(1:Int))/\IntKind.i64.wrap ((↑z3.length:Int)-(1:Int))<(↑z3.length:Int))
def pcan_W (l:List (api_Rect))(post:List (api_Rect)->Prop):Prop:=((l.append []).length<=10000/\[l].length<=10)/\LOOP [Ty.int IntKind.i64,(Ty.st Sn.region_band).sl] (λ(rec1:Int->List region_band->Prop) (z2:Int) (z3:List region_band)=>(↑(cutsS (l.append [])).length:Int)<=9223372036854775807->IFB (decide (z2<(↑(cutsS (l.append [])).length:Int))) (JOIN [(Ty.st Sn.region_band).sl] (λ(y4:List region_band)=>rec1 (IntKind.i64.wrap (z2+1)) y4) λ(J5:List region_band->Prop)=>((0:Int)<=IntKind.i64.wrap (z2-1)/\IntKind.i64.wrap (z2-1)<(↑(cutsS (l.append [])).length:Int))/\((0:Int)<=z2/\z2<(↑(cutsS (l.append [])).length:Int))/\((0:Int)<=IntKind.i64.wrap (z2-1)/\IntKind.i64.wrap (z2-1)<(↑(cutsS (l.append [])).length:Int))/\(((∀(v6:api_Rect),v6∈l->v6.1<v6.3)/\l.length<=10000)/\((↑z3.length:Int)<=9223372036854775807->(pcan_a4 z3)/\(pcan_a5 z3 l z2)/\JOIN [Ty.bool] (λ(y7:Bool)=>IFB (decide ((0:Int)<(↑z3.length:Int))&&decide ((pcan_a0 z3).2=ix (cutsS (l.append [])) (IntKind.i64.wrap (z2-1)))&&y7) (pcan_a3 z3 J5 l z2) ((z3.length+[(pcan_a1 l z2)].length) * (40:Nat)<=140737488355328/\J5 (z3++[(pcan_a1 l z2)]))) λ(J8:Bool->Prop)=>IFB (gx true (pcan_a2 z3 l z2)) ((pcan_a0 z3).3.length<=1000000000/\∀(v9:Bool),(v9=true↔(pcan_a0 z3).3=rowS l (ix (cutsS (l.append [])) (IntKind.i64.wrap (z2-1))))->J8 v9) (J8 false))/\((↑z3.length:Int)<=9223372036854775807->(pcan_a4 z3)/\(pcan_a5 z3 l z2)/\JOIN [Ty.bool] (λ(y10:Bool)=>IFB (decide ((0:Int)<(↑z3.length:Int))&&decide ((pcan_a0 z3).2=ix (cutsS (l.append [])) (IntKind.i64.wrap (z2-1)))&&y10) (pcan_a3 z3 J5 l z2) ((z3.length+[(pcan_a1 l z2)].length) * (40:Nat)<=140737488355328/\J5 (z3++[(pcan_a1 l z2)]))) λ(J11:Bool->Prop)=>IFB (gx true (pcan_a2 z3 l z2)) ((pcan_a0 z3).3.length<=1000000000/\∀(v12:Bool),(v12=true↔(pcan_a0 z3).3=rowS l (ix (cutsS (l.append [])) (IntKind.i64.wrap (z2-1))))->J11 v12) (J11 false)))/\((∀(v13:api_Rect),v13∈l->v13.1<v13.3)/\l.length<=10000)/\((↑z3.length:Int)<=9223372036854775807->(pcan_a4 z3)/\(pcan_a5 z3 l z2)/\JOIN [Ty.bool] (λ(y14:Bool)=>IFB (decide ((0:Int)<(↑z3.length:Int))&&decide ((pcan_a0 z3).2=ix (cutsS (l.append [])) (IntKind.i64.wrap (z2-1)))&&y14) (pcan_a3 z3 J5 l z2) ((z3.length+[(pcan_a1 l z2)].length) * (40:Nat)<=140737488355328/\J5 (z3++[(pcan_a1 l z2)]))) λ(J15:Bool->Prop)=>IFB (gx true (pcan_a2 z3 l z2)) ((pcan_a0 z3).3.length<=1000000000/\∀(v16:Bool),(v16=true↔(pcan_a0 z3).3=rowS l (ix (cutsS (l.append [])) (IntKind.i64.wrap (z2-1))))->J15 v16) (J15 false))) (((flat z3).length<=1000000000/\z3.length<=1000000000)/\post (flat z3))) ((1:Int),[],PUnit.unit)
theorem pcan_w (l:List (api_Rect))(post:dens (shT pcan_sp.rs [])->Prop):pcan_W l (λy0=>post (y0,()))=walkG (callR Tryz.prog pcan_C (drawR Tryz.prog tau) 10 0) 179 false [tv (.sl (.st .api_Rect)) l] pcan_sp.rs post:=by kernel_rfl
theorem pcan_of (h:∀l post,pcan_P l post->pcan_W l post):SpecOK Tryz.prog pcan_sp:=SpecOK.of_rules (C:=pcan_C) (dr:=drawR Tryz.prog tau) (n:=10) (fk:=0) (.cons (rule1_ok pcuts_ok) (.cons (rule1_ok prow_ok) (.cons (rule1_ok peqs_ok) (.cons (rule1_ok prects_ok) .nil)))) (drawR_ok tau) λx post hp=>HoldW.of (pcan_w x.1 post) (h x.1 (λy0=>post (y0,())) hp)
theorem pcan_ok:SpecOK Tryz.prog pcan_sp:=pcan_of λl post hp=>by
 obtain⟨⟨h1,h2⟩,hp⟩:=hp
 have hcl:=cov_len h1
 rw[can_build] at hp hcl
 unfold pcan_W pcan_a5 pcan_a4 pcan_a3 pcan_a2 pcan_a1 pcan_a0
 have e:l.append []=l:=List.append_nil l
 rw[e]
 have hc:=cutsS_len (l:=l)
 have hlr:∀r∈l,r.1<r.3:=λr hr=>(h1 r hr).2.1
 refine⟨⟨h2,by simp⟩,?_⟩
 refine build_loop (xs:=cutsS l) (R:=rowS l) (λy=>by have:=rowS_len (l:=l) (y:=y);omega) (by omega) (λrec k acc hk hal has hrec=> ?_) (λhlen=>⟨⟨by omega,by omega⟩,hp⟩)
 refine JOIN.opq λ(J:List Bd->Prop) hJ=> ?_
 have w1:IntKind.i64.wrap (((k+1:Nat):Int)-1)=k:=by rw[wrap_in (by omega) (by omega)];omega
 rw[w1]
 have hJ:J (addBd acc (ix (cutsS l) (k:Int)) (ix (cutsS l) ((k+1:Nat):Int)) (rowS l (ix (cutsS l) (k:Int)))):=by
  rw[hJ]
  show rec (IntKind.i64.wrap (((k+1:Nat):Int)+1)) _
  rw[wrapS (by omega)]
  exact hrec
 have main:=bandM_ok (by omega) (λb hb=>Nat.le_trans (has b hb) (by omega)) hJ
 have hD:(∀v6:api_Rect,v6∈l->v6.1<v6.3)/\l.length<=10000:=⟨hlr,h2⟩
 exact⟨by omega,by omega,by omega,⟨hD,main,main⟩,hD,main⟩
variable {P:Program}
def clo (g:FuncId):Value:= .func (.func g) #[] #[]
def SpecCOK (P:Program)(s:Spec)(cl:List Value):Prop:=∀x post,s.pt x post->∀w (S:Cells)(T:Option Nat)(us:List Value),(∀b o,S b o->b<w.heap.size)->TapeC s.tp w S T->us.length=s.ts.length->
 (∀(i:Nat)(d:D)(u:Value),(tvs s.ts x)[i]? =some d->us[i]? =some u->Rd S w d u)->
 Calls P s.f (tpArg T us++cl).toArray w λe w'=>∃v y c',e= .returned v/\post y/\OXM (MS.add ⟨[],0,s.tp⟩ (instS s.rs [] y 0).2.1) w' c'/\TrM ⟨[],0,s.tp⟩ w (cx0 S T) (MS.add ⟨[],0,s.tp⟩ (instS s.rs [] y 0).2.1) w' c'/\SRel c' w' (instS s.rs [] y 0).1 v
theorem byConC_ok {cl:List Value}{s:Spec}(hs:SpecCOK P s cl){ss:List SV}{m:MS}{k:SV->MS->Prop}(h:byCon s ss m k){us:List Value}{w:World}{c:Cx}(hox:OXM m w c)(hl:us.length=ss.length)(hr:∀(i:Nat)(x:SV)(u:Value),ss[i]? =some x->us[i]? =some u->SRel c w x u/\x.inU m.U):
 Calls P s.f (us++cl).toArray w λe w'=>∃v r m' c',e= .returned v/\k r m'/\FrM m m'/\OXM m' w' c'/\TrM m w c m' w' c'/\SRel c' w' r v/\r.inU m'.U:=by
 unfold byCon at h
 split at h
 ·exact h.elim
 ·rename_i ss' hta
  have harg:∃(us':List Value)(T0:Option Nat),us=tpArg T0 us'/\us'.length=ss'.length/\(∀(i:Nat)(x:SV)(u:Value),ss'[i]? =some x->us'[i]? =some u->SRel c w x u/\x.inU m.U)/\((s.tp=true/\T0=c.T/\m.tp=true/\∃t,c.T=some t)\/(s.tp=false/\T0=none)):=by
   cases htp:s.tp with
   |false=>
    rw[htp] at hta
    injection hta with hta
    subst hta
    exact⟨us,none,rfl,hl,hr,.inr ⟨rfl,rfl⟩⟩
   |true=>
    rw[htp] at hta
    unfold tapeArg at hta
    split at hta
    ·split at hta
     ·rename_i r
      cases hm:m.tp with
      |false=>rw[hm] at hta;cases hta
      |true=>
       rw[hm] at hta
       injection hta with hta
       subst hta
       match us,hl,hr with
       |u::us',hl,hr=>
        obtain⟨T,hT,rfl⟩:=srel_tp (hr 0 .tp u rfl rfl).1
        exact⟨us',some T,rfl,by simpa using hl,λi x u hx hu=>hr (i+1) x u hx hu,.inl ⟨rfl,hT.symm,rfl,T,hT⟩⟩
     ·cases hta
    ·rename_i he;cases he
  obtain⟨us',T0,rfl,hl',hr',hT⟩:=harg
  have hTC:∀S:Cells,(∀b o,c.S b o->S b o)->(s.tp=true->S=c.S)->TapeC s.tp w S T0:=λS hS hSe=>by
   rcases hT with⟨e1,e2,e3,t,e4⟩|⟨e1,e2⟩
   ·rw[e1]
    obtain⟨T,h1,h2⟩:=hox.tpe e3
    refine⟨T,e2.trans h1,?_,?_⟩
    ·rw[hSe e1];exact h2
    ·rw[hSe e1];exact (hox.nT T h1).2
   ·rw[e1];exact e2
  cases hal:s.al with
  |true=>
   rw[hal] at h
   simp only[cond_true] at h
   split at h
   ·rename_i ds ids hd
    split at h
    ·rename_i x hx
     cases hp:shPure s.rs with
     |false=>rw[hp] at h;exact h.elim
     |true=>
      rw[hp] at h
      simp only[cond_true] at h
      obtain⟨c1,ox1,t1,hH1,hT1⟩:=hox.freezes ids
      have ob1:MS.obs ⟨fzU m.obs ids++m.ob,m.nx,m.tp⟩=ovr m.obs (fzU m.obs ids):=lookO_app _ _
      have ox1':OXM ⟨fzU m.obs ids++m.ob,m.nx,m.tp⟩ w c1:=by show OX (MS.obs _) _ _ _ _;rw[ob1];exact ox1
      have t1':TrM m w c ⟨fzU m.obs ids++m.ob,m.nx,m.tp⟩ w c1:=by show Tr _ _ _ _ (MS.obs ⟨_,_,_⟩) _ _ _;rw[ob1];exact t1
      obtain⟨d1,d2⟩:=dataL_rel (m:=m.mem) hox ox1 t1 hH1 ss' hd (λ_ h=>h)
      obtain⟨x1,x2⟩:=undoL_rd hx
      have hTC':TapeC s.tp w c1.S T0:=by
       rcases hT with⟨e1,e2,e3,t,e4⟩|⟨e1,e2⟩
       ·rw[e1]
        obtain⟨T,h1,h2⟩:=ox1'.tpe e3
        exact⟨T,e2.trans (by rw[<-hT1];exact h1),h2,(ox1'.nT T h1).2⟩
       ·rw[e1];exact e2
      refine (hs x _ h w c1.S T0 us' ox1.sb hTC' (by omega) (λi d u hdi hu=> ?_)).mono ?_
      ·have hi:i<ds.length:=by have:=(List.getElem?_eq_some_iff.1 hdi).1;rw[tvs_len] at this;omega
       have his:i<ss'.length:=by omega
       exact x2 i d ds[i] hdi (List.getElem?_eq_getElem hi) (d2 i ss'[i] ds[i] (List.getElem?_eq_getElem his) (List.getElem?_eq_getElem hi) (hr' i _ u (List.getElem?_eq_getElem his) hu).1)
      ·rintro e w' ⟨v,y,c',rfl,hy,oxr,tr,hsr⟩
       have hTT:(s.tp=true/\true=true/\T0=c1.T)\/T0=none:=by
        rcases hT with⟨e1,e2,_⟩|⟨_,e2⟩
        ·exact .inl ⟨e1,rfl,by rw[hT1];exact e2⟩
        ·exact .inr e2
       obtain⟨c2,b1,b2,b3,b4⟩:=call_back (al:=true) ox1' hTT (λ_ _ _ h=>h) (.inl rfl) oxr tr (λe=>by
        rcases hT with⟨_,e2,_⟩|⟨e2,_⟩
        ·rw[hT1];exact e2
        ·rw[e] at e2;cases e2)
       have hsh:=instS_shift (c:=c') (c2:=c2) (w:=w') (n:=m.nx) (al:=true) (λ_=>b4 rfl) b3 s.rs [] y 0 hp rfl hsr
       refine⟨v,_,_,c2,rfl,hy,⟨⟨_,by show rowsOb _ _++(fzU m.obs ids++m.ob)=_;rw[<-List.append_assoc]⟩,id⟩,b1,t1'.trans b2,by rw[Nat.add_zero] at hsh;exact hsh,?_⟩
       refine SV.inU_mono (λi hi=> ?_) _ (instS_inU (n:=0) s.rs [] y m.nx hp)
       show i<m.nx+_
       rw[instS_rows s.rs [] y m.nx 0] at hi
       exact hi.2
    ·exact h.elim
   ·exact h.elim
  |false=>
   rw[hal] at h
   simp only[cond_false] at h
   split at h
   ·rename_i ds hd
    split at h
    ·rename_i x hx
     cases hp:(shPure s.rs&&shFlat s.rs&& !s.tp) with
     |false=>rw[hp] at h;exact h.elim
     |true=>
      rw[hp] at h
      simp only[cond_true] at h
      simp only[Bool.and_eq_true,Bool.not_eq_true'] at hp
      obtain⟨⟨p1,p2⟩,p3⟩:=hp
      have hT0:T0=none:=by
       rcases hT with⟨e1,_⟩|⟨_,e2⟩
       ·rw[p3] at e1;cases e1
       ·exact e2
      obtain⟨d1,d2⟩:=viewL_rel (m:=m.mem) hox ss' hd
      obtain⟨x1,x2⟩:=undoL_rd hx
      refine (hs x _ h w (lentS m.obs c) T0 us' (λb o hb=> ?_) (by rw[p3];exact hT0) (by omega) (λi d u hdi hu=> ?_)).mono ?_
      ·rcases hb with hb|⟨id,y,hy,ho,hb⟩
       ·exact hox.sb b o hb
       ·exact (hox.fb id y hy ho b hb).1
      ·have hi:i<ds.length:=by have:=(List.getElem?_eq_some_iff.1 hdi).1;rw[tvs_len] at this;omega
       have his:i<ss'.length:=by omega
       exact x2 i d ds[i] hdi (List.getElem?_eq_getElem hi) (d2 i ss'[i] ds[i] (List.getElem?_eq_getElem his) (List.getElem?_eq_getElem hi) (hr' i _ u (List.getElem?_eq_getElem his) hu).1)
      ·rintro e w' ⟨v,y,c',rfl,hy,oxr,tr,hsr⟩
       obtain⟨c2,b1,b2,b3,b4⟩:=call_back (al:=false) hox (.inr hT0) (λe=>by cases e) (.inr (instS_flat s.rs [] y 0 p2)) oxr tr (λe=>by rw[p3] at e;cases e)
       have hsh:=instS_shift (c:=c') (c2:=c2) (w:=w') (n:=m.nx) (al:=false) (λe=>by cases e) b3 s.rs [] y 0 p1 (by simpa using p2) hsr
       refine⟨v,_,_,c2,rfl,hy,⟨⟨_,rfl⟩,id⟩,b1,b2,by rw[Nat.add_zero] at hsh;exact hsh,?_⟩
       refine SV.inU_mono (λi hi=> ?_) _ (instS_inU (n:=0) s.rs [] y m.nx p1)
       show i<m.nx+_
       rw[instS_rows s.rs [] y m.nx 0] at hi
       exact hi.2
    ·exact h.elim
   ·exact h.elim
def dropCl (g:FuncId):List SV->Option (List SV)
 |[]=>none
 |[x]=>bif isCl g x then some [] else none
 |x::r=>(dropCl g r).map (x::·)
theorem dropCl_ok {g:FuncId}:∀{ss ss':List SV},dropCl g ss=some ss'->∃x,ss=ss'++[x]/\isCl g x=true
 |[],ss',h=>by cases h
 |[x],ss',h=>by
  unfold dropCl at h
  cases hb:isCl g x with
  |false=>rw[hb] at h;cases h
  |true=>
   rw[hb] at h
   injection h with h
   subst h
   exact⟨x,rfl,hb⟩
 |x::y::r,ss',h=>by
  unfold dropCl at h
  rw[Option.map_eq_some_iff] at h
  obtain⟨t,h1,rfl⟩:=h
  obtain⟨z,h2,h3⟩:=dropCl_ok h1
  exact⟨z,by rw[h2];rfl,h3⟩
def byConC (s:Spec)(g:FuncId)(ss:List SV)(m:MS)(k:SV->MS->Prop):Prop:=match dropCl g ss with
 |some ss'=>byCon s ss' m k
 |none=>False
def ruleC (s:Spec)(g:FuncId):Rule:=⟨s.f,byConC s g⟩
theorem ruleC_ok {s:Spec}{g:FuncId}(h:SpecCOK P s [clo g]):RuleOK P (ruleC s g):=λss m k hk us w c hox hl hr=>by
 have hk2:byConC s g ss m k:=hk
 clear hk
 unfold byConC at hk2
 split at hk2
 ·rename_i ss' hd
  obtain⟨x,rfl,hx⟩:=dropCl_ok hd
  rcases List.eq_nil_or_concat us with rfl|⟨us',u,rfl⟩
  ·simp at hl
  ·rw[List.concat_eq_append] at *
   have hl':us'.length=ss'.length:=by simpa using hl
   have hu:u=clo g:=isCl_rel hx (hr ss'.length x u (by simp) (by rw[<-hl'];simp)).1
   subst hu
   refine byConC_ok h hk2 hox hl' λi y v hy hv=>hr i y v ?_ ?_
   ·rw[List.getElem?_append_left (List.getElem?_eq_some_iff.1 hy).1];exact hy
   ·rw[List.getElem?_append_left (List.getElem?_eq_some_iff.1 hv).1];exact hv
 ·exact hk2.elim
theorem SpecCOK.of_rules {C:CtxR}{dr:DR}(hR:RulesOK P C.rs)(hdr:DrOK P dr){n fk:Nat}{s:Spec}{g:FuncId}(h:∀x post,s.pt x post->HoldW (walkG (callR P C dr n fk) s.f s.tp (tvs s.ts x++[.v (clo g)]) s.rs post)):SpecCOK P s [clo g]:=by
 intro x post hp w S T us h1 h2 h3 h4
 have e:tpArg T us++[clo g]=tpArg T (us++[clo g]):=by
  unfold tpArg
  split<;>simp
 rw[e]
 refine walkG_ok (callR_ok hR hdr n fk) (h x post hp).h h1 h2 (by simp[h3,tvs_len]) λi d u hd hu=> ?_
 by_cases hi:i<us.length
 ·rw[List.getElem?_append_left hi] at hu
  rw[List.getElem?_append_left (by rw[tvs_len];omega)] at hd
  exact h4 i d u hd hu
 ·have hi':(tvs s.ts x).length<=i:=by rw[tvs_len];omega
  rw[List.getElem?_append_right hi'] at hd
  rw[List.getElem?_append_right (by omega)] at hu
  have e2:i-(tvs s.ts x).length=i-us.length:=by rw[tvs_len,h3]
  rw[e2] at hd
  match hq:i-us.length,hd,hu with
  |0,hd,hu=>
   simp at hd hu
   subst hd hu
   exact .v _
  |k+1,hd,hu=>simp at hd
def pval_P (a:api_Region)(post:Bool->Prop):Prop:=∀q:Bool,(q=true↔validP a.1)->post q
def pval_sp:Spec:=⟨120,false,false,[.st .api_Region],.dat (.bool),λx post=>pval_P (x.1:api_Region) (λy0=>post (y0,()))⟩
def pval_C:CtxR:=⟨tau,[rule1 pcan_sp,rule1 peqr_sp],lookJ [(0,1000003,⟨[(2,.dat .bool)],[],[12,13,14,15,16,17],[],[]⟩),(1072672813,0,⟨[(0,.dat (.int .i64))],[],[],[],[]⟩),(1072672813,5,⟨[(8,.dat (.int .i64))],[],(List.range' 9 8++[5,18]),[],[]⟩)]⟩
def pval_W (a:api_Region)(post:Bool->Prop):Prop:=(↑a.1.length:Int)<=9223372036854775807->JOIN [Ty.bool] (λ(y1:Bool)=>IFB (decide ((120:Int)<(↑a.1.length:Int))||y1) (post false) (JOIN [Ty.bool] (λ(y2:Bool)=>post y2) λ(J3:Bool->Prop)=>((∀(v4:api_Rect),v4∈a.1->0<=v4.1/\v4.1<v4.3/\v4.3<=16384/\0<=v4.2/\v4.2<v4.4/\v4.4<=16384)/\a.1.length<=10000)/\(canonF (cov a.1)).length<=1000000000/\∀(v5:Bool),(v5=true↔canonF (cov a.1)=a.1)->J3 v5)) λ(J6:Bool->Prop)=>IFB (gx false (decide ((120:Int)<(↑a.1.length:Int)))) (JOIN [Ty.int IntKind.i64] (λ(y7:Int)=>J6 (decide ((0:Int)<=y7))) λ(J8:Int->Prop)=>(↑a.1.length:Int)<=9223372036854775807->LOOP [Ty.int IntKind.i64] (λ(rec9:Int->Prop) (z10:Int)=>IFB (decide (z10<(↑a.1.length:Int))) (((0:Int)<=z10/\z10<(↑a.1.length:Int))/\IFB (!(decide ((0:Int)<=(ix a.1 z10).1)&&decide ((ix a.1 z10).1<(ix a.1 z10).3)&&decide ((ix a.1 z10).3<=16384)&&decide ((0:Int)<=(ix a.1 z10).2)&&decide ((ix a.1 z10).2<(ix a.1 z10).4)&&decide ((ix a.1 z10).4<=16384))) (J8 z10) (rec9 (IntKind.i64.wrap (z10+1)))) (J8 (-1:Int))) ((0:Int),PUnit.unit)) (J6 false)
theorem pval_w (a:api_Region)(post:dens (shT pval_sp.rs [])->Prop):pval_W a (λy0=>post (y0,()))=walkG (callR Tryz.prog pval_C (drawR Tryz.prog tau) 10 0) 120 false [tv (.st .api_Region) a] pval_sp.rs post:=by kernel_rfl
theorem pval_of (h:∀a post,pval_P a post->pval_W a post):SpecOK Tryz.prog pval_sp:=SpecOK.of_rules (C:=pval_C) (dr:=drawR Tryz.prog tau) (n:=10) (fk:=0) (.cons (rule1_ok pcan_ok) (.cons (rule1_ok peqr_ok) .nil)) (drawR_ok tau) λx post hp=>HoldW.of (pval_w x.1 post) (h x.1 (λy0=>post (y0,())) hp)
theorem pval_ok:SpecOK Tryz.prog pval_sp:=pval_of λa post hp=>by
 obtain⟨l⟩:=a
 unfold pval_P at hp
 unfold pval_W
 dsimp only at hp ⊢
 intro _
 refine JOIN.opq λ(J:Bool->Prop) hJ=> ?_
 refine IFB.mk (λhb=> ?_) (λhb=> ?_)
 ·have hb:(!decide ((120:Int)<l.length))=true:=hb
  have hb:decide ((120:Int)<l.length)=false:=by simpa using hb
  have hle:=of_decide_eq_false hb
  refine JOIN.opq λ(J8:Int->Prop) hJ8=> ?_
  intro _
  refine loopCmp (n:=l.length) (by omega) (p:=λj=>proper (ix l (j:Int))) (λrec k hk hpre hrec=>⟨by omega,IFB.mk (λhb2=> ?_) (λhb2=>hrec ?_)⟩) λhall=> ?_
  ·rw[hJ8]
   show J (decide (0<=(k:Int)))
   rw[decide_eq_true (by omega:(0:Int)<=k),hJ]
   dsimp only
   refine IFB.mk (λ_=>hp _ ?_) (λh=> ?_)
   ·constructor
    ·intro h;cases h
    ·intro h
     have:=properB_iff.2 (h.2.1 _ (ix_mem (l:=l) (i:=(k:Int)) (by omega) (by omega)))
     unfold properB at this
     rw[this] at hb2
     cases hb2
   ·rw[Bool.or_true] at h;cases h
  ·exact properB_iff.1 (by unfold properB;simpa using hb2)
  ·have hall:=all_ix hall
   rw[hJ8]
   show J (decide (0<=(-1:Int)))
   have hm:decide (0<=(-1:Int))=false:=rfl
   rw[hm,hJ]
   dsimp only
   rw[hb]
   refine IFB.mk (λh=>by cases h) (λ_=> ?_)
   refine JOIN.opq λ(J3:Bool->Prop) hJ3=> ?_
   have:=cov_len hall
   refine⟨⟨hall,by omega⟩,by omega,λq hq=> ?_⟩
   rw[hJ3]
   refine hp q (hq.trans ⟨λh=>⟨by omega,hall,(canon_iff l).1 h⟩,λh=>(canon_iff l).2 h.2.2⟩)
 ·have hb:(!decide ((120:Int)<l.length))=false:=hb
  have hb:decide ((120:Int)<l.length)=true:=by simpa using hb
  rw[hJ]
  dsimp only
  rw[hb]
  refine IFB.mk (λ_=>hp _ ?_) (λh=>by cases h)
  have hb:=of_decide_eq_true hb
  constructor
  ·intro h;cases h
  ·intro h;have:=h.1;omega
namespace PL
def edgL (l:List Sp):List Int:=l.flatMap λs=>[s.Left,s.Right]
noncomputable def mergeS (h:Int) (A B:List Sp):List Sp:=spansOf (λx=>howS h (insS A x) (insS B x)) (uniqI (edgL (A++B)))
end PL
theorem insS_iff {l:List Sp}{x:Int}:insS l x=true↔inSp l x:=by
 unfold insS inSp
 simp[List.any_eq_true]
theorem edgL_len {l:List Sp}:(edgL l).length=2 * l.length:=by
 induction l with
 |nil=>rfl
 |cons r l ih=>
  have e:edgL (r::l)=r.Left::r.Right::edgL l:=rfl
  rw[e];simp only[List.length_cons,ih];omega
theorem edgL_mem {l:List Sp}{x:Int}:x∈uniqI (edgL l)↔∃s∈l,x=s.Left\/x=s.Right:=by
 rw[(uniqI_ok _).2]
 unfold edgL;simp
theorem insS_cols {l:List Sp}{x u:Int}(hux:u<=x)(hm:∀s∈l,(s.Left<=x->s.Left<=u)/\(s.Right<=x->s.Right<=u)):insS l x=insS l u:=by
 refine bool_iff ?_
 rw[insS_iff,insS_iff]
 constructor
 ·rintro ⟨r,hr,h1,h2⟩
  have h1:r.Left<=x:=h1
  have h2:x<r.Right:=h2
  exact⟨r,hr,(hm r hr).1 h1,by show u<r.Right;omega⟩
 ·rintro ⟨r,hr,h1,h2⟩
  have h1:r.Left<=u:=h1
  have h2:u<r.Right:=h2
  refine⟨r,hr,by show r.Left<=x;omega,?_⟩
  rcases Int.lt_or_le x r.Right with h|h
  ·exact h
  ·have:=(hm r hr).2 h;omega
theorem mergeS_ok (h:Int)(A B:List Sp):SpOK (mergeS h A B)/\∀x,inSp (mergeS h A B) x↔howS h (insS A x) (insS B x)=true:=by
 have c1:=(uniqI_ok (edgL (A++B))).1
 have c2:=λx=>edgL_mem (l:=A++B) (x:=x)
 obtain⟨h1,h2⟩:=spansOf_ok (p:=λx=>howS h (insS A x) (insS B x)) c1
 have hin:∀x,howS h (insS A x) (insS B x)=true->∃s∈A++B,s.Left<=x/\x<s.Right:=λx hx=>by
  cases ha:insS A x with
  |true=>
   obtain⟨s,hs,q1,q2⟩:=insS_iff.1 ha
   exact⟨s,by simp[hs],q1,q2⟩
  |false=>
   cases hb:insS B x with
   |true=>
    obtain⟨s,hs,q1,q2⟩:=insS_iff.1 hb
    exact⟨s,by simp[hs],q1,q2⟩
   |false=>rw[ha,hb,howS_0] at hx;cases hx
 refine⟨h1,λx=> ?_⟩
 unfold mergeS
 rw[h2]
 refine edges_set (f:=λx=>howS h (insS A x) (insS B x)) c1 (λx hx=> ?_) (λx hx=> ?_) (λu x hu hux hm=> ?_) x
 ·obtain⟨r,hr,h3,h4⟩:=hin x hx
  exact⟨r.Left,(c2 _).2 ⟨r,hr,.inl rfl⟩,h3⟩
 ·obtain⟨r,hr,h3,h4⟩:=hin x hx
  exact⟨r.Right,(c2 _).2 ⟨r,hr,.inr rfl⟩,h4⟩
 ·have hm':∀r∈A++B,(r.Left<=x->r.Left<=u)/\(r.Right<=x->r.Right<=u):=λr hr=>⟨hm _ ((c2 _).2 ⟨r,hr,.inl rfl⟩),hm _ ((c2 _).2 ⟨r,hr,.inr rfl⟩)⟩
  show howS h (insS A x) (insS B x)=howS h (insS A u) (insS B u)
  rw[insS_cols hux (λr hr=>hm' r (by simp[hr])),insS_cols hux (λr hr=>hm' r (by simp[hr]))]
theorem rowS_ins {l:List Rc}{u x:Int}:insS (rowS l u) x=cov l x u:=by
 refine bool_iff ?_
 rw[insS_iff]
 have h:=(comb_row (howS_0 1) (a:=l) (b:=[]) (y:=u)).2 x
 rw[comb_or_nil,List.append_nil] at h
 exact h
theorem choose_build (h:Int)(l m:List Rc):canonF (comb (howS h) l m)=flat (buildG (λy=>mergeS h (rowS l y) (rowS m y)) [] (cutsS (l++m))):=
 (comb_build (howS_0 h) (a:=l) (b:=m) (R:=λy=>mergeS h (rowS l y) (rowS m y)) λu hu=>⟨(mergeS_ok h _ _).1,λx=>by
  rw[(mergeS_ok h _ _).2,rowS_ins,rowS_ins];rfl⟩).2.2
theorem edg_in {l:List Sp}{A:List Int}{K:List Int->Prop}(hl:A.length+2 * l.length<=100000)(hK:K (A++edgL l)):
 LOOP [Ty.int IntKind.i64,(Ty.int IntKind.i64).sl] (λ(rec4:Int->List Int->Prop) (z5:Int) (z6:List Int)=>IFB (decide (z5<(↑l.length:Int))) (((0:Int)<=z5/\z5<(↑l.length:Int))/\(z6.length+[(ix l z5).1,(ix l z5).2].length) * 8<=140737488355328/\rec4 (IntKind.i64.wrap (z5+(1:Int))) (z6++[(ix l z5).1,(ix l z5).2])) (K z6)) ((0:Int),A,PUnit.unit):=by
 refine LOOP.list l (λk (s:List Int)=>((k:Int),s,())) (λu=>Int.toNat u.1) (λk r (s:List Int)=>s++edgL r=A++edgL l/\s.length=A.length+2 * k) A rfl ⟨rfl,by omega⟩ (λk s h=>by simp) ?_ ?_
 ·intro rec k x r s hd hk hkl ⟨g1,g2⟩ hrec
  have hx:=ix_of hk
  show IFB _ _ _
  refine IFB.mk (λ_=>⟨by show 0<=(k:Int)/\(k:Int)<l.length;omega,?_⟩) (λh=>absurd (of_decide_eq_false h) (by show ¬¬((k:Int)<l.length);omega))
  dsimp only
  rw[hx]
  refine⟨by simp only[List.length_cons,List.length_nil];omega,?_⟩
  rw[wrapS (by omega)]
  refine hrec _ ⟨?_,?_⟩
  ·rw[<-g1]
   have e:edgL (x::r)=x.Left::x.Right::edgL r:=rfl
   rw[e];simp
  ·simp only[List.length_append,List.length_cons,List.length_nil];omega
 ·intro rec s ⟨g1,g2⟩
  show IFB _ _ _
  refine IFB.mk (λh=>absurd (of_decide_eq_true h) (by show ¬((l.length:Int)<l.length);omega)) (λ_=> ?_)
  have g1:s=A++edgL l:=by simpa [edgL] using g1
  show K s
  rw[g1];exact hK
end RE
end Go.Proofs.YtpeggkeenboacaaGreat
set_option linter.unusedVariables false
namespace Go.Proofs.YtpeggkeenboacaaGreat
open Go.RowKit
namespace RE
open PL
namespace PL
def xorS:Bool->Bool->Bool:=λa b=> !decide (a=b)
noncomputable def mergeX (g:Bool->Bool->Bool) (A B:List Sp):List Sp:=spansOf (λx=>g (insS A x) (insS B x)) (uniqI (edgL (A++B)))
end PL
theorem mergeX_ok {g:Bool->Bool->Bool}(h0:g false false=false)(A B:List Sp):SpOK (mergeX g A B)/\∀x,inSp (mergeX g A B) x↔g (insS A x) (insS B x)=true:=by
 have c1:=(uniqI_ok (edgL (A++B))).1
 have c2:=λx=>edgL_mem (l:=A++B) (x:=x)
 obtain⟨h1,h2⟩:=spansOf_ok (p:=λx=>g (insS A x) (insS B x)) c1
 have hin:∀x,g (insS A x) (insS B x)=true->∃s∈A++B,s.Left<=x/\x<s.Right:=λx hx=>by
  cases ha:insS A x with
  |true=>
   obtain⟨s,hs,q1,q2⟩:=insS_iff.1 ha
   exact⟨s,by simp[hs],q1,q2⟩
  |false=>
   cases hb:insS B x with
   |true=>
    obtain⟨s,hs,q1,q2⟩:=insS_iff.1 hb
    exact⟨s,by simp[hs],q1,q2⟩
   |false=>rw[ha,hb,h0] at hx;cases hx
 refine⟨h1,λx=> ?_⟩
 unfold mergeX
 rw[h2]
 refine edges_set (f:=λx=>g (insS A x) (insS B x)) c1 (λx hx=> ?_) (λx hx=> ?_) (λu x hu hux hm=> ?_) x
 ·obtain⟨r,hr,h3,h4⟩:=hin x hx
  exact⟨r.Left,(c2 _).2 ⟨r,hr,.inl rfl⟩,h3⟩
 ·obtain⟨r,hr,h3,h4⟩:=hin x hx
  exact⟨r.Right,(c2 _).2 ⟨r,hr,.inr rfl⟩,h4⟩
 ·have hm':∀r∈A++B,(r.Left<=x->r.Left<=u)/\(r.Right<=x->r.Right<=u):=λr hr=>⟨hm _ ((c2 _).2 ⟨r,hr,.inl rfl⟩),hm _ ((c2 _).2 ⟨r,hr,.inr rfl⟩)⟩
  show g (insS A x) (insS B x)=g (insS A u) (insS B u)
  rw[insS_cols hux (λr hr=>hm' r (by simp[hr])),insS_cols hux (λr hr=>hm' r (by simp[hr]))]
theorem chooseX_build {g:Bool->Bool->Bool}(h0:g false false=false)(l m:List Rc):canonF (comb g l m)=flat (buildG (λy=>mergeX g (rowS l y) (rowS m y)) [] (cutsS (l++m))):=
 (comb_build h0 (a:=l) (b:=m) (R:=λy=>mergeX g (rowS l y) (rowS m y)) λu hu=>⟨(mergeX_ok h0 _ _).1,λx=>by
  rw[(mergeX_ok h0 _ _).2,rowS_ins,rowS_ins];rfl⟩).2.2
theorem xorS_0:xorS false false=false:=rfl
end RE
end Go.Proofs.YtpeggkeenboacaaGreat
set_option linter.unusedVariables false
namespace Go.Proofs.YtpeggkeenboacaaGreat
open Go.RowKit
namespace RE
open PL
namespace PL
abbrev Pc:=api_Parcel
abbrev Ed:=api_Edit
abbrev Rn:=api_Region
def meetP (a b:List Rc):Prop:=validP a/\validP b/\∃x y,cov a x y=true/\cov b x y=true
def propR (a:Rn):Prop:=a.Rects≠[]/\validP a.Rects
def asc (l:List Int):Prop:=∀i:Nat,i+1<l.length->ix l (i:Int)<ix l ((i+1:Nat):Int)
def endsP (p:Pc)(i:Int):Int:=if i+1<(p.Days.length:Int) then ix p.Days (i+1) else p.Until
def outP (p:Pc):Prop:=0<p.Days.length/\p.Days.length=p.Regions.length/\ix p.Days 0=p.From/\asc p.Days/\ix p.Days ((p.Days.length:Int)-1)<=min p.Until 36864/\∀a∈p.Regions,propR a
def parP (l:List Pc)(p:Pc):Prop:=asc p.Parents/\∀k∈p.Parents,1<=k/\k<=(l.length:Int)/\(ix l (k-1)).Until=p.From
def rightP (l:List Pc)(p:Pc):Prop:=p.Number=(l.length:Int)+1/\0<=p.From/\p.From<=p.Until/\p.Until<=36865/\(0<l.length->(ix l ((l.length:Int)-1)).From<=p.From)/\outP p/\parP l p
def meetPc (p q:Pc):Prop:=∃a b:Nat,a<p.Regions.length/\b<q.Regions.length/\max (ix p.Days (a:Int)) (ix q.Days (b:Int))<min (endsP p (a:Int)) (endsP q (b:Int))/\meetP (ix p.Regions (a:Int)).Rects (ix q.Regions (b:Int)).Rects
def regP (l:List Pc):Prop:=(∀i:Nat,i<l.length->rightP (l.take i) (ix l (i:Int)))/\∀i j:Nat,i<l.length->j<i->¬meetPc (ix l (i:Int)) (ix l (j:Int))
open Classical in
noncomputable def checkS (l:List Pc):Int:=if 60<l.length then 1 else if regP l then 0 else 3
end PL
theorem propR_ne {a:Rn}:(0<a.Rects.length/\validP a.Rects)↔propR a:=by
 unfold propR
 cases a.Rects with
 |nil=>simp
 |cons x r=>simp
theorem meetP_comm {a b:List Rc}:meetP a b↔meetP b a:=by
 unfold meetP
 constructor
 ·rintro ⟨h1,h2,x,y,h3,h4⟩;exact⟨h2,h1,x,y,h4,h3⟩
 ·rintro ⟨h1,h2,x,y,h3,h4⟩;exact⟨h2,h1,x,y,h4,h3⟩
theorem meetPc_comm {p q:Pc}:meetPc p q↔meetPc q p:=by
 unfold meetPc
 constructor
 ·rintro ⟨a,b,h1,h2,h3,h4⟩;exact⟨b,a,h2,h1,by rw[Int.max_comm,Int.min_comm];exact h3,meetP_comm.1 h4⟩
 ·rintro ⟨a,b,h1,h2,h3,h4⟩;exact⟨b,a,h2,h1,by rw[Int.max_comm,Int.min_comm];exact h3,meetP_comm.1 h4⟩
theorem asc_lt {l:List Int}(h:asc l):∀{i j:Nat},i<j->j<l.length->ix l (i:Int)<ix l (j:Int)
 |i,0,hij,_=>by omega
 |i,j+1,hij,hj=>by
  rcases Nat.lt_or_ge i j with hlt|hge
  ·exact Int.lt_trans (asc_lt h hlt (by omega)) (h j hj)
  ·have:i=j:=by omega
   subst this;exact h i hj
theorem asc_le {l:List Int}(h:asc l){i j:Nat}(hij:i<=j)(hj:j<l.length):ix l (i:Int)<=ix l (j:Int):=by
 rcases Nat.lt_or_ge i j with hlt|hge
 ·exact Int.le_of_lt (asc_lt h hlt hj)
 ·have:i=j:=by omega
  subst this;exact Int.le_refl _
theorem asc_pw {l:List Int}:asc l↔l.Pairwise (·<·):=by
 constructor
 ·intro h
  rw[List.pairwise_iff_getElem]
  intro i j hi hj hij
  have:=asc_lt h hij hj
  rwa [ix_lt hi,ix_lt hj] at this
 ·intro h i hi
  rw[List.pairwise_iff_getElem] at h
  rw[ix_lt (by omega),ix_lt hi]
  exact h i (i+1) (by omega) hi (by omega)
end RE
end Go.Proofs.YtpeggkeenboacaaGreat
set_option linter.unusedVariables false
namespace Go.Proofs.YtpeggkeenboacaaGreat
open Go.RowKit
namespace RE
open PL
namespace Keep
theorem ret_int {k:IntKind}{a b:Int}(h:a=b):Ending.returned (.int k a)= .returned (.int k b):=by rw[h]
def md (k n:Int):Int:=if n<1 then 0 else k % n
theorem md_bd (k n:Int):0<=md k n/\(md k n<n\/md k n=0):=by
 unfold md
 split
 ·omega
 ·have h1:=Int.emod_nonneg k (show n≠0 by omega)
  have h2:=Int.emod_lt_of_pos k (show 0<n by omega)
  omega
theorem tmod_cases (k n:Int)(hn:1<=n):(0<=k.tmod n/\k.tmod n<n/\k % n=k.tmod n)\/(k.tmod n<0/\ -n<k.tmod n/\k % n=k.tmod n+n):=by
 have h1:=Int.mul_tdiv_add_tmod k n
 have hd:k % n=(k.tmod n) % n:=by
  conv=>lhs;rw[<-h1]
  rw[Int.add_comm,Int.add_mul_emod_self_left]
 have ha: -n<k.tmod n/\k.tmod n<n:=by
  exact⟨Int.lt_tmod_of_pos k (by omega),Int.tmod_lt_of_pos k (by omega)⟩
 rw[hd]
 rcases Int.le_total 0 (k.tmod n) with h|h
 ·left;exact⟨h,ha.2,Int.emod_eq_of_lt h ha.2⟩
 ·by_cases h0:k.tmod n=0
  ·left;rw[h0];simp;omega
  ·right
   refine⟨by omega,ha.1,?_⟩
   have:(k.tmod n+n) % n=k.tmod n % n:=by simp
   rw[<-this]
   exact Int.emod_eq_of_lt (by omega) (by omega)
theorem mod_any (k n:Int)(h3:n<=9223372036854775807)(w:World):
 Calls Tryz.prog 18 #[.int .i64 k,.int .i64 n] w λe w'=>e= .returned (.int .i64 (md k n))/\w=w':=by
 unfold md
 by_cases hn:n<1
 ·rw[if_pos hn]
  go_enter Tryz.func18,Tryz.ntmps18
  go_wp2
  go_ret
  exact⟨rfl,rfl⟩
 ·rw[if_neg hn]
  rcases tmod_cases k n (by omega) with⟨a,b,c⟩|⟨a,b,c⟩
  all_goals
   have c':=Lib.hid c
   clear c
   go_enter Tryz.func18,Tryz.ntmps18
   go_wp2
   go_ret
   exact⟨ret_int c'.out.symm,rfl⟩
def NextPost (bt:Nat)(S:Cells)(n:Int)(w:World)(e:Ending)(w':World):Prop:=
 ∃r:Int,e= .returned (.int .i64 r)/\0<=r/\(r<n\/r=0)/\TapeS w' bt S/\w.grownBy w' (some bt)
theorem grownBy_refl (w:World)(row:Option Nat):w.grownBy w row:=⟨rfl,rfl,rfl,Nat.le_refl _,λ_ _ _=>rfl⟩
theorem grownBy_trans {a b c:World}{row:Option Nat}(h:a.grownBy b row)(k:b.grownBy c row):a.grownBy c row:=
 ⟨k.os.trans h.os,k.tape.trans h.tape,k.output.trans h.output,Nat.le_trans h.size k.size,λi hi hr=>(k.block i (Nat.lt_of_lt_of_le hi h.size) hr).trans (h.block i hi hr)⟩
theorem grownBy_setCell (w:World)(bt o:Nat)(v:Value):w.grownBy (w.setCell ⟨bt,o,none⟩ v) (some bt):=
 ⟨rfl,rfl,rfl,by simp[World.setCell],λk _ hr=>Below.heap_setCell _ _ _ _ (by intro e;exact hr (by rw[e]))⟩
theorem only_drewN {a w:World}{row:Option Nat}(h:a.grownBy w row)(n:Nat):a.grownBy (w.drewN n) row:=⟨h.os,h.tape,h.output,h.size,h.block⟩
theorem quiet_left {P:Program}{f:FuncId}{args:Array Value}{w:World}{n:Nat}{v:Value}
 (h:Calls P f args (w.drewN n) λe w'=>e= .returned v/\w.drewN n=w'):Calls P f args (w.drewN n) λe w''=>e= .returned v/\∃m,w''=w.drewN m:=
 h.mono λ_ _ ⟨he,hm⟩=>⟨he,n,hm.symm⟩
set_option maxHeartbeats 400000 in
theorem next_any (bt:Nat)(n:Int)(h3:n<=9223372036854775807)(w:World)(S:Cells)(hS:∀k,¬S bt k)(h:TapeS w bt S):
 Calls Tryz.prog 16 #[.pointer (some ⟨bt,0,none⟩),.int .i64 n] w (NextPost bt S n w):=by
 obtain⟨a,len,cap,at_,ty,hb,hat,hlen,hv⟩:=h
 have c0:w.cell? ⟨bt,0,none⟩=some (.slice a len cap):=by simp[World.cell?,hb]
 have c1:w.cell? ⟨bt,1,none⟩=some (.int .i64 (at_:Nat)):=by simp[World.cell?,hb]
 have f1:w.frozen? ⟨bt,1,none⟩=false:=by simp[World.frozen?,hb]
 have hT:TapeS w bt S:=⟨a,len,cap,at_,ty,hb,hat,hlen,hv⟩
 have hfin:∀n',NextPost bt S n w (.returned (.int .i64 0)) (w.drewN n'):=λn'=>
  ⟨0,rfl,by omega,by omega,hT,only_drewN (grownBy_refl w _) n'⟩
 have hmd:∀(z:Int)(W:World),TapeS W bt S->w.grownBy W (some bt)->NextPost bt S n w (.returned (.int .i64 (md z n))) W:=λz W h1 h2=>
  ⟨md z n,rfl,(md_bd z n).1,(md_bd z n).2,h1,h2⟩
 by_cases hlt:at_<len
 ·have hv2:=hv
  obtain⟨bl,off,rfl,hc⟩:=hv (by omega)
  have hne:bl≠bt:=λe=>hS _ (e ▸ (hc at_ hlt).1)
  obtain⟨hsz,z,hz⟩:=hc at_ hlt
  have hno:¬len<=at_:=by omega
  have hT2:∀nq n':Nat,TapeS (((w.drewN nq).setCell ⟨bt,1,none⟩ (.int .i64 ((at_:Int)+1))).drewN n') bt S:=by
   intro nq n'
   refine⟨_,len,cap,at_+1,ty,?_,by omega,hlen,λhl=>⟨bl,off,rfl,λi hi=>⟨(hc i hi).1,?_⟩⟩⟩
   rotate_left
   ·obtain⟨z',hz'⟩:=(hc i hi).2
    refine⟨z',?_⟩
    show ((w.drewN nq).setCell ⟨bt,1,none⟩ (.int .i64 ((at_:Int)+1))).cell? _=_
    rw[World.cell?_of_block (w:=w.drewN nq) (Below.heap_setCell _ _ _ _ hne)];exact hz'
   show ((w.drewN nq).setCell ⟨bt,1,none⟩ (.int .i64 ((at_:Int)+1))).heap[bt]? =_
   have hb':(w.drewN nq).heap[bt]? =some (.cells #[.slice (some ⟨bl,off,none⟩) len cap,.int .i64 (at_:Nat)] ty (0,0)):=hb
   simp only[World.setCell,Array.getElem?_modify,if_true,hb']
   simp
  have hG:∀nq n':Nat,w.grownBy (((w.drewN nq).setCell ⟨bt,1,none⟩ (.int .i64 ((at_:Int)+1))).drewN n') (some bt):=λnq n'=>
   only_drewN (grownBy_trans (only_drewN (grownBy_refl w _) nq) (grownBy_setCell _ bt 1 _)) n'
  have hW0:∀nq:Nat,((w.drewN nq).setCell ⟨bt,1,none⟩ (.int .i64 ((at_:Int)+1))).cell? ⟨bt,0,none⟩=some (.slice (some ⟨bl,off,none⟩) len cap):=λnq=>by
   rw[World.cell?_setCell_other _ _ _ _ (by simp)];exact c0
  have hW1:∀nq:Nat,((w.drewN nq).setCell ⟨bt,1,none⟩ (.int .i64 ((at_:Int)+1))).cell? ⟨bt,1,none⟩=some (.int .i64 ((at_:Int)+1)):=λnq=>
   World.cell?_setCell_same (u:= .int .i64 (at_:Nat)) _ _ _ c1
  have hWz:∀nq:Nat,((w.drewN nq).setCell ⟨bt,1,none⟩ (.int .i64 ((at_:Int)+1))).cell? ⟨bl,off+at_,none⟩=some (.int .i64 z):=λnq=>by
   rw[World.cell?_of_block (w:=w.drewN nq) (Below.heap_setCell _ _ _ _ hne)];exact hz
  clear hb hc hfin hz hv hv2
  have hmd':=Lib.hid hmd
  have hT2':=Lib.hid hT2
  have hG':=Lib.hid hG
  have hW0':=Lib.hid hW0
  have hW1':=Lib.hid hW1
  have hWz':=Lib.hid hWz
  clear hmd hT2 hG hW0 hW1 hWz
  go_enter Tryz.func16,Tryz.ntmps16
  go_wp2
  go_quiet (fail)
  rename_i nq
  go_wp2
  have k0:=hW0'.out nq
  have k1:=hW1'.out nq
  have kz:=hWz'.out nq
  obtain⟨W,hW⟩:∃W,W=((w.drewN nq).setCell ⟨bt,1,none⟩ (.int .i64 ((at_:Int)+1))):=⟨_,rfl⟩
  rw[<-hW] at k0 k1 kz ⊢
  have hW2:=Lib.hid hW
  clear hW c0 c1 f1
  have ks:IntKind.i64.wrap ((at_:Int)+1-1)=at_:=by rw[IntWalk.i64_in _ (by omega)];omega
  go_quiet ((go_at_call 18;exact quiet_left (mod_any _ _ (by omega) _)))
  go_wp2
  go_ret
  rw[hW2.out]
  exact hmd'.out z _ (hT2'.out _ _) (hG'.out _ _)
 ·have hno:len<=at_:=by omega
  clear hb hat hlen hmd hv
  go_enter Tryz.func16,Tryz.ntmps16
  go_wp2
  go_quiet (fail)
  go_wp2
  go_ret
  exact hfin _
end Keep
def knext_P (n:Int)(post:Int->Prop):Prop:=n<=9223372036854775807/\∀r:Int,0<=r->(r<n\/r=0)->post r
def knext_sp:Spec:=⟨16,true,true,[.int .i64],.dat (.int .i64),λx post=>knext_P (x.1:Int) (λy0=>post (y0,()))⟩
theorem knext_ok:SpecOK Tryz.prog knext_sp:=by
 intro x post hp w S T us hS hT hl hr
 obtain⟨n,⟨⟩⟩:=x
 obtain⟨hn,hp⟩:=hp
 obtain⟨t,rfl,hT,hSt⟩:=hT
 match us,hl with
 |[u],_=>
  have h0:=hr 0 _ _ rfl rfl
  have hu:u= .int .i64 n:=by
   have h0:Rd S w (.v (.int .i64 n)) u:=h0
   cases h0;rfl
  subst hu
  refine (Keep.next_any t n hn w S hSt hT).mono ?_
  rintro e w' ⟨r,rfl,h1,h2,h3,h4⟩
  refine⟨_,(r,()),cx0 S (some t),rfl,hp r h1 h2,?_,?_,?_⟩
  ·refine⟨λb o h=>Nat.lt_of_lt_of_le (hS b o h) h4.size,λid x hx=>(by cases hx),λid x hx=>(by cases hx),λi j x y hx=>(by cases hx),λT hT'=> ?_,λ_=>⟨t,rfl,h3⟩,λh=>(by cases h)⟩
   cases hT'
   exact⟨h3.lt,hSt⟩
  ·refine⟨h4.os,h4.tape,h4.output,h4.size,λ_ h=>h,λ_ h=> .inl h,λ_ h=>h,λ_ _=>⟨rfl,rfl⟩,λ_ _ h=>h,λ_ _ h=> .inl h,λb hb _ ht=>h4.block b hb (λe=>ht e.symm),λ_ h=> .inl h⟩
  ·exact .d _ _ (.v _)
end RE
end Go.Proofs.YtpeggkeenboacaaGreat
namespace Go.Proofs.YtpeggkeenboacaaGreat
namespace RE
open Go.RowKit
open PL
def krange_P (lo:Int)(hi:Int)(post:Int->Prop):Prop:=(-1099511627776<=lo/\lo<=1099511627776/\ -1099511627776<=hi/\hi<=1099511627776)/\∀r:Int,lo<=r->(r<=hi\/r=lo)->post r
def krange_sp:Spec:=⟨72,true,true,[.int .i64,.int .i64],.dat (.int .i64),λx post=>krange_P (x.1:Int) (x.2.1:Int) (λy0=>post (y0,()))⟩
def krange_C:CtxR:=⟨tau,[rule1 knext_sp],lookJ []⟩
def krange_W (lo:Int)(hi:Int)(post:Int->Prop):Prop:=IntKind.i64.wrap (IntKind.i64.wrap (hi-lo)+1)<=9223372036854775807/\∀(v1:Int),0<=v1->v1<IntKind.i64.wrap (IntKind.i64.wrap (hi-lo)+1)\/v1=0->post (IntKind.i64.wrap (lo+v1))
theorem krange_w (lo:Int)(hi:Int)(post:dens (shT krange_sp.rs [])->Prop):krange_W lo hi (λy0=>post (y0,()))=walkG (callR Tryz.prog krange_C (drawR Tryz.prog tau) 8 0) 72 true [tv (.int .i64) lo,tv (.int .i64) hi] krange_sp.rs post:=by kernel_rfl
theorem krange_of (h:∀lo hi post,krange_P lo hi post->krange_W lo hi post):SpecOK Tryz.prog krange_sp:=SpecOK.of_rules (C:=krange_C) (dr:=drawR Tryz.prog tau) (n:=8) (fk:=0) (.cons (rule1_ok knext_ok) .nil) (drawR_ok tau) λx post hp=>HoldW.of (krange_w x.1 x.2.1 post) (h x.1 x.2.1 (λy0=>post (y0,())) hp)
theorem krange_ok:SpecOK Tryz.prog krange_sp:=krange_of λlo hi post hp=>by
 obtain⟨⟨h1,h2,h3,h4⟩,hp⟩:=hp
 unfold krange_W
 have w1:IntKind.i64.wrap (hi-lo)=hi-lo:=wrap_in (by omega) (by omega)
 have w2:IntKind.i64.wrap (hi-lo+1)=hi-lo+1:=wrap_in (by omega) (by omega)
 rw[w1,w2]
 refine⟨by omega,λv a b=> ?_⟩
 rw[wrap_in (by omega) (by omega)]
 exact hp _ (by omega) (by omega)
def kone_P (n:Int)(post:Bool->Prop):Prop:=n<=1099511627776/\∀b:Bool,post b
def kone_sp:Spec:=⟨39,true,true,[.int .i64],.dat (.bool),λx post=>kone_P (x.1:Int) (λy0=>post (y0,()))⟩
def kone_C:CtxR:=⟨tau,[rule1 knext_sp],lookJ []⟩
def kone_W (n:Int)(post:Bool->Prop):Prop:=n<=9223372036854775807/\∀(v1:Int),0<=v1->v1<n\/v1=0->post (decide (v1=IntKind.i64.wrap (n-1)))
theorem kone_w (n:Int)(post:dens (shT kone_sp.rs [])->Prop):kone_W n (λy0=>post (y0,()))=walkG (callR Tryz.prog kone_C (drawR Tryz.prog tau) 8 0) 39 true [tv (.int .i64) n] kone_sp.rs post:=by kernel_rfl
theorem kone_of (h:∀n post,kone_P n post->kone_W n post):SpecOK Tryz.prog kone_sp:=SpecOK.of_rules (C:=kone_C) (dr:=drawR Tryz.prog tau) (n:=8) (fk:=0) (.cons (rule1_ok knext_ok) .nil) (drawR_ok tau) λx post hp=>HoldW.of (kone_w x.1 post) (h x.1 (λy0=>post (y0,())) hp)
theorem kone_ok:SpecOK Tryz.prog kone_sp:=kone_of λn post hp=>by
 obtain⟨h1,hp⟩:=hp
 exact⟨by omega,λv a b=>hp _⟩
def krect_P (n:Int)(post:api_Rect->Prop):Prop:=(1<=n/\n<=16384)/\∀r:api_Rect,(proper r/\r.Right<=n/\r.High<=n)->post r
def krect_sp:Spec:=⟨73,true,true,[.int .i64],.dat (.st .api_Rect),λx post=>krect_P (x.1:Int) (λy0=>post (y0,()))⟩
def krect_C:CtxR:=⟨tau,[rule1 knext_sp],lookJ []⟩
def krect_W (n:Int)(post:api_Rect->Prop):Prop:=n<=9223372036854775807/\∀(v1:Int),0<=v1->v1<n\/v1=0->n<=9223372036854775807/\∀(v2:Int),0<=v2->v2<n\/v2=0->IntKind.i64.wrap (n-v1)<=9223372036854775807/\∀(v3:Int),0<=v3->v3<IntKind.i64.wrap (n-v1)\/v3=0->IntKind.i64.wrap (n-v2)<=9223372036854775807/\∀(v4:Int),0<=v4->v4<IntKind.i64.wrap (n-v2)\/v4=0->post (⟨v1,v2,IntKind.i64.wrap (IntKind.i64.wrap (v1+1)+v3),IntKind.i64.wrap (IntKind.i64.wrap (v2+1)+v4)⟩:api_Rect)
theorem krect_w (n:Int)(post:dens (shT krect_sp.rs [])->Prop):krect_W n (λy0=>post (y0,()))=walkG (callR Tryz.prog krect_C (drawR Tryz.prog tau) 8 0) 73 true [tv (.int .i64) n] krect_sp.rs post:=by kernel_rfl
theorem krect_of (h:∀n post,krect_P n post->krect_W n post):SpecOK Tryz.prog krect_sp:=SpecOK.of_rules (C:=krect_C) (dr:=drawR Tryz.prog tau) (n:=8) (fk:=0) (.cons (rule1_ok knext_ok) .nil) (drawR_ok tau) λx post hp=>HoldW.of (krect_w x.1 post) (h x.1 (λy0=>post (y0,())) hp)
theorem canon_one {r:Rc}(h:proper r):Canon [r]:=by
 obtain⟨p1,p2,p3,p4,p5,p6⟩:=h
 refine⟨[⟨r.Low,r.High,[⟨r.Left,r.Right⟩]⟩],⟨λb hb=> ?_,List.pairwise_singleton _ _,?_⟩,rfl⟩
 ·rw[List.mem_singleton] at hb
  subst hb
  exact⟨p5,by simp,λs hs=>by rw[List.mem_singleton] at hs;subst hs;exact p2,List.pairwise_singleton _ _⟩
 ·first|exact List.pairwise_singleton _ _|exact trivial|(intro i;simp)
theorem krect_ok:SpecOK Tryz.prog krect_sp:=krect_of λn post hp=>by
 obtain⟨⟨h1,h2⟩,hp⟩:=hp
 unfold krect_W
 refine⟨by omega,λv1 a1 b1=>⟨by omega,λv2 a2 b2=> ?_⟩⟩
 have w1:IntKind.i64.wrap (n-v1)=n-v1:=wrap_in (by omega) (by omega)
 have w2:IntKind.i64.wrap (n-v2)=n-v2:=wrap_in (by omega) (by omega)
 rw[w1,w2]
 refine⟨by omega,λv3 a3 b3=>⟨by omega,λv4 a4 b4=> ?_⟩⟩
 rw[wrap_in (z:=v1+1) (by omega) (by omega),wrap_in (z:=v2+1) (by omega) (by omega),wrap_in (z:=v1+1+v3) (by omega) (by omega),wrap_in (z:=v2+1+v4) (by omega) (by omega)]
 refine hp _ ⟨⟨?_,?_,?_,?_,?_,?_⟩,?_,?_⟩<;>dsimp only<;>omega
variable {P:Program}
theorem lawG_okH {cp:CP}(hcp:CallOK P cp){f:FuncId}{ds:List D}{post:Bool->Prop}(h:HoldW (lawG cp f ds post)){w:World}{S:Cells}{us:List Value}(h1:∀b o,S b o->b<w.heap.size)(h3:us.length=ds.length)
 (h4:∀(i:Nat)(d:D)(u:Value),ds[i]? =some d->us[i]? =some u->Rd S w d u):
 Calls P f us.toArray w λe w'=>(∃b,e= .returned (.bool b)/\post b)/\Below w.heap.size w w':=lawG_ok hcp h.h h1 h3 h4
def fLi {β:Type}{α:Sort _}:List β->(List β->α)->α
 |[],k=>k []
 |x::r,k=>fLi r λr=>k (x::r)
theorem fLi_eq {β:Type}{α:Sort _}:∀(l:List β)(k:List β->α),fLi l k=k l
 |[],k=>rfl
 |x::r,k=>by unfold fLi;rw[fLi_eq r]
def fBs {α:Sort _}:List Bool->(List Bool->α)->α
 |[],k=>k []
 |true::r,k=>fBs r λr=>k (true::r)
 |false::r,k=>fBs r λr=>k (false::r)
theorem fBs_eq {α:Sort _}:∀(l:List Bool)(k:List Bool->α),fBs l k=k l
 |[],k=>rfl
 |true::r,k=>by unfold fBs;rw[fBs_eq r]
 |false::r,k=>by unfold fBs;rw[fBs_eq r]
def fPr {β γ:Type}{α:Sort _}:List (β×γ)->(List (β×γ)->α)->α
 |[],k=>k []
 |(x,y)::r,k=>fPr r λr=>k ((x,y)::r)
theorem fPr_eq {β γ:Type}{α:Sort _}:∀(l:List (β×γ))(k:List (β×γ)->α),fPr l k=k l
 |[],k=>rfl
 |(x,y)::r,k=>by unfold fPr;rw[fPr_eq r]
def fV {α:Sort _}:Value->(Value->α)->α
 | .bool b,k=>k (.bool b)
 | .int t z,k=>k (.int t z)
 |u,k=>k u
theorem fV_eq {α:Sort _}(u:Value)(k:Value->α):fV u k=k u:=by cases u<;>rfl
def fD {α:Sort _}:D->(D->α)->α
 | .v u,k=>fV u λu=>k (.v u)
 | .agg cs,k=>fLi cs λcs=>k (.agg cs)
 | .tup cs,k=>fLi cs λcs=>k (.tup cs)
 |d,k=>k d
theorem fD_eq {α:Sort _}(d:D)(k:D->α):fD d k=k d:=by
 cases d<;>first|rfl|exact fV_eq _ _|exact fLi_eq _ _
def fSV {α:Sort _}:SV->(SV->α)->α
 | .d x,k=>fD x λx=>k (.d x)
 | .cnd q w g y,k=>fSV y λy=>k (.cnd q w g y)
 | .agg cs,k=>fLi cs λcs=>k (.agg cs)
 | .tup cs,k=>fLi cs λcs=>k (.tup cs)
 |s,k=>k s
theorem fSV_eq {α:Sort _}:∀(s:SV)(k:SV->α),fSV s k=k s
 | .d x,k=>by unfold fSV;exact fD_eq _ _
 | .cnd q w g y,k=>by unfold fSV;exact fSV_eq y _
 | .agg cs,k=>by unfold fSV;exact fLi_eq _ _
 | .tup cs,k=>by unfold fSV;exact fLi_eq _ _
 | .bx _ _,k=>rfl
 | .os _,k=>rfl
 | .sub _ _ _ _,k=>rfl
 | .op _ _ _ _,k=>rfl
 | .fn _ _,k=>rfl
 | .tp,k=>rfl
 | .un,k=>rfl
 | .ns _,k=>rfl
 | .np _ _ _ _,k=>rfl
 | .inn _ _,k=>rfl
 | .ip _ _ _ _ _,k=>rfl
def fSl {α:Sort _}:List (Nat×SV)->(List (Nat×SV)->α)->α
 |[],k=>k []
 |(x,v)::r,k=>fSV v λv=>k ((x,v)::r)
theorem fSl_eq {α:Sort _}(l:List (Nat×SV))(k:List (Nat×SV)->α):fSl l k=k l:=by
 cases l with
 |nil=>rfl
 |cons p r=>obtain⟨x,v⟩:=p;exact fSV_eq _ _
def fSt {α:Sort _}:St->(St->α)->α
 |⟨sl,⟨ob,nx,tp⟩,n,gs,gd⟩,k=>fSl sl λsl=>fPr ob λob=>fLi gs λgs=>fLi gd λgd=>k ⟨sl,⟨ob,nx,tp⟩,n,gs,gd⟩
theorem fSt_eq {α:Sort _}(st:St)(k:St->α):fSt st k=k st:=by
 obtain⟨sl,⟨ob,nx,tp⟩,n,gs,gd⟩:=st
 show (fSl sl λsl=>fPr ob λob=>fLi gs λgs=>fLi gd λgd=>k ⟨sl,⟨ob,nx,tp⟩,n,gs,gd⟩)=_
 rw[fSl_eq,fPr_eq,fLi_eq,fLi_eq]
def fAr {α:Sort _}:Array Bool->(Array Bool->α)->α
 |⟨l⟩,k=>fBs l λl=>k ⟨l⟩
theorem fAr_eq {α:Sort _}(L:Array Bool)(k:Array Bool->α):fAr L k=k L:=by
 obtain⟨l⟩:=L
 exact fBs_eq _ _
def fRes {α:Sort _}:PRes->(PRes->α)->α
 |⟨ps,fs,r⟩,k=>fLi ps λps=>fLi fs λfs=>fSV r λr=>k ⟨ps,fs,r⟩
theorem fRes_eq {α:Sort _}(R:PRes)(k:PRes->α):fRes R k=k R:=by
 obtain⟨ps,fs,r⟩:=R
 show (fLi ps λps=>fLi fs λfs=>fSV r λr=>k ⟨ps,fs,r⟩)=_
 rw[fLi_eq,fLi_eq,fSV_eq]
theorem WF.lenS {t ty:TypeId}{e:TypeId}(he:elemOf P t=some e)(u:Value):WF P (Builtin.len_ #[t] ty #[u]):=by
 obtain⟨inf,hu',_⟩:=elemOf_spec he
 intro w v w1 h
 have key:∀w',(Builtin.len_ #[t] ty #[u]).run P w'=match u with| .slice _ n _=> .ok (goInt n) w'|_=>(Builtin.len_ #[t] ty #[u]).run P w':=λw'=>by
  cases u<;>first|rfl|simp[Builtin.len_,run_underlying hu']
 cases u with
 |slice a n c=>
  have e1:=key w
  simp only at e1
  rw[e1] at h
  injection h with h1 h2
  subst h1 h2
  exact⟨rfl,λw'=>key w'⟩
 |_=>simp[Builtin.len_,run_underlying hu'] at h
def lenOp (P:Program)(o:Oper):Bool:=match isLen o.op with
 |some (t,_)=>(elemOf P t).isSome
 |none=>false
theorem lenOp_ok {o:Oper}(h:lenOp P o=true)(ev:Operand->Value):∃s,execOp ev o=valS s/\WF P s:=by
 unfold lenOp at h
 split at h
 ·rename_i t x hl
  obtain⟨e,he'⟩:=Option.isSome_iff_exists.1 h
  have hc:=isLen_spec hl
  exact⟨Builtin.len_ #[t] o.type #[ev x],by simp[execOp,hc,resolve,invoke,builtin,valS],WF.lenS he' _⟩
 ·cases h
def flKL (P:Program)(m:Mem)(pr:List Nat)(ρ:Operand->SV)(o:Oper):Option (List Prop×Bool):=bif lenOp P o then some ([],false) else flK P m pr ρ o
theorem flKL_ok {m:Mem}{pr:List Nat}{ρ:Operand->SV}{o:Oper}{ps:List Prop}{lk:Bool}(h:flKL P m pr ρ o=some (ps,lk)){R:PRes}(hp:popS P m ρ o=some R){a:Act}{w:World}{c:Cx}(hr:RelsC m ρ a w c)(h1:allL ps)(h2:allL R.ps):
 ∃v,SRel c w R.r v/\R.r.inU m.U/\allL R.fs/\∀w',(lk=true->Looks c m.ob pr w w')->(execOp a.eval o).run P w'= .ok (.value v) w':=by
 unfold flKL at h
 cases hw:lenOp P o with
 |true=>
  obtain⟨v,k1,k2,k3,k4⟩:=popS_run hp hr h2
  obtain⟨s,e1,e2⟩:=lenOp_ok hw a.eval
  refine⟨v,k2,k3,k4,λw' _=> ?_⟩
  rw[e1] at k1 ⊢
  have hv:WF P (valS s):=WF.bind e2 λ_=> .pure _
  exact (hv w _ _ k1).2 w'
 |false=>rw[hw] at h;exact flK_ok h hp hr h1 h2
def fstepL (P:Program)(pr:List Nat)(all:Array Oper)(o:Oper)(st:St):Option (Bool×((St->Prop)->Prop)):=
 match o.guard with
 |none=>match popS P st.ms.mem st.ev o,flKL P st.ms.mem pr st.ev o with
  |some R,some (ps,lk)=>bif dstOK st o.dst then some (lk,λK=>andL ps (andL R.ps (impL R.fs (K (st.set o.dst R.r st.ms))))) else none
  |_,_=>none
 |some (j,want)=>match (all[j]?).bind (·.dst),o.dst with
  |some q,some d=>match guardG want (look st.sl q) with
   |some G=>bif dstOK st (some d)&& !(Nat.beq q d)&&Nat.blt q st.n then match popS P st.ms.mem (λx=>stripS q want (st.ev x)) o,flKL P st.ms.mem pr (λx=>stripS q want (st.ev x)) o with
    |some R,some (ps,lk)=>bif R.r.lowN st.ms.nx then some (lk,λK=>andL (ps.map (G=true->·)) (andL (R.ps.map (G=true->·)) (impL (R.fs.map (G=true->·)) (K (st.setG d q want G R.r))))) else none
    |_,_=>none
    else none
   |none=>none
  |_,_=>none
theorem fstepL_ok {pr:List Nat}{all:Array Oper}{o:Oper}{st:St}{lk:Bool}{T:(St->Prop)->Prop}(h:fstepL P pr all o st=some (lk,T)){K:St->Prop}(hT:T K){a:Act}{w:World}{c:Cx}(hr:RX st a w c):
 ∃v st',YieldsIf P all (λw'=>lk=true->Looks c st.ms.obs pr w w') o v a/\RX st' (a.put o.dst v) w c/\st'.ms=st.ms/\Fr st st'/\K st':=by
 unfold fstepL at h
 split at h
 ·rename_i hg
  split at h
  ·rename_i R ps lk' hp hf
   cases hd:dstOK st o.dst with
   |false=>rw[hd] at h;cases h
   |true=>
    rw[hd] at h
    simp only[cond_true,Option.some.injEq,Prod.mk.injEq] at h
    obtain⟨rfl,rfl⟩:=h
    obtain⟨t1,hT⟩:=andL_spec hT
    obtain⟨t2,hT⟩:=andL_spec hT
    obtain⟨v,k1,k2,k3,k4⟩:=flKL_ok hf hp hr.rels t1 t2
    exact⟨v,_,.inl ⟨by simp[Region.wanted,hg],k4⟩,hr.set .refl hr.ox hd k1 k2,by cases o.dst<;>rfl,.set (.refl _),impL_spec hT k3⟩
  ·cases h
 ·rename_i j want hg
  split at h
  ·rename_i q d hq hdst
   split at h
   ·rename_i G hG
    cases hb:(dstOK st (some d)&& !(Nat.beq q d)&&Nat.blt q st.n) with
    |false=>rw[hb] at h;cases h
    |true=>
     rw[hb] at h
     simp only[Bool.and_eq_true,Bool.not_eq_true'] at hb
     obtain⟨⟨b1,b2⟩,b3⟩:=hb
     have hqd:q≠d:=λe=>by rw[e] at b2;simp at b2
     have hlt:q<st.n:=Nat.le_of_ble_eq_true b3
     simp only[cond_true] at h
     split at h
     ·rename_i R ps lk' hp hf
      cases hl:R.r.lowN st.ms.nx with
      |false=>rw[hl] at h;cases h
      |true=>
       rw[hl] at h
       simp only[cond_true,Option.some.injEq,Prod.mk.injEq] at h
       obtain⟨rfl,rfl⟩:=h
       obtain⟨t1,hT⟩:=andL_spec hT
       obtain⟨t2,hT⟩:=andL_spec hT
       have hwt:Region.wanted o (yielded all a.tmps)=G:=wanted_of hg hq hlt hr hG
       rw[hdst]
       cases hGv:G with
       |true=>
        obtain⟨v,k1,k2,k3,k4⟩:=flKL_ok hf hp (stripS_rel hr hlt hG hGv) (andL_map hGv t1) (andL_map hGv t2)
        refine⟨v,st.setG d q want true R.r,.inl ⟨by rw[hwt,hGv],k4⟩,hr.setG .refl hr.ox b1 hqd (by rw[hG,hGv]) (λ_=>k1) (λe=>by cases e) k2,rfl,.setG,?_⟩
        have:=impL_spec hT (allL_map λ_=>k3)
        rw[hGv] at this;exact this
       |false=>
        refine⟨undef,st.setG d q want false R.r,.inr ⟨by rw[hwt,hGv],rfl⟩,hr.setG .refl hr.ox b1 hqd (by rw[hG,hGv]) (λe=>by cases e) (λ_=>rfl) (SV.lowN_inU _ hl),rfl,.setG,?_⟩
        have:=impL_spec hT (allL_map λe=>by rw[hGv] at e;cases e)
        rw[hGv] at this;exact this
     ·cases h
   ·cases h
  ·cases h
def fstepF (P:Program)(pr:List Nat)(all:Array Oper)(o:Oper)(st:St):Option (Bool×((St->Prop)->Prop)):=
 match o.guard with
 |none=>match popS P st.ms.mem st.ev o,flKL P st.ms.mem pr st.ev o with
  |some R,some (ps,lk)=>bif dstOK st o.dst then some (lk,λK=>fRes R λR=>fLi ps λps=>andL ps (andL R.ps (impL R.fs (K (st.set o.dst R.r st.ms))))) else none
  |_,_=>none
 |some (j,want)=>match (all[j]?).bind (·.dst),o.dst with
  |some q,some d=>match guardG want (look st.sl q) with
   |some G=>bif dstOK st (some d)&& !(Nat.beq q d)&&Nat.blt q st.n then match popS P st.ms.mem (λx=>stripS q want (st.ev x)) o,flKL P st.ms.mem pr (λx=>stripS q want (st.ev x)) o with
    |some R,some (ps,lk)=>bif R.r.lowN st.ms.nx then some (lk,λK=>fRes R λR=>fLi ps λps=>andL (ps.map (G=true->·)) (andL (R.ps.map (G=true->·)) (impL (R.fs.map (G=true->·)) (K (st.setG d q want G R.r))))) else none
    |_,_=>none
    else none
   |none=>none
  |_,_=>none
theorem fstepF_eq:fstepF P=fstepL P:=by
 funext pr all o st
 unfold fstepF fstepL
 simp only[fRes_eq,fLi_eq]
def devalF (fs:Nat->FS)(ao:AO)(all:Array Oper)(prL:Nat->List Nat):Nat->Array Bool->Bool->St->(St->Prop)->Prop
 |0,L,fr,st,K=>match Region.ready .any all L with
  |[]=>K st.endR
  |_=>False
 |n+1,L,fr,st,K=>fLi (Region.ready .any all L) λrs=>match rs with
  |[]=>K st.endR
  |a::b=>match pickF fs all L fr st (a::b) with
   |some (i,o,T)=>T λst'=>fSt st' λst'=>fAr (L.setIfInBounds i true) λL'=>devalF fs ao all prL n L' fr st' K
   |none=>conjL (a::b) λi=>match all[i]? with
    |some o=>fLi (prX all prL o i) λX=>bif ownAt st.ms.obs X then fLi (softL st.ms.obs X) λY=>ao i o (st.ban Y) λst1=>match unban Y st st1 with
     |some st'=>bif (news st.ms st'.ms).all (λp=> !(has X p.1)) then fSt st' λst'=>fAr (L.setIfInBounds i true) λL'=>devalF fs ao all prL n L' false st' K else False
     |none=>False
     else False
    |none=>False
theorem devalF_eq {fs:Nat->FS}{ao:AO}{all:Array Oper}{prL:Nat->List Nat}:∀(n:Nat)(L:Array Bool)(fr:Bool)(st:St)(K:St->Prop),devalF fs ao all prL n L fr st K=deval fs ao all prL n L fr st K
 |0,L,fr,st,K=>rfl
 |n+1,L,fr,st,K=>by
  unfold devalF deval
  rw[fLi_eq]
  split
  ·rename_i h;simp only[h]
  ·rename_i a b h
   simp only[h]
   split
   ·rename_i i o T hp
    try rw[hp]
    simp only[fSt_eq,fAr_eq,devalF_eq n]
   ·rename_i hp
    try rw[hp]
    simp only[fSt_eq,fAr_eq,fLi_eq,devalF_eq n]
    try rfl
def drawL (P:Program)(τ:TypeId->Option Ty):DR:=λid cp ops st K=>
 bif P.follows .mixedOrders&&Region.noSelect ops then deval (λi=>fstepL P (prOf (scanQ P st.ms st.n ops.toList 0 st.sl) i) ops) (λi o=>aop1 P τ (cp i) ops o) ops (prOf (scanQ P st.ms st.n ops.toList 0 st.sl)) ops.size (Array.replicate ops.size false) true st K else False
theorem drawL_ok (τ:TypeId->Option Ty):DrOK P (drawL P τ):=by
 intro id cp ops st K hcp h a w c hr
 unfold drawL at h
 cases hb:(P.follows .mixedOrders&&Region.noSelect ops) with
 |false=>rw[hb] at h;exact h.elim
 |true=>
  rw[hb] at h
  obtain⟨b1,b2⟩:=Bool.and_eq_true_iff.1 hb
  obtain⟨hr1,t1⟩:=hr.drew
  let Qx:Exit->Act->World->Prop:=λe a' w'=>e= .normal/\∃st' c',Step st a w c st' a' w' c'/\K st'
  refine wp_mono (Q:=Qx) ?_ (λe a' w' ⟨he,st',c',k1,k2⟩=>⟨st',c',k1,he,k2⟩)
  refine wp_region_any b1 (wpAny_of_T _ _ _ _ (deval_ok (fs:=λi=>fstepL P (prOf (scanQ P st.ms st.n ops.toList 0 st.sl) i) ops) (ao:=λi o=>aop1 P τ (cp i) ops o) (prL:=prOf (scanQ P st.ms st.n ops.toList 0 st.sl)) (λh _ hT _ _ _ hr=>fstepL_ok h hT hr) (λho _ _ h _ _ _ hr _ _ hQ=>aop1_ok (hcp _) ho h hr hQ) b2 hr1 _ _ _ _ _ .start h _ _ _ hr1 (λ_=>⟨rfl,rfl,rfl⟩) .refl Qx (λch a w hh=>by cases hh.1) λst' a' w' c' hs hk=>⟨rfl,st',c',Step.trans ⟨hr1,t1,rfl,.refl _⟩ hs,hk⟩))
def drawF (P:Program)(τ:TypeId->Option Ty):DR:=λid cp ops st K=>
 bif P.follows .mixedOrders&&Region.noSelect ops then fPr (scanQ P st.ms st.n ops.toList 0 st.sl) λtb=>fSt st λst=>devalF (λi=>fstepF P (prOf tb i) ops) (λi o=>aop1 P τ (cp i) ops o) ops (prOf tb) ops.size (Array.replicate ops.size false) true st K else False
theorem drawF_eq (τ:TypeId->Option Ty):drawF P τ=drawL P τ:=by
 funext id cp ops st K
 unfold drawF drawL
 rw[fPr_eq,fSt_eq,devalF_eq,fstepF_eq]
theorem drawF_ok (τ:TypeId->Option Ty):DrOK P (drawF P τ):=by
 rw[drawF_eq]
 exact drawL_ok τ
theorem IFB.yes {c:Bool}{A B:Prop}(hc:c=true)(h:A):IFB c A B:=IFB.mk (λ_=>h) (λe=>by rw[hc] at e;cases e)
theorem IFB.no {c:Bool}{A B:Prop}(hc:c=false)(h:B):IFB c A B:=IFB.mk (λe=>by rw[hc] at e;cases e) (λ_=>h)
theorem loopFrom {n s:Nat}(hn:n<=1000000000)(hs:s<=n){A:Prop}{B:(Int->Prop)->Int->Prop}{K:Prop}{p:Nat->Prop}(hB:A->∀(rec:Int->Prop)(k:Nat),s<=k->k<n->(∀j,s<=j->j<k->p j)->(p k->rec (IntKind.i64.wrap ((k:Int)+1)))->B rec (k:Int))(hK:(∀j,s<=j->j<n->p j)->K):
 LOOP [Ty.int IntKind.i64] (λ(rec:Int->Prop) (z:Int)=>A->IFB (decide (z<(n:Int))) (B rec z) K) ((s:Int),PUnit.unit):=by
 refine LOOP.fuel (λu=>∃k:Nat,u.1=(k:Int)/\s<=k/\k<=n/\∀j,s<=j->j<k->p j) (λu=>n-Int.toNat u.1) ⟨s,rfl,Nat.le_refl _,hs,λj hj=>by omega⟩ ?_
 rintro rec ⟨(z:Int),⟨⟩⟩ ⟨k,hz,hsk,hk,hp⟩ hrec hA
 have hz:z=(k:Int):=hz
 subst hz
 refine IFB.mk (λhb=> ?_) (λhb=>hK λj hj1 hj=>hp j hj1 (by have:=of_decide_eq_false hb;omega))
 have hb:(k:Int)<n:=of_decide_eq_true hb
 refine hB hA rec k hsk (by omega) hp λhpk=> ?_
 rw[wrapS (by omega)]
 refine hrec (((k+1:Nat):Int),()) ⟨k+1,rfl,by omega,by omega,λj hj1 hj=> ?_⟩ (by show n-((k+1:Nat):Int).toNat<n-(k:Int).toNat;omega)
 by_cases h:j=k
 ·rw[h];exact hpk
 ·exact hp j hj1 (by omega)
theorem LOOP.fuel2 {t1 t2:Ty}{F:(den t1->den t2->Prop)->den t1->den t2->Prop}{v1:den t1}{v2:den t2}(I:den t1->den t2->Prop)(μ:den t1->den t2->Nat)(h0:I v1 v2)
 (h:∀(rec:den t1->den t2->Prop)(z1:den t1)(z2:den t2),I z1 z2->(∀y1 y2,I y1 y2->μ y1 y2<μ z1 z2->rec y1 y2)->F rec z1 z2):LOOP [t1,t2] F (v1,v2,PUnit.unit):=
 LOOP.fuel (λu=>I u.1 u.2.1) (λu=>μ u.1 u.2.1) h0 λrec u hI hrec=>h rec u.1 u.2.1 hI λy1 y2 hy hm=>hrec (y1,y2,PUnit.unit) hy hm
theorem LOOP.fuel3 {t1 t2 t3:Ty}{F:(den t1->den t2->den t3->Prop)->den t1->den t2->den t3->Prop}{v1:den t1}{v2:den t2}{v3:den t3}(I:den t1->den t2->den t3->Prop)(μ:den t1->den t2->den t3->Nat)(h0:I v1 v2 v3)
 (h:∀(rec:den t1->den t2->den t3->Prop)(z1:den t1)(z2:den t2)(z3:den t3),I z1 z2 z3->(∀y1 y2 y3,I y1 y2 y3->μ y1 y2 y3<μ z1 z2 z3->rec y1 y2 y3)->F rec z1 z2 z3):LOOP [t1,t2,t3] F (v1,v2,v3,PUnit.unit):=
 LOOP.fuel (λu=>I u.1 u.2.1 u.2.2.1) (λu=>μ u.1 u.2.1 u.2.2.1) h0 λrec u hI hrec=>h rec u.1 u.2.1 u.2.2.1 hI λy1 y2 y3 hy hm=>hrec (y1,y2,y3,PUnit.unit) hy hm
theorem wrapP {k:Nat}(h:k<=1000000000)(h1:1<=k):IntKind.i64.wrap ((k:Int)-1)=((k-1:Nat):Int):=by
 rw[wrap_in (by omega) (by omega)];omega
def pclI_P (l:List (Int))(post:List (Int)->Prop):Prop:=(l.length<=4000000)/\post (l)
def pclI_sp:Spec:=⟨100,false,false,[.sl (.int .i64)],.own 3 (.int .i64),λx post=>pclI_P (x.1:List (Int)) (λy0=>post (y0,()))⟩
def pclI_C:CtxR:=⟨tau,[],lookJ []⟩
def pclI_W (l:List (Int))(post:List (Int)->Prop):Prop:=∀(v1:Bool),(v1=true->l=[])->IFB v1 (post []) (((0:Nat)+l.length) * (8:Nat)<=140737488355328/\post ([]++l))
theorem pclI_w (l:List (Int))(post:dens (shT pclI_sp.rs [])->Prop):pclI_W l (λy0=>post (y0,()))=walkG (callR Tryz.prog pclI_C (drawR Tryz.prog tau) 8 0) 100 false [tv (.sl (.int .i64)) l] pclI_sp.rs post:=by kernel_rfl
theorem pclI_of (h:∀l post,pclI_P l post->pclI_W l post):SpecOK Tryz.prog pclI_sp:=SpecOK.of_rules (C:=pclI_C) (dr:=drawR Tryz.prog tau) (n:=8) (fk:=0) .nil (drawR_ok tau) λx post hp=>HoldW.of (pclI_w x.1 post) (h x.1 (λy0=>post (y0,())) hp)
theorem pclI_ok:SpecOK Tryz.prog pclI_sp:=pclI_of λl post hp=>by
 obtain⟨hl,hp⟩:=hp
 unfold pclI_W
 refine λv hv=>IFB.mk (λh=> ?_) (λ_=>⟨by omega,?_⟩)
 ·rw[hv h] at hp;exact hp
 ·rw[List.nil_append];exact hp
def pasc_P (l:List (Int))(post:Bool->Prop):Prop:=(l.length<=1000000000)/\∀q:Bool,(q=true↔asc l)->post q
def pasc_sp:Spec:=⟨135,false,false,[.sl (.int .i64)],.dat (.bool),λx post=>pasc_P (x.1:List (Int)) (λy0=>post (y0,()))⟩
def pasc_C:CtxR:=⟨tau,[],lookJ [(0,5,⟨[(3,.dat (.int .i64))],[],(List.range' 4 16),[],[]⟩)]⟩
def pasc_W (l:List (Int))(post:Bool->Prop):Prop:=LOOP [Ty.int IntKind.i64] (λ(rec1:Int->Prop) (z2:Int)=>(↑l.length:Int)<=9223372036854775807->IFB (decide (z2<(↑l.length:Int))) (((0:Int)<=z2/\z2<(↑l.length:Int))/\((0:Int)<=IntKind.i64.wrap (z2-1)/\IntKind.i64.wrap (z2-1)<(↑l.length:Int))/\IFB (decide (ix l z2<=ix l (IntKind.i64.wrap (z2-1)))) (post false) (rec1 (IntKind.i64.wrap (z2+1)))) (post true)) ((1:Int),PUnit.unit)
theorem pasc_w (l:List (Int))(post:dens (shT pasc_sp.rs [])->Prop):pasc_W l (λy0=>post (y0,()))=walkG (callR Tryz.prog pasc_C (drawR Tryz.prog tau) 8 0) 135 false [tv (.sl (.int .i64)) l] pasc_sp.rs post:=by kernel_rfl
theorem pasc_of (h:∀l post,pasc_P l post->pasc_W l post):SpecOK Tryz.prog pasc_sp:=SpecOK.of_rules (C:=pasc_C) (dr:=drawR Tryz.prog tau) (n:=8) (fk:=0) .nil (drawR_ok tau) λx post hp=>HoldW.of (pasc_w x.1 post) (h x.1 (λy0=>post (y0,())) hp)
theorem pasc_ok:SpecOK Tryz.prog pasc_sp:=pasc_of λl post hp=>by
 obtain⟨hl,hp⟩:=hp
 unfold pasc_W
 by_cases h0:l.length=0
 ·refine LOOP.fuel (λu=>(u.1:Int)=(1:Int)) (λu=>0) rfl ?_
  rintro rec ⟨(z:Int),⟨⟩⟩ hz hrec _
  have hz:z=1:=hz
  subst hz
  refine IFB.no (by rw[h0];rfl) (hp true ⟨λ_ i hi=>by omega,λ_=>rfl⟩)
 ·refine loopFrom (n:=l.length) (s:=1) hl (by omega) (p:=λj=>ix l ((j-1:Nat):Int)<ix l (j:Int)) (λhA rec k h1 hk hall hrec=> ?_) λhall=>hp true ⟨λ_ i hi=>hall (i+1) (by omega) hi,λ_=>rfl⟩
  rw[wrapP (by omega) h1]
  refine⟨⟨by omega,by omega⟩,⟨by omega,by omega⟩,IFB.mk (λhb=>hp false ⟨λh=>(by cases h),λh=> ?_⟩) (λhb=>hrec (by have:=of_decide_eq_false hb;omega))⟩
  have hb:ix l (k:Int)<=ix l ((k-1:Nat):Int):=of_decide_eq_true hb
  have:=h (k-1) (by omega)
  rw[show k-1+1=k by omega] at this
  omega
def pmts_P (a:api_Region)(b:api_Region)(post:Bool->Prop):Prop:=∀q:Bool,(q=true↔meetP a.1 b.1)->post q
def pmts_sp:Spec:=⟨142,false,false,[.st .api_Region,.st .api_Region],.dat (.bool),λx post=>pmts_P (x.1:api_Region) (x.2.1:api_Region) (λy0=>post (y0,()))⟩
def pmts_C:CtxR:=⟨tau,[rule1 pval_sp],lookJ [(1075800136,0,⟨[(0,.dat (.int .i64))],[],[],[],[]⟩),(1075800136,5,⟨[(8,.dat (.int .i64))],[],(List.range' 9 8++[5,18]),[],[]⟩),(1218669795535893868816298795,0,⟨[(0,.dat (.int .i64))],[],[],[],[]⟩),(1218669795535893868816298795,5,⟨[(8,.dat (.int .i64))],[],(List.range' 9 8++[5,18]),[],[]⟩)]⟩
def pmts_W (a:api_Region)(b:api_Region)(post:Bool->Prop):Prop:=∀(v1:Bool),(v1=true↔validP a.1)->JOIN [Ty.bool] (λ(y2:Bool)=>JOIN [Ty.bool] (λ(y3:Bool)=>post (v1&&y2&&y3)) λ(J4:Bool->Prop)=>IFB (gx true (v1&&y2)) (JOIN [Ty.int IntKind.i64] (λ(y5:Int)=>J4 (decide ((0:Int)<=y5))) λ(J6:Int->Prop)=>(↑a.1.length:Int)<=9223372036854775807->LOOP [Ty.int IntKind.i64] (λ(rec7:Int->Prop) (z8:Int)=>IFB (decide (z8<(↑a.1.length:Int))) (((0:Int)<=z8/\z8<(↑a.1.length:Int))/\JOIN [Ty.int IntKind.i64] (λ(y9:Int)=>IFB (decide ((0:Int)<=y9)) (J6 z8) (rec7 (IntKind.i64.wrap (z8+1)))) λ(J10:Int->Prop)=>(↑b.1.length:Int)<=9223372036854775807->LOOP [Ty.int IntKind.i64] (λ(rec11:Int->Prop) (z12:Int)=>IFB (decide (z12<(↑b.1.length:Int))) (((0:Int)<=z12/\z12<(↑b.1.length:Int))/\IFB (decide ((ix a.1 z8).1<(ix b.1 z12).3)&&decide ((ix b.1 z12).1<(ix a.1 z8).3)&&decide ((ix a.1 z8).2<(ix b.1 z12).4)&&decide ((ix b.1 z12).2<(ix a.1 z8).4)) (J10 z12) (rec11 (IntKind.i64.wrap (z12+1)))) (J10 (-1:Int))) ((0:Int),PUnit.unit)) (J6 (-1:Int))) ((0:Int),PUnit.unit)) (J4 false)) λ(J13:Bool->Prop)=>IFB (gx true v1) (∀(v14:Bool),(v14=true↔validP b.1)->J13 v14) (J13 false)
theorem pmts_w (a:api_Region)(b:api_Region)(post:dens (shT pmts_sp.rs [])->Prop):pmts_W a b (λy0=>post (y0,()))=walkG (callR Tryz.prog pmts_C (drawF Tryz.prog tau) 8 0) 142 false [tv (.st .api_Region) a,tv (.st .api_Region) b] pmts_sp.rs post:=by kernel_rfl
theorem pmts_of (h:∀a b post,pmts_P a b post->pmts_W a b post):SpecOK Tryz.prog pmts_sp:=SpecOK.of_rules (C:=pmts_C) (dr:=drawF Tryz.prog tau) (n:=8) (fk:=0) (.cons (rule1_ok pval_ok) .nil) (drawF_ok tau) λx post hp=>HoldW.of (pmts_w x.1 x.2.1 post) (h x.1 x.2.1 (λy0=>post (y0,())) hp)
theorem over_iff {a b:List Rc}(ha:∀r∈a,proper r)(hb:∀r∈b,proper r):(∃x y,cov a x y=true/\cov b x y=true)↔∃r∈a,∃s∈b,r.1<s.3/\s.1<r.3/\r.2<s.4/\s.2<r.4:=by
 constructor
 ·rintro ⟨x,y,h1,h2⟩
  obtain⟨r,hr,p1,p2,p3,p4⟩:=cov_iff.1 h1
  obtain⟨s,hs,q1,q2,q3,q4⟩:=cov_iff.1 h2
  exact⟨r,hr,s,hs,by omega,by omega,by omega,by omega⟩
 ·rintro ⟨r,hr,s,hs,h1,h2,h3,h4⟩
  obtain⟨p1,p2,p3,p4,p5,p6⟩:=ha r hr
  obtain⟨q1,q2,q3,q4,q5,q6⟩:=hb s hs
  exact⟨max r.1 s.1,max r.2 s.2,cov_iff.2 ⟨r,hr,by omega,by omega,by omega,by omega⟩,cov_iff.2 ⟨s,hs,by omega,by omega,by omega,by omega⟩⟩
theorem ix_ex {α:Type}[Inhabited α]{l:List α}{x:α}(h:x∈l):∃k:Nat,k<l.length/\ix l (k:Int)=x:=by
 obtain⟨k,hk,e⟩:=List.getElem_of_mem h
 exact⟨k,hk,by rw[ix_lt hk];exact e⟩
theorem pmts_ok:SpecOK Tryz.prog pmts_sp:=pmts_of λa b post hp=>by
 unfold pmts_W
 intro v1 h1
 refine JOIN.opq λ(J:Bool->Prop) hJ=> ?_
 have fin:∀y:Bool,(y=true↔validP b.1)->v1=true->J y:=λy hy hv=>by
  rw[hJ]
  refine JOIN.opq λ(J4:Bool->Prop) hJ4=> ?_
  have hva:=h1.1 hv
  refine IFB.mk (λhg=> ?_) (λhg=> ?_)
  ·have hy1:y=true:=by rw[hv,Bool.true_and,gx_t] at hg;exact hg
   have hvb:=hy.1 hy1
   have hla:a.1.length<=120:=hva.1
   have hlb:b.1.length<=120:=hvb.1
   refine JOIN.opq λ(J6:Int->Prop) hJ6 _=> ?_
   have e6:∀z:Int,J6 z=post (decide (0<=z)):=λz=>by rw[hJ6,hJ4,hv,hy1];rfl
   have yes:∀{i j:Nat},i<a.1.length->j<b.1.length->(ix a.1 (i:Int)).1<(ix b.1 (j:Int)).3/\(ix b.1 (j:Int)).1<(ix a.1 (i:Int)).3/\(ix a.1 (i:Int)).2<(ix b.1 (j:Int)).4/\(ix b.1 (j:Int)).2<(ix a.1 (i:Int)).4->J6 (i:Int):=λhi hj h=>by
    rw[e6]
    refine hp _ ⟨λ_=>⟨hva,hvb,(over_iff hva.2.1 hvb.2.1).2 ⟨_,ix_mem (by omega) (by omega),_,ix_mem (by omega) (by omega),h⟩⟩,λ_=>decide_eq_true (by omega)⟩
   refine loopCmp (n:=a.1.length) (by omega) (p:=λi=>∀j:Nat,j<b.1.length->¬((ix a.1 (i:Int)).1<(ix b.1 (j:Int)).3/\(ix b.1 (j:Int)).1<(ix a.1 (i:Int)).3/\(ix a.1 (i:Int)).2<(ix b.1 (j:Int)).4/\(ix b.1 (j:Int)).2<(ix a.1 (i:Int)).4)) (λrec k hk _ hrec=>⟨by omega,?_⟩) λhall=> ?_
   ·refine JOIN.opq λ(J10:Int->Prop) hJ10 _=> ?_
    refine loopCmp (n:=b.1.length) (by omega) (p:=λj=>¬((ix a.1 (k:Int)).1<(ix b.1 (j:Int)).3/\(ix b.1 (j:Int)).1<(ix a.1 (k:Int)).3/\(ix a.1 (k:Int)).2<(ix b.1 (j:Int)).4/\(ix b.1 (j:Int)).2<(ix a.1 (k:Int)).4)) (λrec2 j hj _ hrec2=>⟨by omega,IFB.mk (λhc=> ?_) (λhc=>hrec2 λh=> ?_)⟩) λhall=> ?_
    ·simp only[Bool.and_eq_true,decide_eq_true_eq] at hc
     rw[hJ10]
     exact IFB.yes (decide_eq_true (by omega)) (yes hk hj (by omega))
    ·simp only[Bool.and_eq_false_iff,decide_eq_false_iff_not] at hc
     omega
    ·rw[hJ10]
     exact IFB.no rfl (hrec hall)
   ·rw[e6]
    refine hp _ ⟨λh=>(by cases h),λh=> ?_⟩
    obtain⟨r,hr,s,hs,h⟩:=(over_iff hva.2.1 hvb.2.1).1 h.2.2
    obtain⟨i,hi,rfl⟩:=ix_ex hr
    obtain⟨j,hj,rfl⟩:=ix_ex hs
    exact absurd h (hall i hi j hj)
  ·rw[hJ4]
   have hy1:y=false:=by rw[hv,Bool.true_and,gx_t] at hg;exact hg
   rw[hy1,Bool.and_false]
   refine hp _ ⟨λh=>(by cases h),λh=> ?_⟩
   have:=hy.2 h.2.1
   rw[hy1] at this;cases this
 refine IFB.mk (λhg y hy=>fin y hy (by rw[gx_t] at hg;exact hg)) (λhg=> ?_)
 have hv:v1=false:=by rw[gx_t] at hg;exact hg
 rw[hJ,hv]
 refine JOIN.opq λ(J4:Bool->Prop) hJ4=>IFB.no rfl ?_
 rw[hJ4]
 refine hp _ ⟨λh=>(by cases h),λh=> ?_⟩
 have:=h1.2 h.1
 rw[hv] at this;cases this
def pprop_P (a:api_Region)(post:Bool->Prop):Prop:=(a.1.length<=1000000000)/\∀q:Bool,(q=true↔propR a)->post q
def pprop_sp:Spec:=⟨138,false,false,[.st .api_Region],.dat (.bool),λx post=>pprop_P (x.1:api_Region) (λy0=>post (y0,()))⟩
def pprop_C:CtxR:=⟨tau,[rule1 pval_sp],lookJ []⟩
def pprop_W (a:api_Region)(post:Bool->Prop):Prop:=(↑a.1.length:Int)<=9223372036854775807->JOIN [Ty.bool] (λ(y1:Bool)=>post (decide ((0:Int)<(↑a.1.length:Int))&&y1)) λ(J2:Bool->Prop)=>IFB (gx true (decide ((0:Int)<(↑a.1.length:Int)))) (∀(v3:Bool),(v3=true↔validP a.1)->J2 v3) (J2 false)
theorem pprop_w (a:api_Region)(post:dens (shT pprop_sp.rs [])->Prop):pprop_W a (λy0=>post (y0,()))=walkG (callR Tryz.prog pprop_C (drawF Tryz.prog tau) 8 0) 138 false [tv (.st .api_Region) a] pprop_sp.rs post:=by kernel_rfl
theorem pprop_of (h:∀a post,pprop_P a post->pprop_W a post):SpecOK Tryz.prog pprop_sp:=SpecOK.of_rules (C:=pprop_C) (dr:=drawF Tryz.prog tau) (n:=8) (fk:=0) (.cons (rule1_ok pval_ok) .nil) (drawF_ok tau) λx post hp=>HoldW.of (pprop_w x.1 post) (h x.1 (λy0=>post (y0,())) hp)
theorem pprop_ok:SpecOK Tryz.prog pprop_sp:=pprop_of λa post hp=>by
 obtain⟨hl,hp⟩:=hp
 unfold pprop_W
 refine λ_=>JOIN.opq λ(J:Bool->Prop) hJ=>IFB.mk (λhg v hv=> ?_) (λhg=> ?_)
 ·have hg:0<a.1.length:=by rw[gx_t] at hg;have:=of_decide_eq_true hg;omega
  rw[hJ]
  refine hp _ ?_
  rw[<-propR_ne,decide_eq_true (by omega:(0:Int)<(a.1.length:Int)),Bool.true_and,hv]
  exact⟨λh=>⟨hg,h⟩,λh=>h.2⟩
 ·have hg:¬0<a.1.length:=by rw[gx_t] at hg;have:=of_decide_eq_false hg;omega
  rw[hJ]
  show post (_&&false)
  rw[Bool.and_false]
  refine hp _ ?_
  rw[<-propR_ne]
  exact⟨λh=>(by cases h),λh=>absurd h.1 hg⟩
end RE
end Go.Proofs.YtpeggkeenboacaaGreat
set_option linter.unusedVariables false
set_option linter.unusedSimpArgs false
namespace Go.Proofs.YtpeggkeenboacaaGreat
open Go.RowKit
namespace RE
open PL
namespace PL
structure szP (p:Pc):Prop where
 days:p.Days.length<=1000000
 regs:p.Regions.length<=1000000
 pars:p.Parents.length<=1000000
 rect:∀a∈p.Regions,a.Rects.length<=1000000
structure szL (l:List Pc):Prop where
 len:l.length<=1000000
 all:∀p∈l,szP p
end PL
def pends_P (p:api_Parcel)(i:Int)(post:Int->Prop):Prop:=(p.Days.length<=1000000000/\0<=i/\i<=1000000000)/\post (endsP p i)
def pends_sp:Spec:=⟨141,false,false,[.st .api_Parcel,.int .i64],.dat (.int .i64),λx post=>pends_P (x.1:api_Parcel) (x.2.1:Int) (λy0=>post (y0,()))⟩
def pends_C:CtxR:=⟨tau,[],lookJ []⟩
def pends_W (p:api_Parcel)(i:Int)(post:Int->Prop):Prop:=(↑p.5.length:Int)<=9223372036854775807->IFB (decide (IntKind.i64.wrap (i+1)<(↑p.5.length:Int))) (((0:Int)<=IntKind.i64.wrap (i+1)/\IntKind.i64.wrap (i+1)<(↑p.5.length:Int))/\post (ix p.5 (IntKind.i64.wrap (i+1)))) (post p.3)
theorem pends_w (p:api_Parcel)(i:Int)(post:dens (shT pends_sp.rs [])->Prop):pends_W p i (λy0=>post (y0,()))=walkG (callR Tryz.prog pends_C (drawR Tryz.prog tau) 8 0) 141 false [tv (.st .api_Parcel) p,tv (.int .i64) i] pends_sp.rs post:=by kernel_rfl
theorem pends_of (h:∀(p:api_Parcel)(i:Int)(post:Int->Prop),pends_P p i post->pends_W p i post):SpecOK Tryz.prog pends_sp:=SpecOK.of_rules (C:=pends_C) (dr:=drawR Tryz.prog tau) (n:=8) (fk:=0) .nil (drawR_ok tau) λx post hp=>HoldW.of (pends_w x.1 x.2.1 post) (h x.1 x.2.1 (λy0=>post (y0,())) hp)
theorem pends_ok:SpecOK Tryz.prog pends_sp:=pends_of λp i post hp=>by
 obtain⟨⟨h1,h2,h3⟩,hp⟩:=hp
 unfold pends_W
 rw[wrap_in (by omega) (by omega)]
 unfold endsP at hp
 refine λ_=>IFB.mk (λhb=>⟨⟨by omega,of_decide_eq_true hb⟩,?_⟩) (λhb=> ?_)
 ·rw[if_pos (of_decide_eq_true hb)] at hp;exact hp
 ·rw[if_neg (of_decide_eq_false hb)] at hp;exact hp
def pmt_P (p:api_Parcel)(q:api_Parcel)(post:Bool->Prop):Prop:=(p.Days.length=p.Regions.length/\q.Days.length=q.Regions.length/\p.Days.length<=1000000/\q.Days.length<=1000000)/\∀r:Bool,(r=true↔meetPc p q)->post r
def pmt_sp:Spec:=⟨67,false,false,[.st .api_Parcel,.st .api_Parcel],.dat (.bool),λx post=>pmt_P (x.1:api_Parcel) (x.2.1:api_Parcel) (λy0=>post (y0,()))⟩
def pmt_C:CtxR:=⟨tau,[rule1 pmts_sp,rule1 pends_sp],lookJ [(0,5,⟨[(12,.dat (.int .i64))],[],[13,14,15,16,6,5,17,18,19,49,48,25,26,27,28,29,30,31,32,33,34,35,36,37,38,39,40,41,42,43,44,45,46,47,7,8,24,23,22,20,21,50],[],[]⟩),(0,11,⟨[(20,.dat (.int .i64))],[],[21,22,23,24,8,7,47,46,45,44,43,42,41,40,39,38,37,36,35,34,33,32,31,30,29,28,27,26,25,48,49],[],[]⟩),(0,1000007,⟨[(48,.dat .bool)],[],[25,26,27,28,29,30,31,32,33,34,35,36,37,38,39,40,41,42,43,44,45,46,47],[],[]⟩)]⟩
abbrev pmt_a0 (p:api_Parcel)(z2:Int)(q:api_Parcel)(z4:Int):=(Max.max (ix p.5 z2) (ix q.5 z4)<Min.min (endsP {Number:=p.1,From:=p.2,Until:=p.3,Parents:=p.4,Days:=p.5,Regions:=p.6:api_Parcel} z2) (endsP {Number:=q.1,From:=q.2,Until:=q.3,Parents:=q.4,Days:=q.5,Regions:=q.6:api_Parcel} z4))
def pmt_W (p:api_Parcel)(q:api_Parcel)(post:Bool->Prop):Prop:=(↑p.6.length:Int)<=9223372036854775807->LOOP [Ty.int IntKind.i64] (λ(rec1:Int->Prop) (z2:Int)=>IFB (decide (z2<(↑p.6.length:Int))) (((0:Int)<=z2/\z2<(↑p.6.length:Int))/\((↑q.6.length:Int)<=9223372036854775807->LOOP [Ty.int IntKind.i64] (λ(rec3:Int->Prop) (z4:Int)=>IFB (decide (z4<(↑q.6.length:Int))) (((0:Int)<=z4/\z4<(↑q.6.length:Int))/\JOIN [Ty.bool] (λ(y5:Bool)=>IFB y5 (post true) (rec3 (IntKind.i64.wrap (z4+1)))) λ(J6:Bool->Prop)=>((0:Int)<=z2/\z2<(↑p.5.length:Int))/\((0:Int)<=z4/\z4<(↑q.5.length:Int))/\(p.5.length<=1000000000/\0<=z2/\z2<=1000000000)/\(q.5.length<=1000000000/\0<=z4/\z4<=1000000000)/\(JOIN [Ty.bool] (λ(y7:Bool)=>J6 (decide (pmt_a0 p z2 q z4)&&y7)) λ(J8:Bool->Prop)=>IFB (gx true (decide (pmt_a0 p z2 q z4))) (∀(v9:Bool),(v9=true↔meetP (ix p.6 z2).1 (ix q.6 z4).1)->J8 v9) (J8 false))/\JOIN [Ty.bool] (λ(y10:Bool)=>J6 (decide (pmt_a0 p z2 q z4)&&y10)) λ(J11:Bool->Prop)=>IFB (gx true (decide (pmt_a0 p z2 q z4))) (∀(v12:Bool),(v12=true↔meetP (ix p.6 z2).1 (ix q.6 z4).1)->J11 v12) (J11 false)) (rec1 (IntKind.i64.wrap (z2+1)))) ((0:Int),PUnit.unit))) (post false)) ((0:Int),PUnit.unit)
theorem pmt_w (p:api_Parcel)(q:api_Parcel)(post:dens (shT pmt_sp.rs [])->Prop):pmt_W p q (λy0=>post (y0,()))=walkG (callR Tryz.prog pmt_C (drawF Tryz.prog tau) 8 0) 67 false [tv (.st .api_Parcel) p,tv (.st .api_Parcel) q] pmt_sp.rs post:=by kernel_rfl
theorem pmt_of (h:∀(p:api_Parcel)(q:api_Parcel)(post:Bool->Prop),pmt_P p q post->pmt_W p q post):SpecOK Tryz.prog pmt_sp:=SpecOK.of_rules (C:=pmt_C) (dr:=drawF Tryz.prog tau) (n:=8) (fk:=0) (.cons (rule1_ok pmts_ok) (.cons (rule1_ok pends_ok) .nil)) (drawF_ok tau) λx post hp=>HoldW.of (pmt_w x.1 x.2.1 post) (h x.1 x.2.1 (λy0=>post (y0,())) hp)
theorem pmt_ok:SpecOK Tryz.prog pmt_sp:=pmt_of λp q post hp=>by
 obtain⟨⟨h1,h2,h3,h4⟩,hp⟩:=hp
 unfold pmt_W pmt_a0
 intro _
 let M:Nat->Nat->Prop:=λa b=>max (ix p.Days (a:Int)) (ix q.Days (b:Int))<min (endsP p (a:Int)) (endsP q (b:Int))/\meetP (ix p.Regions (a:Int)).Rects (ix q.Regions (b:Int)).Rects
 have hl:p.6.length<=1000000:=by omega
 have hl2:q.6.length<=1000000:=by omega
 refine loopCmp (n:=p.6.length) (by omega) (p:=λa=>∀b:Nat,b<q.6.length->¬M a b) (λrec a ha _ hrec=>⟨by omega,λ_=> ?_⟩) λhall=> ?_
 ·refine loopCmp (n:=q.6.length) (by omega) (p:=λb=>¬M a b) (λrec2 b hb _ hrec2=>⟨by omega,JOIN.opq λ(J:Bool->Prop) hJ=>⟨⟨by omega,by omega⟩,⟨by omega,by omega⟩,⟨by omega,by omega⟩,⟨by omega,by omega⟩,?_⟩⟩) λhall=>hrec hall
  have fin:∀c:Bool,(c=true↔M a b)->J c:=λc hc=>by
   rw[hJ]
   refine IFB.mk (λh=>hp true ⟨λ_=> ?_,λ_=>rfl⟩) (λh=>hrec2 λhm=> ?_)
   ·exact⟨a,b,ha,hb,hc.1 h⟩
   ·have:=hc.2 hm;rw[h] at this;cases this
  have key:JOIN [Ty.bool] (λ(y7:Bool)=>J (decide (Max.max (ix p.5 (a:Int)) (ix q.5 (b:Int))<Min.min (endsP p (a:Int)) (endsP q (b:Int)))&&y7)) λ(J8:Bool->Prop)=>IFB (gx true (decide (Max.max (ix p.5 (a:Int)) (ix q.5 (b:Int))<Min.min (endsP p (a:Int)) (endsP q (b:Int))))) (∀(v9:Bool),(v9=true↔meetP (ix p.6 (a:Int)).1 (ix q.6 (b:Int)).1)->J8 v9) (J8 false):=by
   refine JOIN.opq λ(J8:Bool->Prop) hJ8=>IFB.mk (λhg v hv=> ?_) (λhg=> ?_)
   ·rw[gx_t] at hg
    rw[hJ8]
    refine fin _ ?_
    rw[hg,Bool.true_and,hv]
    exact⟨λh=>⟨of_decide_eq_true hg,h⟩,λh=>h.2⟩
   ·rw[gx_t] at hg
    rw[hJ8]
    refine fin _ ?_
    rw[hg,Bool.false_and]
    exact⟨λh=>(by cases h),λh=>absurd h.1 (of_decide_eq_false hg)⟩
  exact⟨key,key⟩
 ·refine hp false ⟨λh=>(by cases h),λh=> ?_⟩
  obtain⟨a,b,ha,hb,hm⟩:=h
  exact absurd hm (hall a ha b hb)
def pright_P (l:List (api_Parcel))(p:api_Parcel)(post:Bool->Prop):Prop:=(l.length<=1000000/\p.Days.length<=1000000/\p.Regions.length<=1000000/\p.Parents.length<=1000000/\∀a∈p.Regions,a.Rects.length<=1000000)/\∀r:Bool,(r=true↔rightP l p)->post r
def pright_sp:Spec:=⟨64,false,false,[.sl (.st .api_Parcel),.st .api_Parcel],.dat (.bool),λx post=>pright_P (x.1:List (api_Parcel)) (x.2.1:api_Parcel) (λy0=>post (y0,()))⟩
def pright_C:CtxR:=⟨tau,[rule1 pprop_sp,rule1 pasc_sp],lookJ [(8518828876,0,⟨[(0,.dat (.int .i64))],[],[],[],[]⟩),(8518828876,5,⟨[(8,.dat (.int .i64))],[],[9,10,5,11,12,13,14,15,16,18],[],[]⟩),(6389121913,0,⟨[(0,.dat (.int .i64))],[],[],[],[]⟩),(6389121913,5,⟨[(8,.dat (.int .i64))],[],[9,10,5,11,12,13,14,15,16,18],[],[]⟩),(0,1000004,⟨[(90,.dat .bool)],[],[49,50,51,57,58,66,67,72,73,84,85,52,53,54,55,56,59,60,61,62,63,64,65,68,69,70,71,74,75,76,77,78,79,80,81,82,83,86,87,88,89],[],[]⟩)]⟩
abbrev pright_a0 (p:api_Parcel)(y12:Bool):=(gx false (decide ((↑p.5.length:Int)=(0:Int))|| !decide ((↑p.5.length:Int)=(↑p.6.length:Int))|| !decide (ix p.5 (0:Int)=p.2)|| !y12||decide (Min.min p.3 (36864:Int)<ix p.5 (IntKind.i64.wrap ((↑p.5.length:Int)-(1:Int))))))
abbrev pright_a1 (p:api_Parcel)(y12:Bool):=(gx false (decide ((↑p.5.length:Int)=(0:Int))|| !decide ((↑p.5.length:Int)=(↑p.6.length:Int))|| !decide (ix p.5 (0:Int)=p.2)|| !y12)=true->(0:Int)<=IntKind.i64.wrap ((↑p.5.length:Int)-(1:Int))/\IntKind.i64.wrap ((↑p.5.length:Int)-(1:Int))<(↑p.5.length:Int))
abbrev pright_a2 (p:api_Parcel)(l:List (api_Parcel)):=(!decide (p.1=IntKind.i64.wrap ((↑l.length:Int)+(1:Int)))||decide (p.2<(0:Int))||decide (p.3<p.2)||decide ((36865:Int)<p.3))
def pright_W (l:List (api_Parcel))(p:api_Parcel)(post:Bool->Prop):Prop:=(↑l.length:Int)<=9223372036854775807->(gx false (pright_a2 p l)=true->(↑l.length:Int)<=9223372036854775807)->((gx false (pright_a2 p l)&&gx true (decide ((0:Int)<(↑l.length:Int))))=true->(↑l.length:Int)<=9223372036854775807)->((gx false (pright_a2 p l)&&gx true (decide ((0:Int)<(↑l.length:Int))))=true->0<=IntKind.i64.wrap ((↑l.length:Int)-1)/\IntKind.i64.wrap ((↑l.length:Int)-1)<(↑l.length:Int))/\IFB (!decide (p.1=IntKind.i64.wrap ((↑l.length:Int)+1))||decide (p.2<0)||decide (p.3<p.2)||decide ((36865:Int)<p.3)||decide ((0:Int)<(↑l.length:Int))&&decide (p.2<(ix l (IntKind.i64.wrap ((↑l.length:Int)-1))).2)) (post false) ((↑p.5.length:Int)<=9223372036854775807->JOIN [Ty.bool] (λ(y1:Bool)=>IFB y1 (post false) (JOIN [Ty.int IntKind.i64] (λ(y2:Int)=>IFB (decide ((0:Int)<=y2)) (post false) (JOIN [Ty.int IntKind.i64] (λ(y3:Int)=>post !decide ((0:Int)<=y3)) λ(J4:Int->Prop)=>(↑p.4.length:Int)<=9223372036854775807->LOOP [Ty.int IntKind.i64] (λ(rec5:Int->Prop) (z6:Int)=>IFB (decide (z6<(↑p.4.length:Int))) (((0:Int)<=z6/\z6<(↑p.4.length:Int))/\((gx false (decide (ix p.4 z6<1))=true->(↑l.length:Int)<=9223372036854775807)->(gx false (decide (ix p.4 z6<1)||decide ((↑l.length:Int)<ix p.4 z6))=true->0<=IntKind.i64.wrap (ix p.4 z6-1)/\IntKind.i64.wrap (ix p.4 z6-1)<(↑l.length:Int))/\IFB (decide (ix p.4 z6<1)||decide ((↑l.length:Int)<ix p.4 z6)|| !decide ((ix l (IntKind.i64.wrap (ix p.4 z6-1))).3=p.2)) (J4 z6) (rec5 (IntKind.i64.wrap (z6+1))))) (J4 (-1:Int))) ((0:Int),PUnit.unit))) λ(J7:Int->Prop)=>(↑p.6.length:Int)<=9223372036854775807->LOOP [Ty.int IntKind.i64] (λ(rec8:Int->Prop) (z9:Int)=>IFB (decide (z9<(↑p.6.length:Int))) (((0:Int)<=z9/\z9<(↑p.6.length:Int))/\(ix p.6 z9).1.length<=1000000000/\∀(v10:Bool),(v10=true↔propR {Rects:=(ix p.6 z9).1:api_Region})->IFB (!v10) (J7 z9) (rec8 (IntKind.i64.wrap (z9+1)))) (J7 (-1:Int))) ((0:Int),PUnit.unit))) λ(J11:Bool->Prop)=>(gx false (decide ((↑p.5.length:Int)=0))=true->(↑p.6.length:Int)<=9223372036854775807)->(gx false (decide ((↑p.5.length:Int)=0)|| !decide ((↑p.5.length:Int)=(↑p.6.length:Int)))=true->Int.NonNeg 0/\0<(↑p.5.length:Int))/\JOIN [Ty.bool] (λ(y12:Bool)=>((pright_a1 p y12)/\(JOIN [Ty.bool] (λ(y13:Bool)=>J11 (decide ((↑p.5.length:Int)=0)|| !decide ((↑p.5.length:Int)=(↑p.6.length:Int))|| !decide (ix p.5 0=p.2)|| !y12||decide (Min.min p.3 36864<ix p.5 (IntKind.i64.wrap ((↑p.5.length:Int)-1)))|| !y13)) λ(J14:Bool->Prop)=>IFB (pright_a0 p y12) (p.4.length<=1000000000/\∀(v15:Bool),(v15=true↔asc p.4)->J14 v15) (J14 false))/\JOIN [Ty.bool] (λ(y16:Bool)=>J11 (decide ((↑p.5.length:Int)=0)|| !decide ((↑p.5.length:Int)=(↑p.6.length:Int))|| !decide (ix p.5 0=p.2)|| !y12||decide (Min.min p.3 36864<ix p.5 (IntKind.i64.wrap ((↑p.5.length:Int)-1)))|| !y16)) λ(J17:Bool->Prop)=>IFB (pright_a0 p y12) (p.4.length<=1000000000/\∀(v18:Bool),(v18=true↔asc p.4)->J17 v18) (J17 false))/\(pright_a1 p y12)/\JOIN [Ty.bool] (λ(y19:Bool)=>J11 (decide ((↑p.5.length:Int)=0)|| !decide ((↑p.5.length:Int)=(↑p.6.length:Int))|| !decide (ix p.5 0=p.2)|| !y12||decide (Min.min p.3 36864<ix p.5 (IntKind.i64.wrap ((↑p.5.length:Int)-1)))|| !y19)) λ(J20:Bool->Prop)=>IFB (pright_a0 p y12) (p.4.length<=1000000000/\∀(v21:Bool),(v21=true↔asc p.4)->J20 v21) (J20 false)) λ(J22:Bool->Prop)=>IFB (gx false (decide ((↑p.5.length:Int)=0)|| !decide ((↑p.5.length:Int)=(↑p.6.length:Int))|| !decide (ix p.5 0=p.2))) (p.5.length<=1000000000/\∀(v23:Bool),(v23=true↔asc p.5)->J22 v23) (J22 false))
theorem pright_w (l:List (api_Parcel))(p:api_Parcel)(post:dens (shT pright_sp.rs [])->Prop):pright_W l p (λy0=>post (y0,()))=walkG (callR Tryz.prog pright_C (drawF Tryz.prog tau) 8 0) 64 false [tv (.sl (.st .api_Parcel)) l,tv (.st .api_Parcel) p] pright_sp.rs post:=by kernel_rfl
theorem pright_of (h:∀(l:List (api_Parcel))(p:api_Parcel)(post:Bool->Prop),pright_P l p post->pright_W l p post):SpecOK Tryz.prog pright_sp:=SpecOK.of_rules (C:=pright_C) (dr:=drawF Tryz.prog tau) (n:=8) (fk:=0) (.cons (rule1_ok pprop_ok) (.cons (rule1_ok pasc_ok) .nil)) (drawF_ok tau) λx post hp=>HoldW.of (pright_w x.1 x.2.1 post) (h x.1 x.2.1 (λy0=>post (y0,())) hp)
theorem bnot_iff {b:Bool}{p:Prop}(h:b=true↔p):(!b)=true↔¬p:=by
 rw[<-h];cases b<;>simp
set_option maxHeartbeats 1000000 in
theorem pright_ok:SpecOK Tryz.prog pright_sp:=pright_of λl p post hp=>by
 obtain⟨⟨hl,z1,z2,z3,z4⟩,hp⟩:=hp
 unfold pright_W pright_a2 pright_a1 pright_a0
 have hw1:IntKind.i64.wrap ((l.length:Int)+1)=(l.length:Int)+1:=wrap_in (by omega) (by omega)
 intro _ _ _
 have hlast:0<l.length->IntKind.i64.wrap ((l.length:Int)-1)=(l.length:Int)-1:=λh=>wrap_in (by omega) (by omega)
 rw[hw1]
 refine⟨λh=> ?_,IFB.mk (λhc=>hp false ⟨λh=>(by cases h),λh=> ?_⟩) (λhc=> ?_)⟩
 ·have h:(0:Int)<(l.length:Int):=by
   simp only[Bool.and_eq_true,gx_t,decide_eq_true_eq] at h;exact h.2
  rw[hlast (by omega)];omega
 ·obtain⟨a1,a2,a3,a4,a5,_,_⟩:=h
  simp only[Bool.or_eq_true,Bool.and_eq_true,Bool.not_eq_true',decide_eq_true_eq,decide_eq_false_iff_not] at hc
  rcases hc with (((hc|hc)|hc)|hc)|⟨hc1,hc2⟩
  ·exact (hc a1).elim
  ·omega
  ·omega
  ·omega
  ·rw[hlast (by omega)] at hc2
   have:=a5 (by omega)
   omega
 have hA:p.Number=(l.length:Int)+1/\0<=p.From/\p.From<=p.Until/\p.Until<=36865/\(0<l.length->(ix l ((l.length:Int)-1)).From<=p.From):=by
  simp only[Bool.or_eq_false_iff,Bool.and_eq_false_iff,Bool.not_eq_false',decide_eq_true_eq,decide_eq_false_iff_not] at hc
  obtain⟨⟨⟨⟨c1,c2⟩,c3⟩,c4⟩,c5⟩:=hc
  refine⟨c1,by omega,by omega,by omega,λh=> ?_⟩
  rw[hlast h] at c5
  rcases c5 with c5|c5
  ·omega
  ·exact Int.not_lt.1 c5
 clear hc
 have hI:∀q:Bool,(q=true↔outP p/\parP l p)->post q:=λq hq=>hp q (by
  rw[hq]
  exact⟨λh=>⟨hA.1,hA.2.1,hA.2.2.1,hA.2.2.2.1,hA.2.2.2.2,h.1,h.2⟩,λh=>⟨h.2.2.2.2.2.1,h.2.2.2.2.2.2⟩⟩)
 intro _
 let o1:Prop:=0<p.Days.length/\p.Days.length=p.Regions.length/\ix p.Days 0=p.From/\asc p.Days/\ix p.Days ((p.Days.length:Int)-1)<=min p.Until 36864/\asc p.Parents
 refine JOIN.opq λ(J11:Bool->Prop) hJ11=> ?_
 have k11:∀c:Bool,(c=true↔¬o1)->J11 c:=λc hc=>by
  rw[hJ11]
  refine IFB.mk (λh=>hI false ⟨λh=>(by cases h),λh2=> ?_⟩) (λh=> ?_)
  ·exact absurd ⟨h2.1.1,h2.1.2.1,h2.1.2.2.1,h2.1.2.2.2.1,h2.1.2.2.2.2.1,h2.2.1⟩ (hc.1 h)
  have ho:o1:=Classical.byContradiction λhn=>by have:=hc.2 hn;rw[h] at this;cases this
  refine JOIN.opq λ(J7:Int->Prop) hJ7 _=> ?_
  refine loopCmp (n:=p.6.length) (by omega) (p:=λi=>propR (ix p.6 (i:Int))) (λrec k hk _ hrec=>⟨by omega,?_,λv hv=>IFB.mk (λhb=> ?_) (λhb=>hrec (hv.1 (by simpa using hb)))⟩) λhall=> ?_
  ·have:=z4 _ (ix_mem (l:=p.Regions) (i:=(k:Int)) (by omega) (by omega));omega
  ·have hv0:v=false:=by simpa using hb
   rw[hJ7]
   refine IFB.yes (decide_eq_true (by omega)) (hI false ⟨λh=>(by cases h),λh2=> ?_⟩)
   have:=hv.2 (h2.1.2.2.2.2.2 _ (ix_mem (l:=p.Regions) (i:=(k:Int)) (by omega) (by omega)))
   rw[hv0] at this;cases this
  ·rw[hJ7]
   refine IFB.no rfl (JOIN.opq λ(J4:Int->Prop) hJ4 _=> ?_)
   have hreg:∀a∈p.Regions,propR a:=λa ha=>by
    obtain⟨i,hi,rfl⟩:=ix_ex ha
    exact hall i hi
   have hout:outP p:=⟨ho.1,ho.2.1,ho.2.2.1,ho.2.2.2.1,ho.2.2.2.2.1,hreg⟩
   refine loopCmp (n:=p.4.length) (by omega) (p:=λi=>1<=ix p.4 (i:Int)/\ix p.4 (i:Int)<=(l.length:Int)/\(ix l (ix p.4 (i:Int)-1)).Until=p.From) (λrec k hk _ hrec=>⟨by omega,λ_=>⟨λh=> ?_,IFB.mk (λhb=> ?_) (λhb=>hrec ?_)⟩⟩) λhall2=> ?_
   ·rw[gx_f] at h
    simp only[Bool.not_eq_true',Bool.or_eq_false_iff,decide_eq_false_iff_not] at h
    rw[wrap_in (by omega) (by omega)];omega
   ·rw[hJ4]
    show post (!decide ((0:Int)<=(k:Int)))
    have hd:(decide ((0:Int)<=(k:Int)))=true:=decide_eq_true (by omega)
    rw[hd]
    refine hI false ⟨λh=>(by cases h),λh2=> ?_⟩
    obtain⟨e1,e2,e3⟩:=h2.2.2 _ (ix_mem (l:=p.Parents) (i:=(k:Int)) (by omega) (by omega))
    simp only[Bool.or_eq_true,Bool.not_eq_true',decide_eq_true_eq,decide_eq_false_iff_not] at hb
    rcases hb with (hb|hb)|hb
    ·omega
    ·omega
    ·rw[wrap_in (by omega) (by omega)] at hb;exact (hb e3).elim
   ·simp only[Bool.or_eq_false_iff,Bool.not_eq_false',decide_eq_true_eq,decide_eq_false_iff_not] at hb
    obtain⟨⟨b1,b2⟩,b3⟩:=hb
    rw[wrap_in (by omega) (by omega)] at b3
    exact⟨by omega,by omega,b3⟩
   ·rw[hJ4]
    refine hI true ⟨λ_=>⟨hout,ho.2.2.2.2.2,λk hk=> ?_⟩,λ_=>rfl⟩
    obtain⟨i,hi,rfl⟩:=ix_ex hk
    exact hall2 i hi
 intro _
 have hz:Int.NonNeg (0:Int):=Int.NonNeg.mk 0
 refine⟨λh=>⟨hz,?_⟩,?_⟩
 ·rw[gx_f] at h
  simp only[Bool.not_eq_true',Bool.or_eq_false_iff,decide_eq_false_iff_not] at h
  omega
 refine JOIN.opq λ(J22:Bool->Prop) hJ22=> ?_
 have kn:∀y:Bool,(gx false (decide ((p.5.length:Int)=(0:Int))|| !decide ((p.5.length:Int)=(p.6.length:Int))|| !decide (ix p.5 (0:Int)=p.2)|| !y)=true)->0<=IntKind.i64.wrap ((p.5.length:Int)-1)/\IntKind.i64.wrap ((p.5.length:Int)-1)<(p.5.length:Int):=λy h=>by
  rw[gx_f] at h
  simp only[Bool.not_eq_true',Bool.or_eq_false_iff,decide_eq_false_iff_not] at h
  rw[wrap_in (by omega) (by omega)];omega
 have k22:∀y:Bool,(0<p.Days.length/\p.Days.length=p.Regions.length/\ix p.Days 0=p.From->(y=true↔asc p.Days))->(¬(0<p.Days.length/\p.Days.length=p.Regions.length/\ix p.Days 0=p.From)->y=false)->J22 y:=λy hy1 hy0=>by
  rw[hJ22]
  have hcond:∀z:Bool,((decide ((p.5.length:Int)=(0:Int))|| !decide ((p.5.length:Int)=(p.6.length:Int))|| !decide (ix p.5 (0:Int)=p.2)|| !y||decide (Min.min p.3 (36864:Int)<ix p.5 (IntKind.i64.wrap ((p.5.length:Int)-(1:Int))))|| !z)=false↔(0<p.Days.length/\p.Days.length=p.Regions.length/\ix p.Days 0=p.From/\asc p.Days/\ix p.Days ((p.Days.length:Int)-1)<=min p.Until 36864/\z=true)):=λz=>by
   by_cases hc:0<p.Days.length/\p.Days.length=p.Regions.length/\ix p.Days 0=p.From
   ·have hy:=hy1 hc
    rw[wrap_in (by omega) (by omega)]
    simp only[Bool.or_eq_false_iff,Bool.not_eq_false',decide_eq_true_eq,decide_eq_false_iff_not,hy]
    obtain⟨c1,c2,c3⟩:=hc
    constructor
    ·rintro ⟨⟨⟨⟨⟨d1,d2⟩,d3⟩,d4⟩,d5⟩,d6⟩
     exact⟨c1,c2,c3,d4,Int.not_lt.1 d5,d6⟩
    ·rintro ⟨d1,d2,d3,d4,d5,d6⟩
     exact⟨⟨⟨⟨⟨by omega,by omega⟩,d3⟩,d4⟩,Int.not_lt.2 d5⟩,d6⟩
   ·constructor
    ·intro h
     simp only[Bool.or_eq_false_iff,Bool.not_eq_false',decide_eq_true_eq,decide_eq_false_iff_not] at h
     obtain⟨⟨⟨⟨⟨d1,d2⟩,d3⟩,d4⟩,d5⟩,d6⟩:=h
     exact absurd ⟨by omega,by omega,d3⟩ hc
    ·rintro ⟨d1,d2,d3,_⟩
     exact absurd ⟨d1,d2,d3⟩ hc
  have key:JOIN [Ty.bool] (λ(y13:Bool)=>J11 (decide ((p.5.length:Int)=(0:Int))|| !decide ((p.5.length:Int)=(p.6.length:Int))|| !decide (ix p.5 (0:Int)=p.2)|| !y||decide (Min.min p.3 (36864:Int)<ix p.5 (IntKind.i64.wrap ((p.5.length:Int)-(1:Int))))|| !y13)) λ(J14:Bool->Prop)=>IFB (gx false (decide ((p.5.length:Int)=(0:Int))|| !decide ((p.5.length:Int)=(p.6.length:Int))|| !decide (ix p.5 (0:Int)=p.2)|| !y||decide (Min.min p.3 (36864:Int)<ix p.5 (IntKind.i64.wrap ((p.5.length:Int)-(1:Int)))))) (p.4.length<=(1000000000:Nat)/\∀(v15:Bool),(v15=true↔asc p.4)->J14 v15) (J14 false):=by
   refine JOIN.opq λ(J14:Bool->Prop) hJ14=>IFB.mk (λhg=>⟨by omega,λv hv=> ?_⟩) (λhg=> ?_)
   ·rw[hJ14]
    refine k11 _ ?_
    have h:=hcond v
    generalize (decide ((p.5.length:Int)=(0:Int))|| !decide ((p.5.length:Int)=(p.6.length:Int))|| !decide (ix p.5 (0:Int)=p.2)|| !y||decide (Min.min p.3 (36864:Int)<ix p.5 (IntKind.i64.wrap ((p.5.length:Int)-(1:Int))))|| !v)=c at h
    rw[hv] at h
    constructor
    ·intro hc ho
     have:=h.2 ho
     rw[hc] at this;cases this
    ·intro ho
     cases c with
     |true=>rfl
     |false=>exact absurd (h.1 rfl) ho
   ·rw[hJ14]
    refine k11 _ ⟨λ_ ho=> ?_,λ_=> ?_⟩
    ·rw[gx_f] at hg
     have hg:(decide ((p.5.length:Int)=(0:Int))|| !decide ((p.5.length:Int)=(p.6.length:Int))|| !decide (ix p.5 (0:Int)=p.2)|| !y||decide (Min.min p.3 (36864:Int)<ix p.5 (IntKind.i64.wrap ((p.5.length:Int)-(1:Int)))))=true:=by
      have hb:∀b:Bool,(!b)=false->b=true:=by decide
      exact hb _ hg
     have h:=(hcond true).2 ⟨ho.1,ho.2.1,ho.2.2.1,ho.2.2.2.1,ho.2.2.2.2.1,rfl⟩
     rw[hg] at h;cases h
    ·simp
  exact⟨⟨kn y,key,key⟩,kn y,key⟩
 refine IFB.mk (λhg=>⟨by omega,λv hv=>k22 v (λ_=>hv) λhn=> ?_⟩) (λhg=>k22 false (λhc=> ?_) λ_=>rfl)
 ·rw[gx_f] at hg
  simp only[Bool.not_eq_true',Bool.or_eq_false_iff,Bool.not_eq_false',decide_eq_true_eq,decide_eq_false_iff_not] at hg
  exact absurd ⟨by omega,by omega,hg.2⟩ hn
 ·rw[gx_f] at hg
  simp only[Bool.not_eq_false',Bool.or_eq_true,Bool.not_eq_true',decide_eq_true_eq,decide_eq_false_iff_not] at hg
  omega
end RE
end Go.Proofs.YtpeggkeenboacaaGreat
namespace Go.Proofs.YtpeggkeenboacaaGreat
namespace RE
open Go.RowKit
open PL
def pchk_P (l:List (api_Parcel))(post:Int->Prop):Prop:=(szL l)/\post (checkS l)
def pchk_sp:Spec:=⟨14,false,false,[.sl (.st .api_Parcel)],.dat (.int .i64),λx post=>pchk_P (x.1:List (api_Parcel)) (λy0=>post (y0,()))⟩
def pchk_C:CtxR:=⟨tau,[rule1 pmt_sp,rule1 pright_sp],lookJ [(0,21,⟨[(26,.dat (.int .i64))],[],(List.range' 27 10++[5,6]),[],[]⟩),(12777200361,0,⟨[(0,.dat (.int .i64))],[],[],[],[]⟩),(12777200361,5,⟨[(8,.dat (.int .i64))],[],(List.range' 9 8++[5,18]),[],[]⟩),(0,9,⟨[(12,.dat (.int .i64))],[],(List.range' 13 11++[3,4]),[],[]⟩)]⟩
def pchk_W (l:List (api_Parcel))(post:Int->Prop):Prop:=(↑l.length:Int)<=9223372036854775807->IFB (decide ((60:Int)<(↑l.length:Int))) (post 1) ((↑l.length:Int)<=9223372036854775807->LOOP [Ty.int IntKind.i64] (λ(rec1:Int->Prop) (z2:Int)=>IFB (decide (z2<(↑l.length:Int))) (((0:Int)<=z2/\z2<(↑l.length:Int))/\(Int.NonNeg 0/\0<=z2/\z2<=(↑l.length:Int))/\((sub l (0:Int) z2).length<=1000000/\(ix l z2).5.length<=1000000/\(ix l z2).6.length<=1000000/\(ix l z2).4.length<=1000000/\∀(v3:api_Region),v3∈(ix l z2).6->v3.1.length<=1000000)/\∀(v4:Bool),(v4=true↔rightP (sub l (0:Int) z2) {Number:=(ix l z2).1,From:=(ix l z2).2,Until:=(ix l z2).3,Parents:=(ix l z2).4,Days:=(ix l z2).5,Regions:=(ix l z2).6:api_Parcel})->IFB (!v4) (post 3) (rec1 (IntKind.i64.wrap (z2+1)))) ((↑l.length:Int)<=9223372036854775807->LOOP [Ty.int IntKind.i64] (λ(rec5:Int->Prop) (z6:Int)=>IFB (decide (z6<(↑l.length:Int))) (((0:Int)<=z6/\z6<(↑l.length:Int))/\(Int.NonNeg 0/\0<=z6/\z6<=(↑l.length:Int))/\JOIN [Ty.int IntKind.i64] (λ(y7:Int)=>IFB (decide ((0:Int)<=y7)) (post 3) (rec5 (IntKind.i64.wrap (z6+1)))) λ(J8:Int->Prop)=>(↑(sub l (0:Int) z6).length:Int)<=9223372036854775807->LOOP [Ty.int IntKind.i64] (λ(rec9:Int->Prop) (z10:Int)=>IFB (decide (z10<(↑(sub l (0:Int) z6).length:Int))) (((0:Int)<=z10/\z10<(↑(sub l (0:Int) z6).length:Int))/\((ix l z6).5.length=(ix l z6).6.length/\(ix (sub l (0:Int) z6) z10).5.length=(ix (sub l (0:Int) z6) z10).6.length/\(ix l z6).5.length<=1000000/\(ix (sub l (0:Int) z6) z10).5.length<=1000000)/\∀(v11:Bool),(v11=true↔meetPc {Number:=(ix l z6).1,From:=(ix l z6).2,Until:=(ix l z6).3,Parents:=(ix l z6).4,Days:=(ix l z6).5,Regions:=(ix l z6).6:api_Parcel} {Number:=(ix (sub l (0:Int) z6) z10).1,From:=(ix (sub l (0:Int) z6) z10).2,Until:=(ix (sub l (0:Int) z6) z10).3,Parents:=(ix (sub l (0:Int) z6) z10).4,Days:=(ix (sub l (0:Int) z6) z10).5,Regions:=(ix (sub l (0:Int) z6) z10).6:api_Parcel})->IFB v11 (J8 z10) (rec9 (IntKind.i64.wrap (z10+1)))) (J8 (-1:Int))) ((0:Int),PUnit.unit)) (post 0)) ((0:Int),PUnit.unit))) ((0:Int),PUnit.unit))
theorem pchk_w (l:List (api_Parcel))(post:dens (shT pchk_sp.rs [])->Prop):pchk_W l (λy0=>post (y0,()))=walkG (callR Tryz.prog pchk_C (drawF Tryz.prog tau) 8 0) 14 false [tv (.sl (.st .api_Parcel)) l] pchk_sp.rs post:=by kernel_rfl
theorem pchk_of (h:∀l post,pchk_P l post->pchk_W l post):SpecOK Tryz.prog pchk_sp:=SpecOK.of_rules (C:=pchk_C) (dr:=drawF Tryz.prog tau) (n:=8) (fk:=0) (.cons (rule1_ok pmt_ok) (.cons (rule1_ok pright_ok) .nil)) (drawF_ok tau) λx post hp=>HoldW.of (pchk_w x.1 post) (h x.1 (λy0=>post (y0,())) hp)
theorem take_ix {α:Type}[Inhabited α]{l:List α}{k j:Nat}(hj:j<k)(hk:k<=l.length):ix (l.take k) (j:Int)=ix l (j:Int):=by
 rw[ix_lt (by rw[List.length_take];omega),ix_lt (by omega),List.getElem_take]
theorem regP_sz {l:List Pc}(h:szL l){k:Nat}(hk:k<l.length):szP (ix l (k:Int)):=h.all _ (ix_mem (by omega) (by omega))
theorem pchk_ok:SpecOK Tryz.prog pchk_sp:=pchk_of λl post hp=>by
 obtain⟨hsz,hp⟩:=hp
 have hl:=hsz.len
 unfold pchk_W
 unfold checkS at hp
 intro _
 refine IFB.mk (λhb=> ?_) (λhb _=> ?_)
 ·have hb:(60:Int)<(l.length:Int):=of_decide_eq_true hb
  rw[if_pos (by omega)] at hp;exact hp
 have hb:¬(60:Int)<(l.length:Int):=of_decide_eq_false hb
 rw[if_neg (by omega)] at hp
 have bad:¬regP l->post 3:=λh=>by rw[if_neg h] at hp;exact hp
 refine loopCmp (n:=l.length) (by omega) (p:=λi=>rightP (l.take i) (ix l (i:Int))) (λrec k hk _ hrec=> ?_) λhall=> ?_
 ·have hx:=regP_sz hsz hk
  refine⟨by omega,⟨Int.NonNeg.mk 0,by omega,by omega⟩,?_⟩
  rw[sub_front]
  refine⟨⟨by rw[List.length_take];omega,hx.days,hx.regs,hx.pars,hx.rect⟩,λv hv=>IFB.mk (λhb=> ?_) (λhb=>hrec (hv.1 (by simpa using hb)))⟩
  have hb:v=false:=by simpa using hb
  refine bad λhr=> ?_
  have:=hv.2 (hr.1 k hk)
  rw[hb] at this;cases this
 ·refine λ_=>loopCmp (n:=l.length) (by omega) (p:=λi=>∀j:Nat,j<i->¬meetPc (ix l (i:Int)) (ix l (j:Int))) (λrec k hk _ hrec=> ?_) λhall2=> ?_
  ·have hx:=regP_sz hsz hk
   refine⟨by omega,⟨Int.NonNeg.mk 0,by omega,by omega⟩,?_⟩
   rw[sub_front]
   have hkl:(l.take k).length=k:=by rw[List.length_take];omega
   rw[hkl]
   refine JOIN.opq λ(J:Int->Prop) hJ _=> ?_
   refine loopCmp (n:=k) (by omega) (p:=λj=>¬meetPc (ix l (k:Int)) (ix l (j:Int))) (λrec2 j hj _ hrec2=> ?_) λhall3=> ?_
   ·have hxj:=regP_sz hsz (k:=j) (by omega)
    refine⟨by omega,?_⟩
    rw[take_ix hj (by omega)]
    have ok1:=(hall k hk).2.2.2.2.2.1.2.1
    have ok2:=(hall j (by omega)).2.2.2.2.2.1.2.1
    refine⟨⟨ok1,ok2,hx.days,hxj.days⟩,λr hr=>IFB.mk (λhb=> ?_) (λhb=>hrec2 λh=> ?_)⟩
    ·rw[hJ]
     exact IFB.yes (decide_eq_true (by omega)) (bad λh=>h.2 k j hk hj (hr.1 hb))
    ·have:=hr.2 h;rw[hb] at this;cases this
   ·rw[hJ]
    exact IFB.no rfl (hrec hall3)
  ·rw[if_pos ⟨hall,λi j hi hj=>hall2 i hi j hj⟩] at hp
   exact hp
def rmts_P (a:api_Region)(b:api_Region)(post:Bool->Prop):Prop:=∀q:Bool,(q=true↔meetP a.1 b.1)->post q
def rmts_sp:Spec:=⟨71,false,false,[.st .api_Region,.st .api_Region],.dat (.bool),λx post=>rmts_P (x.1:api_Region) (x.2.1:api_Region) (λy0=>post (y0,()))⟩
def rmts_C:CtxR:=⟨tau,[rule1 rval_sp,rule1 rcomb_sp],lookJ []⟩
def rmts_W (a:api_Region)(b:api_Region)(post:Bool->Prop):Prop:=∀(v1:Bool),(v1=true↔validP a.1)->JOIN [Ty.bool] (λ(y2:Bool)=>JOIN [(Ty.st Sn.api_Rect).sl] (λ(y3:List api_Rect)=>(gx true (v1&&y2)=true->(↑y3.length:Int)<=9223372036854775807)->post (v1&&y2&&decide ((0:Int)<(↑y3.length:Int)))) λ(J4:List api_Rect->Prop)=>IFB (gx true (v1&&y2)) ((a.1.length<=1000/\b.1.length<=1000)/\J4 (canonF λ(x y:Int)=>howS (2:Int) (cov a.1 x y) (cov b.1 x y))) (J4 [])) λ(J5:Bool->Prop)=>IFB (gx true v1) (∀(v6:Bool),(v6=true↔validP b.1)->J5 v6) (J5 false)
theorem rmts_w (a:api_Region)(b:api_Region)(post:dens (shT rmts_sp.rs [])->Prop):rmts_W a b (λy0=>post (y0,()))=walkG (callR Tryz.prog rmts_C (drawR Tryz.prog tau) 6 0) 71 false [tv (.st .api_Region) a,tv (.st .api_Region) b] rmts_sp.rs post:=by kernel_rfl
theorem rmts_of (h:∀a b post,rmts_P a b post->rmts_W a b post):SpecOK Tryz.prog rmts_sp:=SpecOK.of_rules (C:=rmts_C) (dr:=drawR Tryz.prog tau) (n:=6) (fk:=0) (.cons (rule1_ok rval_ok) (.cons (rule1_ok rcomb_ok) .nil)) (drawR_ok tau) λx post hp=>HoldW.of (rmts_w x.1 x.2.1 post) (h x.1 x.2.1 (λy0=>post (y0,())) hp)
theorem andP_some {a b:List Rc}:(0:Int)<((canonF λ(x y:Int)=>howS (2:Int) (cov a x y) (cov b x y)).length:Int)↔∃x y,cov a x y=true/\cov b x y=true:=by
 obtain⟨h1,h2⟩:=comb_ok (howS_0 2) a b
 have h2:∀x y,cov (canonF λ(x y:Int)=>howS (2:Int) (cov a x y) (cov b x y)) x y=(cov a x y&&cov b x y):=h2
 have h1:Canon (canonF λ(x y:Int)=>howS (2:Int) (cov a x y) (cov b x y)):=h1
 generalize (canonF λ(x y:Int)=>howS (2:Int) (cov a x y) (cov b x y))=c at h1 h2
 have hn:=canon_none h1
 constructor
 ·intro h
  have hne:¬c=[]:=λe=>by rw[e] at h;exact absurd h (by decide)
  rw[hn] at hne
  refine Classical.byContradiction λhx=>hne λx y=> ?_
  rw[h2]
  cases hc:(cov a x y&&cov b x y) with
  |false=>rfl
  |true=>exact absurd ⟨x,y,(Bool.and_eq_true_iff.1 hc).1,(Bool.and_eq_true_iff.1 hc).2⟩ hx
 ·rintro ⟨x,y,h3,h4⟩
  cases c with
  |nil=>have:=hn.1 rfl x y;rw[h2,h3,h4] at this;cases this
  |cons r t=>simp only[List.length_cons];omega
theorem rmts_ok:SpecOK Tryz.prog rmts_sp:=rmts_of λa b post hp=>by
 unfold rmts_P at hp
 unfold rmts_W
 intro v1 h1
 refine JOIN.opq λ(J:Bool->Prop) hJ=> ?_
 have main:∀y2:Bool,((v1&&y2)=true↔validP a.1/\validP b.1)->J y2:=λy2 h2=>by
  rw[hJ]
  refine JOIN.opq λ(K:List Rc->Prop) hK=> ?_
  refine IFB.mk (λhb=> ?_) (λhb=> ?_)
  ·have hb:(v1&&y2)=true:=hb
   have hv:=h2.1 hb
   refine⟨⟨by have:=hv.1.1;omega,by have:=hv.2.1;omega⟩,?_⟩
   rw[hK]
   refine λ_=>hp _ ?_
   rw[hb,Bool.true_and,decide_eq_true_iff]
   exact⟨λh=>⟨hv.1,hv.2,andP_some.1 h⟩,λh=>andP_some.2 h.2.2⟩
  ·have hb:(v1&&y2)=false:=hb
   rw[hK]
   refine λ_=>hp _ ?_
   rw[hb,Bool.false_and]
   exact⟨λh=>(by cases h),λh=>(by have:=h2.2 ⟨h.1,h.2.1⟩;rw[hb] at this;cases this)⟩
 refine IFB.mk (λhb v6 h6=>main v6 ?_) (λhb=>main false ?_)
 ·have hb:v1=true:=hb
  rw[Bool.and_eq_true,h1,h6]
 ·have hb:v1=false:=hb
  rw[Bool.and_false]
  exact⟨λh=>(by cases h),λh=>(by have:=h1.2 h.1;rw[hb] at this;cases this)⟩
def rholds_P (p:api_Parcel)(i:Int)(post:Int->Int->Prop):Prop:=(p.Days.length<=1000000000/\0<=i/\i<(p.Days.length:Int))/\post (ix p.Days i) (endsP p i)
def rholds_sp:Spec:=⟨70,false,false,[.st .api_Parcel,.int .i64],.tup [.dat (.int .i64),.dat (.int .i64)],λx post=>rholds_P (x.1:api_Parcel) (x.2.1:Int) (λy0 y1=>post (y0,y1,()))⟩
def rholds_C:CtxR:=⟨tau,[],lookJ [(0,8,⟨[(6,.dat (.int .i64))],[],(List.range' 9 12),[],[]⟩)]⟩
def rholds_W (p:api_Parcel)(i:Int)(post:Int->Int->Prop):Prop:=JOIN [Ty.int IntKind.i64] (λ(y1:Int)=>((0:Int)<=i/\i<(↑p.5.length:Int))/\post (ix p.5 i) y1) λ(J2:Int->Prop)=>(↑p.5.length:Int)<=9223372036854775807->IFB (decide (IntKind.i64.wrap (i+1)<(↑p.5.length:Int))) (((0:Int)<=IntKind.i64.wrap (i+1)/\IntKind.i64.wrap (i+1)<(↑p.5.length:Int))/\J2 (ix p.5 (IntKind.i64.wrap (i+1)))) (J2 p.3)
theorem rholds_w (p:api_Parcel)(i:Int)(post:dens (shT rholds_sp.rs [])->Prop):rholds_W p i (λy0 y1=>post (y0,y1,()))=walkG (callR Tryz.prog rholds_C (drawR Tryz.prog tau) 8 0) 70 false [tv (.st .api_Parcel) p,tv (.int .i64) i] rholds_sp.rs post:=by kernel_rfl
theorem rholds_of (h:∀p i post,rholds_P p i post->rholds_W p i post):SpecOK Tryz.prog rholds_sp:=SpecOK.of_rules (C:=rholds_C) (dr:=drawR Tryz.prog tau) (n:=8) (fk:=0) .nil (drawR_ok tau) λx post hp=>HoldW.of (rholds_w x.1 x.2.1 post) (h x.1 x.2.1 (λy0 y1=>post (y0,y1,())) hp)
theorem rholds_ok:SpecOK Tryz.prog rholds_sp:=rholds_of λp i post hp=>by
 obtain⟨⟨h1,h2,h3⟩,hp⟩:=hp
 unfold rholds_W
 rw[wrap_in (by omega) (by omega)]
 unfold endsP at hp
 refine JOIN.opq λ(J:Int->Prop) hJ _=>IFB.mk (λhb=>⟨⟨by omega,of_decide_eq_true hb⟩,?_⟩) (λhb=> ?_)
 ·rw[if_pos (of_decide_eq_true hb)] at hp;rw[hJ];exact⟨⟨h2,h3⟩,hp⟩
 ·rw[if_neg (of_decide_eq_false hb)] at hp;rw[hJ];exact⟨⟨h2,h3⟩,hp⟩
def rpar_P (l:List (api_Parcel))(p:api_Parcel)(post:Bool->Prop):Prop:=(l.length<=1000000/\p.Parents.length<=1000000/\p.Number=(l.length:Int)+1)/\∀q:Bool,(q=true↔parP l p)->post q
def rpar_sp:Spec:=⟨69,false,false,[.sl (.st .api_Parcel),.st .api_Parcel],.dat (.bool),λx post=>rpar_P (x.1:List (api_Parcel)) (x.2.1:api_Parcel) (λy0=>post (y0,()))⟩
def rpar_C:CtxR:=⟨tau,[],lookJ [(0,7,⟨[(11,.dat (.int .i64)),(5,.dat (.int .i64))],[],(List.range' 12 25++[7]),[],[]⟩)]⟩
def rpar_W (l:List (api_Parcel))(p:api_Parcel)(post:Bool->Prop):Prop:=(↑p.4.length:Int)<=9223372036854775807->LOOP [Ty.int IntKind.i64,Ty.int IntKind.i64] (λ(rec1:Int->Int->Prop) (z2 z3:Int)=>IFB (decide (z2<(↑p.4.length:Int))) (((0:Int)<=z2/\z2<(↑p.4.length:Int))/\(gx false (decide (ix p.4 z2<=z3)||decide (p.1<=ix p.4 z2))=true->0<=IntKind.i64.wrap (ix p.4 z2-1)/\IntKind.i64.wrap (ix p.4 z2-1)<(↑l.length:Int))/\IFB (decide (ix p.4 z2<=z3)||decide (p.1<=ix p.4 z2)|| !decide ((ix l (IntKind.i64.wrap (ix p.4 z2-1))).3=p.2)) (post false) (rec1 (IntKind.i64.wrap (z2+1)) (ix p.4 z2))) (post true)) ((0:Int),(0:Int),PUnit.unit)
theorem rpar_w (l:List (api_Parcel))(p:api_Parcel)(post:dens (shT rpar_sp.rs [])->Prop):rpar_W l p (λy0=>post (y0,()))=walkG (callR Tryz.prog rpar_C (drawF Tryz.prog tau) 8 0) 69 false [tv (.sl (.st .api_Parcel)) l,tv (.st .api_Parcel) p] rpar_sp.rs post:=by kernel_rfl
theorem rpar_of (h:∀l p post,rpar_P l p post->rpar_W l p post):SpecOK Tryz.prog rpar_sp:=SpecOK.of_rules (C:=rpar_C) (dr:=drawF Tryz.prog tau) (n:=8) (fk:=0) .nil (drawF_ok tau) λx post hp=>HoldW.of (rpar_w x.1 x.2.1 post) (h x.1 x.2.1 (λy0=>post (y0,())) hp)
namespace PL
def parI (l:List Pc)(p:Pc)(z b:Int):Prop:=∃k:Nat,z=(k:Int)/\k<=p.Parents.length/\b=(if k=0 then 0 else ix p.Parents ((k-1:Nat):Int))/\(∀i:Nat,i+1<k->ix p.Parents (i:Int)<ix p.Parents ((i+1:Nat):Int))/\∀i:Nat,i<k->1<=ix p.Parents (i:Int)/\ix p.Parents (i:Int)<=(l.length:Int)/\(ix l (ix p.Parents (i:Int)-1)).Until=p.From
end PL
theorem rpar_ok:SpecOK Tryz.prog rpar_sp:=rpar_of λl p post hp=>by
 obtain⟨⟨h1,h2,h3⟩,hp⟩:=hp
 have h3':p.1=(l.length:Int)+1:=h3
 unfold rpar_W
 refine λ_=>LOOP.fuel2 (λz b=>parI l p z b) (λz _=>p.Parents.length-Int.toNat z) ⟨0,rfl,Nat.zero_le _,rfl,λi h=>by omega,λi h=>by omega⟩ ?_
 rintro rec (z:Int) (b:Int) ⟨k,i1,i2,j3,i4,i5⟩ hrec
 subst i1
 refine IFB.mk (λhb=> ?_) (λhb=> ?_)
 ·have hb:(k:Int)<p.Parents.length:=of_decide_eq_true hb
  have hbk:0<=b/\(0<k->b=ix p.Parents ((k-1:Nat):Int)):=by
   rw[j3]
   split
   ·exact⟨Int.le_refl _,λh=>by omega⟩
   ·exact⟨by have:=(i5 (k-1) (by omega)).1;omega,λ_=>rfl⟩
  refine⟨by omega,λh=> ?_,IFB.mk (λhc=>hp false ⟨λh=>(by cases h),λhr=> ?_⟩) (λhc=> ?_)⟩
  ·simp only[Bool.or_eq_true,Bool.and_eq_true,Bool.not_eq_true',Bool.not_eq_false',Bool.or_eq_false_iff,Bool.and_eq_false_iff,decide_eq_true_eq,decide_eq_false_iff_not,gx_t,gx_f] at h
   rw[wrap_in (by omega) (by omega)];omega
  ·simp only[Bool.or_eq_true,Bool.and_eq_true,Bool.not_eq_true',Bool.not_eq_false',Bool.or_eq_false_iff,Bool.and_eq_false_iff,decide_eq_true_eq,decide_eq_false_iff_not,gx_t,gx_f] at hc
   obtain⟨r1,r2⟩:=hr
   obtain⟨e1,e2,e3⟩:=r2 _ (ix_mem (l:=p.Parents) (i:=(k:Int)) (by omega) (by omega))
   rcases hc with (hc|hc)|hc
   ·rcases Nat.eq_zero_or_pos k with h0|h0
    ·rw[j3,if_pos h0] at hc;omega
    ·rw[hbk.2 h0] at hc
     have:=r1 (k-1) (by omega)
     rw[show k-1+1=k by omega] at this
     omega
   ·omega
   ·rw[wrap_in (by omega) (by omega)] at hc;exact (hc e3).elim
  ·simp only[Bool.or_eq_true,Bool.and_eq_true,Bool.not_eq_true',Bool.not_eq_false',Bool.or_eq_false_iff,Bool.and_eq_false_iff,decide_eq_true_eq,decide_eq_false_iff_not,gx_t,gx_f] at hc
   obtain⟨⟨c1,c2⟩,c3⟩:=hc
   rw[wrap_in (by omega) (by omega)] at c3
   rw[wrapS (by omega)]
   refine hrec ((k+1:Nat):Int) _ ⟨k+1,rfl,by omega,?_,λi hi=> ?_,λi hi=> ?_⟩ (by show p.Parents.length-((k+1:Nat):Int).toNat<p.Parents.length-(k:Int).toNat;omega)
   ·show ix p.Parents (k:Int)=_
    rw[if_neg (by omega),Nat.add_sub_cancel]
   ·rcases Nat.lt_or_ge (i+1) k with h|h
    ·exact i4 i h
    ·have e:i+1=k:=by omega
     rw[e]
     have:=hbk.2 (by omega)
     rw[show k-1=i by omega] at this
     omega
   ·rcases Nat.lt_or_ge i k with h|h
    ·exact i5 i h
    ·have e:i=k:=by omega
     rw[e]
     exact⟨by omega,by omega,c3⟩
 ·have hb:¬(k:Int)<p.Parents.length:=of_decide_eq_false hb
  have hk:k=p.Parents.length:=by omega
  refine hp true ⟨λ_=>⟨λi hi=>i4 i (by omega),λx hx=> ?_⟩,λ_=>rfl⟩
  obtain⟨i,hi,rfl⟩:=ix_ex hx
  exact i5 i (by omega)
def rout_P (p:api_Parcel)(post:Bool->Prop):Prop:=(p.Days.length<=1000000/\p.Regions.length<=1000000/\∀a∈p.Regions,a.Rects.length<=1000000)/\∀q:Bool,(q=true↔outP p)->post q
def rout_sp:Spec:=⟨68,false,false,[.st .api_Parcel],.dat (.bool),λx post=>rout_P (x.1:api_Parcel) (λy0=>post (y0,()))⟩
def rout_C:CtxR:=⟨tau,[rule1 rval_sp],lookJ [(0,9,⟨[(29,.dat (.int .i64))],[],(List.range' 30 56++[3]),[],[]⟩)]⟩
abbrev rout_a0 (p:api_Parcel)(z2:Int):=(ix p.5 z2<=ix p.5 (IntKind.i64.wrap (z2-(1:Int))))
def rout_W (p:api_Parcel)(post:Bool->Prop):Prop:=(↑p.5.length:Int)<=9223372036854775807->(gx false (decide ((↑p.5.length:Int)=0))=true->(↑p.5.length:Int)<=9223372036854775807)->(gx false (decide ((↑p.5.length:Int)=0))=true->(↑p.6.length:Int)<=9223372036854775807)->(gx false (decide ((↑p.5.length:Int)=0)|| !decide ((↑p.5.length:Int)=(↑p.6.length:Int)))=true->Int.NonNeg 0/\0<(↑p.5.length:Int))/\IFB (decide ((↑p.5.length:Int)=0)|| !decide ((↑p.5.length:Int)=(↑p.6.length:Int))|| !decide (ix p.5 0=p.2)) (post false) ((↑p.5.length:Int)<=9223372036854775807->LOOP [Ty.int IntKind.i64] (λ(rec1:Int->Prop) (z2:Int)=>IFB (decide (z2<(↑p.5.length:Int))) ((gx true (decide ((0:Int)<z2))=true->0<=z2/\z2<(↑p.5.length:Int))/\(gx true (decide ((0:Int)<z2))=true->0<=IntKind.i64.wrap (z2-1)/\IntKind.i64.wrap (z2-1)<(↑p.5.length:Int))/\(gx false (decide ((0:Int)<z2)&&decide (rout_a0 p z2))=true->0<=z2/\z2<(↑p.5.length:Int))/\(gx false (decide ((0:Int)<z2)&&decide (rout_a0 p z2)||decide (p.3<ix p.5 z2))=true->0<=z2/\z2<(↑p.5.length:Int))/\(gx false (decide ((0:Int)<z2)&&decide (rout_a0 p z2)||decide (p.3<ix p.5 z2)||decide ((36864:Int)<ix p.5 z2))=true->0<=z2/\z2<(↑p.6.length:Int))/\JOIN [Ty.bool] (λ(y3:Bool)=>(gx false (decide ((0:Int)<z2)&&decide (rout_a0 p z2)||decide (p.3<ix p.5 z2)||decide ((36864:Int)<ix p.5 z2)|| !y3)=true->0<=z2/\z2<(↑p.6.length:Int))/\((gx false (decide ((0:Int)<z2)&&decide (rout_a0 p z2)||decide (p.3<ix p.5 z2)||decide ((36864:Int)<ix p.5 z2)|| !y3)=true->(↑(ix p.6 z2).1.length:Int)<=9223372036854775807)->IFB (decide ((0:Int)<z2)&&decide (rout_a0 p z2)||decide (p.3<ix p.5 z2)||decide ((36864:Int)<ix p.5 z2)|| !y3||decide ((↑(ix p.6 z2).1.length:Int)=0)) (post false) (rec1 (IntKind.i64.wrap (z2+1))))) λ(J4:Bool->Prop)=>IFB (gx false (decide ((0:Int)<z2)&&decide (rout_a0 p z2)||decide (p.3<ix p.5 z2)||decide ((36864:Int)<ix p.5 z2))) (∀(v5:Bool),(v5=true↔validP (ix p.6 z2).1)->J4 v5) (J4 false)) (post true)) ((0:Int),PUnit.unit))
theorem rout_w (p:api_Parcel)(post:dens (shT rout_sp.rs [])->Prop):rout_W p (λy0=>post (y0,()))=walkG (callR Tryz.prog rout_C (drawF Tryz.prog tau) 8 0) 68 false [tv (.st .api_Parcel) p] rout_sp.rs post:=by kernel_rfl
theorem rout_of (h:∀p post,rout_P p post->rout_W p post):SpecOK Tryz.prog rout_sp:=SpecOK.of_rules (C:=rout_C) (dr:=drawF Tryz.prog tau) (n:=8) (fk:=0) (.cons (rule1_ok rval_ok) .nil) (drawF_ok tau) λx post hp=>HoldW.of (rout_w x.1 post) (h x.1 (λy0=>post (y0,())) hp)
set_option maxHeartbeats 1000000 in
theorem rout_ok:SpecOK Tryz.prog rout_sp:=rout_of λp post hp=>by
 obtain⟨⟨h1,h2,h2r⟩,hp⟩:=hp
 unfold rout_W rout_a0
 intro _ _ _
 refine⟨λh=> ?_,IFB.mk (λhc=>hp false ⟨λh=>(by cases h),λho=> ?_⟩) (λhc=> ?_)⟩
 ·simp only[Bool.or_eq_true,Bool.and_eq_true,Bool.not_eq_true',Bool.not_eq_false',Bool.or_eq_false_iff,Bool.and_eq_false_iff,decide_eq_true_eq,decide_eq_false_iff_not,gx_t,gx_f] at h
  exact⟨Int.NonNeg.mk 0,by omega⟩
 ·obtain⟨o1,o2,o3,_⟩:=ho
  simp only[Bool.or_eq_true,Bool.and_eq_true,Bool.not_eq_true',Bool.not_eq_false',Bool.or_eq_false_iff,Bool.and_eq_false_iff,decide_eq_true_eq,decide_eq_false_iff_not,gx_t,gx_f] at hc
  rcases hc with (hc|hc)|hc
  ·omega
  ·omega
  ·exact (hc o3).elim
 simp only[Bool.or_eq_true,Bool.and_eq_true,Bool.not_eq_true',Bool.not_eq_false',Bool.or_eq_false_iff,Bool.and_eq_false_iff,decide_eq_true_eq,decide_eq_false_iff_not,gx_t,gx_f] at hc
 obtain⟨⟨c1,c2⟩,c3⟩:=hc
 have c2:p.5.length=p.6.length:=by omega
 have c1:0<p.5.length:=by omega
 have hw:∀k:Nat,0<k->k<=1000000->IntKind.i64.wrap ((k:Int)-1)=((k-1:Nat):Int):=λk h hk=>wrapP (by omega) h
 refine λ_=>loopCmp (n:=p.5.length) (by omega) (p:=λi=>(0<i->ix p.5 ((i-1:Nat):Int)<ix p.5 (i:Int))/\ix p.5 (i:Int)<=p.3/\ix p.5 (i:Int)<=36864/\propR (ix p.6 (i:Int))) (λrec k hk _ hrec=> ?_) λhall=> ?_
 ·have hpre:∀c:Bool,gx true (decide ((0:Int)<(k:Int)))=true->(0:Int)<=IntKind.i64.wrap ((k:Int)-1)/\IntKind.i64.wrap ((k:Int)-1)<(p.5.length:Int):=λ_ h=>by
   simp only[Bool.or_eq_true,Bool.and_eq_true,Bool.not_eq_true',Bool.not_eq_false',Bool.or_eq_false_iff,Bool.and_eq_false_iff,decide_eq_true_eq,decide_eq_false_iff_not,gx_t,gx_f] at h
   rw[hw k (by omega) (by omega)];omega
  refine⟨λ_=>by omega,hpre true,λ_=>by omega,λ_=>by omega,λ_=>by omega,?_⟩
  have hcond:(decide ((0:Int)<(k:Int))&&decide (ix p.5 (k:Int)<=ix p.5 (IntKind.i64.wrap ((k:Int)-(1:Int))))||decide (p.3<ix p.5 (k:Int))||decide ((36864:Int)<ix p.5 (k:Int)))=false↔((0<k->ix p.5 ((k-1:Nat):Int)<ix p.5 (k:Int))/\ix p.5 (k:Int)<=p.3/\ix p.5 (k:Int)<=36864):=by
   simp only[Bool.or_eq_false_iff,Bool.and_eq_false_iff,decide_eq_false_iff_not]
   constructor
   ·rintro ⟨⟨d1,d2⟩,d3⟩
    refine⟨λh=> ?_,by omega,by omega⟩
    rw[hw k h (by omega)] at d1
    omega
   ·rintro ⟨d1,d2,d3⟩
    refine⟨⟨?_,by omega⟩,by omega⟩
    rcases Nat.eq_zero_or_pos k with h0|h0
    ·exact .inl (by omega)
    ·refine .inr ?_
     rw[hw k h0 (by omega)]
     have:=d1 h0
     omega
  generalize (decide ((0:Int)<(k:Int))&&decide (ix p.5 (k:Int)<=ix p.5 (IntKind.i64.wrap ((k:Int)-(1:Int))))||decide (p.3<ix p.5 (k:Int))||decide ((36864:Int)<ix p.5 (k:Int)))=c at hcond
  have hlr:ix p.6 (k:Int)∈p.Regions:=ix_mem (by omega) (by omega)
  have hbad:¬((0<k->ix p.5 ((k-1:Nat):Int)<ix p.5 (k:Int))/\ix p.5 (k:Int)<=p.3/\ix p.5 (k:Int)<=36864/\propR (ix p.6 (k:Int)))->post false:=by
   intro hn
   refine hp false ⟨λh=>(by cases h),λho=>absurd ⟨λh0=> ?_,?_,?_,ho.2.2.2.2.2 _ hlr⟩ hn⟩
   ·have:=ho.2.2.2.1 (k-1) (by omega)
    rwa [show k-1+1=k by omega] at this
   ·have h5:=ho.2.2.2.2.1
    have h6:=asc_le ho.2.2.2.1 (i:=k) (j:=p.5.length-1) (by omega) (by omega)
    rw[show ((p.5.length-1:Nat):Int)=(p.5.length:Int)-1 by omega] at h6
    have h5:ix p.5 ((p.5.length:Int)-1)<=min p.3 36864:=h5
    omega
   ·have h5:=ho.2.2.2.2.1
    have h6:=asc_le ho.2.2.2.1 (i:=k) (j:=p.5.length-1) (by omega) (by omega)
    rw[show ((p.5.length-1:Nat):Int)=(p.5.length:Int)-1 by omega] at h6
    have h5:ix p.5 ((p.5.length:Int)-1)<=min p.3 36864:=h5
    omega
  refine JOIN.opq λ(J:Bool->Prop) hJ=>IFB.mk (λhg v hv=> ?_) (λhg=> ?_)
  ·have hg:c=false:=by cases c with
    |false=>rfl
    |true=>cases hg
   have hd:=hcond.1 hg
   rw[hJ]
   refine⟨λ_=>by omega,λ_=>IFB.mk (λhb=>hbad λhn=> ?_) (λhb=>hrec ?_)⟩
   ·rw[hg,Bool.false_or] at hb
    simp only[Bool.or_eq_true,Bool.and_eq_true,Bool.not_eq_true',Bool.not_eq_false',Bool.or_eq_false_iff,Bool.and_eq_false_iff,decide_eq_true_eq,decide_eq_false_iff_not,gx_t,gx_f] at hb
    obtain⟨_,_,_,n1,n2⟩:=hn
    rcases hb with hb|hb
    ·have:=hv.2 n2;rw[hb] at this;cases this
    ·exact n1 (List.eq_nil_of_length_eq_zero (by omega))
   ·rw[hg,Bool.false_or] at hb
    simp only[Bool.or_eq_true,Bool.and_eq_true,Bool.not_eq_true',Bool.not_eq_false',Bool.or_eq_false_iff,Bool.and_eq_false_iff,decide_eq_true_eq,decide_eq_false_iff_not,gx_t,gx_f] at hb
    refine⟨hd.1,hd.2.1,hd.2.2,λe=> ?_,hv.1 hb.1⟩
    have:=hb.2
    rw[e] at this
    exact this rfl
  ·have hg:c=true:=by cases c with
    |true=>rfl
    |false=>cases hg
   rw[hJ]
   refine⟨λ_=>by omega,λ_=>IFB.mk (λhb=>hbad λhn=> ?_) (λhb=> ?_)⟩
   ·have:=hcond.2 ⟨hn.1,hn.2.1,hn.2.2.1⟩
    rw[hg] at this;cases this
   ·rw[hg] at hb
    simp at hb
 ·refine hp true ⟨λ_=>⟨c1,c2,c3,λi hi=> ?_,?_,λa ha=> ?_⟩,λ_=>rfl⟩
  ·have:=(hall (i+1) hi).1 (by omega)
   rwa [Nat.add_sub_cancel] at this
  ·have:=hall (p.5.length-1) (by omega)
   rw[show ((p.5.length-1:Nat):Int)=(p.5.length:Int)-1 by omega] at this
   show ix p.5 ((p.5.length:Int)-1)<=min p.3 36864
   omega
  ·obtain⟨i,hi,rfl⟩:=ix_ex ha
   exact (hall i (by have hi:i<p.6.length:=hi;omega)).2.2.2
def rchk_P (l:List (api_Parcel))(post:Int->Prop):Prop:=(szL l)/\post (checkS l)
def rchk_sp:Spec:=⟨15,false,false,[.sl (.st .api_Parcel)],.dat (.int .i64),λx post=>rchk_P (x.1:List (api_Parcel)) (λy0=>post (y0,()))⟩
def rchk_C:CtxR:=⟨tau,[rule1 rmts_sp,rule1 rholds_sp,rule1 rpar_sp,rule1 rout_sp],lookJ [(0,21,⟨[(78,.dat (.int .i64))],[],(List.range' 8 7++List.range' 79 61++[5,6]),[],[]⟩),(0,27,⟨[(88,.dat (.int .i64))],[],(List.range' 8 7++List.range' 89 50),[],[]⟩),(0,33,⟨[(95,.dat (.int .i64))],[],(List.range' 9 6++List.range' 96 42),[],[]⟩),(0,41,⟨[(107,.dat (.int .i64))],[],(List.range' 108 29++[12,13,14]),[],[]⟩),(0,9,⟨[(20,.dat (.int .i64))],[],(List.range' 21 55++[3,4]),[],[]⟩),(0,1000006,⟨[(74,.dat .bool)],[],(List.range' 25 49),[],[]⟩)]⟩
abbrev rchk_a0 (l:List (api_Parcel))(z13:Int)(z17:Int)(z15:Int)(z19:Int):=(Max.max (ix (ix l z13).5 z17) (ix (ix (sub l (IntKind.i64.wrap (z13+(1:Int))) (↑l.length:Int)) z15).5 z19)<Min.min (endsP {Number:=(ix l z13).1,From:=(ix l z13).2,Until:=(ix l z13).3,Parents:=(ix l z13).4,Days:=(ix l z13).5,Regions:=(ix l z13).6:api_Parcel} z17) (endsP {Number:=(ix (sub l (IntKind.i64.wrap (z13+(1:Int))) (↑l.length:Int)) z15).1,From:=(ix (sub l (IntKind.i64.wrap (z13+(1:Int))) (↑l.length:Int)) z15).2,Until:=(ix (sub l (IntKind.i64.wrap (z13+(1:Int))) (↑l.length:Int)) z15).3,Parents:=(ix (sub l (IntKind.i64.wrap (z13+(1:Int))) (↑l.length:Int)) z15).4,Days:=(ix (sub l (IntKind.i64.wrap (z13+(1:Int))) (↑l.length:Int)) z15).5,Regions:=(ix (sub l (IntKind.i64.wrap (z13+(1:Int))) (↑l.length:Int)) z15).6:api_Parcel} z19))
abbrev rchk_a1 (l:List (api_Parcel))(z13:Int):=(sub l (IntKind.i64.wrap (z13+(1:Int))) (↑l.length:Int))
abbrev rchk_a2 (l:List (api_Parcel))(z2:Int)(y5:Bool):=(!decide ((ix l z2).1=IntKind.i64.wrap (z2+(1:Int)))||decide ((ix l z2).2<(0:Int))||decide ((ix l z2).3<(ix l z2).2)||decide ((36865:Int)<(ix l z2).3)||decide ((0:Int)<z2)&&decide ((ix l z2).2<(ix l (IntKind.i64.wrap (z2-(1:Int)))).2)|| !y5)
def rchk_W (l:List (api_Parcel))(post:Int->Prop):Prop:=(↑l.length:Int)<=9223372036854775807->IFB (decide ((60:Int)<(↑l.length:Int))) (post 1) ((↑l.length:Int)<=9223372036854775807->LOOP [Ty.int IntKind.i64] (λ(rec1:Int->Prop) (z2:Int)=>IFB (decide (z2<(↑l.length:Int))) (((0:Int)<=z2/\z2<(↑l.length:Int))/\JOIN [Ty.bool] (λ(y3:Bool)=>IFB y3 (post 3) (rec1 (IntKind.i64.wrap (z2+1)))) λ(J4:Bool->Prop)=>((gx false (!decide ((ix l z2).1=IntKind.i64.wrap (z2+1))||decide ((ix l z2).2<0)||decide ((ix l z2).3<(ix l z2).2)||decide ((36865:Int)<(ix l z2).3))&&gx true (decide ((0:Int)<z2)))=true->0<=IntKind.i64.wrap (z2-1)/\IntKind.i64.wrap (z2-1)<(↑l.length:Int))/\JOIN [Ty.bool] (λ(y5:Bool)=>(gx false (rchk_a2 l z2 y5)=true->Int.NonNeg 0/\0<=z2/\z2<=(↑l.length:Int))/\JOIN [Ty.bool] (λ(y6:Bool)=>J4 (!decide ((ix l z2).1=IntKind.i64.wrap (z2+1))||decide ((ix l z2).2<0)||decide ((ix l z2).3<(ix l z2).2)||decide ((36865:Int)<(ix l z2).3)||decide ((0:Int)<z2)&&decide ((ix l z2).2<(ix l (IntKind.i64.wrap (z2-1))).2)|| !y5|| !y6)) λ(J7:Bool->Prop)=>IFB (gx false (rchk_a2 l z2 y5)) (((sub l (0:Int) z2).length<=1000000/\(ix l z2).4.length<=1000000/\(ix l z2).1=(↑(sub l (0:Int) z2).length:Int)+1)/\∀(v8:Bool),(v8=true↔parP (sub l (0:Int) z2) {Number:=(ix l z2).1,From:=(ix l z2).2,Until:=(ix l z2).3,Parents:=(ix l z2).4,Days:=(ix l z2).5,Regions:=(ix l z2).6:api_Parcel})->J7 v8) (J7 false)) λ(J9:Bool->Prop)=>IFB (gx false (!decide ((ix l z2).1=IntKind.i64.wrap (z2+1))||decide ((ix l z2).2<0)||decide ((ix l z2).3<(ix l z2).2)||decide ((36865:Int)<(ix l z2).3)||decide ((0:Int)<z2)&&decide ((ix l z2).2<(ix l (IntKind.i64.wrap (z2-1))).2))) (((ix l z2).5.length<=1000000/\(ix l z2).6.length<=1000000/\∀(v10:api_Region),v10∈(ix l z2).6->v10.1.length<=1000000)/\∀(v11:Bool),(v11=true↔outP {Number:=(ix l z2).1,From:=(ix l z2).2,Until:=(ix l z2).3,Parents:=(ix l z2).4,Days:=(ix l z2).5,Regions:=(ix l z2).6:api_Parcel})->J9 v11) (J9 false)) ((↑l.length:Int)<=9223372036854775807->LOOP [Ty.int IntKind.i64] (λ(rec12:Int->Prop) (z13:Int)=>IFB (decide (z13<(↑l.length:Int))) (((0:Int)<=z13/\z13<(↑l.length:Int))/\((0:Int)<=IntKind.i64.wrap (z13+1)/\IntKind.i64.wrap (z13+1)<=(↑l.length:Int)/\(↑l.length:Int)<=(↑l.length:Int))/\((↑(rchk_a1 l z13).length:Int)<=9223372036854775807->LOOP [Ty.int IntKind.i64] (λ(rec14:Int->Prop) (z15:Int)=>IFB (decide (z15<(↑(rchk_a1 l z13).length:Int))) (((0:Int)<=z15/\z15<(↑(rchk_a1 l z13).length:Int))/\((↑(ix l z13).5.length:Int)<=9223372036854775807->LOOP [Ty.int IntKind.i64] (λ(rec16:Int->Prop) (z17:Int)=>IFB (decide (z17<(↑(ix l z13).5.length:Int))) (((ix l z13).5.length<=1000000000/\0<=z17/\z17<(↑(ix l z13).5.length:Int))/\((↑(ix (rchk_a1 l z13) z15).5.length:Int)<=9223372036854775807->LOOP [Ty.int IntKind.i64] (λ(rec18:Int->Prop) (z19:Int)=>IFB (decide (z19<(↑(ix (rchk_a1 l z13) z15).5.length:Int))) (((ix (rchk_a1 l z13) z15).5.length<=1000000000/\0<=z19/\z19<(↑(ix (rchk_a1 l z13) z15).5.length:Int))/\(gx true (decide (rchk_a0 l z13 z17 z15 z19))=true->0<=z17/\z17<(↑(ix l z13).6.length:Int))/\(gx true (decide (rchk_a0 l z13 z17 z15 z19))=true->0<=z19/\z19<(↑(ix (rchk_a1 l z13) z15).6.length:Int))/\JOIN [Ty.bool] (λ(y20:Bool)=>IFB (decide (rchk_a0 l z13 z17 z15 z19)&&y20) (post 3) (rec18 (IntKind.i64.wrap (z19+1)))) λ(J21:Bool->Prop)=>IFB (gx true (decide (rchk_a0 l z13 z17 z15 z19))) (∀(v22:Bool),(v22=true↔meetP (ix (ix l z13).6 z17).1 (ix (ix (rchk_a1 l z13) z15).6 z19).1)->J21 v22) (J21 false)) (rec16 (IntKind.i64.wrap (z17+1)))) ((0:Int),PUnit.unit))) (rec14 (IntKind.i64.wrap (z15+1)))) ((0:Int),PUnit.unit))) (rec12 (IntKind.i64.wrap (z13+1)))) ((0:Int),PUnit.unit))) (post 0)) ((0:Int),PUnit.unit))) ((0:Int),PUnit.unit))
theorem rchk_w (l:List (api_Parcel))(post:dens (shT rchk_sp.rs [])->Prop):rchk_W l (λy0=>post (y0,()))=walkG (callR Tryz.prog rchk_C (drawF Tryz.prog tau) 8 0) 15 false [tv (.sl (.st .api_Parcel)) l] rchk_sp.rs post:=by kernel_rfl
theorem rchk_of (h:∀l post,rchk_P l post->rchk_W l post):SpecOK Tryz.prog rchk_sp:=SpecOK.of_rules (C:=rchk_C) (dr:=drawF Tryz.prog tau) (n:=8) (fk:=0) (.cons (rule1_ok rmts_ok) (.cons (rule1_ok rholds_ok) (.cons (rule1_ok rpar_ok) (.cons (rule1_ok rout_ok) .nil)))) (drawF_ok tau) λx post hp=>HoldW.of (rchk_w x.1 post) (h x.1 (λy0=>post (y0,())) hp)
theorem drop_ix {α:Type}[Inhabited α]{l:List α}{k j:Nat}(hj:k+j<l.length):ix (l.drop k) (j:Int)=ix l ((k+j:Nat):Int):=by
 rw[ix_lt (by rw[List.length_drop];omega),ix_lt hj,List.getElem_drop]
set_option maxHeartbeats 1000000 in
theorem rchk_ok:SpecOK Tryz.prog rchk_sp:=rchk_of λl post hp=>by
 obtain⟨hsz,hp⟩:=hp
 have hl:=hsz.len
 unfold rchk_W rchk_a2 rchk_a1 rchk_a0
 unfold checkS at hp
 intro _
 refine IFB.mk (λhb=> ?_) (λhb _=> ?_)
 ·have hb:(60:Int)<(l.length:Int):=of_decide_eq_true hb
  rw[if_pos (by omega)] at hp;exact hp
 have hb:¬(60:Int)<(l.length:Int):=of_decide_eq_false hb
 rw[if_neg (by omega)] at hp
 have bad:¬regP l->post 3:=λh=>by rw[if_neg h] at hp;exact hp
 have hw:∀k:Nat,0<k->k<=1000000->IntKind.i64.wrap ((k:Int)-1)=((k-1:Nat):Int):=λk h hk=>wrapP (by omega) h
 have hw1:∀k:Nat,k<=1000000->IntKind.i64.wrap ((k:Int)+1)=((k+1:Nat):Int):=λk hk=>wrapS (by omega)
 refine loopCmp (n:=l.length) (by omega) (p:=λi=>rightP (l.take i) (ix l (i:Int))) (λrec k hk _ hrec=> ?_) λhall=> ?_
 ·have hx:=regP_sz hsz hk
  have hkl:(l.take k).length=k:=by rw[List.length_take];omega
  refine⟨by omega,?_⟩
  obtain⟨p,hpe⟩:∃p,ix l (k:Int)=p:=⟨_,rfl⟩
  rw[hpe] at hx ⊢
  refine JOIN.opq λ(J4:Bool->Prop) hJ4=> ?_
  have k4:∀c:Bool,(c=true↔¬rightP (l.take k) p)->J4 c:=λc hc=>by
   rw[hJ4]
   refine IFB.mk (λh=>bad λhr=> ?_) (λh=>hrec ?_)
   ·have:=hr.1 k hk
    rw[hpe] at this
    exact hc.1 h this
   ·rw[hpe]
    refine Classical.byContradiction λhn=> ?_
    have:=hc.2 hn
    rw[h] at this;cases this
  have hA:∀c:Bool,c=(!decide (p.1=IntKind.i64.wrap ((k:Int)+(1:Int)))||decide (p.2<(0:Int))||decide (p.3<p.2)||decide ((36865:Int)<p.3)||decide ((0:Int)<(k:Int))&&decide (p.2<(ix l (IntKind.i64.wrap ((k:Int)-(1:Int)))).2))->(c=false↔p.Number=((l.take k).length:Int)+1/\0<=p.From/\p.From<=p.Until/\p.Until<=36865/\(0<(l.take k).length->(ix (l.take k) (((l.take k).length:Int)-1)).From<=p.From)):=λc hc=>by
   rw[hc,hkl,hw1 k (by omega)]
   simp only[Bool.or_eq_false_iff,Bool.and_eq_false_iff,Bool.not_eq_false',decide_eq_true_eq,decide_eq_false_iff_not]
   have hpv:0<k->ix (l.take k) ((k:Int)-1)=ix l (IntKind.i64.wrap ((k:Int)-1)):=λh=>by
    rw[hw k h (by omega),show (k:Int)-1=((k-1:Nat):Int) by omega,take_ix (by omega) (by omega)]
   constructor
   ·rintro ⟨⟨⟨⟨d1,d2⟩,d3⟩,d4⟩,d5⟩
    refine⟨by rw[d1];omega,by omega,by omega,by omega,λh=> ?_⟩
    rw[hpv h]
    rcases d5 with d5|d5
    ·omega
    ·exact Int.not_lt.1 d5
   ·rintro ⟨d1,d2,d3,d4,d5⟩
    refine⟨⟨⟨⟨by rw[d1];omega,by omega⟩,by omega⟩,by omega⟩,?_⟩
    rcases Nat.eq_zero_or_pos k with h0|h0
    ·exact .inl (by omega)
    ·refine .inr ?_
     have:=d5 h0
     rw[hpv h0] at this
     exact Int.not_lt.2 this
  refine⟨λh=> ?_,?_⟩
  ·simp only[Bool.or_eq_true,Bool.and_eq_true,Bool.not_eq_true',Bool.not_eq_false',Bool.or_eq_false_iff,Bool.and_eq_false_iff,decide_eq_true_eq,decide_eq_false_iff_not,gx_t,gx_f] at h
   rw[hw k (by omega) (by omega)];omega
  generalize hcc:(!decide (p.1=IntKind.i64.wrap ((k:Int)+(1:Int)))||decide (p.2<(0:Int))||decide (p.3<p.2)||decide ((36865:Int)<p.3)||decide ((0:Int)<(k:Int))&&decide (p.2<(ix l (IntKind.i64.wrap ((k:Int)-(1:Int)))).2))=c at *
  have hA:=hA c rfl
  refine JOIN.opq λ(J9:Bool->Prop) hJ9=> ?_
  have sub:sub l (0:Int) (k:Int)=l.take k:=sub_front
  have k9:∀y:Bool,(c=false->(y=true↔outP p))->J9 y:=λy hy=>by
   rw[hJ9]
   refine⟨λ_=>⟨Int.NonNeg.mk 0,by omega,by omega⟩,JOIN.opq λ(J7:Bool->Prop) hJ7=> ?_⟩
   have k7:∀z:Bool,((c|| !y)=false->(z=true↔parP (l.take k) p))->J7 z:=λz hz=>by
    rw[hJ7]
    refine k4 _ ?_
    cases hcv:c with
    |true=>
     simp only[Bool.true_or]
     refine⟨λ_ hr=> ?_,λ_=>trivial⟩
     have:=hA.2 ⟨hr.1,hr.2.1,hr.2.2.1,hr.2.2.2.1,hr.2.2.2.2.1⟩
     rw[hcv] at this;cases this
    |false=>
     have hy:=hy hcv
     have hA:=hA.1 hcv
     simp only[Bool.false_or]
     cases hyv:y with
     |false=>
      simp only[Bool.not_false,Bool.true_or]
      refine⟨λ_ hr=> ?_,λ_=>trivial⟩
      have:=hy.2 hr.2.2.2.2.2.1
      rw[hyv] at this;cases this
     |true=>
      have hz:=hz (by rw[hcv,hyv];rfl)
      simp only[Bool.not_true,Bool.false_or]
      rw[bnot_iff hz]
      exact⟨λh hr=>h hr.2.2.2.2.2.2,λh hq=>h ⟨hA.1,hA.2.1,hA.2.2.1,hA.2.2.2.1,hA.2.2.2.2,hy.1 hyv,hq⟩⟩
   refine IFB.mk (λhg=> ?_) (λhg=>k7 false λh=> ?_)
   ·have hg:(c|| !y)=false:=by
     cases hcy:(c|| !y) with
     |false=>rfl
     |true=>rw[hcy] at hg;cases hg
    rw[sub]
    have hc0:c=false:=(Bool.or_eq_false_iff.1 hg).1
    exact⟨⟨by rw[hkl];omega,hx.pars,(hA.1 hc0).1⟩,λv hv=>k7 v λ_=>hv⟩
   ·rw[h] at hg;cases hg
  refine IFB.mk (λhg=>⟨⟨hx.days,hx.regs,hx.rect⟩,λv hv=>k9 v λ_=>hv⟩) (λhg=>k9 false λh=> ?_)
  rw[h] at hg;cases hg
 ·refine λ_=> ?_
  have ok:∀i:Nat,i<l.length->(ix l (i:Int)).5.length=(ix l (i:Int)).6.length:=λi hi=>(hall i hi).2.2.2.2.2.1.2.1
  have fin:∀{i j a b:Nat},i<l.length->j<l.length->i<j->a<(ix l (i:Int)).5.length->b<(ix l (j:Int)).5.length->max (ix (ix l (i:Int)).5 (a:Int)) (ix (ix l (j:Int)).5 (b:Int))<min (endsP (ix l (i:Int)) (a:Int)) (endsP (ix l (j:Int)) (b:Int))->meetP (ix (ix l (i:Int)).6 (a:Int)).1 (ix (ix l (j:Int)).6 (b:Int)).1->post 3:=λhi hj hij ha hb h1 h2=>bad λhr=>hr.2 _ _ hj hij (meetPc_comm.1 ⟨_,_,by rw[<-ok _ hi];exact ha,by rw[<-ok _ hj];exact hb,h1,h2⟩)
  refine loopCmp (n:=l.length) (by omega) (p:=λi=>∀j:Nat,i<j->j<l.length->¬meetPc (ix l (i:Int)) (ix l (j:Int))) (λrec i hi _ hrec=> ?_) λhall2=> ?_
  ·have hxi:=regP_sz hsz hi
   rw[hw1 i (by omega)]
   refine⟨by omega,⟨by omega,by omega,by omega⟩,?_⟩
   rw[sub_back]
   have hdl:(l.drop (i+1)).length=l.length-(i+1):=by rw[List.length_drop]
   rw[hdl]
   refine λ_=>loopCmp (n:=l.length-(i+1)) (by omega) (p:=λj=>¬meetPc (ix l (i:Int)) (ix l ((i+1+j:Nat):Int))) (λrec2 j hj _ hrec2=> ?_) λhall3=> ?_
   ·have hjl:i+1+j<l.length:=by omega
    rw[drop_ix hjl]
    have hxj:=regP_sz hsz hjl
    obtain⟨p,hpe⟩:∃p,ix l (i:Int)=p:=⟨_,rfl⟩
    obtain⟨q,hqe⟩:∃q,ix l ((i+1+j:Nat):Int)=q:=⟨_,rfl⟩
    have e1:=ok i hi
    have e2:=ok _ hjl
    have fin:= @fin i (i+1+j)
    rw[hpe,hqe] at fin
    rw[hpe] at hxi e1 ⊢
    rw[hqe] at hxj e2 ⊢
    have l1:p.5.length<=1000000:=hxi.days
    have l2:q.5.length<=1000000:=hxj.days
    rw[hpe,hqe] at hrec2
    refine⟨by omega,λ_=> ?_⟩
    let M:Nat->Nat->Prop:=λa b=>max (ix p.5 (a:Int)) (ix q.5 (b:Int))<min (endsP p (a:Int)) (endsP q (b:Int))/\meetP (ix p.6 (a:Int)).1 (ix q.6 (b:Int)).1
    refine loopCmp (n:=p.5.length) (by omega) (p:=λa=>∀b:Nat,b<q.5.length->¬M a b) (λrec3 a ha _ hrec3=>⟨⟨by omega,by omega,by omega⟩,λ_=> ?_⟩) λhall4=>hrec2 λhm=> ?_
    ·refine loopCmp (n:=q.5.length) (by omega) (p:=λb=>¬M a b) (λrec4 b hb _ hrec4=>⟨⟨by omega,by omega,by omega⟩,λ_=>by omega,λ_=>by omega,?_⟩) λhall5=>hrec3 hall5
     refine JOIN.opq λ(J:Bool->Prop) hJ=>IFB.mk (λhg v hv=> ?_) (λhg=> ?_)
     ·rw[gx_t] at hg
      rw[hJ]
      refine IFB.mk (λh=> ?_) (λh=>hrec4 λhm=> ?_)
      ·have hv1:=(Bool.and_eq_true_iff.1 h).2
       exact fin hi hjl (by omega) ha hb (of_decide_eq_true hg) (hv.1 hv1)
      ·have:=hv.2 hm.2
       rw[this,Bool.and_true] at h
       exact absurd hm.1 (of_decide_eq_false h)
     ·rw[gx_t] at hg
      rw[hJ]
      refine IFB.no (by rw[Bool.and_false]) (hrec4 λhm=>absurd hm.1 (of_decide_eq_false hg))
    ·obtain⟨a,b,ha,hb,h1,h2⟩:=hm
     exact hall4 a (by rw[e1];exact ha) b (by rw[e2];exact hb) ⟨h1,h2⟩
   ·rw[<-hw1 i (by omega)]
    refine hrec λj hij hj=> ?_
    have:=hall3 (j-(i+1)) (by omega)
    rwa [show i+1+(j-(i+1))=j by omega] at this
  ·rw[if_pos ⟨hall,λi j hi hj h=>hall2 j (by omega) i hj hi (meetPc_comm.1 h)⟩] at hp
   exact hp
def pmergeX_P (A:List (region_Span))(B:List (region_Span))(post:List (region_Span)->Prop):Prop:=(A.length<=20000/\B.length<=20000)/\post (mergeX xorS A B)
def pmergeX_sp:Spec:=⟨163,false,true,[.sl (.st .region_Span),.sl (.st .region_Span)],.dat (.sl (.st .region_Span)),λx post=>pmergeX_P (x.1:List (region_Span)) (x.2.1:List (region_Span)) (λy0=>post (y0,()))⟩
def pmergeX_C:CtxR:=⟨tau,[rule1 pconc_sp,rule3 ssort_sp,rule2 scompact_sp,rule1 pins_sp],lookJ [(0,23,⟨[(11,.dat (.int .i64)),(10,.own 232 (.st .region_Span))],[],(List.range' 35 52++[12,13]),[],[]⟩),(0,24,⟨[(10,.own 232 (.st .region_Span))],[],(List.range' 41 46++[12,13]),[3],[]⟩),(0,7,⟨[(19,.dat (.int .i64)),(7,.own 3 (.int .i64))],[],(List.range' 20 11++[9]),[],[]⟩)]⟩
def pmergeX_W (A:List (region_Span))(B:List (region_Span))(post:List (region_Span)->Prop):Prop:=((A.append (B.append [])).length<=100000/\[A,B].length<=10)/\((↑(A.append (B.append [])).length:Int)<=9223372036854775807->LOOP [Ty.int IntKind.i64,(Ty.int IntKind.i64).sl] (λ(rec1:Int->List Int->Prop) (z2:Int) (z3:List Int)=>IFB (decide (z2<(↑(A.append (B.append [])).length:Int))) (((0:Int)<=z2/\z2<(↑(A.append (B.append [])).length:Int))/\(z3.length+[(ix (A.append (B.append [])) z2).1,(ix (A.append (B.append [])) z2).2].length) * (8:Nat)<=140737488355328/\rec1 (IntKind.i64.wrap (z2+1)) (z3++[(ix (A.append (B.append [])) z2).1,(ix (A.append (B.append [])) z2).2])) (z3.length<=1000000/\(sortI z3).length<=1000000/\LOOP [Ty.int IntKind.i64,(Ty.st Sn.region_Span).sl] (λ(rec4:Int->List region_Span->Prop) (z5:Int) (z6:List region_Span)=>(↑(compI (sortI z3)).length:Int)<=9223372036854775807->IFB (decide (z5<(↑(compI (sortI z3)).length:Int))) (JOIN [(Ty.st Sn.region_Span).sl] (λ(y7:List region_Span)=>rec4 (IntKind.i64.wrap (z5+1)) y7) λ(J8:List region_Span->Prop)=>((0:Int)<=IntKind.i64.wrap (z5-1)/\IntKind.i64.wrap (z5-1)<(↑(compI (sortI z3)).length:Int))/\A.length<=1000000/\B.length<=1000000/\IFB (!!insS A (ix (compI (sortI z3)) (IntKind.i64.wrap (z5-1)))==insS B (ix (compI (sortI z3)) (IntKind.i64.wrap (z5-1)))) (J8 z6) ((↑z6.length:Int)<=9223372036854775807->(gx true (decide ((0:Int)<(↑z6.length:Int)))=true->0<=IntKind.i64.wrap ((↑z6.length:Int)-1)/\IntKind.i64.wrap ((↑z6.length:Int)-1)<(↑z6.length:Int))/\IFB (decide ((0:Int)<(↑z6.length:Int))&&decide ((ix z6 (IntKind.i64.wrap ((↑z6.length:Int)-1))).2=ix (compI (sortI z3)) (IntKind.i64.wrap (z5-1)))) (((0:Int)<=z5/\z5<(↑(compI (sortI z3)).length:Int))/\((0:Int)<=IntKind.i64.wrap ((↑z6.length:Int)-1)/\IntKind.i64.wrap ((↑z6.length:Int)-1)<(↑z6.length:Int))/\J8 (z6.set (IntKind.i64.wrap ((↑z6.length:Int)-1)).toNat (⟨(ix z6 (IntKind.i64.wrap ((↑z6.length:Int)-1))).1,ix (compI (sortI z3)) z5⟩:region_Span))) (((0:Int)<=z5/\z5<(↑(compI (sortI z3)).length:Int))/\(z6.length+[(⟨ix (compI (sortI z3)) (IntKind.i64.wrap (z5-1)),ix (compI (sortI z3)) z5⟩:region_Span)].length) * (16:Nat)<=140737488355328/\J8 (z6++[(⟨ix (compI (sortI z3)) (IntKind.i64.wrap (z5-1)),ix (compI (sortI z3)) z5⟩:region_Span)])))) (post z6)) ((1:Int),[],PUnit.unit))) ((0:Int),[],PUnit.unit))
theorem pmergeX_w (A:List (region_Span))(B:List (region_Span))(post:dens (shT pmergeX_sp.rs [])->Prop):pmergeX_W A B (λy0=>post (y0,()))=walkG (callR Tryz.prog pmergeX_C (drawR Tryz.prog tau) 10 0) 163 false [tv (.sl (.st .region_Span)) A,tv (.sl (.st .region_Span)) B,.v (clo 193)] pmergeX_sp.rs post:=by kernel_rfl
theorem pmergeX_of (h:∀A B post,pmergeX_P A B post->pmergeX_W A B post):SpecCOK Tryz.prog pmergeX_sp [clo 193]:=SpecCOK.of_rules (C:=pmergeX_C) (dr:=drawR Tryz.prog tau) (n:=10) (fk:=0) (.cons (rule1_ok pconc_ok) (.cons (rule3_ok ssort_ok) (.cons (rule2_ok scompact_ok) (.cons (rule1_ok pins_ok) .nil)))) (drawR_ok tau) λx post hp=>HoldW.of (pmergeX_w x.1 x.2.1 post) (h x.1 x.2.1 (λy0=>post (y0,())) hp)
theorem pmergeX_ok:SpecCOK Tryz.prog pmergeX_sp [clo 193]:=pmergeX_of λA B post hp=>by
 obtain⟨⟨h1,h2⟩,hp⟩:=hp
 unfold pmergeX_W
 have e:A.append (B.append [])=A++B:=by show A++(B++[])=A++B;rw[List.append_nil]
 rw[e]
 refine⟨⟨by rw[List.length_append];omega,by simp⟩,λ_=> ?_⟩
 refine edg_in (l:=A++B) (A:=[]) (K:=λz3=>z3.length<=(1000000:Nat)/\(sortI z3).length<=(1000000:Nat)/\_) (by simp only[List.length_nil,List.length_append];omega) ?_
 rw[List.nil_append]
 have hel:(edgL (A++B)).length<=80000:=by rw[edgL_len,List.length_append];omega
 have hsl:(sortI (edgL (A++B))).length=(edgL (A++B)).length:=by unfold sortI;simp
 refine⟨by omega,by omega,?_⟩
 have hxl:(uniqI (edgL (A++B))).length<=80000:=Nat.le_trans (uniqI_len _) hel
 have hxe:compI (sortI (edgL (A++B)))=uniqI (edgL (A++B)):=rfl
 rw[hxe]
 have hp:post (spansG (λx=>xorS (insS A x) (insS B x)) [] (uniqI (edgL (A++B)))):=hp
 generalize uniqI (edgL (A++B))=xs at hxl hp ⊢
 refine LOOP.fuel (λu=>∃(k:Nat)(acc:List Sp),u.1=((k+1:Nat):Int)/\u.2.1=acc/\k<=xs.length/\spansG (λx=>xorS (insS A x) (insS B x)) acc (xs.drop k)=spansG (λx=>xorS (insS A x) (insS B x)) [] xs/\acc.length<=k) (λu=>xs.length+1-Int.toNat u.1) ⟨0,[],rfl,rfl,Nat.zero_le _,rfl,Nat.le_refl _⟩ ?_
 rintro rec ⟨(z2:Int),(z3:List region_Span),⟨⟩⟩ ⟨k,acc,i1,i2,i3,i4,i5⟩ hrec
 have i1:z2=((k+1:Nat):Int):=i1
 have i2:z3=acc:=i2
 subst i1 i2
 have i5:z3.length<=k:=i5
 intro _
 refine IFB.mk (λhb=> ?_) (λhb=> ?_)
 ·have hb:((k+1:Nat):Int)<xs.length:=of_decide_eq_true hb
  have hb:k+1<xs.length:=by omega
  obtain⟨d1,d2⟩:=drop_two hb
  have w1:IntKind.i64.wrap (((k+1:Nat):Int)-1)=k:=by rw[wrap_in (by omega) (by omega)];omega
  refine JOIN.opq λ(J:List Sp->Prop) hJ=> ?_
  rw[w1]
  have hgo:∀acc',acc'.length<=k+1->spansG (λx=>xorS (insS A x) (insS B x)) acc' (xs.drop (k+1))=spansG (λx=>xorS (insS A x) (insS B x)) [] xs->J acc':=λacc' hle hG=>by
   rw[hJ]
   show rec (IntKind.i64.wrap (((k+1:Nat):Int)+1)) _
   rw[wrapS (by omega)]
   exact hrec (((k+2:Nat):Int),acc',()) ⟨k+1,acc',rfl,rfl,by omega,hG,hle⟩ (by show xs.length+1-((k+2:Nat):Int).toNat<xs.length+1-((k+1:Nat):Int).toNat;omega)
  have hstep:spansG (λx=>xorS (insS A x) (insS B x)) (if xorS (insS A (ix xs (k:Int))) (insS B (ix xs (k:Int)))=true then addSp z3 (ix xs (k:Int)) (ix xs ((k+1:Nat):Int)) else z3) (xs.drop (k+1))=spansG (λx=>xorS (insS A x) (insS B x)) [] xs:=by
   rw[<-i4,d1,d2]
   rfl
  unfold xorS at hstep
  generalize ix xs (k:Int)=u at hstep ⊢
  generalize ix xs ((k+1:Nat):Int)=v at hstep ⊢
  refine⟨by omega,by omega,by omega,IFB.mk (λhn=> ?_) (λhn=> ?_)⟩
  ·have hn:(!decide (insS A u=insS B u))=false:=by rw[Bool.not_eq_true'] at hn;exact hn
   rw[hn] at hstep
   exact hgo z3 (by omega) hstep
  ·have hn:(!decide (insS A u=insS B u))=true:=by
    rw[Bool.not_eq_false'] at hn;exact hn
   rw[hn,if_pos rfl] at hstep
   intro _
   rcases List.eq_nil_or_concat z3 with rfl|⟨Z,q,rfl⟩
   ·have hj:addSp [] u v=[⟨u,v⟩]:=rfl
    rw[hj] at hstep
    refine⟨λh=>(by cases h),IFB.mk (λhb=>(by cases hb)) (λ_=>⟨by omega,by simp,hgo _ (by simp) hstep⟩)⟩
   ·rw[List.concat_eq_append] at *
    have hAl:(Z++[q]).length=Z.length+1:=by simp
    have w2:IntKind.i64.wrap (((Z++[q]).length:Int)-1)=Z.length:=by
     rw[hAl,wrap_in (by omega) (by omega)]
     omega
    have hq:ix (Z++[q]) (Z.length:Int)=q:=ix_app rfl
    have hset:∀z,(Z++[q]).set (Z.length:Int).toNat z=Z++[z]:=λz=>set_app (by simp)
    rw[w2,hq,hset]
    have hj:addSp (Z++[q]) u v=if q.2=u then Z++[⟨q.1,v⟩] else Z++[q]++[⟨u,v⟩]:=by
     unfold addSp
     simp
    rw[hj] at hstep
    have hd:decide ((0:Int)<((Z++[q]).length:Int))=true:=decide_eq_true (by omega)
    rw[hd,Bool.true_and]
    refine⟨λ_=>by rw[hAl];omega,IFB.mk (λhc=>⟨by omega,by rw[hAl];omega,?_⟩) (λhc=>⟨by omega,by rw[hAl];simp only[List.length_cons,List.length_nil];omega,?_⟩)⟩
    ·have hc:q.2=u:=of_decide_eq_true hc
     rw[if_pos hc] at hstep
     exact hgo _ (by simp only[List.length_append,List.length_cons,List.length_nil] at *;omega) hstep
    ·have hc:¬q.2=u:=of_decide_eq_false hc
     rw[if_neg hc] at hstep
     exact hgo _ (by simp only[List.length_append,List.length_cons,List.length_nil] at *;omega) hstep
 ·have hb:¬((k+1:Nat):Int)<xs.length:=of_decide_eq_false hb
  rw[short_drop2 (by omega)] at i4
  rw[<-i4] at hp
  exact hp
def pmergeA_P (A:List (region_Span))(B:List (region_Span))(post:List (region_Span)->Prop):Prop:=(A.length<=20000/\B.length<=20000)/\post (mergeS 2 A B)
def pmergeA_sp:Spec:=⟨163,false,true,[.sl (.st .region_Span),.sl (.st .region_Span)],.dat (.sl (.st .region_Span)),λx post=>pmergeA_P (x.1:List (region_Span)) (x.2.1:List (region_Span)) (λy0=>post (y0,()))⟩
def pmergeA_C:CtxR:=⟨tau,[rule1 pconc_sp,rule3 ssort_sp,rule2 scompact_sp,rule1 pins_sp],lookJ [(0,23,⟨[(11,.dat (.int .i64)),(10,.own 232 (.st .region_Span))],[],(List.range' 35 52++[12,13]),[],[]⟩),(0,24,⟨[(10,.own 232 (.st .region_Span))],[],(List.range' 41 46++[12,13]),[3],[]⟩),(0,7,⟨[(19,.dat (.int .i64)),(7,.own 3 (.int .i64))],[],(List.range' 20 11++[9]),[],[]⟩)]⟩
def pmergeA_W (A:List (region_Span))(B:List (region_Span))(post:List (region_Span)->Prop):Prop:=((A.append (B.append [])).length<=100000/\[A,B].length<=10)/\((↑(A.append (B.append [])).length:Int)<=9223372036854775807->LOOP [Ty.int IntKind.i64,(Ty.int IntKind.i64).sl] (λ(rec1:Int->List Int->Prop) (z2:Int) (z3:List Int)=>IFB (decide (z2<(↑(A.append (B.append [])).length:Int))) (((0:Int)<=z2/\z2<(↑(A.append (B.append [])).length:Int))/\(z3.length+[(ix (A.append (B.append [])) z2).1,(ix (A.append (B.append [])) z2).2].length) * (8:Nat)<=140737488355328/\rec1 (IntKind.i64.wrap (z2+1)) (z3++[(ix (A.append (B.append [])) z2).1,(ix (A.append (B.append [])) z2).2])) (z3.length<=1000000/\(sortI z3).length<=1000000/\LOOP [Ty.int IntKind.i64,(Ty.st Sn.region_Span).sl] (λ(rec4:Int->List region_Span->Prop) (z5:Int) (z6:List region_Span)=>(↑(compI (sortI z3)).length:Int)<=9223372036854775807->IFB (decide (z5<(↑(compI (sortI z3)).length:Int))) (JOIN [(Ty.st Sn.region_Span).sl] (λ(y7:List region_Span)=>rec4 (IntKind.i64.wrap (z5+1)) y7) λ(J8:List region_Span->Prop)=>((0:Int)<=IntKind.i64.wrap (z5-1)/\IntKind.i64.wrap (z5-1)<(↑(compI (sortI z3)).length:Int))/\A.length<=1000000/\B.length<=1000000/\IFB (!(insS A (ix (compI (sortI z3)) (IntKind.i64.wrap (z5-1)))&&insS B (ix (compI (sortI z3)) (IntKind.i64.wrap (z5-1))))) (J8 z6) ((↑z6.length:Int)<=9223372036854775807->(gx true (decide ((0:Int)<(↑z6.length:Int)))=true->0<=IntKind.i64.wrap ((↑z6.length:Int)-1)/\IntKind.i64.wrap ((↑z6.length:Int)-1)<(↑z6.length:Int))/\IFB (decide ((0:Int)<(↑z6.length:Int))&&decide ((ix z6 (IntKind.i64.wrap ((↑z6.length:Int)-1))).2=ix (compI (sortI z3)) (IntKind.i64.wrap (z5-1)))) (((0:Int)<=z5/\z5<(↑(compI (sortI z3)).length:Int))/\((0:Int)<=IntKind.i64.wrap ((↑z6.length:Int)-1)/\IntKind.i64.wrap ((↑z6.length:Int)-1)<(↑z6.length:Int))/\J8 (z6.set (IntKind.i64.wrap ((↑z6.length:Int)-1)).toNat (⟨(ix z6 (IntKind.i64.wrap ((↑z6.length:Int)-1))).1,ix (compI (sortI z3)) z5⟩:region_Span))) (((0:Int)<=z5/\z5<(↑(compI (sortI z3)).length:Int))/\(z6.length+[(⟨ix (compI (sortI z3)) (IntKind.i64.wrap (z5-1)),ix (compI (sortI z3)) z5⟩:region_Span)].length) * (16:Nat)<=140737488355328/\J8 (z6++[(⟨ix (compI (sortI z3)) (IntKind.i64.wrap (z5-1)),ix (compI (sortI z3)) z5⟩:region_Span)])))) (post z6)) ((1:Int),[],PUnit.unit))) ((0:Int),[],PUnit.unit))
theorem pmergeA_w (A:List (region_Span))(B:List (region_Span))(post:dens (shT pmergeA_sp.rs [])->Prop):pmergeA_W A B (λy0=>post (y0,()))=walkG (callR Tryz.prog pmergeA_C (drawR Tryz.prog tau) 10 0) 163 false [tv (.sl (.st .region_Span)) A,tv (.sl (.st .region_Span)) B,.v (clo 90)] pmergeA_sp.rs post:=by kernel_rfl
theorem pmergeA_of (h:∀A B post,pmergeA_P A B post->pmergeA_W A B post):SpecCOK Tryz.prog pmergeA_sp [clo 90]:=SpecCOK.of_rules (C:=pmergeA_C) (dr:=drawR Tryz.prog tau) (n:=10) (fk:=0) (.cons (rule1_ok pconc_ok) (.cons (rule3_ok ssort_ok) (.cons (rule2_ok scompact_ok) (.cons (rule1_ok pins_ok) .nil)))) (drawR_ok tau) λx post hp=>HoldW.of (pmergeA_w x.1 x.2.1 post) (h x.1 x.2.1 (λy0=>post (y0,())) hp)
theorem howS_2' (a b:Bool):howS 2 a b=(a&&b):=by unfold howS;simp
theorem pmergeA_ok:SpecCOK Tryz.prog pmergeA_sp [clo 90]:=pmergeA_of λA B post hp=>by
 obtain⟨⟨h1,h2⟩,hp⟩:=hp
 unfold pmergeA_W
 have e:A.append (B.append [])=A++B:=by show A++(B++[])=A++B;rw[List.append_nil]
 rw[e]
 refine⟨⟨by rw[List.length_append];omega,by simp⟩,λ_=> ?_⟩
 refine edg_in (l:=A++B) (A:=[]) (K:=λz3=>z3.length<=(1000000:Nat)/\(sortI z3).length<=(1000000:Nat)/\_) (by simp only[List.length_nil,List.length_append];omega) ?_
 rw[List.nil_append]
 have hel:(edgL (A++B)).length<=80000:=by rw[edgL_len,List.length_append];omega
 have hsl:(sortI (edgL (A++B))).length=(edgL (A++B)).length:=by unfold sortI;simp
 refine⟨by omega,by omega,?_⟩
 have hxl:(uniqI (edgL (A++B))).length<=80000:=Nat.le_trans (uniqI_len _) hel
 have hxe:compI (sortI (edgL (A++B)))=uniqI (edgL (A++B)):=rfl
 rw[hxe]
 have hp:post (spansG (λx=>howS 2 (insS A x) (insS B x)) [] (uniqI (edgL (A++B)))):=hp
 generalize uniqI (edgL (A++B))=xs at hxl hp ⊢
 refine LOOP.fuel (λu=>∃(k:Nat)(acc:List Sp),u.1=((k+1:Nat):Int)/\u.2.1=acc/\k<=xs.length/\spansG (λx=>howS 2 (insS A x) (insS B x)) acc (xs.drop k)=spansG (λx=>howS 2 (insS A x) (insS B x)) [] xs/\acc.length<=k) (λu=>xs.length+1-Int.toNat u.1) ⟨0,[],rfl,rfl,Nat.zero_le _,rfl,Nat.le_refl _⟩ ?_
 rintro rec ⟨(z2:Int),(z3:List region_Span),⟨⟩⟩ ⟨k,acc,i1,i2,i3,i4,i5⟩ hrec
 have i1:z2=((k+1:Nat):Int):=i1
 have i2:z3=acc:=i2
 subst i1 i2
 have i5:z3.length<=k:=i5
 intro _
 refine IFB.mk (λhb=> ?_) (λhb=> ?_)
 ·have hb:((k+1:Nat):Int)<xs.length:=of_decide_eq_true hb
  have hb:k+1<xs.length:=by omega
  obtain⟨d1,d2⟩:=drop_two hb
  have w1:IntKind.i64.wrap (((k+1:Nat):Int)-1)=k:=by rw[wrap_in (by omega) (by omega)];omega
  refine JOIN.opq λ(J:List Sp->Prop) hJ=> ?_
  rw[w1]
  have hgo:∀acc',acc'.length<=k+1->spansG (λx=>howS 2 (insS A x) (insS B x)) acc' (xs.drop (k+1))=spansG (λx=>howS 2 (insS A x) (insS B x)) [] xs->J acc':=λacc' hle hG=>by
   rw[hJ]
   show rec (IntKind.i64.wrap (((k+1:Nat):Int)+1)) _
   rw[wrapS (by omega)]
   exact hrec (((k+2:Nat):Int),acc',()) ⟨k+1,acc',rfl,rfl,by omega,hG,hle⟩ (by show xs.length+1-((k+2:Nat):Int).toNat<xs.length+1-((k+1:Nat):Int).toNat;omega)
  have hstep:spansG (λx=>howS 2 (insS A x) (insS B x)) (if howS 2 (insS A (ix xs (k:Int))) (insS B (ix xs (k:Int)))=true then addSp z3 (ix xs (k:Int)) (ix xs ((k+1:Nat):Int)) else z3) (xs.drop (k+1))=spansG (λx=>howS 2 (insS A x) (insS B x)) [] xs:=by
   rw[<-i4,d1,d2]
   rfl
  rw[howS_2'] at hstep
  generalize ix xs (k:Int)=u at hstep ⊢
  generalize ix xs ((k+1:Nat):Int)=v at hstep ⊢
  refine⟨by omega,by omega,by omega,IFB.mk (λhn=> ?_) (λhn=> ?_)⟩
  ·have hn:(insS A u&&insS B u)=false:=by rw[Bool.not_eq_true'] at hn;exact hn
   rw[hn] at hstep
   exact hgo z3 (by omega) hstep
  ·have hn:(insS A u&&insS B u)=true:=by
    rw[Bool.not_eq_false'] at hn;exact hn
   rw[hn,if_pos rfl] at hstep
   intro _
   rcases List.eq_nil_or_concat z3 with rfl|⟨Z,q,rfl⟩
   ·have hj:addSp [] u v=[⟨u,v⟩]:=rfl
    rw[hj] at hstep
    refine⟨λh=>(by cases h),IFB.mk (λhb=>(by cases hb)) (λ_=>⟨by omega,by simp,hgo _ (by simp) hstep⟩)⟩
   ·rw[List.concat_eq_append] at *
    have hAl:(Z++[q]).length=Z.length+1:=by simp
    have w2:IntKind.i64.wrap (((Z++[q]).length:Int)-1)=Z.length:=by
     rw[hAl,wrap_in (by omega) (by omega)]
     omega
    have hq:ix (Z++[q]) (Z.length:Int)=q:=ix_app rfl
    have hset:∀z,(Z++[q]).set (Z.length:Int).toNat z=Z++[z]:=λz=>set_app (by simp)
    rw[w2,hq,hset]
    have hj:addSp (Z++[q]) u v=if q.2=u then Z++[⟨q.1,v⟩] else Z++[q]++[⟨u,v⟩]:=by
     unfold addSp
     simp
    rw[hj] at hstep
    have hd:decide ((0:Int)<((Z++[q]).length:Int))=true:=decide_eq_true (by omega)
    rw[hd,Bool.true_and]
    refine⟨λ_=>by rw[hAl];omega,IFB.mk (λhc=>⟨by omega,by rw[hAl];omega,?_⟩) (λhc=>⟨by omega,by rw[hAl];simp only[List.length_cons,List.length_nil];omega,?_⟩)⟩
    ·have hc:q.2=u:=of_decide_eq_true hc
     rw[if_pos hc] at hstep
     exact hgo _ (by simp only[List.length_append,List.length_cons,List.length_nil] at *;omega) hstep
    ·have hc:¬q.2=u:=of_decide_eq_false hc
     rw[if_neg hc] at hstep
     exact hgo _ (by simp only[List.length_append,List.length_cons,List.length_nil] at *;omega) hstep
 ·have hb:¬((k+1:Nat):Int)<xs.length:=of_decide_eq_false hb
  rw[short_drop2 (by omega)] at i4
  rw[<-i4] at hp
  exact hp
def pcutsL_P (ls:List (List (api_Rect)))(post:List (Int)->Prop):Prop:=(ls.flatten.length<=20000/\ls.length<=10)/\post (cutsS ls.flatten)
def pcutsL_sp:Spec:=⟨161,false,true,[.sl (.sl (.st .api_Rect))],.dat (.sl (.int .i64)),λx post=>pcutsL_P (x.1:List (List (api_Rect))) (λy0=>post (y0,()))⟩
def pcutsL_C:CtxR:=⟨tau,[rule3 ssort_sp,rule2 scompact_sp],lookJ [(0,7,⟨[(10,.dat (.int .i64)),(3,.own 3 (.int .i64))],[],(List.range' 11 18++[5,7]),[],[]⟩),(0,13,⟨[(16,.dat (.int .i64)),(3,.own 3 (.int .i64))],[],(List.range' 17 11++[7]),[0],[]⟩)]⟩
def pcutsL_W (ls:List (List (api_Rect)))(post:List (Int)->Prop):Prop:=(↑ls.length:Int)<=9223372036854775807->LOOP [Ty.int IntKind.i64,(Ty.int IntKind.i64).sl] (λ(rec1:Int->List Int->Prop) (z2:Int) (z3:List Int)=>IFB (decide (z2<(↑ls.length:Int))) (((0:Int)<=z2/\z2<(↑ls.length:Int))/\((↑(ix ls z2).length:Int)<=9223372036854775807->LOOP [Ty.int IntKind.i64,(Ty.int IntKind.i64).sl] (λ(rec4:Int->List Int->Prop) (z5:Int) (z6:List Int)=>IFB (decide (z5<(↑(ix ls z2).length:Int))) (((0:Int)<=z5/\z5<(↑(ix ls z2).length:Int))/\(z6.length+[(ix (ix ls z2) z5).2,(ix (ix ls z2) z5).4].length) * (8:Nat)<=140737488355328/\rec4 (IntKind.i64.wrap (z5+1)) (z6++[(ix (ix ls z2) z5).2,(ix (ix ls z2) z5).4])) (rec1 (IntKind.i64.wrap (z2+1)) z6)) ((0:Int),z3,PUnit.unit))) (z3.length<=1000000/\(sortI z3).length<=1000000/\post (compI (sortI z3)))) ((0:Int),[],PUnit.unit)
theorem pcutsL_w (ls:List (List (api_Rect)))(post:dens (shT pcutsL_sp.rs [])->Prop):pcutsL_W ls (λy0=>post (y0,()))=walkG (callR Tryz.prog pcutsL_C (drawR Tryz.prog tau) 8 0) 161 false [tv (.sl (.sl (.st .api_Rect))) ls] pcutsL_sp.rs post:=by kernel_rfl
theorem pcutsL_of (h:∀ls post,pcutsL_P ls post->pcutsL_W ls post):SpecOK Tryz.prog pcutsL_sp:=SpecOK.of_rules (C:=pcutsL_C) (dr:=drawR Tryz.prog tau) (n:=8) (fk:=0) (.cons (rule3_ok ssort_ok) (.cons (rule2_ok scompact_ok) .nil)) (drawR_ok tau) λx post hp=>HoldW.of (pcutsL_w x.1 post) (h x.1 (λy0=>post (y0,())) hp)
theorem pcutsL_ok:SpecOK Tryz.prog pcutsL_sp:=pcutsL_of λls post hp=>by
 obtain⟨⟨h1,h2⟩,hp⟩:=hp
 unfold pcutsL_W
 intro _
 refine LOOP.list ls (λk (s:List Int)=>((k:Int),s,())) (λu=>Int.toNat u.1) (λk r (s:List Int)=>s++cutL r.flatten=cutL ls.flatten) [] rfl rfl (λk s h=>by simp) ?_ ?_
 ·intro rec k x r s hd hk hkl g1 hrec
  have hx:=ix_of hk
  have hlen:s.length+(2 * x.length+2 * r.flatten.length)<=40000:=by
   have:=congrArg List.length g1
   rw[List.length_append,cutL_len,cutL_len,List.flatten_cons,List.length_append] at this
   omega
  show IFB _ _ _
  refine IFB.mk (λ_=>⟨by show 0<=(k:Int)/\(k:Int)<ls.length;omega,?_⟩) (λh=>absurd (of_decide_eq_false h) (by show ¬¬((k:Int)<ls.length);omega))
  dsimp only
  rw[hx]
  intro _
  refine cuts_in (l:=x) (A:=s) (K:=λz6=>rec (IntKind.i64.wrap ((k:Int)+1)) z6) (by omega) ?_
  rw[wrapS (by omega)]
  refine hrec _ ?_
  rw[<-g1,List.flatten_cons,cutL_app,List.append_assoc]
 ·intro rec s g1
  show IFB _ _ _
  refine IFB.mk (λh=>absurd (of_decide_eq_true h) (by show ¬((ls.length:Int)<ls.length);omega)) (λ_=> ?_)
  have g1:s=cutL ls.flatten:=by simpa [cutL] using g1
  have hlen:s.length<=40000:=by rw[g1,cutL_len];omega
  have hsl:(sortI s).length=s.length:=by unfold sortI;simp
  dsimp only
  refine⟨by omega,by omega,?_⟩
  rw[<-cuts_uniq,<-g1] at hp
  exact hp
def prowL_P (l:List (api_Rect))(y:Int)(post:List (region_Span)->Prop):Prop:=((∀r∈l,r.Left<r.Right)/\l.length<=20000)/\post (rowS l y)
def prowL_sp:Spec:=⟨164,false,true,[.sl (.st .api_Rect),.int .i64],.dat (.sl (.st .region_Span)),λx post=>prowL_P (x.1:List (api_Rect)) (x.2.1:Int) (λy0=>post (y0,()))⟩
def prowL_C:CtxR:=⟨tau,[rule3 psort_sp],lookJ [(0,23,⟨[(41,.dat (.int .i64)),(8,.own 232 (.st .region_Span))],[],(List.range' 42 37++[10,11]),[],[]⟩),(0,34,⟨[(8,.own 232 (.st .region_Span))],[],(List.range' 43 35++[10,11]),[1],[]⟩),(0,7,⟨[(14,.dat (.int .i64)),(5,.own 232 (.st .region_Span))],[],(List.range' 15 22++[7]),[],[]⟩),(0,14,⟨[(5,.own 232 (.st .region_Span))],[],(List.range' 16 20++[7]),[0],[]⟩)]⟩
def prowL_W (l:List (api_Rect))(y:Int)(post:List (region_Span)->Prop):Prop:=(↑l.length:Int)<=9223372036854775807->LOOP [Ty.int IntKind.i64,(Ty.st Sn.region_Span).sl] (λ(rec1:Int->List region_Span->Prop) (z2:Int) (z3:List region_Span)=>IFB (decide (z2<(↑l.length:Int))) (JOIN [(Ty.st Sn.region_Span).sl] (λ(y4:List region_Span)=>rec1 (IntKind.i64.wrap (z2+1)) y4) λ(J5:List region_Span->Prop)=>((0:Int)<=z2/\z2<(↑l.length:Int))/\IFB (decide ((ix l z2).2<=y)&&decide (y<(ix l z2).4)) ((z3.length+[(⟨(ix l z2).1,(ix l z2).3⟩:region_Span)].length) * (16:Nat)<=140737488355328/\J5 (z3++[(⟨(ix l z2).1,(ix l z2).3⟩:region_Span)])) (J5 z3)) (z3.length<=1000000/\∀(v6:List region_Span),v6.Perm z3->List.Pairwise (λ(s t:region_Span)=>s.1<=t.1) v6->(↑v6.length:Int)<=9223372036854775807->LOOP [Ty.int IntKind.i64,(Ty.st Sn.region_Span).sl] (λ(rec7:Int->List region_Span->Prop) (z8:Int) (z9:List region_Span)=>IFB (decide (z8<(↑v6.length:Int))) (JOIN [(Ty.st Sn.region_Span).sl] (λ(y10:List region_Span)=>rec7 (IntKind.i64.wrap (z8+1)) y10) λ(J11:List region_Span->Prop)=>((0:Int)<=z8/\z8<(↑v6.length:Int))/\((↑z9.length:Int)<=9223372036854775807->(gx true (decide ((0:Int)<(↑z9.length:Int)))=true->0<=IntKind.i64.wrap ((↑z9.length:Int)-1)/\IntKind.i64.wrap ((↑z9.length:Int)-1)<(↑z9.length:Int))/\IFB (decide ((0:Int)<(↑z9.length:Int))&&decide ((ix v6 z8).1<=(ix z9 (IntKind.i64.wrap ((↑z9.length:Int)-1))).2)) (((0:Int)<=IntKind.i64.wrap ((↑z9.length:Int)-1)/\IntKind.i64.wrap ((↑z9.length:Int)-1)<(↑z9.length:Int))/\((0:Int)<=IntKind.i64.wrap ((↑z9.length:Int)-1)/\IntKind.i64.wrap ((↑z9.length:Int)-1)<(↑z9.length:Int))/\J11 (z9.set (IntKind.i64.wrap ((↑z9.length:Int)-1)).toNat (⟨(ix z9 (IntKind.i64.wrap ((↑z9.length:Int)-1))).1,Max.max (ix z9 (IntKind.i64.wrap ((↑z9.length:Int)-1))).2 (ix v6 z8).2⟩:region_Span))) ((z9.length+[{Left:=(ix v6 z8).1,Right:=(ix v6 z8).2:region_Span}].length) * (16:Nat)<=140737488355328/\J11 (z9++[{Left:=(ix v6 z8).1,Right:=(ix v6 z8).2:region_Span}])))) (post z9)) ((0:Int),[],PUnit.unit))) ((0:Int),[],PUnit.unit)
theorem prowL_w (l:List (api_Rect))(y:Int)(post:dens (shT prowL_sp.rs [])->Prop):prowL_W l y (λy0=>post (y0,()))=walkG (callR Tryz.prog prowL_C (drawR Tryz.prog tau) 10 0) 164 false [tv (.sl (.st .api_Rect)) l,tv (.int .i64) y] prowL_sp.rs post:=by kernel_rfl
theorem prowL_of (h:∀l y post,prowL_P l y post->prowL_W l y post):SpecOK Tryz.prog prowL_sp:=SpecOK.of_rules (C:=prowL_C) (dr:=drawR Tryz.prog tau) (n:=10) (fk:=0) (.cons (rule3_ok psort_ok) .nil) (drawR_ok tau) λx post hp=>HoldW.of (prowL_w x.1 x.2.1 post) (h x.1 x.2.1 (λy0=>post (y0,())) hp)
theorem prowL_ok:SpecOK Tryz.prog prowL_sp:=prowL_of λl y post hp=>by
 obtain⟨⟨h1,h2⟩,hp⟩:=hp
 unfold prowL_W
 intro _
 refine LOOP.list l (λk (s:List Sp)=>((k:Int),s,())) (λu=>Int.toNat u.1) (λk r (s:List Sp)=>s++(onRow y r).map spanOf=(onRow y l).map spanOf/\s.length<=k) [] rfl ⟨rfl,Nat.le_refl _⟩ (λk s h=>by simp) ?_ ?_
 ·intro rec k x r s hd hk hkl ⟨g1,g2⟩ hrec
  have hx:=ix_of hk
  show IFB _ _ _
  refine IFB.mk (λ_=> ?_) (λh=>absurd (of_decide_eq_false h) (by show ¬¬((k:Int)<l.length);omega))
  refine JOIN.opq λ(J:List Sp->Prop) hJ=> ?_
  dsimp only
  rw[hx]
  refine⟨by omega,IFB.mk (λhb=> ?_) (λhb=> ?_)⟩
  ·refine⟨by simp only[List.length_cons,List.length_nil];omega,?_⟩
   rw[hJ]
   show rec (IntKind.i64.wrap ((k:Int)+1)) _
   rw[wrapS (by omega)]
   refine hrec _ ⟨?_,by simp only[List.length_append,List.length_cons,List.length_nil];omega⟩
   rw[<-g1,onRow_cons,if_pos hb]
   simp[spanOf]
  ·rw[hJ]
   show rec (IntKind.i64.wrap ((k:Int)+1)) _
   rw[wrapS (by omega)]
   refine hrec _ ⟨?_,by omega⟩
   rw[<-g1,onRow_cons,if_neg (by rw[hb];simp)]
 ·intro rec s ⟨g1,g2⟩
  show IFB _ _ _
  refine IFB.mk (λh=>absurd (of_decide_eq_true h) (by show ¬((l.length:Int)<l.length);omega)) (λ_=> ?_)
  have g1:s=(onRow y l).map spanOf:=by simpa [onRow] using g1
  have hsl:s.length<=20000:=by omega
  refine⟨by show s.length<=1000000;omega,λv hperm hsort _=> ?_⟩
  have hvl:v.length=s.length:=hperm.length_eq
  rw[<-rowS_sorted h1 (g1 ▸ hperm) hsort] at hp
  refine LOOP.list v (λk (s:List Sp)=>((k:Int),s,())) (λu=>Int.toNat u.1) (λk r (s:List Sp)=>rowG s r=rowG [] v/\s.length<=k) [] rfl ⟨rfl,Nat.le_refl _⟩ (λk s h=>by simp) ?_ ?_
  ·intro rec k x r out hd hk hkl ⟨q1,q2⟩ hrec
   have hx:=ix_of hk
   show IFB _ _ _
   refine IFB.mk (λ_=> ?_) (λh=>absurd (of_decide_eq_false h) (by show ¬¬((k:Int)<v.length);omega))
   refine JOIN.opq λ(J:List Sp->Prop) hJ=> ?_
   dsimp only
   rw[hx]
   have hgo:(joinSp out x).length<=k+1->J (joinSp out x):=λhle=>by
    rw[hJ]
    show rec (IntKind.i64.wrap ((k:Int)+1)) _
    rw[wrapS (by omega)]
    exact hrec _ ⟨q1,hle⟩
   refine⟨by omega,λ_=> ?_⟩
   rcases List.eq_nil_or_concat out with rfl|⟨A,q,rfl⟩
   ·have hj:joinSp [] x=[x]:=rfl
    rw[hj] at hgo
    refine⟨λh=> ?_,IFB.mk (λhb=> ?_) (λhb=>⟨by simp,hgo (by simp)⟩)⟩
    ·cases h
    ·cases hb
   ·rw[List.concat_eq_append] at *
    have w1:IntKind.i64.wrap (((A++[q]).length:Int)-1)=A.length:=by
     simp only[List.length_append,List.length_cons,List.length_nil]
     rw[wrap_in (by omega) (by simp only[List.length_append,List.length_cons,List.length_nil] at q2;omega)]
     omega
    have hq:ix (A++[q]) (A.length:Int)=q:=ix_app rfl
    have hset:∀z,(A++[q]).set (A.length:Int).toNat z=A++[z]:=λz=>set_app (by simp)
    rw[w1,hq,hset]
    have hAl:(A++[q]).length=A.length+1:=by simp
    have hj:joinSp (A++[q]) x=if x.Left<=q.Right then A++[⟨q.Left,max q.Right x.Right⟩] else A++[q]++[x]:=by
     unfold joinSp
     simp
    rw[hj] at hgo
    refine⟨λ_=>by omega,IFB.mk (λhb=>⟨by omega,by omega,?_⟩) (λhb=>⟨by simp only[List.length_append,List.length_cons,List.length_nil] at *;omega,?_⟩)⟩
    ·rw[Bool.and_eq_true] at hb
     have hb2:x.Left<=q.Right:=of_decide_eq_true hb.2
     rw[if_pos hb2] at hgo
     exact hgo (by simp only[List.length_append,List.length_cons,List.length_nil] at *;omega)
    ·have hb2:¬x.Left<=q.Right:=by
      intro h
      rw[Bool.and_eq_false_iff] at hb
      rcases hb with hb|hb
      ·have:=of_decide_eq_false hb;omega
      ·exact of_decide_eq_false hb h
     rw[if_neg hb2] at hgo
     exact hgo (by simp only[List.length_append,List.length_cons,List.length_nil] at *;omega)
  ·intro rec out ⟨q1,q2⟩
   show IFB _ _ _
   refine IFB.mk (λh=>absurd (of_decide_eq_true h) (by show ¬((v.length:Int)<v.length);omega)) (λ_=> ?_)
   have q1:out=rowG [] v:=q1
   show post out
   rw[q1];exact hp
def pchoX_P (A:List (api_Rect))(B:List (api_Rect))(post:List (api_Rect)->Prop):Prop:=(((∀r∈A,proper r)/\A.length<=8000)/\(∀r∈B,proper r)/\B.length<=8000)/\post (canonF (comb xorS A B))
def pchoX_sp:Spec:=⟨89,false,true,[.sl (.st .api_Rect),.sl (.st .api_Rect)],.dat (.sl (.st .api_Rect)),λx post=>pchoX_P (x.1:List (api_Rect)) (x.2.1:List (api_Rect)) (λy0=>post (y0,()))⟩
def pchoX_C:CtxR:=⟨tau,[rule1 pcutsL_sp,rule1 prowL_sp,rule1 peqs_sp,rule1 prects_sp,ruleC pmergeX_sp 193],lookJ [(1027,7,⟨[(6,.dat (.int .i64)),(5,.own 229 (.st .region_band))],[],(List.range' 7 62),[],[]⟩),(1027,8,⟨[(5,.own 229 (.st .region_band))],[],(List.range' 15 54++[7,8]),[4],[]⟩),(1070592028,1000001,⟨[(5,.dat (.sl (.st .region_Span)))],[],[6,7,8,9,10,11,12,13],[],[]⟩)]⟩
abbrev pchoX_a0 (z3:List region_band):=(ix z3 (IntKind.i64.wrap ((↑z3.length:Int)-(1:Int))))
abbrev pchoX_a1 (z3:List region_band)(A:List (api_Rect))(B:List (api_Rect))(z2:Int):=(decide ((0:Int)<(↑z3.length:Int))&&decide ((pchoX_a0 z3).2=ix (cutsS (A.append (B.append []))) (IntKind.i64.wrap (z2-(1:Int)))))
abbrev pchoX_a2 (z3:List region_band)(J5:List region_band->Prop)(A:List (api_Rect))(B:List (api_Rect))(z2:Int):=(((0:Int)<=IntKind.i64.wrap ((↑z3.length:Int)-(1:Int))/\IntKind.i64.wrap ((↑z3.length:Int)-(1:Int))<(↑z3.length:Int))/\J5 (z3.set (IntKind.i64.wrap ((↑z3.length:Int)-(1:Int))).toNat {low:=(pchoX_a0 z3).1,high:=ix (cutsS (A.append (B.append []))) z2,spans:=(pchoX_a0 z3).3:region_band}))
abbrev pchoX_a3 (z3:List region_band):=(gx true (decide ((0:Int)<(↑z3.length:Int)))=true->(0:Int)<=IntKind.i64.wrap ((↑z3.length:Int)-(1:Int))/\IntKind.i64.wrap ((↑z3.length:Int)-(1:Int))<(↑z3.length:Int))
abbrev pchoX_a4 (A:List (api_Rect))(B:List (api_Rect))(z2:Int):=(ix (cutsS (A.append (B.append []))) (IntKind.i64.wrap (z2-(1:Int))))
abbrev pchoX_a5 (A:List (api_Rect))(B:List (api_Rect))(z2:Int)(y6:List region_Span):={low:=ix (cutsS (A.append (B.append []))) (IntKind.i64.wrap (z2-(1:Int))),high:=ix (cutsS (A.append (B.append []))) z2,spans:=y6:region_band}
abbrev pchoX_a6 (z3:List region_band)(A:List (api_Rect))(B:List (api_Rect))(z2:Int):=(gx true (pchoX_a1 z3 A B z2)=true->(0:Int)<=IntKind.i64.wrap ((↑z3.length:Int)-(1:Int))/\IntKind.i64.wrap ((↑z3.length:Int)-(1:Int))<(↑z3.length:Int))
def pchoX_W (A:List (api_Rect))(B:List (api_Rect))(post:List (api_Rect)->Prop):Prop:=((A.append (B.append [])).length<=20000/\[A,B].length<=10)/\LOOP [Ty.int IntKind.i64,(Ty.st Sn.region_band).sl] (λ(rec1:Int->List region_band->Prop) (z2:Int) (z3:List region_band)=>(↑(cutsS (A.append (B.append []))).length:Int)<=9223372036854775807->IFB (decide (z2<(↑(cutsS (A.append (B.append []))).length:Int))) (JOIN [(Ty.st Sn.region_band).sl] (λ(y4:List region_band)=>rec1 (IntKind.i64.wrap (z2+1)) y4) λ(J5:List region_band->Prop)=>((0:Int)<=IntKind.i64.wrap (z2-1)/\IntKind.i64.wrap (z2-1)<(↑(cutsS (A.append (B.append []))).length:Int))/\((0:Int)<=z2/\z2<(↑(cutsS (A.append (B.append []))).length:Int))/\((0:Int)<=IntKind.i64.wrap (z2-1)/\IntKind.i64.wrap (z2-1)<(↑(cutsS (A.append (B.append []))).length:Int))/\(JOIN [(Ty.st Sn.region_Span).sl] (λ(y6:List region_Span)=>((↑z3.length:Int)<=9223372036854775807->(pchoX_a3 z3)/\(pchoX_a6 z3 A B z2)/\JOIN [Ty.bool] (λ(y7:Bool)=>IFB (decide ((0:Int)<(↑z3.length:Int))&&decide ((pchoX_a0 z3).2=ix (cutsS (A.append (B.append []))) (IntKind.i64.wrap (z2-1)))&&y7) (pchoX_a2 z3 J5 A B z2) ((z3.length+[(pchoX_a5 A B z2 y6)].length) * (40:Nat)<=140737488355328/\J5 (z3++[(pchoX_a5 A B z2 y6)]))) λ(J8:Bool->Prop)=>IFB (gx true (pchoX_a1 z3 A B z2)) ((pchoX_a0 z3).3.length<=1000000000/\∀(v9:Bool),(v9=true↔(pchoX_a0 z3).3=y6)->J8 v9) (J8 false))/\((↑z3.length:Int)<=9223372036854775807->(pchoX_a3 z3)/\(pchoX_a6 z3 A B z2)/\JOIN [Ty.bool] (λ(y10:Bool)=>IFB (decide ((0:Int)<(↑z3.length:Int))&&decide ((pchoX_a0 z3).2=ix (cutsS (A.append (B.append []))) (IntKind.i64.wrap (z2-1)))&&y10) (pchoX_a2 z3 J5 A B z2) ((z3.length+[(pchoX_a5 A B z2 y6)].length) * (40:Nat)<=140737488355328/\J5 (z3++[(pchoX_a5 A B z2 y6)]))) λ(J11:Bool->Prop)=>IFB (gx true (pchoX_a1 z3 A B z2)) ((pchoX_a0 z3).3.length<=1000000000/\∀(v12:Bool),(v12=true↔(pchoX_a0 z3).3=y6)->J11 v12) (J11 false))) λ(J13:List region_Span->Prop)=>((∀(v14:api_Rect),v14∈A->v14.1<v14.3)/\A.length<=20000)/\((∀(v15:api_Rect),v15∈B->v15.1<v15.3)/\B.length<=20000)/\((rowS A (pchoX_a4 A B z2)).length<=20000/\(rowS B (pchoX_a4 A B z2)).length<=20000)/\J13 (mergeX xorS (rowS A (pchoX_a4 A B z2)) (rowS B (pchoX_a4 A B z2))))/\JOIN [(Ty.st Sn.region_Span).sl] (λ(y16:List region_Span)=>(↑z3.length:Int)<=9223372036854775807->(pchoX_a3 z3)/\(pchoX_a6 z3 A B z2)/\JOIN [Ty.bool] (λ(y17:Bool)=>IFB (decide ((0:Int)<(↑z3.length:Int))&&decide ((pchoX_a0 z3).2=ix (cutsS (A.append (B.append []))) (IntKind.i64.wrap (z2-1)))&&y17) (pchoX_a2 z3 J5 A B z2) ((z3.length+[(⟨ix (cutsS (A.append (B.append []))) (IntKind.i64.wrap (z2-1)),ix (cutsS (A.append (B.append []))) z2,y16⟩:region_band)].length) * (40:Nat)<=140737488355328/\J5 (z3++[(⟨ix (cutsS (A.append (B.append []))) (IntKind.i64.wrap (z2-1)),ix (cutsS (A.append (B.append []))) z2,y16⟩:region_band)]))) λ(J18:Bool->Prop)=>IFB (gx true (pchoX_a1 z3 A B z2)) ((pchoX_a0 z3).3.length<=1000000000/\∀(v19:Bool),(v19=true↔(pchoX_a0 z3).3=y16)->J18 v19) (J18 false)) λ(J20:List region_Span->Prop)=>((∀(v21:api_Rect),v21∈A->v21.1<v21.3)/\A.length<=20000)/\((∀(v22:api_Rect),v22∈B->v22.1<v22.3)/\B.length<=20000)/\((rowS A (pchoX_a4 A B z2)).length<=20000/\(rowS B (pchoX_a4 A B z2)).length<=20000)/\J20 (mergeX xorS (rowS A (pchoX_a4 A B z2)) (rowS B (pchoX_a4 A B z2)))) (((flat z3).length<=1000000000/\z3.length<=1000000000)/\post (flat z3))) ((1:Int),[],PUnit.unit)
theorem pchoX_w (A:List (api_Rect))(B:List (api_Rect))(post:dens (shT pchoX_sp.rs [])->Prop):pchoX_W A B (λy0=>post (y0,()))=walkG (callR Tryz.prog pchoX_C (drawR Tryz.prog tau) 12 0) 89 false [tv (.sl (.st .api_Rect)) A,tv (.sl (.st .api_Rect)) B,.v (clo 193)] pchoX_sp.rs post:=by kernel_rfl
theorem pchoX_of (h:∀A B post,pchoX_P A B post->pchoX_W A B post):SpecCOK Tryz.prog pchoX_sp [clo 193]:=SpecCOK.of_rules (C:=pchoX_C) (dr:=drawR Tryz.prog tau) (n:=12) (fk:=0) (.cons (rule1_ok pcutsL_ok) (.cons (rule1_ok prowL_ok) (.cons (rule1_ok peqs_ok) (.cons (rule1_ok prects_ok) (.cons (ruleC_ok pmergeX_ok) .nil))))) (drawR_ok tau) λx post hp=>HoldW.of (pchoX_w x.1 x.2.1 post) (h x.1 x.2.1 (λy0=>post (y0,())) hp)
theorem pchoX_ok:SpecCOK Tryz.prog pchoX_sp [clo 193]:=pchoX_of λl m post hp=>by
 obtain⟨⟨⟨g1,hl1⟩,g2,hl2⟩,hp⟩:=hp
 unfold pchoX_W pchoX_a6 pchoX_a5 pchoX_a4 pchoX_a3 pchoX_a2 pchoX_a1 pchoX_a0
 have e:l.append (m.append [])=l++m:=by show l++(m++[])=l++m;rw[List.append_nil]
 rw[e]
 have hlm:(l++m).length<=16000:=by rw[List.length_append];omega
 have hcl:=cutsS_len (l:=l++m)
 have hJ4:(flat (buildG (λy=>mergeX xorS (rowS l y) (rowS m y)) [] (cutsS (l++m)))).length<=268435456:=by
  rw[<-chooseX_build xorS_0]
  exact box_len (comb_ok (xorS_0) l m).1 λx y hc=>by
   rw[(comb_ok (xorS_0) l m).2] at hc
   unfold comb xorS at hc
   cases h1:cov l x y with
   |true=>exact proper_box g1 h1
   |false=>cases h2:cov m x y with
    |true=>exact proper_box g2 h2
    |false=>rw[h1,h2] at hc;cases hc
 rw[chooseX_build xorS_0] at hp
 refine⟨⟨by omega,by simp⟩,?_⟩
 have hmlen:∀y,(mergeX xorS (rowS l y) (rowS m y)).length<=100000:=λy=>by
  unfold mergeX spansOf
  have q1:=spansG_len (p:=λx=>xorS (insS (rowS l y) x) (insS (rowS m y) x)) (xs:=uniqI (edgL (rowS l y++rowS m y))) (out:=[])
  have q2:=uniqI_len (edgL (rowS l y++rowS m y))
  rw[edgL_len,List.length_append] at q2
  have q3:=rowS_len (l:=l) (y:=y)
  have q4:=rowS_len (l:=m) (y:=y)
  simp only[List.length_nil] at q1
  omega
 refine build_loop (xs:=cutsS (l++m)) (R:=λy=>mergeX xorS (rowS l y) (rowS m y)) hmlen (by omega) (λrec k acc hk hal has hrec=> ?_) (λhlen=>⟨⟨by omega,by omega⟩,hp⟩)
 refine JOIN.opq λ(J9:List Bd->Prop) hJ9=> ?_
 have w1:IntKind.i64.wrap (((k+1:Nat):Int)-1)=k:=by rw[wrap_in (by omega) (by omega)];omega
 rw[w1]
 have hJ9:J9 (addBd acc (ix (cutsS (l++m)) (k:Int)) (ix (cutsS (l++m)) ((k+1:Nat):Int)) (mergeX xorS (rowS l (ix (cutsS (l++m)) (k:Int))) (rowS m (ix (cutsS (l++m)) (k:Int))))):=by
  rw[hJ9]
  show rec (IntKind.i64.wrap (((k+1:Nat):Int)+1)) _
  rw[wrapS (by omega)]
  exact hrec
 have main:=bandM_ok (by omega) (λb hb=>Nat.le_trans (has b hb) (by omega)) hJ9
 have q3:=rowS_len (l:=l) (y:=ix (cutsS (l++m)) (k:Int))
 have q4:=rowS_len (l:=m) (y:=ix (cutsS (l++m)) (k:Int))
 have hD1:(∀v:api_Rect,v∈l->v.1<v.3)/\l.length<=20000:=⟨λr hr=>(g1 r hr).2.1,by omega⟩
 have hD2:(∀v:api_Rect,v∈m->v.1<v.3)/\m.length<=20000:=⟨λr hr=>(g2 r hr).2.1,by omega⟩
 refine⟨by omega,by omega,by omega,?_,?_⟩
 ·refine JOIN.opq λ(J17:List Sp->Prop) hJ17=>⟨hD1,hD2,⟨by omega,by omega⟩,?_⟩
  rw[hJ17]
  exact⟨main,main⟩
 ·refine JOIN.opq λ(J17:List Sp->Prop) hJ17=>⟨hD1,hD2,⟨by omega,by omega⟩,?_⟩
  rw[hJ17]
  exact main
def pchoA_P (A:List (api_Rect))(B:List (api_Rect))(post:List (api_Rect)->Prop):Prop:=(((∀r∈A,proper r)/\A.length<=8000)/\(∀r∈B,proper r)/\B.length<=8000)/\post (canonF (comb (howS 2) A B))
def pchoA_sp:Spec:=⟨89,false,true,[.sl (.st .api_Rect),.sl (.st .api_Rect)],.dat (.sl (.st .api_Rect)),λx post=>pchoA_P (x.1:List (api_Rect)) (x.2.1:List (api_Rect)) (λy0=>post (y0,()))⟩
def pchoA_C:CtxR:=⟨tau,[rule1 pcutsL_sp,rule1 prowL_sp,rule1 peqs_sp,rule1 prects_sp,ruleC pmergeA_sp 90],lookJ [(1027,7,⟨[(6,.dat (.int .i64)),(5,.own 229 (.st .region_band))],[],(List.range' 7 62),[],[]⟩),(1027,8,⟨[(5,.own 229 (.st .region_band))],[],(List.range' 15 54++[7,8]),[4],[]⟩),(1070592028,1000001,⟨[(5,.dat (.sl (.st .region_Span)))],[],[6,7,8,9,10,11,12,13],[],[]⟩)]⟩
abbrev pchoA_a0 (z3:List region_band):=(ix z3 (IntKind.i64.wrap ((↑z3.length:Int)-(1:Int))))
abbrev pchoA_a1 (z3:List region_band)(A:List (api_Rect))(B:List (api_Rect))(z2:Int):=(decide ((0:Int)<(↑z3.length:Int))&&decide ((pchoA_a0 z3).2=ix (cutsS (A.append (B.append []))) (IntKind.i64.wrap (z2-(1:Int)))))
abbrev pchoA_a2 (z3:List region_band)(J5:List region_band->Prop)(A:List (api_Rect))(B:List (api_Rect))(z2:Int):=(((0:Int)<=IntKind.i64.wrap ((↑z3.length:Int)-(1:Int))/\IntKind.i64.wrap ((↑z3.length:Int)-(1:Int))<(↑z3.length:Int))/\J5 (z3.set (IntKind.i64.wrap ((↑z3.length:Int)-(1:Int))).toNat {low:=(pchoA_a0 z3).1,high:=ix (cutsS (A.append (B.append []))) z2,spans:=(pchoA_a0 z3).3:region_band}))
abbrev pchoA_a3 (z3:List region_band):=(gx true (decide ((0:Int)<(↑z3.length:Int)))=true->(0:Int)<=IntKind.i64.wrap ((↑z3.length:Int)-(1:Int))/\IntKind.i64.wrap ((↑z3.length:Int)-(1:Int))<(↑z3.length:Int))
abbrev pchoA_a4 (A:List (api_Rect))(B:List (api_Rect))(z2:Int):=(ix (cutsS (A.append (B.append []))) (IntKind.i64.wrap (z2-(1:Int))))
abbrev pchoA_a5 (A:List (api_Rect))(B:List (api_Rect))(z2:Int)(y6:List region_Span):={low:=ix (cutsS (A.append (B.append []))) (IntKind.i64.wrap (z2-(1:Int))),high:=ix (cutsS (A.append (B.append []))) z2,spans:=y6:region_band}
abbrev pchoA_a6 (z3:List region_band)(A:List (api_Rect))(B:List (api_Rect))(z2:Int):=(gx true (pchoA_a1 z3 A B z2)=true->(0:Int)<=IntKind.i64.wrap ((↑z3.length:Int)-(1:Int))/\IntKind.i64.wrap ((↑z3.length:Int)-(1:Int))<(↑z3.length:Int))
def pchoA_W (A:List (api_Rect))(B:List (api_Rect))(post:List (api_Rect)->Prop):Prop:=((A.append (B.append [])).length<=20000/\[A,B].length<=10)/\LOOP [Ty.int IntKind.i64,(Ty.st Sn.region_band).sl] (λ(rec1:Int->List region_band->Prop) (z2:Int) (z3:List region_band)=>(↑(cutsS (A.append (B.append []))).length:Int)<=9223372036854775807->IFB (decide (z2<(↑(cutsS (A.append (B.append []))).length:Int))) (JOIN [(Ty.st Sn.region_band).sl] (λ(y4:List region_band)=>rec1 (IntKind.i64.wrap (z2+1)) y4) λ(J5:List region_band->Prop)=>((0:Int)<=IntKind.i64.wrap (z2-1)/\IntKind.i64.wrap (z2-1)<(↑(cutsS (A.append (B.append []))).length:Int))/\((0:Int)<=z2/\z2<(↑(cutsS (A.append (B.append []))).length:Int))/\((0:Int)<=IntKind.i64.wrap (z2-1)/\IntKind.i64.wrap (z2-1)<(↑(cutsS (A.append (B.append []))).length:Int))/\(JOIN [(Ty.st Sn.region_Span).sl] (λ(y6:List region_Span)=>((↑z3.length:Int)<=9223372036854775807->(pchoA_a3 z3)/\(pchoA_a6 z3 A B z2)/\JOIN [Ty.bool] (λ(y7:Bool)=>IFB (decide ((0:Int)<(↑z3.length:Int))&&decide ((pchoA_a0 z3).2=ix (cutsS (A.append (B.append []))) (IntKind.i64.wrap (z2-1)))&&y7) (pchoA_a2 z3 J5 A B z2) ((z3.length+[(pchoA_a5 A B z2 y6)].length) * (40:Nat)<=140737488355328/\J5 (z3++[(pchoA_a5 A B z2 y6)]))) λ(J8:Bool->Prop)=>IFB (gx true (pchoA_a1 z3 A B z2)) ((pchoA_a0 z3).3.length<=1000000000/\∀(v9:Bool),(v9=true↔(pchoA_a0 z3).3=y6)->J8 v9) (J8 false))/\((↑z3.length:Int)<=9223372036854775807->(pchoA_a3 z3)/\(pchoA_a6 z3 A B z2)/\JOIN [Ty.bool] (λ(y10:Bool)=>IFB (decide ((0:Int)<(↑z3.length:Int))&&decide ((pchoA_a0 z3).2=ix (cutsS (A.append (B.append []))) (IntKind.i64.wrap (z2-1)))&&y10) (pchoA_a2 z3 J5 A B z2) ((z3.length+[(pchoA_a5 A B z2 y6)].length) * (40:Nat)<=140737488355328/\J5 (z3++[(pchoA_a5 A B z2 y6)]))) λ(J11:Bool->Prop)=>IFB (gx true (pchoA_a1 z3 A B z2)) ((pchoA_a0 z3).3.length<=1000000000/\∀(v12:Bool),(v12=true↔(pchoA_a0 z3).3=y6)->J11 v12) (J11 false))) λ(J13:List region_Span->Prop)=>((∀(v14:api_Rect),v14∈A->v14.1<v14.3)/\A.length<=20000)/\((∀(v15:api_Rect),v15∈B->v15.1<v15.3)/\B.length<=20000)/\((rowS A (pchoA_a4 A B z2)).length<=20000/\(rowS B (pchoA_a4 A B z2)).length<=20000)/\J13 (mergeS (2:Int) (rowS A (pchoA_a4 A B z2)) (rowS B (pchoA_a4 A B z2))))/\JOIN [(Ty.st Sn.region_Span).sl] (λ(y16:List region_Span)=>(↑z3.length:Int)<=9223372036854775807->(pchoA_a3 z3)/\(pchoA_a6 z3 A B z2)/\JOIN [Ty.bool] (λ(y17:Bool)=>IFB (decide ((0:Int)<(↑z3.length:Int))&&decide ((pchoA_a0 z3).2=ix (cutsS (A.append (B.append []))) (IntKind.i64.wrap (z2-1)))&&y17) (pchoA_a2 z3 J5 A B z2) ((z3.length+[(⟨ix (cutsS (A.append (B.append []))) (IntKind.i64.wrap (z2-1)),ix (cutsS (A.append (B.append []))) z2,y16⟩:region_band)].length) * (40:Nat)<=140737488355328/\J5 (z3++[(⟨ix (cutsS (A.append (B.append []))) (IntKind.i64.wrap (z2-1)),ix (cutsS (A.append (B.append []))) z2,y16⟩:region_band)]))) λ(J18:Bool->Prop)=>IFB (gx true (pchoA_a1 z3 A B z2)) ((pchoA_a0 z3).3.length<=1000000000/\∀(v19:Bool),(v19=true↔(pchoA_a0 z3).3=y16)->J18 v19) (J18 false)) λ(J20:List region_Span->Prop)=>((∀(v21:api_Rect),v21∈A->v21.1<v21.3)/\A.length<=20000)/\((∀(v22:api_Rect),v22∈B->v22.1<v22.3)/\B.length<=20000)/\((rowS A (pchoA_a4 A B z2)).length<=20000/\(rowS B (pchoA_a4 A B z2)).length<=20000)/\J20 (mergeS (2:Int) (rowS A (pchoA_a4 A B z2)) (rowS B (pchoA_a4 A B z2)))) (((flat z3).length<=1000000000/\z3.length<=1000000000)/\post (flat z3))) ((1:Int),[],PUnit.unit)
theorem pchoA_w (A:List (api_Rect))(B:List (api_Rect))(post:dens (shT pchoA_sp.rs [])->Prop):pchoA_W A B (λy0=>post (y0,()))=walkG (callR Tryz.prog pchoA_C (drawR Tryz.prog tau) 12 0) 89 false [tv (.sl (.st .api_Rect)) A,tv (.sl (.st .api_Rect)) B,.v (clo 90)] pchoA_sp.rs post:=by kernel_rfl
theorem pchoA_of (h:∀A B post,pchoA_P A B post->pchoA_W A B post):SpecCOK Tryz.prog pchoA_sp [clo 90]:=SpecCOK.of_rules (C:=pchoA_C) (dr:=drawR Tryz.prog tau) (n:=12) (fk:=0) (.cons (rule1_ok pcutsL_ok) (.cons (rule1_ok prowL_ok) (.cons (rule1_ok peqs_ok) (.cons (rule1_ok prects_ok) (.cons (ruleC_ok pmergeA_ok) .nil))))) (drawR_ok tau) λx post hp=>HoldW.of (pchoA_w x.1 x.2.1 post) (h x.1 x.2.1 (λy0=>post (y0,())) hp)
theorem pchoA_ok:SpecCOK Tryz.prog pchoA_sp [clo 90]:=pchoA_of λl m post hp=>by
 obtain⟨⟨⟨g1,hl1⟩,g2,hl2⟩,hp⟩:=hp
 unfold pchoA_W pchoA_a6 pchoA_a5 pchoA_a4 pchoA_a3 pchoA_a2 pchoA_a1 pchoA_a0
 have e:l.append (m.append [])=l++m:=by show l++(m++[])=l++m;rw[List.append_nil]
 rw[e]
 have hlm:(l++m).length<=16000:=by rw[List.length_append];omega
 have hcl:=cutsS_len (l:=l++m)
 have hJ4:(flat (buildG (λy=>mergeS 2 (rowS l y) (rowS m y)) [] (cutsS (l++m)))).length<=268435456:=by
  rw[<-choose_build]
  exact box_len (comb_ok (howS_0 2) l m).1 λx y hc=>by
   rw[(comb_ok (howS_0 2) l m).2] at hc
   refine proper_box g1 ?_
   unfold comb howS at hc
   revert hc
   cases cov l x y<;>simp
 rw[choose_build] at hp
 refine⟨⟨by omega,by simp⟩,?_⟩
 have hmlen:∀y,(mergeS 2 (rowS l y) (rowS m y)).length<=100000:=λy=>by
  unfold mergeS spansOf
  have q1:=spansG_len (p:=λx=>howS 2 (insS (rowS l y) x) (insS (rowS m y) x)) (xs:=uniqI (edgL (rowS l y++rowS m y))) (out:=[])
  have q2:=uniqI_len (edgL (rowS l y++rowS m y))
  rw[edgL_len,List.length_append] at q2
  have q3:=rowS_len (l:=l) (y:=y)
  have q4:=rowS_len (l:=m) (y:=y)
  simp only[List.length_nil] at q1
  omega
 refine build_loop (xs:=cutsS (l++m)) (R:=λy=>mergeS 2 (rowS l y) (rowS m y)) hmlen (by omega) (λrec k acc hk hal has hrec=> ?_) (λhlen=>⟨⟨by omega,by omega⟩,hp⟩)
 refine JOIN.opq λ(J9:List Bd->Prop) hJ9=> ?_
 have w1:IntKind.i64.wrap (((k+1:Nat):Int)-1)=k:=by rw[wrap_in (by omega) (by omega)];omega
 rw[w1]
 have hJ9:J9 (addBd acc (ix (cutsS (l++m)) (k:Int)) (ix (cutsS (l++m)) ((k+1:Nat):Int)) (mergeS 2 (rowS l (ix (cutsS (l++m)) (k:Int))) (rowS m (ix (cutsS (l++m)) (k:Int))))):=by
  rw[hJ9]
  show rec (IntKind.i64.wrap (((k+1:Nat):Int)+1)) _
  rw[wrapS (by omega)]
  exact hrec
 have main:=bandM_ok (by omega) (λb hb=>Nat.le_trans (has b hb) (by omega)) hJ9
 have q3:=rowS_len (l:=l) (y:=ix (cutsS (l++m)) (k:Int))
 have q4:=rowS_len (l:=m) (y:=ix (cutsS (l++m)) (k:Int))
 have hD1:(∀v:api_Rect,v∈l->v.1<v.3)/\l.length<=20000:=⟨λr hr=>(g1 r hr).2.1,by omega⟩
 have hD2:(∀v:api_Rect,v∈m->v.1<v.3)/\m.length<=20000:=⟨λr hr=>(g2 r hr).2.1,by omega⟩
 refine⟨by omega,by omega,by omega,?_,?_⟩
 ·refine JOIN.opq λ(J17:List Sp->Prop) hJ17=>⟨hD1,hD2,⟨by omega,by omega⟩,?_⟩
  rw[hJ17]
  exact⟨main,main⟩
 ·refine JOIN.opq λ(J17:List Sp->Prop) hJ17=>⟨hD1,hD2,⟨by omega,by omega⟩,?_⟩
  rw[hJ17]
  exact main
end RE
end Go.Proofs.YtpeggkeenboacaaGreat
set_option linter.unusedVariables false
namespace Go.Proofs.YtpeggkeenboacaaGreat
open Go.RowKit
namespace RE
open PL
namespace PL
def dayF (d:Int)(p:Pc):Int:=if p.Until=36865 then max d (ix p.Days ((p.Days.length:Int)-1)) else max (max d (ix p.Days ((p.Days.length:Int)-1))) p.Until
def dayS (l:List Pc):Int:=l.foldl dayF 0
def openP (l:List Pc)(n:Int):Prop:=1<=n/\n<=(l.length:Int)/\(ix l (n-1)).Until=36865
def nowR (p:Pc):Rn:=ix p.Regions ((p.Regions.length:Int)-1)
def sizeR (r:Rc):Int:=(r.Right-r.Left) * (r.High-r.Low)
def sizeS (l:List Rc):Int:=l.foldl (λn r=>n+sizeR r) 0
open Classical in
noncomputable def areaS (a:Rn):Int:=if validP a.Rects then sizeS a.Rects else 0
def joinP (l r:List Rc)(g:Int):Prop:=(120<(canonF (cov l)).length/\r=[]/\g=1)\/((canonF (cov l)).length<=120/\r=canonF (cov l)/\g=0)
def fitsP (e:Ed):Prop:=(e.Kind=1/\e.Parcels.length=0/\e.Regions.length=1)\/(e.Kind=2/\e.Parcels.length=1/\e.Regions.length=1)\/(e.Kind=3/\e.Parcels.length=1/\2<=e.Regions.length/\e.Regions.length<=8)\/
 (e.Kind=4/\2<=e.Parcels.length/\e.Parcels.length<=8/\e.Regions.length=0)\/(e.Kind=5/\e.Parcels.length=1/\e.Regions.length=0)
open Classical in
noncomputable def editS (l:List Pc) (e:Ed):Int:=
 if checkS l≠0 then checkS l
 else if e.Kind<1\/5<e.Kind then 14
 else if e.Day<dayS l\/36864<e.Day then 9
 else if ¬(fitsP e/\asc e.Parcels) then 3
 else if ¬∀k∈e.Parcels,openP l k then 10
 else if ¬∀a∈e.Regions,propR a then 7
 else 0
def newP (n day:Int)(ps:List Int)(a:Rn):Pc:=⟨n,day,36865,ps,[day],[a]⟩
def addL (day:Int)(ps:List Int)(l:List Pc)(rs:List Rn):List Pc:=rs.foldl (λl a=>l++[newP ((l.length:Int)+1) day ps a]) l
def endP (day:Int)(l:List Pc)(k:Int):List Pc:=l.set (k-1).toNat {ix l (k-1) with Until:=day}
def endL (day:Int)(l:List Pc)(ps:List Int):List Pc:=ps.foldl (endP day) l
def hitP (l:List Pc)(a:Rn)(but:Int):Prop:=∃p∈l,p.Until=36865/\p.Number≠but/\meetP a.Rects (nowR p).Rects
def drawnP (p:Pc)(day:Int)(a:Rn):Pc:=if ix p.Days ((p.Days.length:Int)-1)=day then {p with Regions:=p.Regions.set (p.Days.length-1) a} else {p with Days:=p.Days++[day],Regions:=p.Regions++[a]}
def partsR (l:List Rn):List Rc:=l.flatMap (·.Rects)
def apartP (l:List Rn):Prop:=∀i j:Nat,j<i->i<l.length->¬meetP (ix l (i:Int)).Rects (ix l (j:Int)).Rects
def outsL (l:List Pc)(ps:List Int):List Rc:=partsR (ps.map λk=>nowR (ix l (k-1)))
open Classical in
noncomputable def applyS (l:List Pc) (e:Ed):List Pc×Int:=
 if editS l e≠0 then (l,editS l e)
 else if e.Kind=1 then
  if hitP l (ix e.Regions 0) 0 then (l,11) else if l.length=60 then (l,1) else (addL e.Day [] l e.Regions,0)
 else if e.Kind=2 then
  if hitP l (ix e.Regions 0) (ix e.Parcels 0) then (l,11) else (l.set (ix e.Parcels 0-1).toNat (drawnP (ix l (ix e.Parcels 0-1)) e.Day (ix e.Regions 0)),0)
 else if e.Kind=3 then
  if ¬apartP e.Regions then (l,11)
  else if ¬∀x y,cov (partsR e.Regions) x y=cov (nowR (ix l (ix e.Parcels 0-1))).Rects x y then (l,12)
  else if 60<l.length+e.Regions.length then (l,1)
  else (addL e.Day e.Parcels (endL e.Day l e.Parcels) e.Regions,0)
 else if e.Kind=4 then
  if 120<(canonF (cov (outsL l e.Parcels))).length then (l,1)
  else if l.length=60 then (l,1)
  else (addL e.Day e.Parcels (endL e.Day l e.Parcels) [⟨canonF (cov (outsL l e.Parcels))⟩],0)
 else (endL e.Day l e.Parcels,0)
end PL
end RE
end Go.Proofs.YtpeggkeenboacaaGreat
namespace Go.Proofs.YtpeggkeenboacaaGreat
namespace RE
open Go.RowKit
open PL
def pclR_P (l:List (api_Region))(post:List (api_Region)->Prop):Prop:=(l.length<=4000000)/\post (l)
def pclR_sp:Spec:=⟨101,false,true,[.sl (.st .api_Region)],.own 29 (.st .api_Region),λx post=>pclR_P (x.1:List (api_Region)) (λy0=>post (y0,()))⟩
def pclR_C:CtxR:=⟨tau,[],lookJ []⟩
def pclR_W (l:List (api_Region))(post:List (api_Region)->Prop):Prop:=∀(v1:Bool),(v1=true->l=[])->IFB v1 (post []) (((0:Nat)+l.length) * (24:Nat)<=140737488355328/\post ([]++l))
theorem pclR_w (l:List (api_Region))(post:dens (shT pclR_sp.rs [])->Prop):pclR_W l (λy0=>post (y0,()))=walkG (callR Tryz.prog pclR_C (drawR Tryz.prog tau) 8 0) 101 false [tv (.sl (.st .api_Region)) l] pclR_sp.rs post:=by kernel_rfl
theorem pclR_of (h:∀l post,pclR_P l post->pclR_W l post):SpecOK Tryz.prog pclR_sp:=SpecOK.of_rules (C:=pclR_C) (dr:=drawR Tryz.prog tau) (n:=8) (fk:=0) .nil (drawR_ok tau) λx post hp=>HoldW.of (pclR_w x.1 post) (h x.1 (λy0=>post (y0,())) hp)
theorem pclR_ok:SpecOK Tryz.prog pclR_sp:=pclR_of λl post hp=>by
 obtain⟨hl,hp⟩:=hp
 unfold pclR_W
 refine λv hv=>IFB.mk (λh=> ?_) (λ_=>⟨by omega,?_⟩)
 ·rw[hv h] at hp;exact hp
 ·rw[List.nil_append];exact hp
def pclr_P (l:List (api_Rect))(post:List (api_Rect)->Prop):Prop:=(l.length<=4000000)/\post (l)
def pclr_sp:Spec:=⟨165,false,true,[.sl (.st .api_Rect)],.dat (.sl (.st .api_Rect)),λx post=>pclr_P (x.1:List (api_Rect)) (λy0=>post (y0,()))⟩
def pclr_C:CtxR:=⟨tau,[],lookJ []⟩
def pclr_W (l:List (api_Rect))(post:List (api_Rect)->Prop):Prop:=∀(v1:Bool),(v1=true->l=[])->IFB v1 (post []) (((0:Nat)+l.length) * (32:Nat)<=140737488355328/\post ([]++l))
theorem pclr_w (l:List (api_Rect))(post:dens (shT pclr_sp.rs [])->Prop):pclr_W l (λy0=>post (y0,()))=walkG (callR Tryz.prog pclr_C (drawR Tryz.prog tau) 8 0) 165 false [tv (.sl (.st .api_Rect)) l] pclr_sp.rs post:=by kernel_rfl
theorem pclr_of (h:∀l post,pclr_P l post->pclr_W l post):SpecOK Tryz.prog pclr_sp:=SpecOK.of_rules (C:=pclr_C) (dr:=drawR Tryz.prog tau) (n:=8) (fk:=0) .nil (drawR_ok tau) λx post hp=>HoldW.of (pclr_w x.1 post) (h x.1 (λy0=>post (y0,())) hp)
theorem pclr_ok:SpecOK Tryz.prog pclr_sp:=pclr_of λl post hp=>by
 obtain⟨hl,hp⟩:=hp
 unfold pclr_W
 refine λv hv=>IFB.mk (λh=> ?_) (λ_=>⟨by omega,?_⟩)
 ·rw[hv h] at hp;exact hp
 ·rw[List.nil_append];exact hp
def pcpy_P (a:api_Region)(post:api_Region->Prop):Prop:=(a.1.length<=4000000)/\post (a)
def pcpy_sp:Spec:=⟨92,false,true,[.st .api_Region],.dat (.st .api_Region),λx post=>pcpy_P (x.1:api_Region) (λy0=>post (y0,()))⟩
def pcpy_C:CtxR:=⟨tau,[rule1 pclr_sp],lookJ []⟩
def pcpy_W (a:api_Region)(post:api_Region->Prop):Prop:=a.1.length<=4000000/\post {Rects:=a.1:api_Region}
theorem pcpy_w (a:api_Region)(post:dens (shT pcpy_sp.rs [])->Prop):pcpy_W a (λy0=>post (y0,()))=walkG (callR Tryz.prog pcpy_C (drawR Tryz.prog tau) 8 0) 92 false [tv (.st .api_Region) a] pcpy_sp.rs post:=by kernel_rfl
theorem pcpy_of (h:∀a post,pcpy_P a post->pcpy_W a post):SpecOK Tryz.prog pcpy_sp:=SpecOK.of_rules (C:=pcpy_C) (dr:=drawR Tryz.prog tau) (n:=8) (fk:=0) (.cons (rule1_ok pclr_ok) .nil) (drawR_ok tau) λx post hp=>HoldW.of (pcpy_w x.1 post) (h x.1 (λy0=>post (y0,())) hp)
theorem pcpy_ok:SpecOK Tryz.prog pcpy_sp:=pcpy_of λa post hp=>⟨hp.1,hp.2⟩
def pallO_P (l:List (api_Parcel))(post:List (api_Parcel)->Prop):Prop:=(szL l)/\post (l)
def pallO_sp:Spec:=⟨76,false,true,[.sl (.st .api_Parcel)],.own 50 (.st .api_Parcel),λx post=>pallO_P (x.1:List (api_Parcel)) (λy0=>post (y0,()))⟩
def pallO_C:CtxR:=⟨tau,[rule1 pclI_sp,rule1 pclR_sp,rule1 pcpy_sp],lookJ [(0,7,⟨[(10,.dat (.int .i64)),(3,.own 50 (.st .api_Parcel))],[],(List.range' 11 35++[5,6,7]),[],[]⟩),(0,15,⟨[(29,.dat (.int .i64))],[],(List.range' 30 11++[6,7]),[],[(4,29,(.st .api_Region))]⟩),(0,1000005,⟨[],[(1,[.dat (.int .i64),.dat (.int .i64),.dat (.int .i64),.own 3 (.int .i64),.own 3 (.int .i64),.own 29 (.st .api_Region)])],(List.range' 14 12),[],[]⟩)]⟩
def pallO_W (l:List (api_Parcel))(post:List (api_Parcel)->Prop):Prop:=(↑l.length:Int)<=9223372036854775807->LOOP [Ty.int IntKind.i64,(Ty.st Sn.api_Parcel).sl] (λ(rec1:Int->List api_Parcel->Prop) (z2:Int) (z3:List api_Parcel)=>IFB (decide (z2<(↑l.length:Int))) (((0:Int)<=z2/\z2<(↑l.length:Int))/\JOIN [Ty.int IntKind.i64,Ty.int IntKind.i64,Ty.int IntKind.i64,(Ty.int IntKind.i64).sl,(Ty.int IntKind.i64).sl,(Ty.st Sn.api_Region).sl] (λ(y4 y5 y6:Int) (y7 y8:List Int) (y9:List api_Region)=>(↑y9.length:Int)<=9223372036854775807->LOOP [Ty.int IntKind.i64,(Ty.st Sn.api_Region).sl] (λ(rec10:Int->List api_Region->Prop) (z11:Int) (z12:List api_Region)=>IFB (decide (z11<(↑y9.length:Int))) (((0:Int)<=z11/\z11<(↑z12.length:Int))/\(ix z12 z11).1.length<=4000000/\((0:Int)<=z11/\z11<(↑z12.length:Int))/\rec10 (IntKind.i64.wrap (z11+1)) (z12.set z11.toNat {Rects:=(ix z12 z11).1:api_Region})) ((z3.length+[(⟨y4,y5,y6,y7,y8,z12⟩:api_Parcel)].length) * (96:Nat)<=140737488355328/\rec1 (IntKind.i64.wrap (z2+1)) (z3++[(⟨y4,y5,y6,y7,y8,z12⟩:api_Parcel)]))) ((0:Int),y9,PUnit.unit)) λ(J13:Int->Int->Int->List Int->List Int->List api_Region->Prop)=>(ix l z2).4.length<=4000000/\(ix l z2).5.length<=4000000/\(ix l z2).6.length<=4000000/\J13 (ix l z2).1 (ix l z2).2 (ix l z2).3 (ix l z2).4 (ix l z2).5 (ix l z2).6) (post z3)) ((0:Int),[],PUnit.unit)
theorem pallO_w (l:List (api_Parcel))(post:dens (shT pallO_sp.rs [])->Prop):pallO_W l (λy0=>post (y0,()))=walkG (callR Tryz.prog pallO_C (drawF Tryz.prog tau) 8 0) 76 false [tv (.sl (.st .api_Parcel)) l] pallO_sp.rs post:=by kernel_rfl
theorem pallO_of (h:∀l post,pallO_P l post->pallO_W l post):SpecOK Tryz.prog pallO_sp:=SpecOK.of_rules (C:=pallO_C) (dr:=drawF Tryz.prog tau) (n:=8) (fk:=0) (.cons (rule1_ok pclI_ok) (.cons (rule1_ok pclR_ok) (.cons (rule1_ok pcpy_ok) .nil))) (drawF_ok tau) λx post hp=>HoldW.of (pallO_w x.1 post) (h x.1 (λy0=>post (y0,())) hp)
namespace PL
def allI (l:List Pc)(z:Int)(b:List Pc):Prop:=∃k:Nat,z=(k:Int)/\k<=l.length/\b=l.take k
end PL
theorem pallO_ok:SpecOK Tryz.prog pallO_sp:=pallO_of λl post hp=>by
 obtain⟨hsz,hp⟩:=hp
 have hl:=hsz.len
 unfold pallO_W
 refine λ_=>LOOP.fuel2 (λz b=>allI l z b) (λz _=>l.length-Int.toNat z) ⟨0,rfl,Nat.zero_le _,rfl⟩ ?_
 rintro rec (z:Int) (b:List Pc) ⟨k,i1,i2,i3⟩ hrec
 subst i1
 refine IFB.mk (λhb=> ?_) (λhb=> ?_)
 ·have hb:(k:Int)<l.length:=of_decide_eq_true hb
  have hk:k<l.length:=by omega
  have hx:=hsz.all _ (ix_mem (l:=l) (i:=(k:Int)) (by omega) (by omega))
  have x1:=hx.days
  have x2:=hx.regs
  have x3:=hx.pars
  have x4:=hx.rect
  refine⟨by omega,JOIN.opq λ(J:Int->Int->Int->List Int->List Int->List api_Region->Prop) hJ=>⟨by omega,by omega,by omega,?_⟩⟩
  rw[hJ]
  refine λ_=>LOOP.fuel2 (λ(u:Int) (c:List api_Region)=>∃j:Nat,u=(j:Int)/\j<=(ix l (k:Int)).6.length/\c=(ix l (k:Int)).6) (λu _=>(ix l (k:Int)).6.length-Int.toNat u) ⟨0,rfl,Nat.zero_le _,rfl⟩ ?_
  rintro rec2 (u:Int) (c:List api_Region) ⟨j,j1,j2,j3⟩ hrec2
  subst j1 j3
  refine IFB.mk (λhc=> ?_) (λhc=> ?_)
  ·have hc:(j:Int)<(ix l (k:Int)).6.length:=of_decide_eq_true hc
   have hj:j<(ix l (k:Int)).6.length:=by omega
   refine⟨by omega,?_,by omega,?_⟩
   ·have:=x4 _ (ix_mem (l:=(ix l (k:Int)).6) (i:=(j:Int)) (by omega) (by omega));omega
   ·rw[wrapS (by omega)]
    have e:(ix l (k:Int)).6.set (j:Int).toNat {Rects:=(ix (ix l (k:Int)).6 (j:Int)).1}=(ix l (k:Int)).6:=by
     show List.set _ j (ix (ix l (k:Int)).6 (j:Int))=_
     rw[ix_lt hj];exact List.set_getElem_self hj
    rw[e]
    exact hrec2 ((j+1:Nat):Int) _ ⟨j+1,rfl,hj,rfl⟩ (by show (ix l (k:Int)).6.length-((j+1:Nat):Int).toNat<(ix l (k:Int)).6.length-(j:Int).toNat;omega)
  ·have hbl:b.length<=1000000:=by rw[i3,List.length_take];omega
   refine⟨by simp only[List.length_cons,List.length_nil];omega,?_⟩
   rw[wrapS (by omega)]
   refine hrec ((k+1:Nat):Int) _ ⟨k+1,rfl,hk,?_⟩ (by show l.length-((k+1:Nat):Int).toNat<l.length-(k:Int).toNat;omega)
   show b++[ix l (k:Int)]=_
   rw[i3,List.take_succ_eq_append_getElem hk,ix_lt hk]
 ·have hb:¬(k:Int)<l.length:=of_decide_eq_false hb
  have hk:k=l.length:=by omega
  have e:b=l:=by rw[i3,hk,List.take_length]
  show post b
  rw[e];exact hp
def plast_P (l:List (api_Parcel))(post:Int->Prop):Prop:=(l.length<=1000000/\∀p∈l,0<p.Days.length/\p.Days.length<=1000000)/\post (dayS l)
def plast_sp:Spec:=⟨143,false,false,[.sl (.st .api_Parcel)],.dat (.int .i64),λx post=>plast_P (x.1:List (api_Parcel)) (λy0=>post (y0,()))⟩
def plast_C:CtxR:=⟨tau,[],lookJ [(0,7,⟨[(8,.dat (.int .i64)),(3,.dat (.int .i64))],[],(List.range' 9 21++[5]),[],[]⟩),(0,16,⟨[(3,.dat (.int .i64))],[],(List.range' 10 19++[5]),[],[]⟩)]⟩
def plast_W (l:List (api_Parcel))(post:Int->Prop):Prop:=(↑l.length:Int)<=9223372036854775807->LOOP [Ty.int IntKind.i64,Ty.int IntKind.i64] (λ(rec1:Int->Int->Prop) (z2 z3:Int)=>IFB (decide (z2<(↑l.length:Int))) (JOIN [Ty.int IntKind.i64] (λ(y4:Int)=>rec1 (IntKind.i64.wrap (z2+1)) y4) λ(J5:Int->Prop)=>((0:Int)<=z2/\z2<(↑l.length:Int))/\((↑(ix l z2).5.length:Int)<=9223372036854775807->((0:Int)<=IntKind.i64.wrap ((↑(ix l z2).5.length:Int)-1)/\IntKind.i64.wrap ((↑(ix l z2).5.length:Int)-1)<(↑(ix l z2).5.length:Int))/\IFB (!decide ((ix l z2).3=36865)) (J5 (Max.max (Max.max z3 (ix (ix l z2).5 (IntKind.i64.wrap ((↑(ix l z2).5.length:Int)-1)))) (ix l z2).3)) (J5 (Max.max z3 (ix (ix l z2).5 (IntKind.i64.wrap ((↑(ix l z2).5.length:Int)-1))))))) (post z3)) ((0:Int),(0:Int),PUnit.unit)
theorem plast_w (l:List (api_Parcel))(post:dens (shT plast_sp.rs [])->Prop):plast_W l (λy0=>post (y0,()))=walkG (callR Tryz.prog plast_C (drawR Tryz.prog tau) 8 0) 143 false [tv (.sl (.st .api_Parcel)) l] plast_sp.rs post:=by kernel_rfl
theorem plast_of (h:∀l post,plast_P l post->plast_W l post):SpecOK Tryz.prog plast_sp:=SpecOK.of_rules (C:=plast_C) (dr:=drawR Tryz.prog tau) (n:=8) (fk:=0) .nil (drawR_ok tau) λx post hp=>HoldW.of (plast_w x.1 post) (h x.1 (λy0=>post (y0,())) hp)
theorem fold_take {α β:Type}[Inhabited α]{f:β->α->β}{l:List α}{b:β}{k:Nat}(hk:k<l.length):(l.take (k+1)).foldl f b=f ((l.take k).foldl f b) (ix l (k:Int)):=by
 rw[List.take_succ_eq_append_getElem hk,List.foldl_append,ix_lt hk];rfl
theorem plast_ok:SpecOK Tryz.prog plast_sp:=plast_of λl post hp=>by
 obtain⟨⟨hl,hsz⟩,hp⟩:=hp
 unfold plast_W
 refine λ_=>LOOP.fuel2 (λz b=>∃k:Nat,z=(k:Int)/\k<=l.length/\b=(l.take k).foldl dayF 0) (λz _=>l.length-Int.toNat z) ⟨0,rfl,Nat.zero_le _,rfl⟩ ?_
 rintro rec (z:Int) (b:Int) ⟨k,i1,i2,i3⟩ hrec
 subst i1
 refine IFB.mk (λhb=> ?_) (λhb=> ?_)
 ·have hb:(k:Int)<l.length:=of_decide_eq_true hb
  have hk:k<l.length:=by omega
  obtain⟨x1,x2⟩:=hsz _ (ix_mem (l:=l) (i:=(k:Int)) (by omega) (by omega))
  have hw:IntKind.i64.wrap (((ix l (k:Int)).5.length:Int)-1)=((ix l (k:Int)).5.length:Int)-1:=wrap_in (by omega) (by omega)
  rw[hw]
  refine JOIN.opq λ(J:Int->Prop) hJ=>⟨by omega,λ_=>⟨by omega,?_⟩⟩
  have fin:∀y:Int,y=dayF b (ix l (k:Int))->J y:=λy hy=>by
   rw[hJ]
   show rec (IntKind.i64.wrap ((k:Int)+1)) y
   rw[wrapS (by omega)]
   exact hrec ((k+1:Nat):Int) y ⟨k+1,rfl,hk,by rw[fold_take hk,<-i3,hy]⟩ (by show l.length-((k+1:Nat):Int).toNat<l.length-(k:Int).toNat;omega)
  refine IFB.mk (λhc=>fin _ ?_) (λhc=>fin _ ?_)
  ·have hc:¬(ix l (k:Int)).3=36865:=by simpa using hc
   unfold dayF;rw[if_neg hc]
  ·have hc:(ix l (k:Int)).3=36865:=by simpa using hc
   unfold dayF;rw[if_pos hc]
 ·have hb:¬(k:Int)<l.length:=of_decide_eq_false hb
  have hk:k=l.length:=by omega
  have e:b=dayS l:=by rw[i3,hk,List.take_length];rfl
  show post b
  rw[e];exact hp
def popn_P (l:List (api_Parcel))(n:Int)(post:Bool->Prop):Prop:=(l.length<=1000000)/\∀q:Bool,(q=true↔openP l n)->post q
def popn_sp:Spec:=⟨145,false,false,[.sl (.st .api_Parcel),.int .i64],.dat (.bool),λx post=>popn_P (x.1:List (api_Parcel)) (x.2.1:Int) (λy0=>post (y0,()))⟩
def popn_C:CtxR:=⟨tau,[],lookJ []⟩
def popn_W (l:List (api_Parcel))(n:Int)(post:Bool->Prop):Prop:=(gx true (decide ((1:Int)<=n))=true->(↑l.length:Int)<=9223372036854775807)->(gx true (decide ((1:Int)<=n)&&decide (n<=(↑l.length:Int)))=true->0<=IntKind.i64.wrap (n-1)/\IntKind.i64.wrap (n-1)<(↑l.length:Int))/\post (decide ((1:Int)<=n)&&decide (n<=(↑l.length:Int))&&decide ((ix l (IntKind.i64.wrap (n-1))).3=36865))
theorem popn_w (l:List (api_Parcel))(n:Int)(post:dens (shT popn_sp.rs [])->Prop):popn_W l n (λy0=>post (y0,()))=walkG (callR Tryz.prog popn_C (drawR Tryz.prog tau) 8 0) 145 false [tv (.sl (.st .api_Parcel)) l,tv (.int .i64) n] popn_sp.rs post:=by kernel_rfl
theorem popn_of (h:∀l n post,popn_P l n post->popn_W l n post):SpecOK Tryz.prog popn_sp:=SpecOK.of_rules (C:=popn_C) (dr:=drawR Tryz.prog tau) (n:=8) (fk:=0) .nil (drawR_ok tau) λx post hp=>HoldW.of (popn_w x.1 x.2.1 post) (h x.1 x.2.1 (λy0=>post (y0,())) hp)
theorem popn_ok:SpecOK Tryz.prog popn_sp:=popn_of λl n post hp=>by
 obtain⟨hl,hp⟩:=hp
 unfold popn_W
 intro _
 refine⟨λh=> ?_,hp _ ?_⟩
 ·simp only[Bool.or_eq_true,Bool.and_eq_true,Bool.not_eq_true',Bool.not_eq_false',Bool.or_eq_false_iff,Bool.and_eq_false_iff,decide_eq_true_eq,decide_eq_false_iff_not,gx_t,gx_f] at h
  rw[wrap_in (by omega) (by omega)];omega
 ·unfold openP
  simp only[Bool.and_eq_true,decide_eq_true_eq]
  constructor
  ·rintro ⟨⟨h1,h2⟩,h3⟩
   rw[wrap_in (by omega) (by omega)] at h3
   exact⟨h1,h2,h3⟩
  ·rintro ⟨h1,h2,h3⟩
   rw[wrap_in (by omega) (by omega)]
   exact⟨⟨h1,h2⟩,h3⟩
def psz_P (l:List (api_Rect))(post:Int->Prop):Prop:=((∀r∈l,proper r)/\l.length<=268435456)/\post (sizeS l)
def psz_sp:Spec:=⟨91,false,false,[.sl (.st .api_Rect)],.dat (.int .i64),λx post=>psz_P (x.1:List (api_Rect)) (λy0=>post (y0,()))⟩
def psz_C:CtxR:=⟨tau,[],lookJ [(0,7,⟨[(8,.dat (.int .i64)),(3,.dat (.int .i64))],[],(List.range' 9 17++[5]),[],[]⟩)]⟩
def psz_W (l:List (api_Rect))(post:Int->Prop):Prop:=(↑l.length:Int)<=9223372036854775807->LOOP [Ty.int IntKind.i64,Ty.int IntKind.i64] (λ(rec1:Int->Int->Prop) (z2 z3:Int)=>IFB (decide (z2<(↑l.length:Int))) (((0:Int)<=z2/\z2<(↑l.length:Int))/\rec1 (IntKind.i64.wrap (z2+1)) (IntKind.i64.wrap (z3+IntKind.i64.wrap (IntKind.i64.wrap ((ix l z2).3-(ix l z2).1) * IntKind.i64.wrap ((ix l z2).4-(ix l z2).2))))) (post z3)) ((0:Int),(0:Int),PUnit.unit)
theorem psz_w (l:List (api_Rect))(post:dens (shT psz_sp.rs [])->Prop):psz_W l (λy0=>post (y0,()))=walkG (callR Tryz.prog psz_C (drawR Tryz.prog tau) 8 0) 91 false [tv (.sl (.st .api_Rect)) l] psz_sp.rs post:=by kernel_rfl
theorem psz_of (h:∀l post,psz_P l post->psz_W l post):SpecOK Tryz.prog psz_sp:=SpecOK.of_rules (C:=psz_C) (dr:=drawR Tryz.prog tau) (n:=8) (fk:=0) .nil (drawR_ok tau) λx post hp=>HoldW.of (psz_w x.1 post) (h x.1 (λy0=>post (y0,())) hp)
def parea_P (a:api_Region)(post:Int->Prop):Prop:=(True)/\post (areaS a)
def parea_sp:Spec:=⟨191,false,false,[.st .api_Region],.dat (.int .i64),λx post=>parea_P (x.1:api_Region) (λy0=>post (y0,()))⟩
def parea_C:CtxR:=⟨tau,[rule1 pval_sp],lookJ [(3066,7,⟨[(8,.dat (.int .i64)),(3,.dat (.int .i64))],[],(List.range' 9 17++[5]),[],[]⟩)]⟩
def parea_W (a:api_Region)(post:Int->Prop):Prop:=∀(v1:Bool),(v1=true↔validP a.1)->IFB (!v1) (post 0) ((↑a.1.length:Int)<=9223372036854775807->LOOP [Ty.int IntKind.i64,Ty.int IntKind.i64] (λ(rec2:Int->Int->Prop) (z3 z4:Int)=>IFB (decide (z3<(↑a.1.length:Int))) (((0:Int)<=z3/\z3<(↑a.1.length:Int))/\rec2 (IntKind.i64.wrap (z3+1)) (IntKind.i64.wrap (z4+IntKind.i64.wrap (IntKind.i64.wrap ((ix a.1 z3).3-(ix a.1 z3).1) * IntKind.i64.wrap ((ix a.1 z3).4-(ix a.1 z3).2))))) (post z4)) ((0:Int),(0:Int),PUnit.unit))
theorem parea_w (a:api_Region)(post:dens (shT parea_sp.rs [])->Prop):parea_W a (λy0=>post (y0,()))=walkG (callR Tryz.prog parea_C (drawR Tryz.prog tau) 8 0) 191 false [tv (.st .api_Region) a] parea_sp.rs post:=by kernel_rfl
theorem parea_of (h:∀a post,parea_P a post->parea_W a post):SpecOK Tryz.prog parea_sp:=SpecOK.of_rules (C:=parea_C) (dr:=drawR Tryz.prog tau) (n:=8) (fk:=0) (.cons (rule1_ok pval_ok) .nil) (drawR_ok tau) λx post hp=>HoldW.of (parea_w x.1 post) (h x.1 (λy0=>post (y0,())) hp)
def pjoin_P (l:List (api_Rect))(post:List (api_Rect)->Int->Prop):Prop:=((∀r∈l,proper r)/\l.length<=1000)/\∀(r:List api_Rect)(g:Int),joinP l r g->post r g
def pjoin_sp:Spec:=⟨194,false,true,[.sl (.st .api_Rect)],.tup [.agg [.dat (.sl (.st .api_Rect))],.dat (.int .i64)],λx post=>pjoin_P (x.1:List (api_Rect)) (λy0 y1=>post (y0,y1,()))⟩
def pjoin_C:CtxR:=⟨tau,[rule1 pcan_sp],lookJ [(1024,0,⟨[(0,.tup [.agg [.dat (.sl (.st .api_Rect))],.dat (.int .i64)])],[],[],[],[]⟩)]⟩
def pjoin_W (l:List (api_Rect))(post:List (api_Rect)->Int->Prop):Prop:=((∀(v1:api_Rect),v1∈l->0<=v1.1/\v1.1<v1.3/\v1.3<=16384/\0<=v1.2/\v1.2<v1.4/\v1.4<=16384)/\l.length<=10000)/\JOIN [(Ty.st Sn.api_Rect).sl,Ty.int IntKind.i64] (λ(y2:List api_Rect) (y3:Int)=>post y2 y3) λ(J4:List api_Rect->Int->Prop)=>(↑(canonF (cov l)).length:Int)<=9223372036854775807->IFB (decide ((120:Int)<(↑(canonF (cov l)).length:Int))) (J4 [] 1) (J4 (canonF (cov l)) 0)
theorem pjoin_w (l:List (api_Rect))(post:dens (shT pjoin_sp.rs [])->Prop):pjoin_W l (λy0 y1=>post (y0,y1,()))=walkG (callR Tryz.prog pjoin_C (drawR Tryz.prog tau) 8 0) 194 false [tv (.sl (.st .api_Rect)) l] pjoin_sp.rs post:=by kernel_rfl
theorem pjoin_of (h:∀l post,pjoin_P l post->pjoin_W l post):SpecOK Tryz.prog pjoin_sp:=SpecOK.of_rules (C:=pjoin_C) (dr:=drawR Tryz.prog tau) (n:=8) (fk:=0) (.cons (rule1_ok pcan_ok) .nil) (drawR_ok tau) λx post hp=>HoldW.of (pjoin_w x.1 post) (h x.1 (λy0 y1=>post (y0,y1,())) hp)
theorem size_in {r:Rc}(h:proper r):0<=sizeR r/\sizeR r<=268435456/\IntKind.i64.wrap (IntKind.i64.wrap (r.3-r.1) * IntKind.i64.wrap (r.4-r.2))=sizeR r:=by
 obtain⟨p1,p2,p3,p4,p5,p6⟩:=h
 have h1:0<=(r.3-r.1):=by omega
 have h2:0<=(r.4-r.2):=by omega
 have h3:(r.3-r.1)<=16384:=by omega
 have h4:(r.4-r.2)<=16384:=by omega
 have m1:=Int.mul_nonneg h1 h2
 have m2:(r.3-r.1) * (r.4-r.2)<=16384 * 16384:=Int.mul_le_mul h3 h4 h2 (by omega)
 refine⟨m1,m2,?_⟩
 rw[wrap_in (z:=r.3-r.1) (by omega) (by omega),wrap_in (z:=r.4-r.2) (by omega) (by omega),wrap_in (by omega) (by omega)]
 rfl
theorem size_loop {l:List Rc}(hp:∀r∈l,proper r)(hl:l.length<=268435456){K:Int->Prop}(hK:K (sizeS l)):
 LOOP [Ty.int IntKind.i64,Ty.int IntKind.i64] (λ(rec2:Int->Int->Prop) (z3 z4:Int)=>IFB (decide (z3<(l.length:Int))) (((0:Int)<=z3/\z3<(l.length:Int))/\rec2 (IntKind.i64.wrap (z3+(1:Int))) (IntKind.i64.wrap (z4+IntKind.i64.wrap (IntKind.i64.wrap ((ix l z3).3-(ix l z3).1) * IntKind.i64.wrap ((ix l z3).4-(ix l z3).2))))) (K z4)) ((0:Int),(0:Int),PUnit.unit):=by
 refine LOOP.fuel2 (λ(z b:Int)=>∃k:Nat,z=(k:Int)/\k<=l.length/\b=(l.take k).foldl (λn r=>n+sizeR r) 0/\0<=b/\b<=268435456 * (k:Int)) (λ(z _:Int)=>l.length-Int.toNat z) ⟨0,rfl,Nat.zero_le _,rfl,Int.le_refl _,Int.le_refl _⟩ ?_
 rintro rec (z:Int) (b:Int) ⟨k,i1,i2,i3,i4,i5⟩ hrec
 subst i1
 refine IFB.mk (λhb=> ?_) (λhb=> ?_)
 ·have hb:(k:Int)<l.length:=of_decide_eq_true hb
  have hk:k<l.length:=by omega
  obtain⟨s1,s2,s3⟩:=size_in (hp _ (ix_mem (l:=l) (i:=(k:Int)) (by omega) (by omega)))
  refine⟨by omega,?_⟩
  rw[s3,wrapS (by omega),wrap_in (z:=b+_) (by omega) (by omega)]
  exact hrec ((k+1:Nat):Int) _ ⟨k+1,rfl,hk,by rw[fold_take hk,<-i3],by omega,by omega⟩ (by show l.length-((k+1:Nat):Int).toNat<l.length-(k:Int).toNat;omega)
 ·have hb:¬(k:Int)<l.length:=of_decide_eq_false hb
  have hk:k=l.length:=by omega
  have e:b=sizeS l:=by rw[i3,hk,List.take_length];rfl
  rw[e];exact hK
theorem psz_ok:SpecOK Tryz.prog psz_sp:=psz_of λl post hp=>by
 obtain⟨⟨h1,h2⟩,hp⟩:=hp
 unfold psz_W
 exact λ_=>size_loop h1 h2 hp
theorem parea_ok:SpecOK Tryz.prog parea_sp:=parea_of λa post hp=>by
 obtain⟨_,hp⟩:=hp
 unfold parea_W
 unfold areaS at hp
 refine λv hv=>IFB.mk (λhb=> ?_) (λhb=> ?_)
 ·rw[if_neg (λh=>by have:=hv.2 h;rw[this] at hb;cases hb)] at hp;exact hp
 ·have h:=hv.1 (by simpa using hb)
  rw[if_pos h] at hp
  exact λ_=>size_loop h.2.1 (by have:=h.1;omega) hp
theorem pjoin_ok:SpecOK Tryz.prog pjoin_sp:=pjoin_of λl post hp=>by
 obtain⟨⟨h1,h2⟩,hp⟩:=hp
 unfold pjoin_W
 refine⟨⟨h1,by omega⟩,JOIN.opq λ(J:List Rc->Int->Prop) hJ _=>IFB.mk (λhb=> ?_) (λhb=> ?_)⟩
 ·have hb:(120:Int)<_:=of_decide_eq_true hb
  rw[hJ];exact hp _ _ (.inl ⟨by omega,rfl,rfl⟩)
 ·have hb:¬(120:Int)<_:=of_decide_eq_false hb
  rw[hJ];exact hp _ _ (.inr ⟨by omega,rfl,rfl⟩)
end RE
end Go.Proofs.YtpeggkeenboacaaGreat
set_option linter.unusedVariables false
namespace Go.Proofs.YtpeggkeenboacaaGreat
open Go.RowKit Go.Sort Go.Lib
namespace RE
open PL
namespace Forms
theorem set_last (w:World)(o o':Obj):({w.alloc o with heap:=(w.alloc o).heap.setIfInBounds w.heap.size o'}:World)=w.alloc o':=by
 have e:(w.alloc o).heap=w.heap.push o:=rfl
 have e':(w.alloc o').heap=w.heap.push o':=rfl
 have h:(w.alloc o).heap.setIfInBounds w.heap.size o'=(w.alloc o').heap:=by
  rw[e,e']
  apply Array.ext'
  simp
 rw[h]
 rfl
theorem ins_run {P:Program}{mt kt et:TypeId}{kk:IntKind}(hm:P.underlying mt=some (.map kt et))(hk:P.underlying kt=some (.int kk))(w:World)(es:Array MapEntry)(clock:Nat)(z:Int)(v:Value)(hn:Instr.findNow (.int kk) (.int .i64 z) es.toList 0=some none):
 (Instr.mapUpdate mt (.map (some w.heap.size)) (.int .i64 z) v).run P (w.alloc (.map es clock))= .ok () (w.alloc (.map (es.push {key:= .int .i64 z,val:=v,born:=clock}) (clock+1))):=by
 have hb:(w.alloc (.map es clock)).heap[w.heap.size]? =some (.map es clock):=heap_alloc_new w _
 have hget:(getObj w.heap.size).run P (w.alloc (.map es clock))= .ok (.map es clock) (w.alloc (.map es clock)):=by
  simp only[getObj,Sem.run]
  rw[hb]
 have hset:∀o,(setObj w.heap.size o).run P (w.alloc (.map es clock))= .ok () (w.alloc o):=λo=>by
  simp only[setObj,Sem.run,hb,set_last]
 have hck:(Instr.checkKey false 10000 kt (.int .i64 z)).run P (w.alloc (.map es clock))= .ok () (w.alloc (.map es clock)):=by
  show (Instr.checkKey false (9999+1) kt (.int .i64 z)).run P _=_
  unfold Instr.checkKey
  simp[run_underlying hk]
 have hf:(Instr.findKey kt (.int .i64 z) es.toList).run P (w.alloc (.map es clock))= .ok none (w.alloc (.map es clock)):=by
  unfold Instr.findKey
  simp[run_underlying hk,hn]
 simp[Instr.mapUpdate,run_underlying hm,hget,hck,hf,hset]
def fv (a b c d:Int)(f:FuncId):Value:= .agg #[.int .i64 a,.int .i64 b,.int .i64 c,.int .i64 d,.func (.func f) #[] #[]]
def ents:Array MapEntry:= #[{key:= .int .i64 1,val:=fv 0 0 1 1 147,born:=0},{key:= .int .i64 2,val:=fv 1 1 1 1 148,born:=1},{key:= .int .i64 3,val:=fv 1 1 2 8 149,born:=2},{key:= .int .i64 4,val:=fv 2 8 0 0 150,born:=3},{key:= .int .i64 5,val:=fv 1 1 0 0 151,born:=4}]
set_option maxHeartbeats 1000000 in
theorem forms_walk (w:World):Calls Tryz.prog 77 #[] w λex w'=>ex= .returned (.map (some w.heap.size))/\w'=w.alloc (.map ents 5):=by
 have hm:Tryz.prog.underlying 129=some (.map 3 128):=by kernel_rfl
 have hk:Tryz.prog.underlying 3=some (.int .i64):=by kernel_rfl
 have e0:= @run_makeMap Tryz.prog 129 w
 have e1:=ins_run hm hk w #[] 0 1 (fv 0 0 1 1 147) rfl
 have e2:=ins_run hm hk w _ 1 2 (fv 1 1 1 1 148) (show Instr.findNow _ _ (Array.toList (ents.extract 0 1)) 0=some none from rfl)
 have e3:=ins_run hm hk w _ 2 3 (fv 1 1 2 8 149) (show Instr.findNow _ _ (Array.toList (ents.extract 0 2)) 0=some none from rfl)
 have e4:=ins_run hm hk w _ 3 4 (fv 2 8 0 0 150) (show Instr.findNow _ _ (Array.toList (ents.extract 0 3)) 0=some none from rfl)
 have e5:=ins_run hm hk w _ 4 5 (fv 1 1 0 0 151) (show Instr.findNow _ _ (Array.toList (ents.extract 0 4)) 0=some none from rfl)
 have h0:(#[]:Array MapEntry)=ents.extract 0 0:=rfl
 have p1:(#[]:Array MapEntry).push {key:= .int .i64 1,val:=fv 0 0 1 1 147,born:=0}=ents.extract 0 1:=rfl
 have p2:(ents.extract 0 1).push {key:= .int .i64 2,val:=fv 1 1 1 1 148,born:=1}=ents.extract 0 2:=rfl
 have p3:(ents.extract 0 2).push {key:= .int .i64 3,val:=fv 1 1 2 8 149,born:=2}=ents.extract 0 3:=rfl
 have p4:(ents.extract 0 3).push {key:= .int .i64 4,val:=fv 2 8 0 0 150,born:=3}=ents.extract 0 4:=rfl
 have p5:(ents.extract 0 4).push {key:= .int .i64 5,val:=fv 1 1 0 0 151,born:=4}=ents:=rfl
 rw[p1] at e1
 rw[p2] at e2
 rw[p3] at e3
 rw[p4] at e4
 rw[p5] at e5
 unfold fv at e1 e2 e3 e4 e5
 clear p1 p2 p3 p4 p5 h0
 generalize ents.extract 0 1=E1 at e1 e2
 generalize ents.extract 0 2=E2 at e2 e3
 generalize ents.extract 0 3=E3 at e3 e4
 generalize ents.extract 0 4=E4 at e4 e5
 go_enter Tryz.func77,Tryz.ntmps77
 go_wp2
 go_ret
 exact⟨rfl,rfl⟩
end Forms
end RE
end Go.Proofs.YtpeggkeenboacaaGreat
namespace Go.Proofs.YtpeggkeenboacaaGreat
namespace RE
open Go.RowKit
variable {P:Program}
def MapMk (P:Program)(f:FuncId)(es:List (Int×D)):Prop:=
 ∀(w:World)(S:Cells),Calls P f #[] w λex w'=>∃(v:Value)(F:Nat->Prop),ex= .returned v/\MapAt w' S v F es/\(∀b,F b->w.heap.size<=b/\b<w'.heap.size)/\Below w.heap.size w w'
def mapCp (sym:Bool)(es:List (Int×D))(ss:List SV)(m:MS)(K:SV->MS->Prop):Prop:=match ss with
 |[]=>K (.os m.nx) ⟨(m.nx,some (.mp sym es))::m.ob,m.nx+1,m.tp⟩
 |_=>False
def ruleMap (f:FuncId)(sym:Bool)(es:List (Int×D)):Rule:=⟨f,mapCp sym es⟩
theorem ruleMap_ok {f:FuncId}{sym:Bool}{es:List (Int×D)}(h:MapMk P f es):RuleOK P (ruleMap f sym es):=by
 intro ss m K hk us w c hox hl hr
 have hk2:mapCp sym es ss m K:=hk
 clear hk
 unfold mapCp at hk2
 split at hk2
 rotate_left
 ·exact hk2.elim
 match us,hl with
 |[],_=>
 refine (h w c.S).mono ?_
 rintro ex w' ⟨v,F,rfl,hn,s3,hb⟩
 let x:Ob:= .mp sym es
 have ho:(MS.obs ⟨(m.nx,some x)::m.ob,m.nx+1,m.tp⟩)=put m.obs m.nx (some x):=lookO_cons _ _ _
 have hU:∀i,m.U i->i≠m.nx:=λi hi e=>by have:i<m.nx:=hi;omega
 obtain⟨k1,k2⟩:=OX.upd (ob':=put m.obs m.nx (some x)) (U':=λi=>i<m.nx+1) (w':=w') (c':=⟨c.S,put c.H m.nx v,put c.F m.nx F,c.T⟩) hox m.nx x (λi=>i≠m.nx)
  (λi hi=>Nat.lt_succ_of_lt hi) (Nat.lt_succ_self _) (put_same _ _ _) (λi y hi e=>⟨e,by rw[put_ne _ _ e] at hi;exact hi⟩) (λe=>e rfl) (λi hi=>⟨put_ne _ _ (hU i hi),put_ne _ _ (hU i hi)⟩) (λ_ _ h=>h) (λb o hb=> .inl hb) (λb o hs=>Nat.lt_of_lt_of_le (hox.sb b o hs) hb.size)
  rfl hb.os hb.tape hb.output hb.size (λb hlt _=>hb.block b hlt) (by
   show MapAt w' c.S (put c.H m.nx _ m.nx) (put c.F m.nx F m.nx) es
   rw[put_same,put_same];exact hn) trivial (λ_ b hb=> .inr (s3 b (by
    have hb:put c.F m.nx F m.nx b:=hb
    rw[put_same] at hb;exact hb)).1) (λ_ b hb=>by
    have hb:put c.F m.nx F m.nx b:=hb
    rw[put_same] at hb
    obtain⟨q1,q2⟩:=s3 b hb
    exact⟨q2,λo hs=>by have:=hox.sb b o hs;omega⟩)
 refine⟨v,.os m.nx,⟨(m.nx,some x)::m.ob,m.nx+1,m.tp⟩,⟨c.S,put c.H m.nx v,put c.F m.nx F,c.T⟩,rfl,hk2,⟨⟨[(m.nx,some x)],rfl⟩,id⟩,?_,?_,?_,Nat.lt_succ_self _⟩
 ·show OX _ _ _ _ _
  rw[ho];exact k1
 ·show Tr _ _ _ _ _ _ _ _
  rw[ho];exact k2
 ·have:SRel ⟨c.S,put c.H m.nx v,put c.F m.nx F,c.T⟩ w' (.os m.nx) (put c.H m.nx v m.nx):= .os _
  rwa [put_same] at this
def ruleNo (f:FuncId):Rule:=⟨f,λ_ _ _=>False⟩
theorem ruleNo_ok (f:FuncId):RuleOK P (ruleNo f):=λ_ _ _ h=>h.elim
end RE
end Go.Proofs.YtpeggkeenboacaaGreat
set_option linter.unusedVariables false
namespace Go.Proofs.YtpeggkeenboacaaGreat
open Go.RowKit
namespace RE
namespace Forms
def fd (a b c d:Int)(f:FuncId):D:= .agg [iD a,iD b,iD c,iD d,.v (.func (.func f) #[] #[])]
def es:List (Int×D):=[(1,fd 0 0 1 1 147),(2,fd 1 1 1 1 148),(3,fd 1 1 2 8 149),(4,fd 2 8 0 0 150),(5,fd 1 1 0 0 151)]
theorem fd_rd (a b c d:Int)(f:FuncId)(S:Cells)(w:World):Rd S w (fd a b c d f) (fv a b c d f):=dOfV_rd (v:=fv a b c d f) rfl S w
theorem forms_mk:MapMk Tryz.prog 77 es:=by
 intro w S
 refine (forms_walk w).mono ?_
 rintro ex w' ⟨rfl,rfl⟩
 refine⟨_,λb=>b=w.heap.size,rfl,⟨w.heap.size,ents,5,rfl,λ_=>Iff.rfl,heap_alloc_new w _,rfl,λi k d m hi hm=> ?_⟩,λb e=>⟨by omega,by subst e;simp⟩,(Below.refl _ _).alloc (Nat.le_refl _) _⟩
 match i,hi,hm with
 |0,hi,hm=>cases hi;cases hm;exact⟨rfl,fd_rd ..⟩
 |1,hi,hm=>cases hi;cases hm;exact⟨rfl,fd_rd ..⟩
 |2,hi,hm=>cases hi;cases hm;exact⟨rfl,fd_rd ..⟩
 |3,hi,hm=>cases hi;cases hm;exact⟨rfl,fd_rd ..⟩
 |4,hi,hm=>cases hi;cases hm;exact⟨rfl,fd_rd ..⟩
 |i+5,hi,hm=>cases hi
end Forms
end RE
end Go.Proofs.YtpeggkeenboacaaGreat
set_option linter.unusedVariables false
set_option linter.unusedSimpArgs false
namespace Go.Proofs.YtpeggkeenboacaaGreat
open Go.RowKit
namespace RE
open PL
namespace PL
structure szE (e:Ed):Prop where
 pars:e.Parcels.length<=1000000
 regs:e.Regions.length<=1000000
 rect:∀a∈e.Regions,a.Rects.length<=1000000
end PL
theorem checkS_0 {l:List Pc}:checkS l=0↔l.length<=60/\regP l:=by
 unfold checkS
 split
 ·exact⟨λh=>(by cases h),λh=>by omega⟩
 ·split
  ·exact⟨λ_=>⟨by omega,by assumption⟩,λ_=>rfl⟩
  ·exact⟨λh=>(by cases h),λh=>absurd h.2 (by assumption)⟩
theorem regP_days {l:List Pc}(h:regP l):∀p∈l,0<p.Days.length/\p.Days.length=p.Regions.length:=λp hp=>by
 obtain⟨i,hi,rfl⟩:=ix_ex hp
 have:=(h.1 i hi).2.2.2.2.2.1
 exact⟨this.1,this.2.1⟩
def pedit_P (l:List (api_Parcel))(e:api_Edit)(post:Int->Prop):Prop:=(szL l/\szE e)/\post (editS l e)
def pedit_sp:Spec:=⟨75,false,false,[.sl (.st .api_Parcel),.st .api_Edit],.dat (.int .i64),λx post=>pedit_P (x.1:List (api_Parcel)) (x.2.1:api_Edit) (λy0=>post (y0,()))⟩
def pedit_C:CtxR:=⟨tau,[rule1 pchk_sp,ruleMap 77 true Forms.es,rule1 plast_sp,rule1 popn_sp,rule1 pasc_sp,rule1 pprop_sp],lookJ [(14903780001,0,⟨[(0,.dat (.int .i64))],[],[],[],[]⟩),(14903780001,5,⟨[(8,.dat (.int .i64))],[],[9,10,5,11,12,13,14,15,16,18],[],[]⟩),(12776157920,0,⟨[(0,.dat (.int .i64))],[],[],[],[]⟩),(12776157920,5,⟨[(8,.dat (.int .i64))],[],[9,10,5,11,12,13,14,15,16,18],[],[]⟩)]⟩
abbrev pedit_a0 (e:api_Edit):=(gx false (decide ((↑e.4.length:Int)<if e.3=(1:Int) then (0:Int) else if e.3=(2:Int) then (1:Int) else if e.3=(3:Int) then (1:Int) else if e.3=(4:Int) then (2:Int) else if e.3=(5:Int) then (1:Int) else (0:Int))||decide ((if e.3=(1:Int) then (0:Int) else if e.3=(2:Int) then (1:Int) else if e.3=(3:Int) then (1:Int) else if e.3=(4:Int) then (8:Int) else if e.3=(5:Int) then (1:Int) else (0:Int))<(↑e.4.length:Int))||decide ((↑e.5.length:Int)<if e.3=(1:Int) then (1:Int) else if e.3=(2:Int) then (1:Int) else if e.3=(3:Int) then (2:Int) else if e.3=(4:Int) then (0:Int) else if e.3=(5:Int) then (0:Int) else (0:Int))||decide ((if e.3=(1:Int) then (1:Int) else if e.3=(2:Int) then (1:Int) else if e.3=(3:Int) then (8:Int) else if e.3=(4:Int) then (0:Int) else if e.3=(5:Int) then (0:Int) else (0:Int))<(↑e.5.length:Int))))
abbrev pedit_a1 (e:api_Edit):=((if e.3=(1:Int) then (0:Int) else if e.3=(2:Int) then (1:Int) else if e.3=(3:Int) then (1:Int) else if e.3=(4:Int) then (8:Int) else if e.3=(5:Int) then (1:Int) else (0:Int))<(↑e.4.length:Int))
abbrev pedit_a2 (e:api_Edit):=((if e.3=(1:Int) then (1:Int) else if e.3=(2:Int) then (1:Int) else if e.3=(3:Int) then (8:Int) else if e.3=(4:Int) then (0:Int) else if e.3=(5:Int) then (0:Int) else (0:Int))<(↑e.5.length:Int))
abbrev pedit_a3 (e:api_Edit):=((↑e.4.length:Int)<if e.3=(1:Int) then (0:Int) else if e.3=(2:Int) then (1:Int) else if e.3=(3:Int) then (1:Int) else if e.3=(4:Int) then (2:Int) else if e.3=(5:Int) then (1:Int) else (0:Int))
abbrev pedit_a4 (e:api_Edit):=((↑e.5.length:Int)<if e.3=(1:Int) then (1:Int) else if e.3=(2:Int) then (1:Int) else if e.3=(3:Int) then (2:Int) else if e.3=(4:Int) then (0:Int) else if e.3=(5:Int) then (0:Int) else (0:Int))
abbrev pedit_a5 (e:api_Edit):=(!(decide (e.3=(1:Int))||(decide (e.3=(2:Int))||(decide (e.3=(3:Int))||(decide (e.3=(4:Int))||(decide (e.3=(5:Int))||false))))))
def pedit_W (l:List (api_Parcel))(e:api_Edit)(post:Int->Prop):Prop:=szL l/\IFB (!decide (checkS l=0)) (post (checkS l)) ((((↑e.4.length:Int)<=9223372036854775807->(↑e.5.length:Int)<=9223372036854775807->IFB (pedit_a5 e) (post 14) ((l.length<=1000000/\∀(v1:api_Parcel),v1∈l->0<v1.5.length/\v1.5.length<=1000000)/\IFB (decide (e.1<dayS l)||decide ((36864:Int)<e.1)) (post 9) (JOIN [Ty.bool] (λ(y2:Bool)=>IFB (decide (pedit_a3 e)||decide (pedit_a1 e)||decide (pedit_a4 e)||decide (pedit_a2 e)|| !y2) (post 3) (JOIN [Ty.int IntKind.i64] (λ(y3:Int)=>IFB (decide ((0:Int)<=y3)) (post 10) (JOIN [Ty.int IntKind.i64] (λ(y4:Int)=>IFB (decide ((0:Int)<=y4)) (post 7) (post 0)) λ(J5:Int->Prop)=>(↑e.5.length:Int)<=9223372036854775807->LOOP [Ty.int IntKind.i64] (λ(rec6:Int->Prop) (z7:Int)=>IFB (decide (z7<(↑e.5.length:Int))) (((0:Int)<=z7/\z7<(↑e.5.length:Int))/\(ix e.5 z7).1.length<=1000000000/\∀(v8:Bool),(v8=true↔propR {Rects:=(ix e.5 z7).1:api_Region})->IFB (!v8) (J5 z7) (rec6 (IntKind.i64.wrap (z7+1)))) (J5 (-1:Int))) ((0:Int),PUnit.unit))) λ(J9:Int->Prop)=>(↑e.4.length:Int)<=9223372036854775807->LOOP [Ty.int IntKind.i64] (λ(rec10:Int->Prop) (z11:Int)=>IFB (decide (z11<(↑e.4.length:Int))) (((0:Int)<=z11/\z11<(↑e.4.length:Int))/\l.length<=1000000/\∀(v12:Bool),(v12=true↔openP l (ix e.4 z11))->IFB (!v12) (J9 z11) (rec10 (IntKind.i64.wrap (z11+1)))) (J9 (-1:Int))) ((0:Int),PUnit.unit))) λ(J13:Bool->Prop)=>IFB (pedit_a0 e) (e.4.length<=1000000000/\∀(v14:Bool),(v14=true↔asc e.4)->J13 v14) (J13 false))))/\((↑e.4.length:Int)<=9223372036854775807->(↑e.5.length:Int)<=9223372036854775807->IFB (pedit_a5 e) (post 14) ((l.length<=1000000/\∀(v15:api_Parcel),v15∈l->0<v15.5.length/\v15.5.length<=1000000)/\IFB (decide (e.1<dayS l)||decide ((36864:Int)<e.1)) (post 9) (JOIN [Ty.bool] (λ(y16:Bool)=>IFB (decide (pedit_a3 e)||decide (pedit_a1 e)||decide (pedit_a4 e)||decide (pedit_a2 e)|| !y16) (post 3) (JOIN [Ty.int IntKind.i64] (λ(y17:Int)=>IFB (decide ((0:Int)<=y17)) (post 10) (JOIN [Ty.int IntKind.i64] (λ(y18:Int)=>IFB (decide ((0:Int)<=y18)) (post 7) (post 0)) λ(J19:Int->Prop)=>(↑e.5.length:Int)<=9223372036854775807->LOOP [Ty.int IntKind.i64] (λ(rec20:Int->Prop) (z21:Int)=>IFB (decide (z21<(↑e.5.length:Int))) (((0:Int)<=z21/\z21<(↑e.5.length:Int))/\(ix e.5 z21).1.length<=1000000000/\∀(v22:Bool),(v22=true↔propR {Rects:=(ix e.5 z21).1:api_Region})->IFB (!v22) (J19 z21) (rec20 (IntKind.i64.wrap (z21+1)))) (J19 (-1:Int))) ((0:Int),PUnit.unit))) λ(J23:Int->Prop)=>(↑e.4.length:Int)<=9223372036854775807->LOOP [Ty.int IntKind.i64] (λ(rec24:Int->Prop) (z25:Int)=>IFB (decide (z25<(↑e.4.length:Int))) (((0:Int)<=z25/\z25<(↑e.4.length:Int))/\l.length<=1000000/\∀(v26:Bool),(v26=true↔openP l (ix e.4 z25))->IFB (!v26) (J23 z25) (rec24 (IntKind.i64.wrap (z25+1)))) (J23 (-1:Int))) ((0:Int),PUnit.unit))) λ(J27:Bool->Prop)=>IFB (pedit_a0 e) (e.4.length<=1000000000/\∀(v28:Bool),(v28=true↔asc e.4)->J27 v28) (J27 false)))))/\((↑e.4.length:Int)<=9223372036854775807->(↑e.5.length:Int)<=9223372036854775807->IFB (pedit_a5 e) (post 14) ((l.length<=1000000/\∀(v29:api_Parcel),v29∈l->0<v29.5.length/\v29.5.length<=1000000)/\IFB (decide (e.1<dayS l)||decide ((36864:Int)<e.1)) (post 9) (JOIN [Ty.bool] (λ(y30:Bool)=>IFB (decide (pedit_a3 e)||decide (pedit_a1 e)||decide (pedit_a4 e)||decide (pedit_a2 e)|| !y30) (post 3) (JOIN [Ty.int IntKind.i64] (λ(y31:Int)=>IFB (decide ((0:Int)<=y31)) (post 10) (JOIN [Ty.int IntKind.i64] (λ(y32:Int)=>IFB (decide ((0:Int)<=y32)) (post 7) (post 0)) λ(J33:Int->Prop)=>(↑e.5.length:Int)<=9223372036854775807->LOOP [Ty.int IntKind.i64] (λ(rec34:Int->Prop) (z35:Int)=>IFB (decide (z35<(↑e.5.length:Int))) (((0:Int)<=z35/\z35<(↑e.5.length:Int))/\(ix e.5 z35).1.length<=1000000000/\∀(v36:Bool),(v36=true↔propR {Rects:=(ix e.5 z35).1:api_Region})->IFB (!v36) (J33 z35) (rec34 (IntKind.i64.wrap (z35+1)))) (J33 (-1:Int))) ((0:Int),PUnit.unit))) λ(J37:Int->Prop)=>(↑e.4.length:Int)<=9223372036854775807->LOOP [Ty.int IntKind.i64] (λ(rec38:Int->Prop) (z39:Int)=>IFB (decide (z39<(↑e.4.length:Int))) (((0:Int)<=z39/\z39<(↑e.4.length:Int))/\l.length<=1000000/\∀(v40:Bool),(v40=true↔openP l (ix e.4 z39))->IFB (!v40) (J37 z39) (rec38 (IntKind.i64.wrap (z39+1)))) (J37 (-1:Int))) ((0:Int),PUnit.unit))) λ(J41:Bool->Prop)=>IFB (pedit_a0 e) (e.4.length<=1000000000/\∀(v42:Bool),(v42=true↔asc e.4)->J41 v42) (J41 false)))))
theorem pedit_w (l:List (api_Parcel))(e:api_Edit)(post:dens (shT pedit_sp.rs [])->Prop):pedit_W l e (λy0=>post (y0,()))=walkG (callR Tryz.prog pedit_C (drawF Tryz.prog tau) 10 0) 75 false [tv (.sl (.st .api_Parcel)) l,tv (.st .api_Edit) e] pedit_sp.rs post:=by kernel_rfl
theorem pedit_of (h:∀(l:List (api_Parcel))(e:api_Edit)(post:Int->Prop),pedit_P l e post->pedit_W l e post):SpecOK Tryz.prog pedit_sp:=SpecOK.of_rules (C:=pedit_C) (dr:=drawF Tryz.prog tau) (n:=10) (fk:=0) (.cons (rule1_ok pchk_ok) (.cons (ruleMap_ok Forms.forms_mk) (.cons (rule1_ok plast_ok) (.cons (rule1_ok popn_ok) (.cons (rule1_ok pasc_ok) (.cons (rule1_ok pprop_ok) .nil)))))) (drawF_ok tau) λx post hp=>HoldW.of (pedit_w x.1 x.2.1 post) (h x.1 x.2.1 (λy0=>post (y0,())) hp)
theorem kind_iff {z:Int}:(decide (z=(1:Int))||(decide (z=(2:Int))||(decide (z=(3:Int))||(decide (z=(4:Int))||(decide (z=(5:Int))||false)))))=true↔z=1\/z=2\/z=3\/z=4\/z=5:=by simp
theorem fits_iff {e:Ed}(h:e.3=1\/e.3=2\/e.3=3\/e.3=4\/e.3=5):(decide ((e.4.length:Int)<if e.3=(1:Int) then (0:Int) else if e.3=(2:Int) then (1:Int) else if e.3=(3:Int) then (1:Int) else if e.3=(4:Int) then (2:Int) else if e.3=(5:Int) then (1:Int) else (0:Int))||decide ((if e.3=(1:Int) then (0:Int) else if e.3=(2:Int) then (1:Int) else if e.3=(3:Int) then (1:Int) else if e.3=(4:Int) then (8:Int) else if e.3=(5:Int) then (1:Int) else (0:Int))<(e.4.length:Int))||decide ((e.5.length:Int)<if e.3=(1:Int) then (1:Int) else if e.3=(2:Int) then (1:Int) else if e.3=(3:Int) then (2:Int) else if e.3=(4:Int) then (0:Int) else if e.3=(5:Int) then (0:Int) else (0:Int))||decide ((if e.3=(1:Int) then (1:Int) else if e.3=(2:Int) then (1:Int) else if e.3=(3:Int) then (8:Int) else if e.3=(4:Int) then (0:Int) else if e.3=(5:Int) then (0:Int) else (0:Int))<(e.5.length:Int)))=false↔fitsP e:=by
 unfold fitsP
 rcases h with h|h|h|h|h<;>rw[h]<;>simp only[Bool.or_eq_false_iff,decide_eq_false_iff_not,Int.reduceEq,↓reduceIte,false_and,true_and,false_or,or_false]<;>omega
set_option maxHeartbeats 1000000 in
theorem pedit_ok:SpecOK Tryz.prog pedit_sp:=pedit_of λl e post hp=>by
 obtain⟨⟨hsz,hse⟩,hp⟩:=hp
 have hl:=hsz.len
 have he1:e.4.length<=1000000:=hse.pars
 have he2:e.5.length<=1000000:=hse.regs
 unfold pedit_W pedit_a5 pedit_a4 pedit_a3 pedit_a2 pedit_a1 pedit_a0
 unfold editS at hp
 refine⟨hsz,IFB.mk (λhb=> ?_) (λhb=> ?_)⟩
 ·have hb:checkS l≠0:=by simpa using hb
  rw[if_pos hb] at hp;exact hp
 have hb:checkS l=0:=by simpa using hb
 rw[if_neg (by rw[hb];exact λh=>h rfl)] at hp
 obtain⟨h60,hreg⟩:=checkS_0.1 hb
 refine (λh=>⟨⟨h,h⟩,h⟩:∀{A:Prop},A->(A/\A)/\A) ?_
 intro _ _
 refine IFB.mk (λhk=> ?_) (λhk=>⟨⟨hl,λp hp=>⟨(regP_days hreg p hp).1,(hsz.all p hp).days⟩⟩,?_⟩)
 ·rw[Bool.not_eq_true'] at hk
  have hk:¬(e.3=1\/e.3=2\/e.3=3\/e.3=4\/e.3=5):=λh=>by rw[kind_iff.2 h] at hk;cases hk
  rw[if_pos (by show e.3<1\/5<e.3;omega)] at hp
  exact hp
 rw[Bool.not_eq_false'] at hk
 have hk:=kind_iff.1 hk
 rw[if_neg (by show ¬(e.3<1\/5<e.3);omega)] at hp
 refine IFB.mk (λhd=> ?_) (λhd=> ?_)
 ·rw[if_pos (by simpa using hd)] at hp;exact hp
 rw[if_neg (by simpa using hd)] at hp
 have hfit:=fits_iff hk
 generalize (decide ((e.4.length:Int)<if e.3=(1:Int) then (0:Int) else if e.3=(2:Int) then (1:Int) else if e.3=(3:Int) then (1:Int) else if e.3=(4:Int) then (2:Int) else if e.3=(5:Int) then (1:Int) else (0:Int))||decide ((if e.3=(1:Int) then (0:Int) else if e.3=(2:Int) then (1:Int) else if e.3=(3:Int) then (1:Int) else if e.3=(4:Int) then (8:Int) else if e.3=(5:Int) then (1:Int) else (0:Int))<(e.4.length:Int))||decide ((e.5.length:Int)<if e.3=(1:Int) then (1:Int) else if e.3=(2:Int) then (1:Int) else if e.3=(3:Int) then (2:Int) else if e.3=(4:Int) then (0:Int) else if e.3=(5:Int) then (0:Int) else (0:Int))||decide ((if e.3=(1:Int) then (1:Int) else if e.3=(2:Int) then (1:Int) else if e.3=(3:Int) then (8:Int) else if e.3=(4:Int) then (0:Int) else if e.3=(5:Int) then (0:Int) else (0:Int))<(e.5.length:Int)))=c at hfit
 refine JOIN.opq λ(J:Bool->Prop) hJ=> ?_
 have main:∀y:Bool,(c=false->(y=true↔asc e.4))->J y:=λy hy=>by
  rw[hJ]
  refine IFB.mk (λhc=> ?_) (λhc=> ?_)
  ·rw[if_pos (λh=> ?_)] at hp
   ·exact hp
   ·have hc0:=hfit.2 h.1
    rw[hc0,(hy hc0).2 h.2] at hc
    cases hc
  obtain⟨hc0,hy0⟩:=Bool.or_eq_false_iff.1 hc
  have hyt:y=true:=by simpa using hy0
  rw[if_neg (λh=>h ⟨hfit.1 hc0,(hy hc0).1 hyt⟩)] at hp
  refine JOIN.opq λ(J9:Int->Prop) hJ9 _=> ?_
  refine loopCmp (n:=e.4.length) (by omega) (p:=λi=>openP l (ix e.4 (i:Int))) (λrec k hk _ hrec=>⟨by omega,hl,λv hv=>IFB.mk (λhb=> ?_) (λhb=>hrec (hv.1 (by simpa using hb)))⟩) λhall=> ?_
  ·have hv0:v=false:=by simpa using hb
   rw[hJ9]
   refine IFB.yes (decide_eq_true (by omega)) ?_
   rw[if_pos (λh=> ?_)] at hp
   ·exact hp
   ·have:=hv.2 (h _ (ix_mem (l:=e.4) (i:=(k:Int)) (by omega) (by omega)))
    rw[hv0] at this;cases this
  ·rw[hJ9]
   refine IFB.no rfl ?_
   rw[if_neg (λh=>h λx hx=>by obtain⟨i,hi,rfl⟩:=ix_ex hx;exact hall i hi)] at hp
   refine JOIN.opq λ(J5:Int->Prop) hJ5 _=> ?_
   refine loopCmp (n:=e.5.length) (by omega) (p:=λi=>propR (ix e.5 (i:Int))) (λrec k hk _ hrec=>⟨by omega,?_,λv hv=>IFB.mk (λhb=> ?_) (λhb=>hrec (hv.1 (by simpa using hb)))⟩) λhall=> ?_
   ·have:=hse.rect _ (ix_mem (l:=e.5) (i:=(k:Int)) (by omega) (by omega));omega
   ·have hv0:v=false:=by simpa using hb
    rw[hJ5]
    refine IFB.yes (decide_eq_true (by omega)) ?_
    rw[if_pos (λh=> ?_)] at hp
    ·exact hp
    ·have:=hv.2 (h _ (ix_mem (l:=e.5) (i:=(k:Int)) (by omega) (by omega)))
     rw[hv0] at this;cases this
   ·rw[hJ5]
    refine IFB.no rfl ?_
    rw[if_neg (λh=>h λx hx=>by obtain⟨i,hi,rfl⟩:=ix_ex hx;exact hall i hi)] at hp
    exact hp
 refine IFB.mk (λhg=>⟨by omega,λv hv=>main v λ_=>hv⟩) (λhg=>main false λh=> ?_)
 rw[h] at hg;cases hg
end RE
end Go.Proofs.YtpeggkeenboacaaGreat
namespace Go.Proofs.YtpeggkeenboacaaGreat
namespace RE
open Go.RowKit
open PL
theorem editS_0 {l:List Pc}{e:Ed}:editS l e=0↔checkS l=0/\(1<=e.Kind/\e.Kind<=5)/\(dayS l<=e.Day/\e.Day<=36864)/\(fitsP e/\asc e.Parcels)/\(∀k∈e.Parcels,openP l k)/\∀a∈e.Regions,propR a:=by
 unfold editS
 split
 ·rename_i h;exact⟨λh2=>absurd h2 h,λh2=>absurd h2.1 h⟩
 rename_i h1
 have h1:checkS l=0:=Classical.byContradiction h1
 split
 ·rename_i h;exact⟨λh2=>(by cases h2),λh2=>by omega⟩
 rename_i h2
 split
 ·rename_i h;exact⟨λh2=>(by cases h2),λh2=>by omega⟩
 rename_i h3
 split
 ·rename_i h;exact⟨λh2=>(by cases h2),λh2=>absurd h2.2.2.2.1 h⟩
 rename_i h4
 split
 ·rename_i h;exact⟨λh2=>(by cases h2),λh2=>absurd h2.2.2.2.2.1 h⟩
 rename_i h5
 split
 ·rename_i h;exact⟨λh2=>(by cases h2),λh2=>absurd h2.2.2.2.2.2 h⟩
 rename_i h6
 exact⟨λ_=>⟨h1,by omega,by omega,Classical.byContradiction h4,Classical.byContradiction h5,Classical.byContradiction h6⟩,λ_=>rfl⟩
theorem meets_in {l:List Pc}{a:Rn}{but:Int}(hl:l.length<=1000000)(hr:∀p∈l,0<p.6.length/\p.6.length<=1000000){J:Int->Prop}(hy:∀z:Int,0<=z->hitP l a but->J z)(hn:¬hitP l a but->J (-1)):
 LOOP [Ty.int IntKind.i64] (λ(rec14:Int->Prop) (z15:Int)=>IFB (decide (z15<(l.length:Int))) (((0:Int)<=z15/\z15<(l.length:Int))/\JOIN [Ty.bool] (λ(y16:Bool)=>IFB y16 (J z15) (rec14 (IntKind.i64.wrap (z15+(1:Int))))) λ(J17:Bool->Prop)=>JOIN [Ty.st Sn.api_Region] (λ(y18:api_Region)=>JOIN [Ty.bool] (λ(y19:Bool)=>J17 (decide ((ix l z15).3=(36865:Int))&& !decide ((ix l z15).1=but)&&y19)) λ(J20:Bool->Prop)=>IFB (gx true (decide ((ix l z15).3=(36865:Int))&& !decide ((ix l z15).1=but))) (∀(v21:Bool),(v21=true↔meetP a.1 y18.1)->J20 v21) (J20 false)) λ(J22:api_Region->Prop)=>IFB (gx true (decide ((ix l z15).3=(36865:Int))&& !decide ((ix l z15).1=but))) (((ix l z15).6.length:Int)<=(9223372036854775807:Int)->((0:Int)<=IntKind.i64.wrap (((ix l z15).6.length:Int)-(1:Int))/\IntKind.i64.wrap (((ix l z15).6.length:Int)-(1:Int))<((ix l z15).6.length:Int))/\J22 {Rects:=(ix (ix l z15).6 (IntKind.i64.wrap (((ix l z15).6.length:Int)-(1:Int)))).1:api_Region}) (J22 (dflt (Ty.st Sn.api_Region),()).fst)) (J (-1:Int))) ((0:Int),PUnit.unit):=by
 refine loopCmp (n:=l.length) (by omega) (p:=λi=>¬((ix l (i:Int)).3=36865/\(ix l (i:Int)).1≠but/\meetP a.1 (nowR (ix l (i:Int))).1)) (λrec k hk _ hrec=>⟨by omega,?_⟩) λhall=>hn ?_
 ·have hm:=ix_mem (l:=l) (i:=(k:Int)) (by omega) (by omega)
  obtain⟨x1,x2⟩:=hr _ hm
  generalize hpe:ix l (k:Int)=p at hm x1 x2 hrec ⊢
  refine JOIN.opq λ(J17:Bool->Prop) hJ17=>JOIN.opq λ(J22:api_Region->Prop) hJ22=> ?_
  have k17:∀c:Bool,(c=true↔(p.3=36865/\p.1≠but/\meetP a.1 (nowR p).1))->J17 c:=λc hc=>by
   rw[hJ17]
   exact IFB.mk (λh=>hy _ (by omega) ⟨p,hm,hc.1 h⟩) (λh=>hrec λh2=>by rw[hc.2 h2] at h;cases h)
  refine IFB.mk (λhg _=>⟨by rw[wrap_in (by omega) (by omega)];omega,?_⟩) (λhg=> ?_)
  ·rw[hJ22]
   refine JOIN.opq λ(J20:Bool->Prop) hJ20=>IFB.mk (λhg2 v hv=> ?_) (λhg2=>by rw[hg] at hg2;cases hg2)
   rw[hJ20]
   rw[gx_t] at hg
   have hg1:p.3=36865/\p.1≠but:=by simpa using hg
   refine k17 _ ?_
   rw[hg,Bool.true_and,hv,wrap_in (by omega) (by omega)]
   exact⟨λh=>⟨hg1.1,hg1.2,h⟩,λh=>h.2.2⟩
  ·rw[hJ22]
   refine JOIN.opq λ(J20:Bool->Prop) hJ20=>IFB.mk (λhg2 v hv=>by rw[hg] at hg2;cases hg2) (λhg2=> ?_)
   rw[hJ20]
   refine k17 _ ?_
   rw[Bool.and_false]
   refine⟨λh=>(by cases h),λh=> ?_⟩
   rw[gx_t] at hg
   have:(decide (p.3=(36865:Int))&& !decide (p.1=but))=true:=by simp[h.1,h.2.1]
   rw[this] at hg;cases hg
 ·rintro ⟨p,hp,h1,h2,h3⟩
  obtain⟨i,hi,rfl⟩:=ix_ex hp
  exact hall i hi ⟨h1,h2,h3⟩
theorem open_ix {l:List Pc}{k:Int}(hl:l.length<=1000000)(h:openP l k):IntKind.i64.wrap (k-1)=k-1/\0<=k-1/\k-1<(l.length:Int):=by
 obtain⟨h1,h2,_⟩:=h
 exact⟨wrap_in (by omega) (by omega),by omega,by omega⟩
def papp5_P (l:List (api_Parcel))(e:api_Edit)(post:List (api_Parcel)->Int->Prop):Prop:=(szL l/\szE e/\e.Kind=5)/\post (applyS l e).1 (applyS l e).2
def papp5_sp:Spec:=⟨20,false,true,[.sl (.st .api_Parcel),.st .api_Edit],.tup [.dat (.sl (.st .api_Parcel)),.dat (.int .i64)],λx post=>papp5_P (x.1:List (api_Parcel)) (x.2.1:api_Edit) (λy0 y1=>post (y0,y1,()))⟩
def papp5_C:CtxR:=⟨tau,[rule1 pedit_sp,rule1 pallO_sp,ruleMap 77 false Forms.es],lookJ [(0,1000005,⟨[(8,.dat (.int .i64))],[],[21,22,23,24,25,26,27,28],[],[(1,50,(.st .api_Parcel))]⟩)]⟩
def papp5_W (l:List (api_Parcel))(day:Int)(known:Int)(ps:List (Int))(rs:List (api_Region))(post:List (api_Parcel)->Int->Prop):Prop:=(szL l/\szE (⟨day,known,(5:Int),ps,rs⟩:api_Edit))/\IFB (!decide (editS l (⟨day,known,(5:Int),ps,rs⟩:api_Edit)=0)) (szL l/\post l (editS l (⟨day,known,(5:Int),ps,rs⟩:api_Edit))) (szL l/\JOIN [Ty.int IntKind.i64,(Ty.st Sn.api_Parcel).sl] (λ(y1:Int) (y2:List api_Parcel)=>IFB (!decide (y1=0)) (szL l/\post l y1) (post y2 0)) λ(J3:Int->List api_Parcel->Prop)=>(Int.NonNeg 0/\0<(↑ps.length:Int))/\((0:Int)<=IntKind.i64.wrap (ix ps 0-1)/\IntKind.i64.wrap (ix ps 0-1)<(↑l.length:Int))/\J3 (0:Int) (l.set (IntKind.i64.wrap (ix ps 0-1)).toNat (⟨(ix l (IntKind.i64.wrap (ix ps 0-1))).1,(ix l (IntKind.i64.wrap (ix ps 0-1))).2,day,(ix l (IntKind.i64.wrap (ix ps 0-1))).4,(ix l (IntKind.i64.wrap (ix ps 0-1))).5,(ix l (IntKind.i64.wrap (ix ps 0-1))).6⟩:api_Parcel)))
theorem papp5_w (l:List (api_Parcel))(day:Int)(known:Int)(ps:List (Int))(rs:List (api_Region))(post:dens (shT papp5_sp.rs [])->Prop):papp5_W l day known ps rs (λy0 y1=>post (y0,y1,()))=walkG (callR Tryz.prog papp5_C (drawF Tryz.prog tau) 12 0) 20 false [tv (.sl (.st .api_Parcel)) (l),tv (.st .api_Edit) (⟨day,known,5,ps,rs⟩)] papp5_sp.rs post:=by kernel_rfl
theorem papp5_of (h:∀x (post:dens (shT papp5_sp.rs [])->Prop),papp5_sp.pt x post->HoldW (walkG (callR Tryz.prog papp5_C (drawF Tryz.prog tau) 12 0) papp5_sp.f papp5_sp.tp (tvs papp5_sp.ts x) papp5_sp.rs post)):SpecOK Tryz.prog papp5_sp:=SpecOK.of_rules (C:=papp5_C) (dr:=drawF Tryz.prog tau) (n:=12) (fk:=0) (.cons (rule1_ok pedit_ok) (.cons (rule1_ok pallO_ok) (.cons (ruleMap_ok Forms.forms_mk) .nil))) (drawF_ok tau) h
theorem papp5_h (l:List api_Parcel)(day known:Int)(ps:List Int)(rs:List api_Region)(post:List api_Parcel->Int->Prop)(hsz:szL l)(hse:szE ⟨day,known,5,ps,rs⟩)(hp:post (applyS l ⟨day,known,5,ps,rs⟩).1 (applyS l ⟨day,known,5,ps,rs⟩).2):papp5_W l day known ps rs post:=by
 unfold papp5_W
 refine⟨⟨hsz,hse⟩,IFB.mk (λhb=>⟨hsz,?_⟩) (λhb=>⟨hsz,?_⟩)⟩
 ·have hb:editS l ⟨day,known,5,ps,rs⟩≠0:=by simpa using hb
  unfold applyS at hp
  rw[if_pos hb] at hp;exact hp
 have hb:editS l ⟨day,known,5,ps,rs⟩=0:=by simpa using hb
 unfold applyS at hp
 rw[if_neg (λh=>h hb),if_neg (by decide:¬(5:Int)=1),if_neg (by decide:¬(5:Int)=2),if_neg (by decide:¬(5:Int)=3),if_neg (by decide:¬(5:Int)=4)] at hp
 obtain⟨e1,e2,e3,⟨e4,e5⟩,e6,e7⟩:=editS_0.1 hb
 have hps:ps.length=1:=by
  unfold fitsP at e4
  dsimp only at e4
  omega
 obtain⟨k,rfl⟩:∃k,ps=[k]:=List.length_eq_one_iff.1 hps
 have ho:=e6 k (by simp)
 obtain⟨w1,w2,w3⟩:=open_ix hsz.len ho
 have hk0:ix [k] 0=k:=rfl
 refine JOIN.opq λ(J:Int->List api_Parcel->Prop) hJ=>⟨⟨Int.NonNeg.mk 0,by simp⟩,?_⟩
 rw[hk0,w1]
 refine⟨⟨w2,w3⟩,?_⟩
 rw[hJ]
 exact IFB.no rfl hp
theorem papp5_ok:SpecOK Tryz.prog papp5_sp:=papp5_of λx post hp=>by
 obtain⟨l,e,u⟩:=x
 obtain⟨day,known,kind,ps,rs⟩:=e
 obtain⟨⟨hsz,hse,hk⟩,hp⟩:=hp
 have hk:kind=5:=hk
 subst hk
 exact HoldW.of (papp5_w l day known ps rs post) (papp5_h l day known ps rs (λy0 y1=>post (y0,y1,())) hsz hse hp)
def papp1_P (l:List (api_Parcel))(e:api_Edit)(post:List (api_Parcel)->Int->Prop):Prop:=(szL l/\szE e/\e.Kind=1)/\post (applyS l e).1 (applyS l e).2
def papp1_sp:Spec:=⟨20,false,true,[.sl (.st .api_Parcel),.st .api_Edit],.tup [.dat (.sl (.st .api_Parcel)),.dat (.int .i64)],λx post=>papp1_P (x.1:List (api_Parcel)) (x.2.1:api_Edit) (λy0 y1=>post (y0,y1,()))⟩
def papp1_C:CtxR:=⟨tau,[rule1 pedit_sp,rule1 pallO_sp,ruleMap 77 false Forms.es,rule1 pclI_sp,rule1 pcpy_sp,rule1 pmts_sp],lookJ [(0,1000005,⟨[(8,.dat (.int .i64))],[(2,[.own 50 (.st .api_Parcel)])],[21,22,23,24,25,26,27,28],[1],[]⟩),(5113,0,⟨[(0,.dat (.int .i64))],[(2,[.own 50 (.st .api_Parcel)])],[],[1],[]⟩),(5330003904,0,⟨[(0,.dat (.int .i64))],[(2,[.own 50 (.st .api_Parcel)])],[],[1],[]⟩),(5330003904,1000003,⟨[],[(2,[.own 50 (.st .api_Parcel)])],(List.range' 15 24),[1],[]⟩),(5792023682335624162591,0,⟨[(0,.dat (.int .i64))],[],[],[],[]⟩),(5792023682335624162591,5,⟨[(8,.dat (.int .i64))],[],(List.range' 9 8++[5,18]),[],[]⟩),(6037842959437630387675528721,1000001,⟨[(4,.dat .bool)],[],(List.range' 5 15),[],[]⟩)]⟩
abbrev papp1_a0 (l:List (api_Parcel))(day:Int)(rs:List (api_Region)):={Number:=IntKind.i64.wrap ((↑l.length:Int)+(1:Int)),From:=day,Until:=(36865:Int),Parents:=[],Days:=[day],Regions:=[{Rects:=(ix rs (0:Int)).1:api_Region}]:api_Parcel}
def papp1_W (l:List (api_Parcel))(day:Int)(known:Int)(ps:List (Int))(rs:List (api_Region))(post:List (api_Parcel)->Int->Prop):Prop:=(szL l/\szE (⟨day,known,(1:Int),ps,rs⟩:api_Edit))/\IFB (!decide (editS l (⟨day,known,(1:Int),ps,rs⟩:api_Edit)=0)) (szL l/\post l (editS l (⟨day,known,(1:Int),ps,rs⟩:api_Edit))) (szL l/\JOIN [Ty.int IntKind.i64,(Ty.st Sn.api_Parcel).sl] (λ(y1:Int) (y2:List api_Parcel)=>IFB (!decide (y1=0)) (szL l/\post l y1) (post y2 0)) λ(J3:Int->List api_Parcel->Prop)=>JOIN [Ty.int IntKind.i64,(Ty.st Sn.api_Parcel).sl] (λ(y4:Int) (y5:List api_Parcel)=>J3 y4 y5) λ(J6:Int->List api_Parcel->Prop)=>(Int.NonNeg 0/\0<(↑rs.length:Int))/\JOIN [Ty.int IntKind.i64] (λ(y7:Int)=>IFB (decide ((0:Int)<=y7)) (J6 (11:Int) l) ((Int.NonNeg 0/\0<(↑rs.length:Int))/\JOIN [Ty.int IntKind.i64,(Ty.st Sn.api_Parcel).sl] (λ(y8:Int) (y9:List api_Parcel)=>J6 y8 y9) λ(J10:Int->List api_Parcel->Prop)=>(↑l.length:Int)<=9223372036854775807->IFB (decide ((↑l.length:Int)=60)) (J10 (1:Int) l) (JOIN [(Ty.st Sn.api_Parcel).sl] (λ(y11:List api_Parcel)=>J10 (0:Int) y11) λ(J12:List api_Parcel->Prop)=>(↑l.length:Int)<=9223372036854775807->(Nat.le ((0:Nat)) ((4000000:Nat))/\((ix rs 0).1.length<=4000000/\(l.length+[(papp1_a0 l day rs)].length) * (96:Nat)<=140737488355328/\J12 (l++[(papp1_a0 l day rs)]))/\(ix rs 0).1.length<=4000000/\((l.length+[(papp1_a0 l day rs)].length) * (96:Nat)<=140737488355328/\J12 (l++[(papp1_a0 l day rs)]))/\(l.length+[(papp1_a0 l day rs)].length) * (96:Nat)<=140737488355328/\J12 (l++[(papp1_a0 l day rs)]))/\Nat.le ((0:Nat)) ((4000000:Nat))/\(ix rs 0).1.length<=4000000/\(l.length+[(papp1_a0 l day rs)].length) * (96:Nat)<=140737488355328/\J12 (l++[(papp1_a0 l day rs)])))) λ(J13:Int->Prop)=>(↑l.length:Int)<=9223372036854775807->LOOP [Ty.int IntKind.i64] (λ(rec14:Int->Prop) (z15:Int)=>IFB (decide (z15<(↑l.length:Int))) (((0:Int)<=z15/\z15<(↑l.length:Int))/\JOIN [Ty.bool] (λ(y16:Bool)=>IFB y16 (J13 z15) (rec14 (IntKind.i64.wrap (z15+1)))) λ(J17:Bool->Prop)=>JOIN [Ty.st Sn.api_Region] (λ(y18:api_Region)=>JOIN [Ty.bool] (λ(y19:Bool)=>J17 (decide ((ix l z15).3=36865)&& !decide ((ix l z15).1=0)&&y19)) λ(J20:Bool->Prop)=>IFB (gx true (decide ((ix l z15).3=36865)&& !decide ((ix l z15).1=0))) (∀(v21:Bool),(v21=true↔meetP (ix rs 0).1 y18.1)->J20 v21) (J20 false)) λ(J22:api_Region->Prop)=>IFB (gx true (decide ((ix l z15).3=36865)&& !decide ((ix l z15).1=0))) ((↑(ix l z15).6.length:Int)<=9223372036854775807->((0:Int)<=IntKind.i64.wrap ((↑(ix l z15).6.length:Int)-1)/\IntKind.i64.wrap ((↑(ix l z15).6.length:Int)-1)<(↑(ix l z15).6.length:Int))/\J22 {Rects:=(ix (ix l z15).6 (IntKind.i64.wrap ((↑(ix l z15).6.length:Int)-1))).1:api_Region}) (J22 (dflt (Ty.st Sn.api_Region),()).fst)) (J13 (-1:Int))) ((0:Int),PUnit.unit))
theorem papp1_w (l:List (api_Parcel))(day:Int)(known:Int)(ps:List (Int))(rs:List (api_Region))(post:dens (shT papp1_sp.rs [])->Prop):papp1_W l day known ps rs (λy0 y1=>post (y0,y1,()))=walkG (callR Tryz.prog papp1_C (drawF Tryz.prog tau) 12 0) 20 false [tv (.sl (.st .api_Parcel)) (l),tv (.st .api_Edit) (⟨day,known,1,ps,rs⟩)] papp1_sp.rs post:=by kernel_rfl
theorem papp1_of (h:∀x (post:dens (shT papp1_sp.rs [])->Prop),papp1_sp.pt x post->HoldW (walkG (callR Tryz.prog papp1_C (drawF Tryz.prog tau) 12 0) papp1_sp.f papp1_sp.tp (tvs papp1_sp.ts x) papp1_sp.rs post)):SpecOK Tryz.prog papp1_sp:=SpecOK.of_rules (C:=papp1_C) (dr:=drawF Tryz.prog tau) (n:=12) (fk:=0) (.cons (rule1_ok pedit_ok) (.cons (rule1_ok pallO_ok) (.cons (ruleMap_ok Forms.forms_mk) (.cons (rule1_ok pclI_ok) (.cons (rule1_ok pcpy_ok) (.cons (rule1_ok pmts_ok) .nil)))))) (drawF_ok tau) h
theorem papp1_h (l:List api_Parcel)(day known:Int)(ps:List Int)(rs:List api_Region)(post:List api_Parcel->Int->Prop)(hsz:szL l)(hse:szE ⟨day,known,1,ps,rs⟩)(hp:post (applyS l ⟨day,known,1,ps,rs⟩).1 (applyS l ⟨day,known,1,ps,rs⟩).2):papp1_W l day known ps rs post:=by
 unfold papp1_W papp1_a0
 refine⟨⟨hsz,hse⟩,IFB.mk (λhb=>⟨hsz,?_⟩) (λhb=>⟨hsz,?_⟩)⟩
 ·have hb:editS l ⟨day,known,1,ps,rs⟩≠0:=by simpa using hb
  unfold applyS at hp
  rw[if_pos hb] at hp;exact hp
 have hb:editS l ⟨day,known,1,ps,rs⟩=0:=by simpa using hb
 unfold applyS at hp
 rw[if_neg (λh=>h hb),if_pos rfl] at hp
 obtain⟨e1,e2,e3,⟨e4,e5⟩,e6,e7⟩:=editS_0.1 hb
 have hrs:rs.length=1:=by
  unfold fitsP at e4
  dsimp only at e4
  omega
 obtain⟨a,rfl⟩:∃a,rs=[a]:=List.length_eq_one_iff.1 hrs
 obtain⟨h60,hreg⟩:=checkS_0.1 e1
 have hl:=hsz.len
 have ha:a.1.length<=1000000:=hse.rect a (by simp)
 have hk0:ix [a] 0=a:=rfl
 have hz:Int.NonNeg (0:Int):=Int.NonNeg.mk 0
 have h01:Int.NonNeg (0:Int)/\(0:Int)<(([a]:List api_Region).length:Int):=⟨hz,by simp⟩
 dsimp only at hp
 rw[hk0] at hp
 refine JOIN.opq λ(J3:Int->List api_Parcel->Prop) hJ3=>JOIN.opq λ(J6:Int->List api_Parcel->Prop) hJ6=>⟨h01,JOIN.opq λ(J13:Int->Prop) hJ13 _=> ?_⟩
 rw[hk0] at hJ13 ⊢
 have hr:∀p∈l,0<p.6.length/\p.6.length<=1000000:=λp hp=>⟨by have:=regP_days hreg p hp;omega,(hsz.all p hp).regs⟩
 refine meets_in (a:=a) (but:=0) hl hr (λz h0 hh=> ?_) (λhh=> ?_)
 ·rw[if_pos hh] at hp
  rw[hJ13]
  refine IFB.yes (decide_eq_true h0) ?_
  rw[hJ6,hJ3]
  exact IFB.yes rfl ⟨hsz,hp⟩
 ·rw[if_neg hh] at hp
  rw[hJ13]
  refine IFB.no rfl ⟨h01,JOIN.opq λ(J10:Int->List api_Parcel->Prop) hJ10 _=>IFB.mk (λhc=> ?_) (λhc=>JOIN.opq λ(J12:List api_Parcel->Prop) hJ12 _=> ?_)⟩
  ·have hc:(l.length:Int)=60:=of_decide_eq_true hc
   rw[if_pos (by omega)] at hp
   rw[hJ10,hJ6,hJ3]
   exact IFB.yes rfl ⟨hsz,hp⟩
  ·have hc:¬(l.length:Int)=60:=of_decide_eq_false hc
   rw[if_neg (by omega)] at hp
   have hw:IntKind.i64.wrap ((l.length:Int)+1)=(l.length:Int)+1:=wrap_in (by omega) (by omega)
   rw[hw]
   have hJ:J12 (l++[{Number:=(l.length:Int)+(1:Int),From:=day,Until:=(36865:Int),Parents:=[],Days:=[day],Regions:=[{Rects:=a.1:api_Region}]:api_Parcel}]):=by
    rw[hJ12,hJ10,hJ6,hJ3]
    exact IFB.no rfl hp
   have hA:a.1.length<=4000000:=by omega
   have hB:(l.length+[{Number:=(l.length:Int)+(1:Int),From:=day,Until:=(36865:Int),Parents:=[],Days:=[day],Regions:=[{Rects:=a.1:api_Region}]:api_Parcel}].length) * 96<=140737488355328:=by
    simp only[List.length_cons,List.length_nil];omega
   repeat' (first|exact hA|exact hB|exact hJ|exact Nat.zero_le _|with_reducible apply And.intro)
theorem papp1_ok:SpecOK Tryz.prog papp1_sp:=papp1_of λx post hp=>by
 obtain⟨l,e,u⟩:=x
 obtain⟨day,known,kind,ps,rs⟩:=e
 obtain⟨⟨hsz,hse,hk⟩,hp⟩:=hp
 have hk:kind=1:=hk
 subst hk
 exact HoldW.of (papp1_w l day known ps rs post) (papp1_h l day known ps rs (λy0 y1=>post (y0,y1,())) hsz hse hp)
end RE
end Go.Proofs.YtpeggkeenboacaaGreat
set_option linter.unusedVariables false
namespace Go.Proofs.YtpeggkeenboacaaGreat
open Go.RowKit
namespace RE
open PL
namespace PL
def cnt1 (f:Int->Bool):Nat->Int
 |0=>0
 |n+1=>cnt1 f n+(if f (n:Int)=true then 1 else 0)
def cnt2 (f:Int->Int->Bool)(n:Nat):Nat->Int
 |0=>0
 |m+1=>cnt2 f n m+cnt1 (λx=>f x (m:Int)) n
def cntS (f:Int->Int->Bool):Int:=cnt2 f 16384 16384
def disjR (r s:Rc):Prop:=∀x y,¬(hit r x y=true/\hit s x y=true)
end PL
theorem cnt1_congr {f g:Int->Bool}:∀{n:Nat},(∀x,f x=g x)->cnt1 f n=cnt1 g n
 |0,_=>rfl
 |n+1,h=>by unfold cnt1;rw[cnt1_congr h,h]
theorem cnt1_false:∀{n:Nat},cnt1 (λ_=>false) n=0
 |0=>rfl
 |n+1=>by unfold cnt1;rw[cnt1_false];rfl
theorem cnt1_or {f g:Int->Bool}(h:∀x,¬(f x=true/\g x=true)):∀{n:Nat},cnt1 (λx=>f x||g x) n=cnt1 f n+cnt1 g n
 |0=>rfl
 |n+1=>by
  unfold cnt1
  rw[cnt1_or h]
  have:=h (n:Int)
  cases hf:f (n:Int)<;>cases hg:g (n:Int)
  ·simp
  ·simp;omega
  ·simp;omega
  ·exact absurd ⟨hf,hg⟩ this
theorem cnt1_iv {a b:Int}(h0:0<=a)(hab:a<=b):∀{n:Nat},cnt1 (λx=>decide (a<=x)&&decide (x<b)) n=max 0 (min (n:Int) b-a)
 |0=>by unfold cnt1;omega
 |n+1=>by
  unfold cnt1
  rw[cnt1_iv h0 hab]
  by_cases h1:a<=(n:Int)
  ·by_cases h2:(n:Int)<b
   ·rw[if_pos (by simp[h1,h2])];omega
   ·rw[if_neg (by simp[h2])];omega
  ·rw[if_neg (by simp[h1])];omega
theorem cnt1_nn {f:Int->Bool}:∀{n:Nat},0<=cnt1 f n
 |0=>Int.le_refl _
 |n+1=>by
  have:=cnt1_nn (f:=f) (n:=n)
  unfold cnt1
  split<;>omega
theorem cnt1_if {f:Int->Bool}{b:Bool}{n:Nat}:cnt1 (λx=>f x&&b) n=if b=true then cnt1 f n else 0:=by
 cases b with
 |true=>rw[if_pos rfl];exact cnt1_congr λx=>by rw[Bool.and_true]
 |false=>rw[if_neg (by simp)];rw[cnt1_congr (g:=λ_=>false) λx=>by rw[Bool.and_false]];exact cnt1_false
theorem cnt2_congr {f g:Int->Int->Bool}{n:Nat}:∀{m:Nat},(∀x y,f x y=g x y)->cnt2 f n m=cnt2 g n m
 |0,_=>rfl
 |m+1,h=>by unfold cnt2;rw[cnt2_congr h,cnt1_congr (λx=>h x _)]
theorem cnt2_false {n:Nat}:∀{m:Nat},cnt2 (λ_ _=>false) n m=0
 |0=>rfl
 |m+1=>by unfold cnt2;rw[cnt2_false,cnt1_false];rfl
theorem cnt2_or {f g:Int->Int->Bool}(h:∀x y,¬(f x y=true/\g x y=true)){n:Nat}:∀{m:Nat},cnt2 (λx y=>f x y||g x y) n m=cnt2 f n m+cnt2 g n m
 |0=>rfl
 |m+1=>by
  unfold cnt2
  rw[cnt2_or h,cnt1_or (f:=λx=>f x (m:Int)) (g:=λx=>g x (m:Int)) (λx=>h x _)]
  omega
theorem cnt2_nn {f:Int->Int->Bool}{n:Nat}:∀{m:Nat},0<=cnt2 f n m
 |0=>Int.le_refl _
 |m+1=>by
  have:=cnt2_nn (f:=f) (n:=n) (m:=m)
  have:=cnt1_nn (f:=λx=>f x (m:Int)) (n:=n)
  unfold cnt2;omega
theorem cnt2_prod {p q:Int->Bool}{n:Nat}:∀{m:Nat},cnt2 (λx y=>p x&&q y) n m=cnt1 p n * cnt1 q m
 |0=>by unfold cnt2 cnt1;simp
 |m+1=>by
  show cnt2 (λx y=>p x&&q y) n m+cnt1 (λx=>p x&&q (m:Int)) n=cnt1 p n * (cnt1 q m+(if q (m:Int)=true then 1 else 0))
  rw[cnt2_prod,cnt1_if,Int.mul_add]
  split<;>simp
theorem cnt_rect {r:Rc}(h:proper r):cntS (hit r)=sizeR r:=by
 obtain⟨p1,p2,p3,p4,p5,p6⟩:=h
 unfold cntS
 rw[cnt2_congr (g:=λx y=>(decide (r.Left<=x)&&decide (x<r.Right))&&(decide (r.Low<=y)&&decide (y<r.High))) (λx y=>by unfold hit;rw[Bool.and_assoc]),cnt2_prod,cnt1_iv p1 (Int.le_of_lt p2),cnt1_iv p4 (Int.le_of_lt p5)]
 unfold sizeR
 rw[show max 0 (min ((16384:Nat):Int) r.Right-r.Left)=r.Right-r.Left by omega,show max 0 (min ((16384:Nat):Int) r.High-r.Low)=r.High-r.Low by omega]
theorem sizeS_acc {l:List Rc}:∀{n:Int},l.foldl (λn r=>n+sizeR r) n=n+sizeS l:=by
 induction l with
 |nil=>intro n;unfold sizeS;simp
 |cons r l ih=>
  intro n
  unfold sizeS
  rw[List.foldl_cons,List.foldl_cons,ih,ih];omega
theorem sizeS_cons {r:Rc}{l:List Rc}:sizeS (r::l)=sizeR r+sizeS l:=by
 conv=>lhs;unfold sizeS
 rw[List.foldl_cons,sizeS_acc];omega
theorem cov_app {a b:List Rc}{x y:Int}:cov (a++b) x y=(cov a x y||cov b x y):=by unfold cov;rw[List.any_append]
theorem cov_mem {l:List Rc}{x y:Int}:cov l x y=true↔∃r∈l,hit r x y=true:=by unfold cov;rw[List.any_eq_true]
theorem cnt_list:∀{l:List Rc},(∀r∈l,proper r)->l.Pairwise disjR->cntS (cov l)=sizeS l
 |[],_,_=>by unfold cntS;rw[cnt2_congr (f:=cov []) (g:=λ_ _=>false) λx y=>rfl,cnt2_false];rfl
 |r::l,hp,hd=>by
  rw[List.pairwise_cons] at hd
  have ih:=cnt_list (l:=l) (λs hs=>hp s (by simp[hs])) hd.2
  unfold cntS at ih ⊢
  rw[cnt2_congr (f:=cov (r::l)) (g:=λx y=>hit r x y||cov l x y) λx y=>rfl,cnt2_or (λx y h=> ?_),ih,sizeS_cons]
  ·have:=cnt_rect (hp r (by simp))
   unfold cntS at this
   rw[this]
  ·obtain⟨s,hs,h2⟩:=cov_mem.1 h.2
   exact hd.1 s hs x y ⟨h.1,h2⟩
theorem cntS_congr {f g:Int->Int->Bool}(h:∀x y,f x y=g x y):cntS f=cntS g:=cnt2_congr h
theorem cntS_or {f g:Int->Int->Bool}(h:∀x y,¬(f x y=true/\g x y=true)):cntS (λx y=>f x y||g x y)=cntS f+cntS g:=cnt2_or h
theorem cntS_false:cntS (λ_ _=>false)=0:=cnt2_false
theorem cntS_nn {f:Int->Int->Bool}:0<=cntS f:=cnt2_nn
theorem cnt1_le {f:Int->Bool}:∀{n:Nat},cnt1 f n<=(n:Int)
 |0=>Int.le_refl _
 |n+1=>by
  have:=cnt1_le (f:=f) (n:=n)
  unfold cnt1
  split<;>omega
theorem cnt2_le {f:Int->Int->Bool}{n:Nat}:∀{m:Nat},cnt2 f n m<=(n:Int) * (m:Int)
 |0=>by unfold cnt2;simp
 |m+1=>by
  have h1:=cnt2_le (f:=f) (n:=n) (m:=m)
  have h2:=cnt1_le (f:=λx=>f x (m:Int)) (n:=n)
  unfold cnt2
  have:(n:Int) * ((m+1:Nat):Int)=(n:Int) * (m:Int)+(n:Int):=by push_cast;rw[Int.mul_add,Int.mul_one]
  omega
theorem cntS_le {f:Int->Int->Bool}:cntS f<=268435456:=cnt2_le (f:=f) (n:=16384) (m:=16384)
theorem canon_disj {l:List Rc}(h:Canon l):l.Pairwise disjR:=by
 obtain⟨bs,hb,rfl⟩:=h
 induction bs with
 |nil=>exact List.Pairwise.nil
 |cons b r ih=>
  have hs:=hb.srt
  rw[List.pairwise_cons] at hs
  have hn:=hb.ne
  rw[List.pairwise_cons] at hn
  have ih:=ih ⟨λc hc=>hb.each c (by simp[hc]),hs.2,hn.2⟩
  show (flat1 b++flat r).Pairwise disjR
  rw[List.pairwise_append]
  refine⟨?_,ih,λu hu v hv x y hxy=> ?_⟩
  ·unfold flat1
   rw[List.pairwise_map]
   have:=(hb.each b (by simp)).2.2.2
   refine this.imp λ{s t} hst x y hxy=> ?_
   obtain⟨h1,h2⟩:=hxy
   have h1:=hit_iff.1 h1
   have h2:=hit_iff.1 h2
   dsimp only at h1 h2
   omega
  ·unfold flat1 at hu
   obtain⟨s,hs1,rfl⟩:=List.mem_map.1 hu
   obtain⟨c,hc,hv⟩:=List.mem_flatMap.1 hv
   unfold flat1 at hv
   obtain⟨t,ht,rfl⟩:=List.mem_map.1 hv
   have:=hs.1 c hc
   have h1:=hit_iff.1 hxy.1
   have h2:=hit_iff.1 hxy.2
   dsimp only at h1 h2
   omega
theorem cnt_valid {l:List Rc}(h:validP l):cntS (cov l)=sizeS l:=cnt_list h.2.1 (canon_disj h.2.2)
theorem areaS_valid {a:Rn}(h:validP a.Rects):areaS a=cntS (cov a.Rects):=by
 unfold areaS
 rw[if_pos h,cnt_valid h]
theorem areaS_le {a:Rn}:0<=areaS a/\areaS a<=268435456:=by
 by_cases h:validP a.Rects
 ·rw[areaS_valid h];exact⟨cntS_nn,cntS_le⟩
 ·unfold areaS;rw[if_neg h];omega
theorem partsR_cons {a:Rn}{l:List Rn}:partsR (a::l)=a.Rects++partsR l:=rfl
theorem partsR_cov {l:List Rn}{x y:Int}:cov (partsR l) x y=true↔∃a∈l,cov a.Rects x y=true:=by
 induction l with
 |nil=>exact⟨λh=>(by cases h),λ⟨a,h,_⟩=>(by cases h)⟩
 |cons a l ih=>
  rw[partsR_cons,cov_app,Bool.or_eq_true,ih]
  constructor
  ·rintro (h|⟨b,hb,h⟩)
   ·exact⟨a,by simp,h⟩
   ·exact⟨b,by simp[hb],h⟩
  ·rintro ⟨b,hb,h⟩
   rcases List.mem_cons.1 hb with rfl|hb
   ·exact .inl h
   ·exact .inr ⟨b,hb,h⟩
theorem cnt_parts:∀{l:List Rn},(∀a∈l,validP a.Rects)->l.Pairwise (λa b=>∀x y,¬(cov a.Rects x y=true/\cov b.Rects x y=true))->cntS (cov (partsR l))=(l.map areaS).sum
 |[],_,_=>by
  show cntS (cov [])=_
  rw[cntS_congr (f:=cov []) (g:=λ_ _=>false) λx y=>rfl,cntS_false];rfl
 |a::l,hv,hd=>by
  rw[List.pairwise_cons] at hd
  have ih:=cnt_parts (l:=l) (λb hb=>hv b (by simp[hb])) hd.2
  rw[cntS_congr (f:=cov (partsR (a::l))) (g:=λx y=>cov a.Rects x y||cov (partsR l) x y) λx y=>by rw[partsR_cons,cov_app],cntS_or (λx y h=> ?_),ih,List.map_cons,List.sum_cons,areaS_valid (hv a (by simp))]
  obtain⟨b,hb,h2⟩:=partsR_cov.1 h.2
  exact hd.1 b hb x y ⟨h.1,h2⟩
theorem apart_pw {l:List Rn}(hv:∀a∈l,validP a.Rects):apartP l↔l.Pairwise (λa b=>∀x y,¬(cov a.Rects x y=true/\cov b.Rects x y=true)):=by
 rw[List.pairwise_iff_getElem]
 constructor
 ·intro h i j hi hj hij x y hxy
  refine h j i hij hj ?_
  rw[ix_lt hi,ix_lt hj]
  exact⟨hv _ (List.getElem_mem hj),hv _ (List.getElem_mem hi),x,y,hxy.2,hxy.1⟩
 ·rintro h i j hij hi ⟨_,_,x,y,h1,h2⟩
  rw[ix_lt hi] at h1
  rw[ix_lt (by omega)] at h2
  exact h j i (by omega) hi hij x y ⟨h2,h1⟩
end RE
end Go.Proofs.YtpeggkeenboacaaGreat
