/-
  Texts of the proof of TopCorrected, part GD.
-/
import Derived.Test.YtjcjdgmojkkioaaGreatDoorCGC
import Derived.WalkKit
import Derived.WalkSpells
import Derived.WalkLawsBesides
import Derived.BigQuiet
import Derived.Deep.QuietTactic
import Derived.Lib.Hide
import Derived.RegionTactic
import Derived.Test.YtjcjdgmojkkioaaGreatDoorProg
import Derived.Deep.DeepCutAuto
import Derived.Deep.CutBlock
import Derived.Deep.RegionHeld3
import Derived.StillTailTactics
import Derived.Carry
set_option linter.unusedVariables false
noncomputable section
namespace Go.Proofs.YtjcjdgmojkkioaaGreatDoor
namespace RE
open Go.RowKit
variable {P:Program}
def clo (g:FuncId):Value:= .func (.func g) #[] #[]
def SpecCOK (P:Program)(s:Spec)(cl:List Value):Prop:=∀x post,s.pt x post->∀w (S:Cells)(T:Option Nat)(us:List Value),(∀b o,S b o->b<w.heap.size)->TapeC s.tp w S T->us.length=s.ts.length->
 (∀(i:Nat)(d:D)(u:Value),(tvs s.ts x)[i]? =some d->us[i]? =some u->Rd S w d u)->
 Calls P s.f (tpArg T us++cl).toArray w λe w'=>∃v y c',e= .returned v/\post y/\OXM (MS.add ⟨[],0,s.tp⟩ (instS s.rs [] y 0).2.1) w' c'/\TrM ⟨[],0,s.tp⟩ w (cx0 S T) (MS.add ⟨[],0,s.tp⟩ (instS s.rs [] y 0).2.1) w' c'/\SRel c' w' (instS s.rs [] y 0).1 v
theorem byConC_ok {cl:List Value}{s:Spec}(hs:SpecCOK P s cl){ss:List SV}{m:MS}{k:SV->MS->Prop}(h:byCon s ss m k){us:List Value}{w:World}{c:Cx}(hox:OXM m w c)(hl:us.length=ss.length)(hr:∀(i:Nat)(x:SV)(u:Value),ss[i]? =some x->us[i]? =some u->SRel c w x u/\x.inU m.U):
 Calls P s.f (us++cl).toArray w λe w'=>∃v r m' c',e= .returned v/\k r m'/\FrM m m'/\OXM m' w' c'/\TrM m w c m' w' c'/\SRel c' w' r v/\r.inU m'.U:=by
 unfold byCon at h
 split at h
 ·exact h.elim
 ·rename_i ss' hta
  have harg:∃(us':List Value)(T0:Option Nat),us=tpArg T0 us'/\us'.length=ss'.length/\(∀(i:Nat)(x:SV)(u:Value),ss'[i]? =some x->us'[i]? =some u->SRel c w x u/\x.inU m.U)/\((s.tp=true/\T0=c.T/\m.tp=true/\∃t,c.T=some t)\/(s.tp=false/\T0=none)):=by
   cases htp:s.tp with
   |false=>
    rw[htp] at hta
    injection hta with hta
    subst hta
    exact⟨us,none,rfl,hl,hr,.inr ⟨rfl,rfl⟩⟩
   |true=>
    rw[htp] at hta
    unfold tapeArg at hta
    split at hta
    ·split at hta
     ·rename_i r
      cases hm:m.tp with
      |false=>rw[hm] at hta;cases hta
      |true=>
       rw[hm] at hta
       injection hta with hta
       subst hta
       match us,hl,hr with
       |u::us',hl,hr=>
        obtain⟨T,hT,rfl⟩:=srel_tp (hr 0 .tp u rfl rfl).1
        exact⟨us',some T,rfl,by simpa using hl,λi x u hx hu=>hr (i+1) x u hx hu,.inl ⟨rfl,hT.symm,rfl,T,hT⟩⟩
     ·cases hta
    ·rename_i he;cases he
  obtain⟨us',T0,rfl,hl',hr',hT⟩:=harg
  have hTC:∀S:Cells,(∀b o,c.S b o->S b o)->(s.tp=true->S=c.S)->TapeC s.tp w S T0:=λS hS hSe=>by
   rcases hT with⟨e1,e2,e3,t,e4⟩|⟨e1,e2⟩
   ·rw[e1]
    obtain⟨T,h1,h2⟩:=hox.tpe e3
    refine⟨T,e2.trans h1,?_,?_⟩
    ·rw[hSe e1];exact h2
    ·rw[hSe e1];exact (hox.nT T h1).2
   ·rw[e1];exact e2
  cases hal:s.al with
  |true=>
   rw[hal] at h
   simp only[cond_true] at h
   split at h
   ·rename_i ds ids hd
    split at h
    ·rename_i x hx
     cases hp:shPure s.rs with
     |false=>rw[hp] at h;exact h.elim
     |true=>
      rw[hp] at h
      simp only[cond_true] at h
      obtain⟨c1,ox1,t1,hH1,hT1⟩:=hox.freezes ids
      have ob1:MS.obs ⟨fzU m.obs ids++m.ob,m.nx,m.tp⟩=ovr m.obs (fzU m.obs ids):=lookO_app _ _
      have ox1':OXM ⟨fzU m.obs ids++m.ob,m.nx,m.tp⟩ w c1:=by show OX (MS.obs _) _ _ _ _;rw[ob1];exact ox1
      have t1':TrM m w c ⟨fzU m.obs ids++m.ob,m.nx,m.tp⟩ w c1:=by show Tr _ _ _ _ (MS.obs ⟨_,_,_⟩) _ _ _;rw[ob1];exact t1
      obtain⟨d1,d2⟩:=dataL_rel (m:=m.mem) hox ox1 t1 hH1 ss' hd (λ_ h=>h)
      obtain⟨x1,x2⟩:=undoL_rd hx
      have hTC':TapeC s.tp w c1.S T0:=by
       rcases hT with⟨e1,e2,e3,t,e4⟩|⟨e1,e2⟩
       ·rw[e1]
        obtain⟨T,h1,h2⟩:=ox1'.tpe e3
        exact⟨T,e2.trans (by rw[<-hT1];exact h1),h2,(ox1'.nT T h1).2⟩
       ·rw[e1];exact e2
      refine (hs x _ h w c1.S T0 us' ox1.sb hTC' (by omega) (λi d u hdi hu=> ?_)).mono ?_
      ·have hi:i<ds.length:=by have:=(List.getElem?_eq_some_iff.1 hdi).1;rw[tvs_len] at this;omega
       have his:i<ss'.length:=by omega
       exact x2 i d ds[i] hdi (List.getElem?_eq_getElem hi) (d2 i ss'[i] ds[i] (List.getElem?_eq_getElem his) (List.getElem?_eq_getElem hi) (hr' i _ u (List.getElem?_eq_getElem his) hu).1)
      ·rintro e w' ⟨v,y,c',rfl,hy,oxr,tr,hsr⟩
       have hTT:(s.tp=true/\true=true/\T0=c1.T)\/T0=none:=by
        rcases hT with⟨e1,e2,_⟩|⟨_,e2⟩
        ·exact .inl ⟨e1,rfl,by rw[hT1];exact e2⟩
        ·exact .inr e2
       obtain⟨c2,b1,b2,b3,b4⟩:=call_back (al:=true) ox1' hTT (λ_ _ _ h=>h) (.inl rfl) oxr tr (λe=>by
        rcases hT with⟨_,e2,_⟩|⟨e2,_⟩
        ·rw[hT1];exact e2
        ·rw[e] at e2;cases e2)
       have hsh:=instS_shift (c:=c') (c2:=c2) (w:=w') (n:=m.nx) (al:=true) (λ_=>b4 rfl) b3 s.rs [] y 0 hp rfl hsr
       refine⟨v,_,_,c2,rfl,hy,⟨⟨_,by show rowsOb _ _++(fzU m.obs ids++m.ob)=_;rw[<-List.append_assoc]⟩,id⟩,b1,t1'.trans b2,by rw[Nat.add_zero] at hsh;exact hsh,?_⟩
       refine SV.inU_mono (λi hi=> ?_) _ (instS_inU (n:=0) s.rs [] y m.nx hp)
       show i<m.nx+_
       rw[instS_rows s.rs [] y m.nx 0] at hi
       exact hi.2
    ·exact h.elim
   ·exact h.elim
  |false=>
   rw[hal] at h
   simp only[cond_false] at h
   split at h
   ·rename_i ds hd
    split at h
    ·rename_i x hx
     cases hp:(shPure s.rs&&shFlat s.rs&& !s.tp) with
     |false=>rw[hp] at h;exact h.elim
     |true=>
      rw[hp] at h
      simp only[cond_true] at h
      simp only[Bool.and_eq_true,Bool.not_eq_true'] at hp
      obtain⟨⟨p1,p2⟩,p3⟩:=hp
      have hT0:T0=none:=by
       rcases hT with⟨e1,_⟩|⟨_,e2⟩
       ·rw[p3] at e1;cases e1
       ·exact e2
      obtain⟨d1,d2⟩:=viewL_rel (m:=m.mem) hox ss' hd
      obtain⟨x1,x2⟩:=undoL_rd hx
      refine (hs x _ h w (lentS m.obs c) T0 us' (λb o hb=> ?_) (by rw[p3];exact hT0) (by omega) (λi d u hdi hu=> ?_)).mono ?_
      ·rcases hb with hb|⟨id,y,hy,ho,hb⟩
       ·exact hox.sb b o hb
       ·exact (hox.fb id y hy ho b hb).1
      ·have hi:i<ds.length:=by have:=(List.getElem?_eq_some_iff.1 hdi).1;rw[tvs_len] at this;omega
       have his:i<ss'.length:=by omega
       exact x2 i d ds[i] hdi (List.getElem?_eq_getElem hi) (d2 i ss'[i] ds[i] (List.getElem?_eq_getElem his) (List.getElem?_eq_getElem hi) (hr' i _ u (List.getElem?_eq_getElem his) hu).1)
      ·rintro e w' ⟨v,y,c',rfl,hy,oxr,tr,hsr⟩
       obtain⟨c2,b1,b2,b3,b4⟩:=call_back (al:=false) hox (.inr hT0) (λe=>by cases e) (.inr (instS_flat s.rs [] y 0 p2)) oxr tr (λe=>by rw[p3] at e;cases e)
       have hsh:=instS_shift (c:=c') (c2:=c2) (w:=w') (n:=m.nx) (al:=false) (λe=>by cases e) b3 s.rs [] y 0 p1 (by simpa using p2) hsr
       refine⟨v,_,_,c2,rfl,hy,⟨⟨_,rfl⟩,id⟩,b1,b2,by rw[Nat.add_zero] at hsh;exact hsh,?_⟩
       refine SV.inU_mono (λi hi=> ?_) _ (instS_inU (n:=0) s.rs [] y m.nx p1)
       show i<m.nx+_
       rw[instS_rows s.rs [] y m.nx 0] at hi
       exact hi.2
    ·exact h.elim
   ·exact h.elim
def dropCl (g:FuncId):List SV->Option (List SV)
 |[]=>none
 |[x]=>bif isCl g x then some [] else none
 |x::r=>(dropCl g r).map (x::·)
theorem dropCl_ok {g:FuncId}:∀{ss ss':List SV},dropCl g ss=some ss'->∃x,ss=ss'++[x]/\isCl g x=true
 |[],ss',h=>by cases h
 |[x],ss',h=>by
  unfold dropCl at h
  cases hb:isCl g x with
  |false=>rw[hb] at h;cases h
  |true=>
   rw[hb] at h
   injection h with h
   subst h
   exact⟨x,rfl,hb⟩
 |x::y::r,ss',h=>by
  unfold dropCl at h
  rw[Option.map_eq_some_iff] at h
  obtain⟨t,h1,rfl⟩:=h
  obtain⟨z,h2,h3⟩:=dropCl_ok h1
  exact⟨z,by rw[h2];rfl,h3⟩
def byConC (s:Spec)(g:FuncId)(ss:List SV)(m:MS)(k:SV->MS->Prop):Prop:=match dropCl g ss with
 |some ss'=>byCon s ss' m k
 |none=>False
def ruleC (s:Spec)(g:FuncId):Rule:=⟨s.f,byConC s g⟩
theorem ruleC_ok {s:Spec}{g:FuncId}(h:SpecCOK P s [clo g]):RuleOK P (ruleC s g):=λss m k hk us w c hox hl hr=>by
 have hk2:byConC s g ss m k:=hk
 clear hk
 unfold byConC at hk2
 split at hk2
 ·rename_i ss' hd
  obtain⟨x,rfl,hx⟩:=dropCl_ok hd
  rcases List.eq_nil_or_concat us with rfl|⟨us',u,rfl⟩
  ·simp at hl
  ·rw[List.concat_eq_append] at *
   have hl':us'.length=ss'.length:=by simpa using hl
   have hu:u=clo g:=isCl_rel hx (hr ss'.length x u (by simp) (by rw[<-hl'];simp)).1
   subst hu
   refine byConC_ok h hk2 hox hl' λi y v hy hv=>hr i y v ?_ ?_
   ·rw[List.getElem?_append_left (List.getElem?_eq_some_iff.1 hy).1];exact hy
   ·rw[List.getElem?_append_left (List.getElem?_eq_some_iff.1 hv).1];exact hv
 ·exact hk2.elim
theorem SpecCOK.of_rules {C:CtxR}{dr:DR}(hR:RulesOK P C.rs)(hdr:DrOK P dr){n fk:Nat}{s:Spec}{g:FuncId}(h:∀x post,s.pt x post->HoldW (walkG (callR P C dr n fk) s.f s.tp (tvs s.ts x++[.v (clo g)]) s.rs post)):SpecCOK P s [clo g]:=by
 intro x post hp w S T us h1 h2 h3 h4
 have e:tpArg T us++[clo g]=tpArg T (us++[clo g]):=by
  unfold tpArg
  split<;>simp
 rw[e]
 refine walkG_ok (callR_ok hR hdr n fk) (h x post hp).h h1 h2 (by simp[h3,tvs_len]) λi d u hd hu=> ?_
 by_cases hi:i<us.length
 ·rw[List.getElem?_append_left hi] at hu
  rw[List.getElem?_append_left (by rw[tvs_len];omega)] at hd
  exact h4 i d u hd hu
 ·have hi':(tvs s.ts x).length<=i:=by rw[tvs_len];omega
  rw[List.getElem?_append_right hi'] at hd
  rw[List.getElem?_append_right (by omega)] at hu
  have e2:i-(tvs s.ts x).length=i-us.length:=by rw[tvs_len,h3]
  rw[e2] at hd
  match hq:i-us.length,hd,hu with
  |0,hd,hu=>
   simp at hd hu
   subst hd hu
   exact .v _
  |k+1,hd,hu=>simp at hd
set_option maxRecDepth 100000
open PL
def pval_P (a:api_Region)(post:Bool->Prop):Prop:=∀q:Bool,(q=true↔validP a.1)->post q
def pval_sp:Spec:=⟨58,false,false,[.st .api_Region],.dat (.bool),λx post=>pval_P (x.1:api_Region) (λy0=>post (y0,()))⟩
def pval_C:CtxR:=⟨tau,[rule1 pcan_sp,rule1 peqr_sp],lookJ [(0,1000003,⟨[(2,.dat .bool)],[],[12,13,14,15,16,17],[],[]⟩),(1072672813,0,⟨[(0,.dat (.int .i64))],[],[],[],[]⟩),(1072672813,5,⟨[(8,.dat (.int .i64))],[],(List.range' 9 8++[5,18]),[],[]⟩)]⟩
def pval_W (a:api_Region)(post:Bool->Prop):Prop:=(↑a.1.length:Int)<=9223372036854775807->JOIN [Ty.bool] (λ(y1:Bool)=>IFB (decide ((120:Int)<(↑a.1.length:Int))||y1) (post false) (JOIN [Ty.bool] (λ(y2:Bool)=>post y2) λ(J3:Bool->Prop)=>((∀(v4:api_Rect),v4∈a.1->0<=v4.1/\v4.1<v4.3/\v4.3<=16384/\0<=v4.2/\v4.2<v4.4/\v4.4<=16384)/\a.1.length<=10000)/\(canonF (cov a.1)).length<=1000000000/\∀(v5:Bool),(v5=true↔canonF (cov a.1)=a.1)->J3 v5)) λ(J6:Bool->Prop)=>IFB (gx false (decide ((120:Int)<(↑a.1.length:Int)))) (JOIN [Ty.int IntKind.i64] (λ(y7:Int)=>J6 (decide ((0:Int)<=y7))) λ(J8:Int->Prop)=>(↑a.1.length:Int)<=9223372036854775807->LOOP [Ty.int IntKind.i64] (λ(rec9:Int->Prop) (z10:Int)=>IFB (decide (z10<(↑a.1.length:Int))) (((0:Int)<=z10/\z10<(↑a.1.length:Int))/\IFB (!(decide ((0:Int)<=(ix a.1 z10).1)&&decide ((ix a.1 z10).1<(ix a.1 z10).3)&&decide ((ix a.1 z10).3<=16384)&&decide ((0:Int)<=(ix a.1 z10).2)&&decide ((ix a.1 z10).2<(ix a.1 z10).4)&&decide ((ix a.1 z10).4<=16384))) (J8 z10) (rec9 (IntKind.i64.wrap (z10+1)))) (J8 (-1:Int))) ((0:Int),PUnit.unit)) (J6 false)
theorem pval_w (a:api_Region)(post:dens (shT pval_sp.rs [])->Prop):pval_W a (λy0=>post (y0,()))=walkG (callR Tryz.prog pval_C (drawR Tryz.prog tau) 10 0) 58 false [tv (.st .api_Region) a] pval_sp.rs post:=by kernel_rfl
theorem pval_of (h:∀a post,pval_P a post->pval_W a post):SpecOK Tryz.prog pval_sp:=SpecOK.of_rules (C:=pval_C) (dr:=drawR Tryz.prog tau) (n:=10) (fk:=0) (.cons (rule1_ok pcan_ok) (.cons (rule1_ok peqr_ok) .nil)) (drawR_ok tau) λx post hp=>HoldW.of (pval_w x.1 post) (h x.1 (λy0=>post (y0,())) hp)
theorem pval_ok:SpecOK Tryz.prog pval_sp:=pval_of λa post hp=>by
 obtain⟨l⟩:=a
 unfold pval_P at hp
 unfold pval_W
 dsimp only at hp ⊢
 intro _
 refine JOIN.opq λ(J:Bool->Prop) hJ=> ?_
 refine IFB.mk (λhb=> ?_) (λhb=> ?_)
 ·have hb:(!decide ((120:Int)<l.length))=true:=hb
  have hb:decide ((120:Int)<l.length)=false:=by simpa using hb
  have hle:=of_decide_eq_false hb
  refine JOIN.opq λ(J8:Int->Prop) hJ8=> ?_
  intro _
  refine loopCmp (n:=l.length) (by omega) (p:=λj=>proper (ix l (j:Int))) (λrec k hk hpre hrec=>⟨by omega,IFB.mk (λhb2=> ?_) (λhb2=>hrec ?_)⟩) λhall=> ?_
  ·rw[hJ8]
   show J (decide (0<=(k:Int)))
   rw[decide_eq_true (by omega:(0:Int)<=k),hJ]
   dsimp only
   refine IFB.mk (λ_=>hp _ ?_) (λh=> ?_)
   ·constructor
    ·intro h;cases h
    ·intro h
     have:=properB_iff.2 (h.2.1 _ (ix_mem (l:=l) (i:=(k:Int)) (by omega) (by omega)))
     unfold properB at this
     rw[this] at hb2
     cases hb2
   ·rw[Bool.or_true] at h;cases h
  ·exact properB_iff.1 (by unfold properB;simpa using hb2)
  ·have hall:=all_ix hall
   rw[hJ8]
   show J (decide (0<=(-1:Int)))
   have hm:decide (0<=(-1:Int))=false:=rfl
   rw[hm,hJ]
   dsimp only
   rw[hb]
   refine IFB.mk (λh=>by cases h) (λ_=> ?_)
   refine JOIN.opq λ(J3:Bool->Prop) hJ3=> ?_
   have:=cov_len hall
   refine⟨⟨hall,by omega⟩,by omega,λq hq=> ?_⟩
   rw[hJ3]
   refine hp q (hq.trans ⟨λh=>⟨by omega,hall,(canon_iff l).1 h⟩,λh=>(canon_iff l).2 h.2.2⟩)
 ·have hb:(!decide ((120:Int)<l.length))=false:=hb
  have hb:decide ((120:Int)<l.length)=true:=by simpa using hb
  rw[hJ]
  dsimp only
  rw[hb]
  refine IFB.mk (λ_=>hp _ ?_) (λh=>by cases h)
  have hb:=of_decide_eq_true hb
  constructor
  ·intro h;cases h
  ·intro h;have:=h.1;omega
namespace PL
def edgL (l:List Sp):List Int:=l.flatMap λs=>[s.Left,s.Right]
end PL
theorem insS_iff {l:List Sp}{x:Int}:insS l x=true↔inSp l x:=by
 unfold insS inSp
 simp[List.any_eq_true]
theorem edgL_len {l:List Sp}:(edgL l).length=2 * l.length:=by
 induction l with
 |nil=>rfl
 |cons r l ih=>
  have e:edgL (r::l)=r.Left::r.Right::edgL l:=rfl
  rw[e];simp only[List.length_cons,ih];omega
theorem edgL_mem {l:List Sp}{x:Int}:x∈uniqI (edgL l)↔∃s∈l,x=s.Left\/x=s.Right:=by
 rw[(uniqI_ok _).2]
 unfold edgL;simp
theorem insS_cols {l:List Sp}{x u:Int}(hux:u<=x)(hm:∀s∈l,(s.Left<=x->s.Left<=u)/\(s.Right<=x->s.Right<=u)):insS l x=insS l u:=by
 refine bool_iff ?_
 rw[insS_iff,insS_iff]
 constructor
 ·rintro ⟨r,hr,h1,h2⟩
  have h1:r.Left<=x:=h1
  have h2:x<r.Right:=h2
  exact⟨r,hr,(hm r hr).1 h1,by show u<r.Right;omega⟩
 ·rintro ⟨r,hr,h1,h2⟩
  have h1:r.Left<=u:=h1
  have h2:u<r.Right:=h2
  refine⟨r,hr,by show r.Left<=x;omega,?_⟩
  rcases Int.lt_or_le x r.Right with h|h
  ·exact h
  ·have:=(hm r hr).2 h;omega
theorem rowS_ins {l:List Rc}{u x:Int}:insS (rowS l u) x=cov l x u:=by
 refine bool_iff ?_
 rw[insS_iff]
 have h:=(comb_row (howS_0 1) (a:=l) (b:=[]) (y:=u)).2 x
 rw[comb_or_nil,List.append_nil] at h
 exact h
theorem edg_in {l:List Sp}{A:List Int}{K:List Int->Prop}(hl:A.length+2 * l.length<=100000)(hK:K (A++edgL l)):
 LOOP [Ty.int IntKind.i64,(Ty.int IntKind.i64).sl] (λ(rec4:Int->List Int->Prop) (z5:Int) (z6:List Int)=>IFB (decide (z5<(↑l.length:Int))) (((0:Int)<=z5/\z5<(↑l.length:Int))/\(z6.length+[(ix l z5).1,(ix l z5).2].length) * 8<=140737488355328/\rec4 (IntKind.i64.wrap (z5+(1:Int))) (z6++[(ix l z5).1,(ix l z5).2])) (K z6)) ((0:Int),A,PUnit.unit):=by
 refine LOOP.list l (λk (s:List Int)=>((k:Int),s,())) (λu=>Int.toNat u.1) (λk r (s:List Int)=>s++edgL r=A++edgL l/\s.length=A.length+2 * k) A rfl ⟨rfl,by omega⟩ (λk s h=>by simp) ?_ ?_
 ·intro rec k x r s hd hk hkl ⟨g1,g2⟩ hrec
  have hx:=ix_of hk
  show IFB _ _ _
  refine IFB.mk (λ_=>⟨by show 0<=(k:Int)/\(k:Int)<l.length;omega,?_⟩) (λh=>absurd (of_decide_eq_false h) (by show ¬¬((k:Int)<l.length);omega))
  dsimp only
  rw[hx]
  refine⟨by simp only[List.length_cons,List.length_nil];omega,?_⟩
  rw[wrapS (by omega)]
  refine hrec _ ⟨?_,?_⟩
  ·rw[<-g1]
   have e:edgL (x::r)=x.Left::x.Right::edgL r:=rfl
   rw[e];simp
  ·simp only[List.length_append,List.length_cons,List.length_nil];omega
 ·intro rec s ⟨g1,g2⟩
  show IFB _ _ _
  refine IFB.mk (λh=>absurd (of_decide_eq_true h) (by show ¬((l.length:Int)<l.length);omega)) (λ_=> ?_)
  have g1:s=A++edgL l:=by simpa [edgL] using g1
  show K s
  rw[g1];exact hK
end RE
end Go.Proofs.YtjcjdgmojkkioaaGreatDoor
set_option linter.unusedVariables false
set_option maxRecDepth 100000
namespace Go.Proofs.YtjcjdgmojkkioaaGreatDoor
open Go.RowKit
namespace RE
open PL
namespace PL
def xorS:Bool->Bool->Bool:=λa b=> !decide (a=b)
noncomputable def mergeX (g:Bool->Bool->Bool) (A B:List Sp):List Sp:=spansOf (λx=>g (insS A x) (insS B x)) (uniqI (edgL (A++B)))
end PL
theorem mergeX_ok {g:Bool->Bool->Bool}(h0:g false false=false)(A B:List Sp):SpOK (mergeX g A B)/\∀x,inSp (mergeX g A B) x↔g (insS A x) (insS B x)=true:=by
 have c1:=(uniqI_ok (edgL (A++B))).1
 have c2:=λx=>edgL_mem (l:=A++B) (x:=x)
 obtain⟨h1,h2⟩:=spansOf_ok (p:=λx=>g (insS A x) (insS B x)) c1
 have hin:∀x,g (insS A x) (insS B x)=true->∃s∈A++B,s.Left<=x/\x<s.Right:=λx hx=>by
  cases ha:insS A x with
  |true=>
   obtain⟨s,hs,q1,q2⟩:=insS_iff.1 ha
   exact⟨s,by simp[hs],q1,q2⟩
  |false=>
   cases hb:insS B x with
   |true=>
    obtain⟨s,hs,q1,q2⟩:=insS_iff.1 hb
    exact⟨s,by simp[hs],q1,q2⟩
   |false=>rw[ha,hb,h0] at hx;cases hx
 refine⟨h1,λx=> ?_⟩
 unfold mergeX
 rw[h2]
 refine edges_set (f:=λx=>g (insS A x) (insS B x)) c1 (λx hx=> ?_) (λx hx=> ?_) (λu x hu hux hm=> ?_) x
 ·obtain⟨r,hr,h3,h4⟩:=hin x hx
  exact⟨r.Left,(c2 _).2 ⟨r,hr,.inl rfl⟩,h3⟩
 ·obtain⟨r,hr,h3,h4⟩:=hin x hx
  exact⟨r.Right,(c2 _).2 ⟨r,hr,.inr rfl⟩,h4⟩
 ·have hm':∀r∈A++B,(r.Left<=x->r.Left<=u)/\(r.Right<=x->r.Right<=u):=λr hr=>⟨hm _ ((c2 _).2 ⟨r,hr,.inl rfl⟩),hm _ ((c2 _).2 ⟨r,hr,.inr rfl⟩)⟩
  show g (insS A x) (insS B x)=g (insS A u) (insS B u)
  rw[insS_cols hux (λr hr=>hm' r (by simp[hr])),insS_cols hux (λr hr=>hm' r (by simp[hr]))]
theorem chooseX_build {g:Bool->Bool->Bool}(h0:g false false=false)(l m:List Rc):canonF (comb g l m)=flat (buildG (λy=>mergeX g (rowS l y) (rowS m y)) [] (cutsS (l++m))):=
 (comb_build h0 (a:=l) (b:=m) (R:=λy=>mergeX g (rowS l y) (rowS m y)) λu hu=>⟨(mergeX_ok h0 _ _).1,λx=>by
  rw[(mergeX_ok h0 _ _).2,rowS_ins,rowS_ins];rfl⟩).2.2
theorem xorS_0:xorS false false=false:=rfl
end RE
end Go.Proofs.YtjcjdgmojkkioaaGreatDoor
set_option maxRecDepth 100000
set_option linter.unusedVariables false
namespace Go.Proofs.YtjcjdgmojkkioaaGreatDoor
open Go.RowKit
namespace RE
open PL
namespace Keep
theorem ret_int {k:IntKind}{a b:Int}(h:a=b):Ending.returned (.int k a)= .returned (.int k b):=by rw[h]
def md (k n:Int):Int:=if n<1 then 0 else k % n
theorem md_bd (k n:Int):0<=md k n/\(md k n<n\/md k n=0):=by
 unfold md
 split
 ·omega
 ·have h1:=Int.emod_nonneg k (show n≠0 by omega)
  have h2:=Int.emod_lt_of_pos k (show 0<n by omega)
  omega
theorem tmod_cases (k n:Int)(hn:1<=n):(0<=k.tmod n/\k.tmod n<n/\k % n=k.tmod n)\/(k.tmod n<0/\ -n<k.tmod n/\k % n=k.tmod n+n):=by
 have h1:=Int.mul_tdiv_add_tmod k n
 have hd:k % n=(k.tmod n) % n:=by
  conv=>lhs;rw[<-h1]
  rw[Int.add_comm,Int.add_mul_emod_self_left]
 have ha: -n<k.tmod n/\k.tmod n<n:=by
  exact⟨Int.lt_tmod_of_pos k (by omega),Int.tmod_lt_of_pos k (by omega)⟩
 rw[hd]
 rcases Int.le_total 0 (k.tmod n) with h|h
 ·left;exact⟨h,ha.2,Int.emod_eq_of_lt h ha.2⟩
 ·by_cases h0:k.tmod n=0
  ·left;rw[h0];simp;omega
  ·right
   refine⟨by omega,ha.1,?_⟩
   have:(k.tmod n+n) % n=k.tmod n % n:=by simp
   rw[<-this]
   exact Int.emod_eq_of_lt (by omega) (by omega)
theorem mod_any (k n:Int)(h3:n<=9223372036854775807)(w:World):
 Calls Tryz.prog 127 #[.int .i64 k,.int .i64 n] w λe w'=>e= .returned (.int .i64 (md k n))/\w=w':=by
 unfold md
 by_cases hn:n<1
 ·rw[if_pos hn]
  go_enter Tryz.func127,Tryz.ntmps127
  go_wp2
  go_ret
  exact⟨rfl,rfl⟩
 ·rw[if_neg hn]
  rcases tmod_cases k n (by omega) with⟨a,b,c⟩|⟨a,b,c⟩
  all_goals
   have c':=Lib.hid c
   clear c
   go_enter Tryz.func127,Tryz.ntmps127
   go_wp2
   go_ret
   exact⟨ret_int c'.out.symm,rfl⟩
def NextPost (bt:Nat)(S:Cells)(n:Int)(w:World)(e:Ending)(w':World):Prop:=
 ∃r:Int,e= .returned (.int .i64 r)/\0<=r/\(r<n\/r=0)/\TapeS w' bt S/\w.grownBy w' (some bt)
theorem grownBy_refl (w:World)(row:Option Nat):w.grownBy w row:=⟨rfl,rfl,rfl,Nat.le_refl _,λ_ _ _=>rfl⟩
theorem grownBy_trans {a b c:World}{row:Option Nat}(h:a.grownBy b row)(k:b.grownBy c row):a.grownBy c row:=
 ⟨k.os.trans h.os,k.tape.trans h.tape,k.output.trans h.output,Nat.le_trans h.size k.size,λi hi hr=>(k.block i (Nat.lt_of_lt_of_le hi h.size) hr).trans (h.block i hi hr)⟩
theorem grownBy_setCell (w:World)(bt o:Nat)(v:Value):w.grownBy (w.setCell ⟨bt,o,none⟩ v) (some bt):=
 ⟨rfl,rfl,rfl,by simp[World.setCell],λk _ hr=>Below.heap_setCell _ _ _ _ (by intro e;exact hr (by rw[e]))⟩
theorem only_drewN {a w:World}{row:Option Nat}(h:a.grownBy w row)(n:Nat):a.grownBy (w.drewN n) row:=⟨h.os,h.tape,h.output,h.size,h.block⟩
theorem quiet_left {P:Program}{f:FuncId}{args:Array Value}{w:World}{n:Nat}{v:Value}
 (h:Calls P f args (w.drewN n) λe w'=>e= .returned v/\w.drewN n=w'):Calls P f args (w.drewN n) λe w''=>e= .returned v/\∃m,w''=w.drewN m:=
 h.mono λ_ _ ⟨he,hm⟩=>⟨he,n,hm.symm⟩
set_option maxHeartbeats 400000 in
theorem next_any (bt:Nat)(n:Int)(h3:n<=9223372036854775807)(w:World)(S:Cells)(hS:∀k,¬S bt k)(h:TapeS w bt S):
 Calls Tryz.prog 46 #[.pointer (some ⟨bt,0,none⟩),.int .i64 n] w (NextPost bt S n w):=by
 obtain⟨a,len,cap,at_,ty,hb,hat,hlen,hv⟩:=h
 have c0:w.cell? ⟨bt,0,none⟩=some (.slice a len cap):=by simp[World.cell?,hb]
 have c1:w.cell? ⟨bt,1,none⟩=some (.int .i64 (at_:Nat)):=by simp[World.cell?,hb]
 have f1:w.frozen? ⟨bt,1,none⟩=false:=by simp[World.frozen?,hb]
 have hT:TapeS w bt S:=⟨a,len,cap,at_,ty,hb,hat,hlen,hv⟩
 have hfin:∀n',NextPost bt S n w (.returned (.int .i64 0)) (w.drewN n'):=λn'=>
  ⟨0,rfl,by omega,by omega,hT,only_drewN (grownBy_refl w _) n'⟩
 have hmd:∀(z:Int)(W:World),TapeS W bt S->w.grownBy W (some bt)->NextPost bt S n w (.returned (.int .i64 (md z n))) W:=λz W h1 h2=>
  ⟨md z n,rfl,(md_bd z n).1,(md_bd z n).2,h1,h2⟩
 by_cases hlt:at_<len
 ·have hv2:=hv
  obtain⟨bl,off,rfl,hc⟩:=hv (by omega)
  have hne:bl≠bt:=λe=>hS _ (e ▸ (hc at_ hlt).1)
  obtain⟨hsz,z,hz⟩:=hc at_ hlt
  have hno:¬len<=at_:=by omega
  have hT2:∀nq n':Nat,TapeS (((w.drewN nq).setCell ⟨bt,1,none⟩ (.int .i64 ((at_:Int)+1))).drewN n') bt S:=by
   intro nq n'
   refine⟨_,len,cap,at_+1,ty,?_,by omega,hlen,λhl=>⟨bl,off,rfl,λi hi=>⟨(hc i hi).1,?_⟩⟩⟩
   rotate_left
   ·obtain⟨z',hz'⟩:=(hc i hi).2
    refine⟨z',?_⟩
    show ((w.drewN nq).setCell ⟨bt,1,none⟩ (.int .i64 ((at_:Int)+1))).cell? _=_
    rw[World.cell?_of_block (w:=w.drewN nq) (Below.heap_setCell _ _ _ _ hne)];exact hz'
   show ((w.drewN nq).setCell ⟨bt,1,none⟩ (.int .i64 ((at_:Int)+1))).heap[bt]? =_
   have hb':(w.drewN nq).heap[bt]? =some (.cells #[.slice (some ⟨bl,off,none⟩) len cap,.int .i64 (at_:Nat)] ty (0,0)):=hb
   simp only[World.setCell,Array.getElem?_modify,if_true,hb']
   simp
  have hG:∀nq n':Nat,w.grownBy (((w.drewN nq).setCell ⟨bt,1,none⟩ (.int .i64 ((at_:Int)+1))).drewN n') (some bt):=λnq n'=>
   only_drewN (grownBy_trans (only_drewN (grownBy_refl w _) nq) (grownBy_setCell _ bt 1 _)) n'
  have hW0:∀nq:Nat,((w.drewN nq).setCell ⟨bt,1,none⟩ (.int .i64 ((at_:Int)+1))).cell? ⟨bt,0,none⟩=some (.slice (some ⟨bl,off,none⟩) len cap):=λnq=>by
   rw[World.cell?_setCell_other _ _ _ _ (by simp)];exact c0
  have hW1:∀nq:Nat,((w.drewN nq).setCell ⟨bt,1,none⟩ (.int .i64 ((at_:Int)+1))).cell? ⟨bt,1,none⟩=some (.int .i64 ((at_:Int)+1)):=λnq=>
   World.cell?_setCell_same (u:= .int .i64 (at_:Nat)) _ _ _ c1
  have hWz:∀nq:Nat,((w.drewN nq).setCell ⟨bt,1,none⟩ (.int .i64 ((at_:Int)+1))).cell? ⟨bl,off+at_,none⟩=some (.int .i64 z):=λnq=>by
   rw[World.cell?_of_block (w:=w.drewN nq) (Below.heap_setCell _ _ _ _ hne)];exact hz
  clear hb hc hfin hz hv hv2
  have hmd':=Lib.hid hmd
  have hT2':=Lib.hid hT2
  have hG':=Lib.hid hG
  have hW0':=Lib.hid hW0
  have hW1':=Lib.hid hW1
  have hWz':=Lib.hid hWz
  clear hmd hT2 hG hW0 hW1 hWz
  go_enter Tryz.func46,Tryz.ntmps46
  go_wp2
  go_quiet (fail)
  rename_i nq
  go_wp2
  have k0:=hW0'.out nq
  have k1:=hW1'.out nq
  have kz:=hWz'.out nq
  obtain⟨W,hW⟩:∃W,W=((w.drewN nq).setCell ⟨bt,1,none⟩ (.int .i64 ((at_:Int)+1))):=⟨_,rfl⟩
  rw[<-hW] at k0 k1 kz ⊢
  have hW2:=Lib.hid hW
  clear hW c0 c1 f1
  have ks:IntKind.i64.wrap ((at_:Int)+1-1)=at_:=by rw[IntWalk.i64_in _ (by omega)];omega
  go_quiet ((go_at_call 127;exact quiet_left (mod_any _ _ (by omega) _)))
  go_wp2
  go_ret
  rw[hW2.out]
  exact hmd'.out z _ (hT2'.out _ _) (hG'.out _ _)
 ·have hno:len<=at_:=by omega
  clear hb hat hlen hmd hv
  go_enter Tryz.func46,Tryz.ntmps46
  go_wp2
  go_quiet (fail)
  go_wp2
  go_ret
  exact hfin _
end Keep
def knext_P (n:Int)(post:Int->Prop):Prop:=n<=9223372036854775807/\∀r:Int,0<=r->(r<n\/r=0)->post r
def knext_sp:Spec:=⟨46,true,true,[.int .i64],.dat (.int .i64),λx post=>knext_P (x.1:Int) (λy0=>post (y0,()))⟩
theorem knext_ok:SpecOK Tryz.prog knext_sp:=by
 intro x post hp w S T us hS hT hl hr
 obtain⟨n,⟨⟩⟩:=x
 obtain⟨hn,hp⟩:=hp
 obtain⟨t,rfl,hT,hSt⟩:=hT
 match us,hl with
 |[u],_=>
  have h0:=hr 0 _ _ rfl rfl
  have hu:u= .int .i64 n:=by
   have h0:Rd S w (.v (.int .i64 n)) u:=h0
   cases h0;rfl
  subst hu
  refine (Keep.next_any t n hn w S hSt hT).mono ?_
  rintro e w' ⟨r,rfl,h1,h2,h3,h4⟩
  refine⟨_,(r,()),cx0 S (some t),rfl,hp r h1 h2,?_,?_,?_⟩
  ·refine⟨λb o h=>Nat.lt_of_lt_of_le (hS b o h) h4.size,λid x hx=>(by cases hx),λid x hx=>(by cases hx),λi j x y hx=>(by cases hx),λT hT'=> ?_,λ_=>⟨t,rfl,h3⟩,λh=>(by cases h)⟩
   cases hT'
   exact⟨h3.lt,hSt⟩
  ·refine⟨h4.os,h4.tape,h4.output,h4.size,λ_ h=>h,λ_ h=> .inl h,λ_ h=>h,λ_ _=>⟨rfl,rfl⟩,λ_ _ h=>h,λ_ _ h=> .inl h,λb hb _ ht=>h4.block b hb (λe=>ht e.symm),λ_ h=> .inl h⟩
  ·exact .d _ _ (.v _)
end RE
end Go.Proofs.YtjcjdgmojkkioaaGreatDoor
namespace Go.Proofs.YtjcjdgmojkkioaaGreatDoor
namespace RE
set_option maxRecDepth 100000
open Go.RowKit
open PL
def krange_P (lo:Int)(hi:Int)(post:Int->Prop):Prop:=(-1099511627776<=lo/\lo<=1099511627776/\ -1099511627776<=hi/\hi<=1099511627776)/\∀r:Int,lo<=r->(r<=hi\/r=lo)->post r
def krange_sp:Spec:=⟨26,true,true,[.int .i64,.int .i64],.dat (.int .i64),λx post=>krange_P (x.1:Int) (x.2.1:Int) (λy0=>post (y0,()))⟩
def krange_C:CtxR:=⟨tau,[rule1 knext_sp],lookJ []⟩
def krange_W (lo:Int)(hi:Int)(post:Int->Prop):Prop:=IntKind.i64.wrap (IntKind.i64.wrap (hi-lo)+1)<=9223372036854775807/\∀(v1:Int),0<=v1->v1<IntKind.i64.wrap (IntKind.i64.wrap (hi-lo)+1)\/v1=0->post (IntKind.i64.wrap (lo+v1))
theorem krange_w (lo:Int)(hi:Int)(post:dens (shT krange_sp.rs [])->Prop):krange_W lo hi (λy0=>post (y0,()))=walkG (callR Tryz.prog krange_C (drawR Tryz.prog tau) 8 0) 26 true [tv (.int .i64) lo,tv (.int .i64) hi] krange_sp.rs post:=by kernel_rfl
theorem krange_of (h:∀lo hi post,krange_P lo hi post->krange_W lo hi post):SpecOK Tryz.prog krange_sp:=SpecOK.of_rules (C:=krange_C) (dr:=drawR Tryz.prog tau) (n:=8) (fk:=0) (.cons (rule1_ok knext_ok) .nil) (drawR_ok tau) λx post hp=>HoldW.of (krange_w x.1 x.2.1 post) (h x.1 x.2.1 (λy0=>post (y0,())) hp)
theorem krange_ok:SpecOK Tryz.prog krange_sp:=krange_of λlo hi post hp=>by
 obtain⟨⟨h1,h2,h3,h4⟩,hp⟩:=hp
 unfold krange_W
 have w1:IntKind.i64.wrap (hi-lo)=hi-lo:=wrap_in (by omega) (by omega)
 have w2:IntKind.i64.wrap (hi-lo+1)=hi-lo+1:=wrap_in (by omega) (by omega)
 rw[w1,w2]
 refine⟨by omega,λv a b=> ?_⟩
 rw[wrap_in (by omega) (by omega)]
 exact hp _ (by omega) (by omega)
theorem canon_one {r:Rc}(h:proper r):Canon [r]:=by
 obtain⟨p1,p2,p3,p4,p5,p6⟩:=h
 refine⟨[⟨r.Low,r.High,[⟨r.Left,r.Right⟩]⟩],⟨λb hb=> ?_,List.pairwise_singleton _ _,?_⟩,rfl⟩
 ·rw[List.mem_singleton] at hb
  subst hb
  exact⟨p5,by simp,λs hs=>by rw[List.mem_singleton] at hs;subst hs;exact p2,List.pairwise_singleton _ _⟩
 ·first|exact List.pairwise_singleton _ _|exact trivial|(intro i;simp)
variable {P:Program}
theorem lawG_okH {cp:CP}(hcp:CallOK P cp){f:FuncId}{ds:List D}{post:Bool->Prop}(h:HoldW (lawG cp f ds post)){w:World}{S:Cells}{us:List Value}(h1:∀b o,S b o->b<w.heap.size)(h3:us.length=ds.length)
 (h4:∀(i:Nat)(d:D)(u:Value),ds[i]? =some d->us[i]? =some u->Rd S w d u):
 Calls P f us.toArray w λe w'=>(∃b,e= .returned (.bool b)/\post b)/\Below w.heap.size w w':=lawG_ok hcp h.h h1 h3 h4
def fLi {β:Type}{α:Sort _}:List β->(List β->α)->α
 |[],k=>k []
 |x::r,k=>fLi r λr=>k (x::r)
theorem fLi_eq {β:Type}{α:Sort _}:∀(l:List β)(k:List β->α),fLi l k=k l
 |[],k=>rfl
 |x::r,k=>by unfold fLi;rw[fLi_eq r]
def fBs {α:Sort _}:List Bool->(List Bool->α)->α
 |[],k=>k []
 |true::r,k=>fBs r λr=>k (true::r)
 |false::r,k=>fBs r λr=>k (false::r)
theorem fBs_eq {α:Sort _}:∀(l:List Bool)(k:List Bool->α),fBs l k=k l
 |[],k=>rfl
 |true::r,k=>by unfold fBs;rw[fBs_eq r]
 |false::r,k=>by unfold fBs;rw[fBs_eq r]
def fPr {β γ:Type}{α:Sort _}:List (β×γ)->(List (β×γ)->α)->α
 |[],k=>k []
 |(x,y)::r,k=>fPr r λr=>k ((x,y)::r)
theorem fPr_eq {β γ:Type}{α:Sort _}:∀(l:List (β×γ))(k:List (β×γ)->α),fPr l k=k l
 |[],k=>rfl
 |(x,y)::r,k=>by unfold fPr;rw[fPr_eq r]
def fV {α:Sort _}:Value->(Value->α)->α
 | .bool b,k=>k (.bool b)
 | .int t z,k=>k (.int t z)
 |u,k=>k u
theorem fV_eq {α:Sort _}(u:Value)(k:Value->α):fV u k=k u:=by cases u<;>rfl
def fD {α:Sort _}:D->(D->α)->α
 | .v u,k=>fV u λu=>k (.v u)
 | .agg cs,k=>fLi cs λcs=>k (.agg cs)
 | .tup cs,k=>fLi cs λcs=>k (.tup cs)
 |d,k=>k d
theorem fD_eq {α:Sort _}(d:D)(k:D->α):fD d k=k d:=by
 cases d<;>first|rfl|exact fV_eq _ _|exact fLi_eq _ _
def fSV {α:Sort _}:SV->(SV->α)->α
 | .d x,k=>fD x λx=>k (.d x)
 | .cnd q w g y,k=>fSV y λy=>k (.cnd q w g y)
 | .agg cs,k=>fLi cs λcs=>k (.agg cs)
 | .tup cs,k=>fLi cs λcs=>k (.tup cs)
 |s,k=>k s
theorem fSV_eq {α:Sort _}:∀(s:SV)(k:SV->α),fSV s k=k s
 | .d x,k=>by unfold fSV;exact fD_eq _ _
 | .cnd q w g y,k=>by unfold fSV;exact fSV_eq y _
 | .agg cs,k=>by unfold fSV;exact fLi_eq _ _
 | .tup cs,k=>by unfold fSV;exact fLi_eq _ _
 | .bx _ _,k=>rfl
 | .os _,k=>rfl
 | .sub _ _ _ _,k=>rfl
 | .op _ _ _ _,k=>rfl
 | .fn _ _,k=>rfl
 | .tp,k=>rfl
 | .un,k=>rfl
 | .ns _,k=>rfl
 | .np _ _ _ _,k=>rfl
 | .inn _ _,k=>rfl
 | .ip _ _ _ _ _,k=>rfl
def fSl {α:Sort _}:List (Nat×SV)->(List (Nat×SV)->α)->α
 |[],k=>k []
 |(x,v)::r,k=>fSV v λv=>k ((x,v)::r)
theorem fSl_eq {α:Sort _}(l:List (Nat×SV))(k:List (Nat×SV)->α):fSl l k=k l:=by
 cases l with
 |nil=>rfl
 |cons p r=>obtain⟨x,v⟩:=p;exact fSV_eq _ _
def fSt {α:Sort _}:St->(St->α)->α
 |⟨sl,⟨ob,nx,tp⟩,n,gs,gd⟩,k=>fSl sl λsl=>fPr ob λob=>fLi gs λgs=>fLi gd λgd=>k ⟨sl,⟨ob,nx,tp⟩,n,gs,gd⟩
theorem fSt_eq {α:Sort _}(st:St)(k:St->α):fSt st k=k st:=by
 obtain⟨sl,⟨ob,nx,tp⟩,n,gs,gd⟩:=st
 show (fSl sl λsl=>fPr ob λob=>fLi gs λgs=>fLi gd λgd=>k ⟨sl,⟨ob,nx,tp⟩,n,gs,gd⟩)=_
 rw[fSl_eq,fPr_eq,fLi_eq,fLi_eq]
def fAr {α:Sort _}:Array Bool->(Array Bool->α)->α
 |⟨l⟩,k=>fBs l λl=>k ⟨l⟩
theorem fAr_eq {α:Sort _}(L:Array Bool)(k:Array Bool->α):fAr L k=k L:=by
 obtain⟨l⟩:=L
 exact fBs_eq _ _
def fRes {α:Sort _}:PRes->(PRes->α)->α
 |⟨ps,fs,r⟩,k=>fLi ps λps=>fLi fs λfs=>fSV r λr=>k ⟨ps,fs,r⟩
theorem fRes_eq {α:Sort _}(R:PRes)(k:PRes->α):fRes R k=k R:=by
 obtain⟨ps,fs,r⟩:=R
 show (fLi ps λps=>fLi fs λfs=>fSV r λr=>k ⟨ps,fs,r⟩)=_
 rw[fLi_eq,fLi_eq,fSV_eq]
theorem WF.lenS {t ty:TypeId}{e:TypeId}(he:elemOf P t=some e)(u:Value):WF P (Builtin.len_ #[t] ty #[u]):=by
 obtain⟨inf,hu',_⟩:=elemOf_spec he
 intro w v w1 h
 have key:∀w',(Builtin.len_ #[t] ty #[u]).run P w'=match u with| .slice _ n _=> .ok (goInt n) w'|_=>(Builtin.len_ #[t] ty #[u]).run P w':=λw'=>by
  cases u<;>first|rfl|simp[Builtin.len_,run_underlying hu']
 cases u with
 |slice a n c=>
  have e1:=key w
  simp only at e1
  rw[e1] at h
  injection h with h1 h2
  subst h1 h2
  exact⟨rfl,λw'=>key w'⟩
 |_=>simp[Builtin.len_,run_underlying hu'] at h
def lenOp (P:Program)(o:Oper):Bool:=match isLen o.op with
 |some (t,_)=>(elemOf P t).isSome
 |none=>false
theorem lenOp_ok {o:Oper}(h:lenOp P o=true)(ev:Operand->Value):∃s,execOp ev o=valS s/\WF P s:=by
 unfold lenOp at h
 split at h
 ·rename_i t x hl
  obtain⟨e,he'⟩:=Option.isSome_iff_exists.1 h
  have hc:=isLen_spec hl
  exact⟨Builtin.len_ #[t] o.type #[ev x],by simp[execOp,hc,resolve,invoke,builtin,valS],WF.lenS he' _⟩
 ·cases h
def flKL (P:Program)(m:Mem)(pr:List Nat)(ρ:Operand->SV)(o:Oper):Option (List Cnd×Bool):=bif lenOp P o then some ([],false) else flK P m pr ρ o
theorem flKL_ok {m:Mem}{pr:List Nat}{ρ:Operand->SV}{o:Oper}{ps:List Cnd}{lk:Bool}(h:flKL P m pr ρ o=some (ps,lk)){R:PRes}(hp:popS P m ρ o=some R){a:Act}{w:World}{c:Cx}(hr:RelsC m ρ a w c)(h1:allC ps)(h2:allC R.ps):
 ∃v,SRel c w R.r v/\R.r.inU m.U/\allL R.fs/\∀w',(lk=true->Looks c m.ob pr w w')->(execOp a.eval o).run P w'= .ok (.value v) w':=by
 unfold flKL at h
 cases hw:lenOp P o with
 |true=>
  obtain⟨v,k1,k2,k3,k4⟩:=popS_run hp hr h2
  obtain⟨s,e1,e2⟩:=lenOp_ok hw a.eval
  refine⟨v,k2,k3,k4,λw' _=> ?_⟩
  rw[e1] at k1 ⊢
  have hv:WF P (valS s):=WF.bind e2 λ_=> .pure _
  exact (hv w _ _ k1).2 w'
 |false=>rw[hw] at h;exact flK_ok h hp hr h1 h2
def fstepL (P:Program)(pr:List Nat)(all:Array Oper)(o:Oper)(st:St):Option (Bool×((St->Prop)->Prop)):=
 match o.guard with
 |none=>match popS P st.ms.mem st.ev o,flKL P st.ms.mem pr st.ev o with
  |some R,some (ps,lk)=>bif dstOK st o.dst then some (lk,λK=>andL (ps.map Cnd.pr) (andL (R.ps.map Cnd.pr) (impL R.fs (K (st.set o.dst R.r st.ms))))) else none
  |_,_=>none
 |some (j,want)=>match (all[j]?).bind (·.dst),o.dst with
  |some q,some d=>match guardG want (look st.sl q) with
   |some G=>bif dstOK st (some d)&& !(Nat.beq q d)&&Nat.blt q st.n then match popS P st.ms.mem (λx=>stripS q want (st.ev x)) o,flKL P st.ms.mem pr (λx=>stripS q want (st.ev x)) o with
    |some R,some (ps,lk)=>bif R.r.lowN st.ms.nx then some (lk,λK=>andL ((ps.map Cnd.pr).map (G=true->·)) (andL ((R.ps.map Cnd.pr).map (G=true->·)) (impL (R.fs.map (G=true->·)) (K (st.setG d q want G R.r))))) else none
    |_,_=>none
    else none
   |none=>none
  |_,_=>none
theorem fstepL_ok {pr:List Nat}{all:Array Oper}{o:Oper}{st:St}{lk:Bool}{T:(St->Prop)->Prop}(h:fstepL P pr all o st=some (lk,T)){K:St->Prop}(hT:T K){a:Act}{w:World}{c:Cx}(hr:RX st a w c):
 ∃v st',YieldsIf P all (λw'=>lk=true->Looks c st.ms.obs pr w w') o v a/\RX st' (a.put o.dst v) w c/\st'.ms=st.ms/\Fr st st'/\K st':=by
 unfold fstepL at h
 split at h
 ·rename_i hg
  split at h
  ·rename_i R ps lk' hp hf
   cases hd:dstOK st o.dst with
   |false=>rw[hd] at h;cases h
   |true=>
    rw[hd] at h
    simp only[cond_true,Option.some.injEq,Prod.mk.injEq] at h
    obtain⟨rfl,rfl⟩:=h
    obtain⟨t1,hT⟩:=andL_spec hT
    obtain⟨t2,hT⟩:=andL_spec hT
    obtain⟨v,k1,k2,k3,k4⟩:=flKL_ok hf hp hr.rels t1 t2
    exact⟨v,_,.inl ⟨by simp[Region.wanted,hg],k4⟩,hr.set .refl hr.ox hd k1 k2,by cases o.dst<;>rfl,.set (.refl _),impL_spec hT k3⟩
  ·cases h
 ·rename_i j want hg
  split at h
  ·rename_i q d hq hdst
   split at h
   ·rename_i G hG
    cases hb:(dstOK st (some d)&& !(Nat.beq q d)&&Nat.blt q st.n) with
    |false=>rw[hb] at h;cases h
    |true=>
     rw[hb] at h
     simp only[Bool.and_eq_true,Bool.not_eq_true'] at hb
     obtain⟨⟨b1,b2⟩,b3⟩:=hb
     have hqd:q≠d:=λe=>by rw[e] at b2;simp at b2
     have hlt:q<st.n:=Nat.le_of_ble_eq_true b3
     simp only[cond_true] at h
     split at h
     ·rename_i R ps lk' hp hf
      cases hl:R.r.lowN st.ms.nx with
      |false=>rw[hl] at h;cases h
      |true=>
       rw[hl] at h
       simp only[cond_true,Option.some.injEq,Prod.mk.injEq] at h
       obtain⟨rfl,rfl⟩:=h
       obtain⟨t1,hT⟩:=andL_spec hT
       obtain⟨t2,hT⟩:=andL_spec hT
       have hwt:Region.wanted o (yielded all a.tmps)=G:=wanted_of hg hq hlt hr hG
       rw[hdst]
       cases hGv:G with
       |true=>
        obtain⟨v,k1,k2,k3,k4⟩:=flKL_ok hf hp (stripS_rel hr hlt hG hGv) (andL_map hGv t1) (andL_map hGv t2)
        refine⟨v,st.setG d q want true R.r,.inl ⟨by rw[hwt,hGv],k4⟩,hr.setG .refl hr.ox b1 hqd (by rw[hG,hGv]) (λ_=>k1) (λe=>by cases e) k2,rfl,.setG,?_⟩
        have:=impL_spec hT (allL_map λ_=>k3)
        rw[hGv] at this;exact this
       |false=>
        refine⟨undef,st.setG d q want false R.r,.inr ⟨by rw[hwt,hGv],rfl⟩,hr.setG .refl hr.ox b1 hqd (by rw[hG,hGv]) (λe=>by cases e) (λ_=>rfl) (SV.lowN_inU _ hl),rfl,.setG,?_⟩
        have:=impL_spec hT (allL_map λe=>by rw[hGv] at e;cases e)
        rw[hGv] at this;exact this
     ·cases h
   ·cases h
  ·cases h
def fstepF (P:Program)(pr:List Nat)(all:Array Oper)(o:Oper)(st:St):Option (Bool×((St->Prop)->Prop)):=
 match o.guard with
 |none=>match popS P st.ms.mem st.ev o,flKL P st.ms.mem pr st.ev o with
  |some R,some (ps,lk)=>bif dstOK st o.dst then some (lk,λK=>fRes R λR=>fLi ps λps=>andL (ps.map Cnd.pr) (andL (R.ps.map Cnd.pr) (impL R.fs (K (st.set o.dst R.r st.ms))))) else none
  |_,_=>none
 |some (j,want)=>match (all[j]?).bind (·.dst),o.dst with
  |some q,some d=>match guardG want (look st.sl q) with
   |some G=>bif dstOK st (some d)&& !(Nat.beq q d)&&Nat.blt q st.n then match popS P st.ms.mem (λx=>stripS q want (st.ev x)) o,flKL P st.ms.mem pr (λx=>stripS q want (st.ev x)) o with
    |some R,some (ps,lk)=>bif R.r.lowN st.ms.nx then some (lk,λK=>fRes R λR=>fLi ps λps=>andL ((ps.map Cnd.pr).map (G=true->·)) (andL ((R.ps.map Cnd.pr).map (G=true->·)) (impL (R.fs.map (G=true->·)) (K (st.setG d q want G R.r))))) else none
    |_,_=>none
    else none
   |none=>none
  |_,_=>none
theorem fstepF_eq:fstepF P=fstepL P:=by
 funext pr all o st
 unfold fstepF fstepL
 simp only[fRes_eq,fLi_eq]
def devalF (fs:Nat->FS)(ao:AO)(all:Array Oper)(prL:Nat->List Nat):Nat->Array Bool->Bool->St->(St->Prop)->Prop
 |0,L,fr,st,K=>match Region.ready .any all L with
  |[]=>K st.endR
  |_=>False
 |n+1,L,fr,st,K=>fLi (Region.ready .any all L) λrs=>match rs with
  |[]=>K st.endR
  |a::b=>match pickF fs all L fr st (a::b) with
   |some (i,o,T)=>T λst'=>fSt st' λst'=>fAr (L.setIfInBounds i true) λL'=>devalF fs ao all prL n L' fr st' K
   |none=>conjL (a::b) λi=>match all[i]? with
    |some o=>fLi (prX all prL o i) λX=>bif ownAt st.ms.obs X then fLi (softL st.ms.obs X) λY=>ao i o (st.ban Y) λst1=>match unban Y st st1 with
     |some st'=>bif (news st.ms st'.ms).all (λp=> !(has X p.1)) then fSt st' λst'=>fAr (L.setIfInBounds i true) λL'=>devalF fs ao all prL n L' false st' K else False
     |none=>False
     else False
    |none=>False
theorem devalF_eq {fs:Nat->FS}{ao:AO}{all:Array Oper}{prL:Nat->List Nat}:∀(n:Nat)(L:Array Bool)(fr:Bool)(st:St)(K:St->Prop),devalF fs ao all prL n L fr st K=deval fs ao all prL n L fr st K
 |0,L,fr,st,K=>rfl
 |n+1,L,fr,st,K=>by
  unfold devalF deval
  rw[fLi_eq]
  split
  ·rename_i h;simp only[h]
  ·rename_i a b h
   simp only[h]
   split
   ·rename_i i o T hp
    try rw[hp]
    simp only[fSt_eq,fAr_eq,devalF_eq n]
   ·rename_i hp
    try rw[hp]
    simp only[fSt_eq,fAr_eq,fLi_eq,devalF_eq n]
    try rfl
def drawL (P:Program)(τ:TypeId->Option Ty):DR:=λid cp ops st K=>
 bif P.follows .mixedOrders&&Region.noSelect ops then deval (λi=>fstepL P (prOf (scanQ P st.ms st.n ops.toList 0 st.sl) i) ops) (λi o=>aop1 P τ (cp i) ops o) ops (prOf (scanQ P st.ms st.n ops.toList 0 st.sl)) ops.size (Array.replicate ops.size false) true st K else False
theorem drawL_ok (τ:TypeId->Option Ty):DrOK P (drawL P τ):=by
 intro id cp ops st K hcp h a w c hr
 unfold drawL at h
 cases hb:(P.follows .mixedOrders&&Region.noSelect ops) with
 |false=>rw[hb] at h;exact h.elim
 |true=>
  rw[hb] at h
  obtain⟨b1,b2⟩:=Bool.and_eq_true_iff.1 hb
  obtain⟨hr1,t1⟩:=hr.drew
  let Qx:Exit->Act->World->Prop:=λe a' w'=>e= .normal/\∃st' c',Step st a w c st' a' w' c'/\K st'
  refine wp_mono (Q:=Qx) ?_ (λe a' w' ⟨he,st',c',k1,k2⟩=>⟨st',c',k1,he,k2⟩)
  refine wp_region_any b1 (wpAny_of_T _ _ _ _ (deval_ok (fs:=λi=>fstepL P (prOf (scanQ P st.ms st.n ops.toList 0 st.sl) i) ops) (ao:=λi o=>aop1 P τ (cp i) ops o) (prL:=prOf (scanQ P st.ms st.n ops.toList 0 st.sl)) (λh _ hT _ _ _ hr=>fstepL_ok h hT hr) (λho _ _ h _ _ _ hr _ _ hQ=>aop1_ok (hcp _) ho h hr hQ) b2 hr1 _ _ _ _ _ .start h _ _ _ hr1 (λ_=>⟨rfl,rfl,rfl⟩) .refl Qx (λch a w hh=>by cases hh.1) λst' a' w' c' hs hk=>⟨rfl,st',c',Step.trans ⟨hr1,t1,rfl,.refl _⟩ hs,hk⟩))
def drawF (P:Program)(τ:TypeId->Option Ty):DR:=λid cp ops st K=>
 bif P.follows .mixedOrders&&Region.noSelect ops then fPr (scanQ P st.ms st.n ops.toList 0 st.sl) λtb=>fSt st λst=>devalF (λi=>fstepF P (prOf tb i) ops) (λi o=>aop1 P τ (cp i) ops o) ops (prOf tb) ops.size (Array.replicate ops.size false) true st K else False
theorem drawF_eq (τ:TypeId->Option Ty):drawF P τ=drawL P τ:=by
 funext id cp ops st K
 unfold drawF drawL
 rw[fPr_eq,fSt_eq,devalF_eq,fstepF_eq]
theorem drawF_ok (τ:TypeId->Option Ty):DrOK P (drawF P τ):=by
 rw[drawF_eq]
 exact drawL_ok τ
theorem IFB.yes {c:Bool}{A B:Prop}(hc:c=true)(h:A):IFB c A B:=IFB.mk (λ_=>h) (λe=>by rw[hc] at e;cases e)
theorem IFB.no {c:Bool}{A B:Prop}(hc:c=false)(h:B):IFB c A B:=IFB.mk (λe=>by rw[hc] at e;cases e) (λ_=>h)
theorem loopFrom {n s:Nat}(hn:n<=1000000000)(hs:s<=n){A:Prop}{B:(Int->Prop)->Int->Prop}{K:Prop}{p:Nat->Prop}(hB:A->∀(rec:Int->Prop)(k:Nat),s<=k->k<n->(∀j,s<=j->j<k->p j)->(p k->rec (IntKind.i64.wrap ((k:Int)+1)))->B rec (k:Int))(hK:(∀j,s<=j->j<n->p j)->K):
 LOOP [Ty.int IntKind.i64] (λ(rec:Int->Prop) (z:Int)=>A->IFB (decide (z<(n:Int))) (B rec z) K) ((s:Int),PUnit.unit):=by
 refine LOOP.fuel (λu=>∃k:Nat,u.1=(k:Int)/\s<=k/\k<=n/\∀j,s<=j->j<k->p j) (λu=>n-Int.toNat u.1) ⟨s,rfl,Nat.le_refl _,hs,λj hj=>by omega⟩ ?_
 rintro rec ⟨(z:Int),⟨⟩⟩ ⟨k,hz,hsk,hk,hp⟩ hrec hA
 have hz:z=(k:Int):=hz
 subst hz
 refine IFB.mk (λhb=> ?_) (λhb=>hK λj hj1 hj=>hp j hj1 (by have:=of_decide_eq_false hb;omega))
 have hb:(k:Int)<n:=of_decide_eq_true hb
 refine hB hA rec k hsk (by omega) hp λhpk=> ?_
 rw[wrapS (by omega)]
 refine hrec (((k+1:Nat):Int),()) ⟨k+1,rfl,by omega,by omega,λj hj1 hj=> ?_⟩ (by show n-((k+1:Nat):Int).toNat<n-(k:Int).toNat;omega)
 by_cases h:j=k
 ·rw[h];exact hpk
 ·exact hp j hj1 (by omega)
theorem LOOP.fuel2 {t1 t2:Ty}{F:(den t1->den t2->Prop)->den t1->den t2->Prop}{v1:den t1}{v2:den t2}(I:den t1->den t2->Prop)(μ:den t1->den t2->Nat)(h0:I v1 v2)
 (h:∀(rec:den t1->den t2->Prop)(z1:den t1)(z2:den t2),I z1 z2->(∀y1 y2,I y1 y2->μ y1 y2<μ z1 z2->rec y1 y2)->F rec z1 z2):LOOP [t1,t2] F (v1,v2,PUnit.unit):=
 LOOP.fuel (λu=>I u.1 u.2.1) (λu=>μ u.1 u.2.1) h0 λrec u hI hrec=>h rec u.1 u.2.1 hI λy1 y2 hy hm=>hrec (y1,y2,PUnit.unit) hy hm
theorem LOOP.fuel3 {t1 t2 t3:Ty}{F:(den t1->den t2->den t3->Prop)->den t1->den t2->den t3->Prop}{v1:den t1}{v2:den t2}{v3:den t3}(I:den t1->den t2->den t3->Prop)(μ:den t1->den t2->den t3->Nat)(h0:I v1 v2 v3)
 (h:∀(rec:den t1->den t2->den t3->Prop)(z1:den t1)(z2:den t2)(z3:den t3),I z1 z2 z3->(∀y1 y2 y3,I y1 y2 y3->μ y1 y2 y3<μ z1 z2 z3->rec y1 y2 y3)->F rec z1 z2 z3):LOOP [t1,t2,t3] F (v1,v2,v3,PUnit.unit):=
 LOOP.fuel (λu=>I u.1 u.2.1 u.2.2.1) (λu=>μ u.1 u.2.1 u.2.2.1) h0 λrec u hI hrec=>h rec u.1 u.2.1 u.2.2.1 hI λy1 y2 y3 hy hm=>hrec (y1,y2,y3,PUnit.unit) hy hm
theorem wrapP {k:Nat}(h:k<=1000000000)(h1:1<=k):IntKind.i64.wrap ((k:Int)-1)=((k-1:Nat):Int):=by
 rw[wrap_in (by omega) (by omega)];omega
def pclI_P (l:List (Int))(post:List (Int)->Prop):Prop:=(l.length<=4000000)/\post (l)
def pclI_sp:Spec:=⟨83,false,false,[.sl (.int .i64)],.own 3 (.int .i64),λx post=>pclI_P (x.1:List (Int)) (λy0=>post (y0,()))⟩
def pclI_C:CtxR:=⟨tau,[],lookJ []⟩
def pclI_W (l:List (Int))(post:List (Int)->Prop):Prop:=∀(v1:Bool),(v1=true->l=[])->IFB v1 (post []) (((0:Nat)+l.length) * (8:Nat)<=140737488355328/\post ([]++l))
theorem pclI_w (l:List (Int))(post:dens (shT pclI_sp.rs [])->Prop):pclI_W l (λy0=>post (y0,()))=walkG (callR Tryz.prog pclI_C (drawR Tryz.prog tau) 8 0) 83 false [tv (.sl (.int .i64)) l] pclI_sp.rs post:=by kernel_rfl
theorem pclI_of (h:∀l post,pclI_P l post->pclI_W l post):SpecOK Tryz.prog pclI_sp:=SpecOK.of_rules (C:=pclI_C) (dr:=drawR Tryz.prog tau) (n:=8) (fk:=0) .nil (drawR_ok tau) λx post hp=>HoldW.of (pclI_w x.1 post) (h x.1 (λy0=>post (y0,())) hp)
theorem pclI_ok:SpecOK Tryz.prog pclI_sp:=pclI_of λl post hp=>by
 obtain⟨hl,hp⟩:=hp
 unfold pclI_W
 refine λv hv=>IFB.mk (λh=> ?_) (λ_=>⟨by omega,?_⟩)
 ·rw[hv h] at hp;exact hp
 ·rw[List.nil_append];exact hp
def pasc_P (l:List (Int))(post:Bool->Prop):Prop:=(l.length<=1000000000)/\∀q:Bool,(q=true↔asc l)->post q
def pasc_sp:Spec:=⟨214,false,false,[.sl (.int .i64)],.dat (.bool),λx post=>pasc_P (x.1:List (Int)) (λy0=>post (y0,()))⟩
def pasc_C:CtxR:=⟨tau,[],lookJ [(0,5,⟨[(3,.dat (.int .i64))],[],(List.range' 4 16),[],[]⟩)]⟩
def pasc_W (l:List (Int))(post:Bool->Prop):Prop:=LOOP [Ty.int IntKind.i64] (λ(rec1:Int->Prop) (z2:Int)=>(↑l.length:Int)<=9223372036854775807->IFB (decide (z2<(↑l.length:Int))) (((0:Int)<=z2/\z2<(↑l.length:Int))/\((0:Int)<=IntKind.i64.wrap (z2-1)/\IntKind.i64.wrap (z2-1)<(↑l.length:Int))/\IFB (decide (ix l z2<=ix l (IntKind.i64.wrap (z2-1)))) (post false) (rec1 (IntKind.i64.wrap (z2+1)))) (post true)) ((1:Int),PUnit.unit)
theorem pasc_w (l:List (Int))(post:dens (shT pasc_sp.rs [])->Prop):pasc_W l (λy0=>post (y0,()))=walkG (callR Tryz.prog pasc_C (drawR Tryz.prog tau) 8 0) 214 false [tv (.sl (.int .i64)) l] pasc_sp.rs post:=by kernel_rfl
theorem pasc_of (h:∀l post,pasc_P l post->pasc_W l post):SpecOK Tryz.prog pasc_sp:=SpecOK.of_rules (C:=pasc_C) (dr:=drawR Tryz.prog tau) (n:=8) (fk:=0) .nil (drawR_ok tau) λx post hp=>HoldW.of (pasc_w x.1 post) (h x.1 (λy0=>post (y0,())) hp)
theorem pasc_ok:SpecOK Tryz.prog pasc_sp:=pasc_of λl post hp=>by
 obtain⟨hl,hp⟩:=hp
 unfold pasc_W
 by_cases h0:l.length=0
 ·refine LOOP.fuel (λu=>(u.1:Int)=(1:Int)) (λu=>0) rfl ?_
  rintro rec ⟨(z:Int),⟨⟩⟩ hz hrec _
  have hz:z=1:=hz
  subst hz
  refine IFB.no (by rw[h0];rfl) (hp true ⟨λ_ i hi=>by omega,λ_=>rfl⟩)
 ·refine loopFrom (n:=l.length) (s:=1) hl (by omega) (p:=λj=>ix l ((j-1:Nat):Int)<ix l (j:Int)) (λhA rec k h1 hk hall hrec=> ?_) λhall=>hp true ⟨λ_ i hi=>hall (i+1) (by omega) hi,λ_=>rfl⟩
  rw[wrapP (by omega) h1]
  refine⟨⟨by omega,by omega⟩,⟨by omega,by omega⟩,IFB.mk (λhb=>hp false ⟨λh=>(by cases h),λh=> ?_⟩) (λhb=>hrec (by have:=of_decide_eq_false hb;omega))⟩
  have hb:ix l (k:Int)<=ix l ((k-1:Nat):Int):=of_decide_eq_true hb
  have:=h (k-1) (by omega)
  rw[show k-1+1=k by omega] at this
  omega
def pmts_P (a:api_Region)(b:api_Region)(post:Bool->Prop):Prop:=∀q:Bool,(q=true↔meetP a.1 b.1)->post q
def pmts_sp:Spec:=⟨230,false,false,[.st .api_Region,.st .api_Region],.dat (.bool),λx post=>pmts_P (x.1:api_Region) (x.2.1:api_Region) (λy0=>post (y0,()))⟩
def pmts_C:CtxR:=⟨tau,[rule1 pval_sp],lookJ [(1075800136,0,⟨[(0,.dat (.int .i64))],[],[],[],[]⟩),(1075800136,5,⟨[(8,.dat (.int .i64))],[],(List.range' 9 8++[5,18]),[],[]⟩),(1218669795535893868816298795,0,⟨[(0,.dat (.int .i64))],[],[],[],[]⟩),(1218669795535893868816298795,5,⟨[(8,.dat (.int .i64))],[],(List.range' 9 8++[5,18]),[],[]⟩)]⟩
def pmts_W (a:api_Region)(b:api_Region)(post:Bool->Prop):Prop:=∀(v1:Bool),(v1=true↔validP a.1)->JOIN [Ty.bool] (λ(y2:Bool)=>JOIN [Ty.bool] (λ(y3:Bool)=>post (v1&&y2&&y3)) λ(J4:Bool->Prop)=>IFB (gx true (v1&&y2)) (JOIN [Ty.int IntKind.i64] (λ(y5:Int)=>J4 (decide ((0:Int)<=y5))) λ(J6:Int->Prop)=>(↑a.1.length:Int)<=9223372036854775807->LOOP [Ty.int IntKind.i64] (λ(rec7:Int->Prop) (z8:Int)=>IFB (decide (z8<(↑a.1.length:Int))) (((0:Int)<=z8/\z8<(↑a.1.length:Int))/\JOIN [Ty.int IntKind.i64] (λ(y9:Int)=>IFB (decide ((0:Int)<=y9)) (J6 z8) (rec7 (IntKind.i64.wrap (z8+1)))) λ(J10:Int->Prop)=>(↑b.1.length:Int)<=9223372036854775807->LOOP [Ty.int IntKind.i64] (λ(rec11:Int->Prop) (z12:Int)=>IFB (decide (z12<(↑b.1.length:Int))) (((0:Int)<=z12/\z12<(↑b.1.length:Int))/\IFB (decide ((ix a.1 z8).1<(ix b.1 z12).3)&&decide ((ix b.1 z12).1<(ix a.1 z8).3)&&decide ((ix a.1 z8).2<(ix b.1 z12).4)&&decide ((ix b.1 z12).2<(ix a.1 z8).4)) (J10 z12) (rec11 (IntKind.i64.wrap (z12+1)))) (J10 (-1:Int))) ((0:Int),PUnit.unit)) (J6 (-1:Int))) ((0:Int),PUnit.unit)) (J4 false)) λ(J13:Bool->Prop)=>IFB (gx true v1) (∀(v14:Bool),(v14=true↔validP b.1)->J13 v14) (J13 false)
theorem pmts_w (a:api_Region)(b:api_Region)(post:dens (shT pmts_sp.rs [])->Prop):pmts_W a b (λy0=>post (y0,()))=walkG (callR Tryz.prog pmts_C (drawF Tryz.prog tau) 8 0) 230 false [tv (.st .api_Region) a,tv (.st .api_Region) b] pmts_sp.rs post:=by kernel_rfl
theorem pmts_of (h:∀a b post,pmts_P a b post->pmts_W a b post):SpecOK Tryz.prog pmts_sp:=SpecOK.of_rules (C:=pmts_C) (dr:=drawF Tryz.prog tau) (n:=8) (fk:=0) (.cons (rule1_ok pval_ok) .nil) (drawF_ok tau) λx post hp=>HoldW.of (pmts_w x.1 x.2.1 post) (h x.1 x.2.1 (λy0=>post (y0,())) hp)
theorem over_iff {a b:List Rc}(ha:∀r∈a,proper r)(hb:∀r∈b,proper r):(∃x y,cov a x y=true/\cov b x y=true)↔∃r∈a,∃s∈b,r.1<s.3/\s.1<r.3/\r.2<s.4/\s.2<r.4:=by
 constructor
 ·rintro ⟨x,y,h1,h2⟩
  obtain⟨r,hr,p1,p2,p3,p4⟩:=cov_iff.1 h1
  obtain⟨s,hs,q1,q2,q3,q4⟩:=cov_iff.1 h2
  exact⟨r,hr,s,hs,by omega,by omega,by omega,by omega⟩
 ·rintro ⟨r,hr,s,hs,h1,h2,h3,h4⟩
  obtain⟨p1,p2,p3,p4,p5,p6⟩:=ha r hr
  obtain⟨q1,q2,q3,q4,q5,q6⟩:=hb s hs
  exact⟨max r.1 s.1,max r.2 s.2,cov_iff.2 ⟨r,hr,by omega,by omega,by omega,by omega⟩,cov_iff.2 ⟨s,hs,by omega,by omega,by omega,by omega⟩⟩
theorem ix_ex {α:Type}[Inhabited α]{l:List α}{x:α}(h:x∈l):∃k:Nat,k<l.length/\ix l (k:Int)=x:=by
 obtain⟨k,hk,e⟩:=List.getElem_of_mem h
 exact⟨k,hk,by rw[ix_lt hk];exact e⟩
theorem pmts_ok:SpecOK Tryz.prog pmts_sp:=pmts_of λa b post hp=>by
 unfold pmts_W
 intro v1 h1
 refine JOIN.opq λ(J:Bool->Prop) hJ=> ?_
 have fin:∀y:Bool,(y=true↔validP b.1)->v1=true->J y:=λy hy hv=>by
  rw[hJ]
  refine JOIN.opq λ(J4:Bool->Prop) hJ4=> ?_
  have hva:=h1.1 hv
  refine IFB.mk (λhg=> ?_) (λhg=> ?_)
  ·have hy1:y=true:=by rw[hv,Bool.true_and,gx_t] at hg;exact hg
   have hvb:=hy.1 hy1
   have hla:a.1.length<=120:=hva.1
   have hlb:b.1.length<=120:=hvb.1
   refine JOIN.opq λ(J6:Int->Prop) hJ6 _=> ?_
   have e6:∀z:Int,J6 z=post (decide (0<=z)):=λz=>by rw[hJ6,hJ4,hv,hy1];rfl
   have yes:∀{i j:Nat},i<a.1.length->j<b.1.length->(ix a.1 (i:Int)).1<(ix b.1 (j:Int)).3/\(ix b.1 (j:Int)).1<(ix a.1 (i:Int)).3/\(ix a.1 (i:Int)).2<(ix b.1 (j:Int)).4/\(ix b.1 (j:Int)).2<(ix a.1 (i:Int)).4->J6 (i:Int):=λhi hj h=>by
    rw[e6]
    refine hp _ ⟨λ_=>⟨hva,hvb,(over_iff hva.2.1 hvb.2.1).2 ⟨_,ix_mem (by omega) (by omega),_,ix_mem (by omega) (by omega),h⟩⟩,λ_=>decide_eq_true (by omega)⟩
   refine loopCmp (n:=a.1.length) (by omega) (p:=λi=>∀j:Nat,j<b.1.length->¬((ix a.1 (i:Int)).1<(ix b.1 (j:Int)).3/\(ix b.1 (j:Int)).1<(ix a.1 (i:Int)).3/\(ix a.1 (i:Int)).2<(ix b.1 (j:Int)).4/\(ix b.1 (j:Int)).2<(ix a.1 (i:Int)).4)) (λrec k hk _ hrec=>⟨by omega,?_⟩) λhall=> ?_
   ·refine JOIN.opq λ(J10:Int->Prop) hJ10 _=> ?_
    refine loopCmp (n:=b.1.length) (by omega) (p:=λj=>¬((ix a.1 (k:Int)).1<(ix b.1 (j:Int)).3/\(ix b.1 (j:Int)).1<(ix a.1 (k:Int)).3/\(ix a.1 (k:Int)).2<(ix b.1 (j:Int)).4/\(ix b.1 (j:Int)).2<(ix a.1 (k:Int)).4)) (λrec2 j hj _ hrec2=>⟨by omega,IFB.mk (λhc=> ?_) (λhc=>hrec2 λh=> ?_)⟩) λhall=> ?_
    ·simp only[Bool.and_eq_true,decide_eq_true_eq] at hc
     rw[hJ10]
     exact IFB.yes (decide_eq_true (by omega)) (yes hk hj (by omega))
    ·simp only[Bool.and_eq_false_iff,decide_eq_false_iff_not] at hc
     omega
    ·rw[hJ10]
     exact IFB.no rfl (hrec hall)
   ·rw[e6]
    refine hp _ ⟨λh=>(by cases h),λh=> ?_⟩
    obtain⟨r,hr,s,hs,h⟩:=(over_iff hva.2.1 hvb.2.1).1 h.2.2
    obtain⟨i,hi,rfl⟩:=ix_ex hr
    obtain⟨j,hj,rfl⟩:=ix_ex hs
    exact absurd h (hall i hi j hj)
  ·rw[hJ4]
   have hy1:y=false:=by rw[hv,Bool.true_and,gx_t] at hg;exact hg
   rw[hy1,Bool.and_false]
   refine hp _ ⟨λh=>(by cases h),λh=> ?_⟩
   have:=hy.2 h.2.1
   rw[hy1] at this;cases this
 refine IFB.mk (λhg y hy=>fin y hy (by rw[gx_t] at hg;exact hg)) (λhg=> ?_)
 have hv:v1=false:=by rw[gx_t] at hg;exact hg
 rw[hJ,hv]
 refine JOIN.opq λ(J4:Bool->Prop) hJ4=>IFB.no rfl ?_
 rw[hJ4]
 refine hp _ ⟨λh=>(by cases h),λh=> ?_⟩
 have:=h1.2 h.1
 rw[hv] at this;cases this
def pprop_P (a:api_Region)(post:Bool->Prop):Prop:=(a.1.length<=1000000000)/\∀q:Bool,(q=true↔propR a)->post q
def pprop_sp:Spec:=⟨219,false,false,[.st .api_Region],.dat (.bool),λx post=>pprop_P (x.1:api_Region) (λy0=>post (y0,()))⟩
def pprop_C:CtxR:=⟨tau,[rule1 pval_sp],lookJ []⟩
def pprop_W (a:api_Region)(post:Bool->Prop):Prop:=(↑a.1.length:Int)<=9223372036854775807->JOIN [Ty.bool] (λ(y1:Bool)=>post (decide ((0:Int)<(↑a.1.length:Int))&&y1)) λ(J2:Bool->Prop)=>IFB (gx true (decide ((0:Int)<(↑a.1.length:Int)))) (∀(v3:Bool),(v3=true↔validP a.1)->J2 v3) (J2 false)
theorem pprop_w (a:api_Region)(post:dens (shT pprop_sp.rs [])->Prop):pprop_W a (λy0=>post (y0,()))=walkG (callR Tryz.prog pprop_C (drawF Tryz.prog tau) 8 0) 219 false [tv (.st .api_Region) a] pprop_sp.rs post:=by kernel_rfl
theorem pprop_of (h:∀a post,pprop_P a post->pprop_W a post):SpecOK Tryz.prog pprop_sp:=SpecOK.of_rules (C:=pprop_C) (dr:=drawF Tryz.prog tau) (n:=8) (fk:=0) (.cons (rule1_ok pval_ok) .nil) (drawF_ok tau) λx post hp=>HoldW.of (pprop_w x.1 post) (h x.1 (λy0=>post (y0,())) hp)
theorem pprop_ok:SpecOK Tryz.prog pprop_sp:=pprop_of λa post hp=>by
 obtain⟨hl,hp⟩:=hp
 unfold pprop_W
 refine λ_=>JOIN.opq λ(J:Bool->Prop) hJ=>IFB.mk (λhg v hv=> ?_) (λhg=> ?_)
 ·have hg:0<a.1.length:=by rw[gx_t] at hg;have:=of_decide_eq_true hg;omega
  rw[hJ]
  refine hp _ ?_
  rw[<-propR_ne,decide_eq_true (by omega:(0:Int)<(a.1.length:Int)),Bool.true_and,hv]
  exact⟨λh=>⟨hg,h⟩,λh=>h.2⟩
 ·have hg:¬0<a.1.length:=by rw[gx_t] at hg;have:=of_decide_eq_false hg;omega
  rw[hJ]
  show post (_&&false)
  rw[Bool.and_false]
  refine hp _ ?_
  rw[<-propR_ne]
  exact⟨λh=>(by cases h),λh=>absurd h.1 hg⟩
end RE
end Go.Proofs.YtjcjdgmojkkioaaGreatDoor
set_option maxRecDepth 100000
set_option linter.unusedVariables false
namespace Go.Proofs.YtjcjdgmojkkioaaGreatDoor
open Go.RowKit
namespace RE
open PL
namespace PL
structure szP (p:Pc):Prop where
 days:p.Days.length<=1000000
 regs:p.Regions.length<=1000000
 pars:p.Parents.length<=1000000
 rect:∀a∈p.Regions,a.Rects.length<=1000000
structure szL (l:List Pc):Prop where
 len:l.length<=1000000
 all:∀p∈l,szP p
end PL
def pends_P (p:api_Parcel)(i:Int)(post:Int->Prop):Prop:=(p.Days.length<=1000000000/\0<=i/\i<=1000000000)/\post (endsP p i)
def pends_sp:Spec:=⟨229,false,false,[.st .api_Parcel,.int .i64],.dat (.int .i64),λx post=>pends_P (x.1:api_Parcel) (x.2.1:Int) (λy0=>post (y0,()))⟩
def pends_C:CtxR:=⟨tau,[],lookJ []⟩
def pends_W (p:api_Parcel)(i:Int)(post:Int->Prop):Prop:=(↑p.5.length:Int)<=9223372036854775807->IFB (decide (IntKind.i64.wrap (i+1)<(↑p.5.length:Int))) (((0:Int)<=IntKind.i64.wrap (i+1)/\IntKind.i64.wrap (i+1)<(↑p.5.length:Int))/\post (ix p.5 (IntKind.i64.wrap (i+1)))) (post p.3)
theorem pends_w (p:api_Parcel)(i:Int)(post:dens (shT pends_sp.rs [])->Prop):pends_W p i (λy0=>post (y0,()))=walkG (callR Tryz.prog pends_C (drawR Tryz.prog tau) 8 0) 229 false [tv (.st .api_Parcel) p,tv (.int .i64) i] pends_sp.rs post:=by kernel_rfl
theorem pends_of (h:∀(p:api_Parcel)(i:Int)(post:Int->Prop),pends_P p i post->pends_W p i post):SpecOK Tryz.prog pends_sp:=SpecOK.of_rules (C:=pends_C) (dr:=drawR Tryz.prog tau) (n:=8) (fk:=0) .nil (drawR_ok tau) λx post hp=>HoldW.of (pends_w x.1 x.2.1 post) (h x.1 x.2.1 (λy0=>post (y0,())) hp)
theorem pends_ok:SpecOK Tryz.prog pends_sp:=pends_of λp i post hp=>by
 obtain⟨⟨h1,h2,h3⟩,hp⟩:=hp
 unfold pends_W
 rw[wrap_in (by omega) (by omega)]
 unfold endsP at hp
 refine λ_=>IFB.mk (λhb=>⟨⟨by omega,of_decide_eq_true hb⟩,?_⟩) (λhb=> ?_)
 ·rw[if_pos (of_decide_eq_true hb)] at hp;exact hp
 ·rw[if_neg (of_decide_eq_false hb)] at hp;exact hp
def pmt_P (p:api_Parcel)(q:api_Parcel)(post:Bool->Prop):Prop:=(p.Days.length=p.Regions.length/\q.Days.length=q.Regions.length/\p.Days.length<=1000000/\q.Days.length<=1000000)/\∀r:Bool,(r=true↔meetPc p q)->post r
def pmt_sp:Spec:=⟨145,false,false,[.st .api_Parcel,.st .api_Parcel],.dat (.bool),λx post=>pmt_P (x.1:api_Parcel) (x.2.1:api_Parcel) (λy0=>post (y0,()))⟩
def pmt_C:CtxR:=⟨tau,[rule1 pmts_sp,rule1 pends_sp],lookJ [(0,5,⟨[(12,.dat (.int .i64))],[],[13,14,15,16,6,5,17,18,19,49,48,25,26,27,28,29,30,31,32,33,34,35,36,37,38,39,40,41,42,43,44,45,46,47,7,8,24,23,22,20,21,50],[],[]⟩),(0,11,⟨[(20,.dat (.int .i64))],[],[21,22,23,24,8,7,47,46,45,44,43,42,41,40,39,38,37,36,35,34,33,32,31,30,29,28,27,26,25,48,49],[],[]⟩),(0,1000007,⟨[(48,.dat .bool)],[],[25,26,27,28,29,30,31,32,33,34,35,36,37,38,39,40,41,42,43,44,45,46,47],[],[]⟩)]⟩
abbrev pmt_a0 (p:api_Parcel)(z2:Int)(q:api_Parcel)(z4:Int):=(Max.max (ix p.5 z2) (ix q.5 z4)<Min.min (endsP {Number:=p.1,From:=p.2,Until:=p.3,Parents:=p.4,Days:=p.5,Regions:=p.6:api_Parcel} z2) (endsP {Number:=q.1,From:=q.2,Until:=q.3,Parents:=q.4,Days:=q.5,Regions:=q.6:api_Parcel} z4))
def pmt_W (p:api_Parcel)(q:api_Parcel)(post:Bool->Prop):Prop:=(↑p.6.length:Int)<=9223372036854775807->LOOP [Ty.int IntKind.i64] (λ(rec1:Int->Prop) (z2:Int)=>IFB (decide (z2<(↑p.6.length:Int))) (((0:Int)<=z2/\z2<(↑p.6.length:Int))/\((↑q.6.length:Int)<=9223372036854775807->LOOP [Ty.int IntKind.i64] (λ(rec3:Int->Prop) (z4:Int)=>IFB (decide (z4<(↑q.6.length:Int))) (((0:Int)<=z4/\z4<(↑q.6.length:Int))/\JOIN [Ty.bool] (λ(y5:Bool)=>IFB y5 (post true) (rec3 (IntKind.i64.wrap (z4+1)))) λ(J6:Bool->Prop)=>((0:Int)<=z2/\z2<(↑p.5.length:Int))/\((0:Int)<=z4/\z4<(↑q.5.length:Int))/\(p.5.length<=1000000000/\0<=z2/\z2<=1000000000)/\(q.5.length<=1000000000/\0<=z4/\z4<=1000000000)/\(JOIN [Ty.bool] (λ(y7:Bool)=>J6 (decide (pmt_a0 p z2 q z4)&&y7)) λ(J8:Bool->Prop)=>IFB (gx true (decide (pmt_a0 p z2 q z4))) (∀(v9:Bool),(v9=true↔meetP (ix p.6 z2).1 (ix q.6 z4).1)->J8 v9) (J8 false))/\JOIN [Ty.bool] (λ(y10:Bool)=>J6 (decide (pmt_a0 p z2 q z4)&&y10)) λ(J11:Bool->Prop)=>IFB (gx true (decide (pmt_a0 p z2 q z4))) (∀(v12:Bool),(v12=true↔meetP (ix p.6 z2).1 (ix q.6 z4).1)->J11 v12) (J11 false)) (rec1 (IntKind.i64.wrap (z2+1)))) ((0:Int),PUnit.unit))) (post false)) ((0:Int),PUnit.unit)
theorem pmt_w (p:api_Parcel)(q:api_Parcel)(post:dens (shT pmt_sp.rs [])->Prop):pmt_W p q (λy0=>post (y0,()))=walkG (callR Tryz.prog pmt_C (drawF Tryz.prog tau) 8 0) 145 false [tv (.st .api_Parcel) p,tv (.st .api_Parcel) q] pmt_sp.rs post:=by kernel_rfl
theorem pmt_of (h:∀(p:api_Parcel)(q:api_Parcel)(post:Bool->Prop),pmt_P p q post->pmt_W p q post):SpecOK Tryz.prog pmt_sp:=SpecOK.of_rules (C:=pmt_C) (dr:=drawF Tryz.prog tau) (n:=8) (fk:=0) (.cons (rule1_ok pmts_ok) (.cons (rule1_ok pends_ok) .nil)) (drawF_ok tau) λx post hp=>HoldW.of (pmt_w x.1 x.2.1 post) (h x.1 x.2.1 (λy0=>post (y0,())) hp)
theorem pmt_ok:SpecOK Tryz.prog pmt_sp:=pmt_of λp q post hp=>by
 obtain⟨⟨h1,h2,h3,h4⟩,hp⟩:=hp
 unfold pmt_W pmt_a0
 intro _
 let M:Nat->Nat->Prop:=λa b=>max (ix p.Days (a:Int)) (ix q.Days (b:Int))<min (endsP p (a:Int)) (endsP q (b:Int))/\meetP (ix p.Regions (a:Int)).Rects (ix q.Regions (b:Int)).Rects
 have hl:p.6.length<=1000000:=by omega
 have hl2:q.6.length<=1000000:=by omega
 refine loopCmp (n:=p.6.length) (by omega) (p:=λa=>∀b:Nat,b<q.6.length->¬M a b) (λrec a ha _ hrec=>⟨by omega,λ_=> ?_⟩) λhall=> ?_
 ·refine loopCmp (n:=q.6.length) (by omega) (p:=λb=>¬M a b) (λrec2 b hb _ hrec2=>⟨by omega,JOIN.opq λ(J:Bool->Prop) hJ=>⟨⟨by omega,by omega⟩,⟨by omega,by omega⟩,⟨by omega,by omega⟩,⟨by omega,by omega⟩,?_⟩⟩) λhall=>hrec hall
  have fin:∀c:Bool,(c=true↔M a b)->J c:=λc hc=>by
   rw[hJ]
   refine IFB.mk (λh=>hp true ⟨λ_=> ?_,λ_=>rfl⟩) (λh=>hrec2 λhm=> ?_)
   ·exact⟨a,b,ha,hb,hc.1 h⟩
   ·have:=hc.2 hm;rw[h] at this;cases this
  have key:JOIN [Ty.bool] (λ(y7:Bool)=>J (decide (Max.max (ix p.5 (a:Int)) (ix q.5 (b:Int))<Min.min (endsP p (a:Int)) (endsP q (b:Int)))&&y7)) λ(J8:Bool->Prop)=>IFB (gx true (decide (Max.max (ix p.5 (a:Int)) (ix q.5 (b:Int))<Min.min (endsP p (a:Int)) (endsP q (b:Int))))) (∀(v9:Bool),(v9=true↔meetP (ix p.6 (a:Int)).1 (ix q.6 (b:Int)).1)->J8 v9) (J8 false):=by
   refine JOIN.opq λ(J8:Bool->Prop) hJ8=>IFB.mk (λhg v hv=> ?_) (λhg=> ?_)
   ·rw[gx_t] at hg
    rw[hJ8]
    refine fin _ ?_
    rw[hg,Bool.true_and,hv]
    exact⟨λh=>⟨of_decide_eq_true hg,h⟩,λh=>h.2⟩
   ·rw[gx_t] at hg
    rw[hJ8]
    refine fin _ ?_
    rw[hg,Bool.false_and]
    exact⟨λh=>(by cases h),λh=>absurd h.1 (of_decide_eq_false hg)⟩
  exact⟨key,key⟩
 ·refine hp false ⟨λh=>(by cases h),λh=> ?_⟩
  obtain⟨a,b,ha,hb,hm⟩:=h
  exact absurd hm (hall a ha b hb)
def pright_P (l:List (api_Parcel))(p:api_Parcel)(post:Bool->Prop):Prop:=(l.length<=1000000/\p.Days.length<=1000000/\p.Regions.length<=1000000/\p.Parents.length<=1000000/\∀a∈p.Regions,a.Rects.length<=1000000)/\∀r:Bool,(r=true↔rightP l p)->post r
def pright_sp:Spec:=⟨142,false,false,[.sl (.st .api_Parcel),.st .api_Parcel],.dat (.bool),λx post=>pright_P (x.1:List (api_Parcel)) (x.2.1:api_Parcel) (λy0=>post (y0,()))⟩
def pright_C:CtxR:=⟨tau,[rule1 pprop_sp,rule1 pasc_sp],lookJ [(8518828876,0,⟨[(0,.dat (.int .i64))],[],[],[],[]⟩),(8518828876,5,⟨[(8,.dat (.int .i64))],[],[9,10,5,11,12,13,14,15,16,18],[],[]⟩),(6389121913,0,⟨[(0,.dat (.int .i64))],[],[],[],[]⟩),(6389121913,5,⟨[(8,.dat (.int .i64))],[],[9,10,5,11,12,13,14,15,16,18],[],[]⟩),(0,1000004,⟨[(90,.dat .bool)],[],[49,50,51,57,58,66,67,72,73,84,85,52,53,54,55,56,59,60,61,62,63,64,65,68,69,70,71,74,75,76,77,78,79,80,81,82,83,86,87,88,89],[],[]⟩)]⟩
abbrev pright_a0 (p:api_Parcel)(y12:Bool):=(gx false (decide ((↑p.5.length:Int)=(0:Int))|| !decide ((↑p.5.length:Int)=(↑p.6.length:Int))|| !decide (ix p.5 (0:Int)=p.2)|| !y12||decide (Min.min p.3 (36864:Int)<ix p.5 (IntKind.i64.wrap ((↑p.5.length:Int)-(1:Int))))))
abbrev pright_a1 (p:api_Parcel)(y12:Bool):=(gx false (decide ((↑p.5.length:Int)=(0:Int))|| !decide ((↑p.5.length:Int)=(↑p.6.length:Int))|| !decide (ix p.5 (0:Int)=p.2)|| !y12)=true->(0:Int)<=IntKind.i64.wrap ((↑p.5.length:Int)-(1:Int))/\IntKind.i64.wrap ((↑p.5.length:Int)-(1:Int))<(↑p.5.length:Int))
abbrev pright_a2 (p:api_Parcel)(l:List (api_Parcel)):=(!decide (p.1=IntKind.i64.wrap ((↑l.length:Int)+(1:Int)))||decide (p.2<(0:Int))||decide (p.3<p.2)||decide ((36865:Int)<p.3))
def pright_W (l:List (api_Parcel))(p:api_Parcel)(post:Bool->Prop):Prop:=(↑l.length:Int)<=9223372036854775807->(gx false (pright_a2 p l)=true->(↑l.length:Int)<=9223372036854775807)->((gx false (pright_a2 p l)&&gx true (decide ((0:Int)<(↑l.length:Int))))=true->(↑l.length:Int)<=9223372036854775807)->((gx false (pright_a2 p l)&&gx true (decide ((0:Int)<(↑l.length:Int))))=true->0<=IntKind.i64.wrap ((↑l.length:Int)-1)/\IntKind.i64.wrap ((↑l.length:Int)-1)<(↑l.length:Int))/\IFB (!decide (p.1=IntKind.i64.wrap ((↑l.length:Int)+1))||decide (p.2<0)||decide (p.3<p.2)||decide ((36865:Int)<p.3)||decide ((0:Int)<(↑l.length:Int))&&decide (p.2<(ix l (IntKind.i64.wrap ((↑l.length:Int)-1))).2)) (post false) ((↑p.5.length:Int)<=9223372036854775807->JOIN [Ty.bool] (λ(y1:Bool)=>IFB y1 (post false) (JOIN [Ty.int IntKind.i64] (λ(y2:Int)=>IFB (decide ((0:Int)<=y2)) (post false) (JOIN [Ty.int IntKind.i64] (λ(y3:Int)=>post !decide ((0:Int)<=y3)) λ(J4:Int->Prop)=>(↑p.4.length:Int)<=9223372036854775807->LOOP [Ty.int IntKind.i64] (λ(rec5:Int->Prop) (z6:Int)=>IFB (decide (z6<(↑p.4.length:Int))) (((0:Int)<=z6/\z6<(↑p.4.length:Int))/\((gx false (decide (ix p.4 z6<1))=true->(↑l.length:Int)<=9223372036854775807)->(gx false (decide (ix p.4 z6<1)||decide ((↑l.length:Int)<ix p.4 z6))=true->0<=IntKind.i64.wrap (ix p.4 z6-1)/\IntKind.i64.wrap (ix p.4 z6-1)<(↑l.length:Int))/\IFB (decide (ix p.4 z6<1)||decide ((↑l.length:Int)<ix p.4 z6)|| !decide ((ix l (IntKind.i64.wrap (ix p.4 z6-1))).3=p.2)) (J4 z6) (rec5 (IntKind.i64.wrap (z6+1))))) (J4 (-1:Int))) ((0:Int),PUnit.unit))) λ(J7:Int->Prop)=>(↑p.6.length:Int)<=9223372036854775807->LOOP [Ty.int IntKind.i64] (λ(rec8:Int->Prop) (z9:Int)=>IFB (decide (z9<(↑p.6.length:Int))) (((0:Int)<=z9/\z9<(↑p.6.length:Int))/\(ix p.6 z9).1.length<=1000000000/\∀(v10:Bool),(v10=true↔propR {Rects:=(ix p.6 z9).1:api_Region})->IFB (!v10) (J7 z9) (rec8 (IntKind.i64.wrap (z9+1)))) (J7 (-1:Int))) ((0:Int),PUnit.unit))) λ(J11:Bool->Prop)=>(gx false (decide ((↑p.5.length:Int)=0))=true->(↑p.6.length:Int)<=9223372036854775807)->(gx false (decide ((↑p.5.length:Int)=0)|| !decide ((↑p.5.length:Int)=(↑p.6.length:Int)))=true->Int.NonNeg 0/\0<(↑p.5.length:Int))/\JOIN [Ty.bool] (λ(y12:Bool)=>((pright_a1 p y12)/\(JOIN [Ty.bool] (λ(y13:Bool)=>J11 (decide ((↑p.5.length:Int)=0)|| !decide ((↑p.5.length:Int)=(↑p.6.length:Int))|| !decide (ix p.5 0=p.2)|| !y12||decide (Min.min p.3 36864<ix p.5 (IntKind.i64.wrap ((↑p.5.length:Int)-1)))|| !y13)) λ(J14:Bool->Prop)=>IFB (pright_a0 p y12) (p.4.length<=1000000000/\∀(v15:Bool),(v15=true↔asc p.4)->J14 v15) (J14 false))/\JOIN [Ty.bool] (λ(y16:Bool)=>J11 (decide ((↑p.5.length:Int)=0)|| !decide ((↑p.5.length:Int)=(↑p.6.length:Int))|| !decide (ix p.5 0=p.2)|| !y12||decide (Min.min p.3 36864<ix p.5 (IntKind.i64.wrap ((↑p.5.length:Int)-1)))|| !y16)) λ(J17:Bool->Prop)=>IFB (pright_a0 p y12) (p.4.length<=1000000000/\∀(v18:Bool),(v18=true↔asc p.4)->J17 v18) (J17 false))/\(pright_a1 p y12)/\JOIN [Ty.bool] (λ(y19:Bool)=>J11 (decide ((↑p.5.length:Int)=0)|| !decide ((↑p.5.length:Int)=(↑p.6.length:Int))|| !decide (ix p.5 0=p.2)|| !y12||decide (Min.min p.3 36864<ix p.5 (IntKind.i64.wrap ((↑p.5.length:Int)-1)))|| !y19)) λ(J20:Bool->Prop)=>IFB (pright_a0 p y12) (p.4.length<=1000000000/\∀(v21:Bool),(v21=true↔asc p.4)->J20 v21) (J20 false)) λ(J22:Bool->Prop)=>IFB (gx false (decide ((↑p.5.length:Int)=0)|| !decide ((↑p.5.length:Int)=(↑p.6.length:Int))|| !decide (ix p.5 0=p.2))) (p.5.length<=1000000000/\∀(v23:Bool),(v23=true↔asc p.5)->J22 v23) (J22 false))
theorem pright_w (l:List (api_Parcel))(p:api_Parcel)(post:dens (shT pright_sp.rs [])->Prop):pright_W l p (λy0=>post (y0,()))=walkG (callR Tryz.prog pright_C (drawF Tryz.prog tau) 8 0) 142 false [tv (.sl (.st .api_Parcel)) l,tv (.st .api_Parcel) p] pright_sp.rs post:=by kernel_rfl
theorem pright_of (h:∀(l:List (api_Parcel))(p:api_Parcel)(post:Bool->Prop),pright_P l p post->pright_W l p post):SpecOK Tryz.prog pright_sp:=SpecOK.of_rules (C:=pright_C) (dr:=drawF Tryz.prog tau) (n:=8) (fk:=0) (.cons (rule1_ok pprop_ok) (.cons (rule1_ok pasc_ok) .nil)) (drawF_ok tau) λx post hp=>HoldW.of (pright_w x.1 x.2.1 post) (h x.1 x.2.1 (λy0=>post (y0,())) hp)
set_option maxHeartbeats 1000000 in
theorem pright_ok:SpecOK Tryz.prog pright_sp:=pright_of λl p post hp=>by
 obtain⟨⟨hl,z1,z2,z3,z4⟩,hp⟩:=hp
 unfold pright_W pright_a2 pright_a1 pright_a0
 have hw1:IntKind.i64.wrap ((l.length:Int)+1)=(l.length:Int)+1:=wrap_in (by omega) (by omega)
 intro _ _ _
 have hlast:0<l.length->IntKind.i64.wrap ((l.length:Int)-1)=(l.length:Int)-1:=λh=>wrap_in (by omega) (by omega)
 rw[hw1]
 refine⟨λh=> ?_,IFB.mk (λhc=>hp false ⟨λh=>(by cases h),λh=> ?_⟩) (λhc=> ?_)⟩
 ·have h:(0:Int)<(l.length:Int):=by
   simp only[Bool.and_eq_true,gx_t,decide_eq_true_eq] at h;exact h.2
  rw[hlast (by omega)];omega
 ·obtain⟨a1,a2,a3,a4,a5,_,_⟩:=h
  simp only[Bool.or_eq_true,Bool.and_eq_true,Bool.not_eq_true',decide_eq_true_eq,decide_eq_false_iff_not] at hc
  rcases hc with (((hc|hc)|hc)|hc)|⟨hc1,hc2⟩
  ·exact (hc a1).elim
  ·omega
  ·omega
  ·omega
  ·rw[hlast (by omega)] at hc2
   have:=a5 (by omega)
   omega
 have hA:p.Number=(l.length:Int)+1/\0<=p.From/\p.From<=p.Until/\p.Until<=36865/\(0<l.length->(ix l ((l.length:Int)-1)).From<=p.From):=by
  simp only[Bool.or_eq_false_iff,Bool.and_eq_false_iff,Bool.not_eq_false',decide_eq_true_eq,decide_eq_false_iff_not] at hc
  obtain⟨⟨⟨⟨c1,c2⟩,c3⟩,c4⟩,c5⟩:=hc
  refine⟨c1,by omega,by omega,by omega,λh=> ?_⟩
  rw[hlast h] at c5
  rcases c5 with c5|c5
  ·omega
  ·exact Int.not_lt.1 c5
 clear hc
 have hI:∀q:Bool,(q=true↔outP p/\parP l p)->post q:=λq hq=>hp q (by
  rw[hq]
  exact⟨λh=>⟨hA.1,hA.2.1,hA.2.2.1,hA.2.2.2.1,hA.2.2.2.2,h.1,h.2⟩,λh=>⟨h.2.2.2.2.2.1,h.2.2.2.2.2.2⟩⟩)
 intro _
 let o1:Prop:=0<p.Days.length/\p.Days.length=p.Regions.length/\ix p.Days 0=p.From/\asc p.Days/\ix p.Days ((p.Days.length:Int)-1)<=min p.Until 36864/\asc p.Parents
 refine JOIN.opq λ(J11:Bool->Prop) hJ11=> ?_
 have k11:∀c:Bool,(c=true↔¬o1)->J11 c:=λc hc=>by
  rw[hJ11]
  refine IFB.mk (λh=>hI false ⟨λh=>(by cases h),λh2=> ?_⟩) (λh=> ?_)
  ·exact absurd ⟨h2.1.1,h2.1.2.1,h2.1.2.2.1,h2.1.2.2.2.1,h2.1.2.2.2.2.1,h2.2.1⟩ (hc.1 h)
  have ho:o1:=Classical.byContradiction λhn=>by have:=hc.2 hn;rw[h] at this;cases this
  refine JOIN.opq λ(J7:Int->Prop) hJ7 _=> ?_
  refine loopCmp (n:=p.6.length) (by omega) (p:=λi=>propR (ix p.6 (i:Int))) (λrec k hk _ hrec=>⟨by omega,?_,λv hv=>IFB.mk (λhb=> ?_) (λhb=>hrec (hv.1 (by simpa using hb)))⟩) λhall=> ?_
  ·have:=z4 _ (ix_mem (l:=p.Regions) (i:=(k:Int)) (by omega) (by omega));omega
  ·have hv0:v=false:=by simpa using hb
   rw[hJ7]
   refine IFB.yes (decide_eq_true (by omega)) (hI false ⟨λh=>(by cases h),λh2=> ?_⟩)
   have:=hv.2 (h2.1.2.2.2.2.2 _ (ix_mem (l:=p.Regions) (i:=(k:Int)) (by omega) (by omega)))
   rw[hv0] at this;cases this
  ·rw[hJ7]
   refine IFB.no rfl (JOIN.opq λ(J4:Int->Prop) hJ4 _=> ?_)
   have hreg:∀a∈p.Regions,propR a:=λa ha=>by
    obtain⟨i,hi,rfl⟩:=ix_ex ha
    exact hall i hi
   have hout:outP p:=⟨ho.1,ho.2.1,ho.2.2.1,ho.2.2.2.1,ho.2.2.2.2.1,hreg⟩
   refine loopCmp (n:=p.4.length) (by omega) (p:=λi=>1<=ix p.4 (i:Int)/\ix p.4 (i:Int)<=(l.length:Int)/\(ix l (ix p.4 (i:Int)-1)).Until=p.From) (λrec k hk _ hrec=>⟨by omega,λ_=>⟨λh=> ?_,IFB.mk (λhb=> ?_) (λhb=>hrec ?_)⟩⟩) λhall2=> ?_
   ·rw[gx_f] at h
    simp only[Bool.not_eq_true',Bool.or_eq_false_iff,decide_eq_false_iff_not] at h
    rw[wrap_in (by omega) (by omega)];omega
   ·rw[hJ4]
    show post (!decide ((0:Int)<=(k:Int)))
    have hd:(decide ((0:Int)<=(k:Int)))=true:=decide_eq_true (by omega)
    rw[hd]
    refine hI false ⟨λh=>(by cases h),λh2=> ?_⟩
    obtain⟨e1,e2,e3⟩:=h2.2.2 _ (ix_mem (l:=p.Parents) (i:=(k:Int)) (by omega) (by omega))
    simp only[Bool.or_eq_true,Bool.not_eq_true',decide_eq_true_eq,decide_eq_false_iff_not] at hb
    rcases hb with (hb|hb)|hb
    ·omega
    ·omega
    ·rw[wrap_in (by omega) (by omega)] at hb;exact (hb e3).elim
   ·simp only[Bool.or_eq_false_iff,Bool.not_eq_false',decide_eq_true_eq,decide_eq_false_iff_not] at hb
    obtain⟨⟨b1,b2⟩,b3⟩:=hb
    rw[wrap_in (by omega) (by omega)] at b3
    exact⟨by omega,by omega,b3⟩
   ·rw[hJ4]
    refine hI true ⟨λ_=>⟨hout,ho.2.2.2.2.2,λk hk=> ?_⟩,λ_=>rfl⟩
    obtain⟨i,hi,rfl⟩:=ix_ex hk
    exact hall2 i hi
 intro _
 have hz:Int.NonNeg (0:Int):=Int.NonNeg.mk 0
 refine⟨λh=>⟨hz,?_⟩,?_⟩
 ·rw[gx_f] at h
  simp only[Bool.not_eq_true',Bool.or_eq_false_iff,decide_eq_false_iff_not] at h
  omega
 refine JOIN.opq λ(J22:Bool->Prop) hJ22=> ?_
 have kn:∀y:Bool,(gx false (decide ((p.5.length:Int)=(0:Int))|| !decide ((p.5.length:Int)=(p.6.length:Int))|| !decide (ix p.5 (0:Int)=p.2)|| !y)=true)->0<=IntKind.i64.wrap ((p.5.length:Int)-1)/\IntKind.i64.wrap ((p.5.length:Int)-1)<(p.5.length:Int):=λy h=>by
  rw[gx_f] at h
  simp only[Bool.not_eq_true',Bool.or_eq_false_iff,decide_eq_false_iff_not] at h
  rw[wrap_in (by omega) (by omega)];omega
 have k22:∀y:Bool,(0<p.Days.length/\p.Days.length=p.Regions.length/\ix p.Days 0=p.From->(y=true↔asc p.Days))->(¬(0<p.Days.length/\p.Days.length=p.Regions.length/\ix p.Days 0=p.From)->y=false)->J22 y:=λy hy1 hy0=>by
  rw[hJ22]
  have hcond:∀z:Bool,((decide ((p.5.length:Int)=(0:Int))|| !decide ((p.5.length:Int)=(p.6.length:Int))|| !decide (ix p.5 (0:Int)=p.2)|| !y||decide (Min.min p.3 (36864:Int)<ix p.5 (IntKind.i64.wrap ((p.5.length:Int)-(1:Int))))|| !z)=false↔(0<p.Days.length/\p.Days.length=p.Regions.length/\ix p.Days 0=p.From/\asc p.Days/\ix p.Days ((p.Days.length:Int)-1)<=min p.Until 36864/\z=true)):=λz=>by
   by_cases hc:0<p.Days.length/\p.Days.length=p.Regions.length/\ix p.Days 0=p.From
   ·have hy:=hy1 hc
    rw[wrap_in (by omega) (by omega)]
    simp only[Bool.or_eq_false_iff,Bool.not_eq_false',decide_eq_true_eq,decide_eq_false_iff_not,hy]
    obtain⟨c1,c2,c3⟩:=hc
    constructor
    ·rintro ⟨⟨⟨⟨⟨d1,d2⟩,d3⟩,d4⟩,d5⟩,d6⟩
     exact⟨c1,c2,c3,d4,Int.not_lt.1 d5,d6⟩
    ·rintro ⟨d1,d2,d3,d4,d5,d6⟩
     exact⟨⟨⟨⟨⟨by omega,by omega⟩,d3⟩,d4⟩,Int.not_lt.2 d5⟩,d6⟩
   ·constructor
    ·intro h
     simp only[Bool.or_eq_false_iff,Bool.not_eq_false',decide_eq_true_eq,decide_eq_false_iff_not] at h
     obtain⟨⟨⟨⟨⟨d1,d2⟩,d3⟩,d4⟩,d5⟩,d6⟩:=h
     exact absurd ⟨by omega,by omega,d3⟩ hc
    ·rintro ⟨d1,d2,d3,_⟩
     exact absurd ⟨d1,d2,d3⟩ hc
  have key:JOIN [Ty.bool] (λ(y13:Bool)=>J11 (decide ((p.5.length:Int)=(0:Int))|| !decide ((p.5.length:Int)=(p.6.length:Int))|| !decide (ix p.5 (0:Int)=p.2)|| !y||decide (Min.min p.3 (36864:Int)<ix p.5 (IntKind.i64.wrap ((p.5.length:Int)-(1:Int))))|| !y13)) λ(J14:Bool->Prop)=>IFB (gx false (decide ((p.5.length:Int)=(0:Int))|| !decide ((p.5.length:Int)=(p.6.length:Int))|| !decide (ix p.5 (0:Int)=p.2)|| !y||decide (Min.min p.3 (36864:Int)<ix p.5 (IntKind.i64.wrap ((p.5.length:Int)-(1:Int)))))) (p.4.length<=(1000000000:Nat)/\∀(v15:Bool),(v15=true↔asc p.4)->J14 v15) (J14 false):=by
   refine JOIN.opq λ(J14:Bool->Prop) hJ14=>IFB.mk (λhg=>⟨by omega,λv hv=> ?_⟩) (λhg=> ?_)
   ·rw[hJ14]
    refine k11 _ ?_
    have h:=hcond v
    generalize (decide ((p.5.length:Int)=(0:Int))|| !decide ((p.5.length:Int)=(p.6.length:Int))|| !decide (ix p.5 (0:Int)=p.2)|| !y||decide (Min.min p.3 (36864:Int)<ix p.5 (IntKind.i64.wrap ((p.5.length:Int)-(1:Int))))|| !v)=c at h
    rw[hv] at h
    constructor
    ·intro hc ho
     have:=h.2 ho
     rw[hc] at this;cases this
    ·intro ho
     cases c with
     |true=>rfl
     |false=>exact absurd (h.1 rfl) ho
   ·rw[hJ14]
    refine k11 _ ⟨λ_ ho=> ?_,λ_=> ?_⟩
    ·rw[gx_f] at hg
     have hg:(decide ((p.5.length:Int)=(0:Int))|| !decide ((p.5.length:Int)=(p.6.length:Int))|| !decide (ix p.5 (0:Int)=p.2)|| !y||decide (Min.min p.3 (36864:Int)<ix p.5 (IntKind.i64.wrap ((p.5.length:Int)-(1:Int)))))=true:=by
      have hb:∀b:Bool,(!b)=false->b=true:=by decide
      exact hb _ hg
     have h:=(hcond true).2 ⟨ho.1,ho.2.1,ho.2.2.1,ho.2.2.2.1,ho.2.2.2.2.1,rfl⟩
     rw[hg] at h;cases h
    ·simp
  exact⟨⟨kn y,key,key⟩,kn y,key⟩
 refine IFB.mk (λhg=>⟨by omega,λv hv=>k22 v (λ_=>hv) λhn=> ?_⟩) (λhg=>k22 false (λhc=> ?_) λ_=>rfl)
 ·rw[gx_f] at hg
  simp only[Bool.not_eq_true',Bool.or_eq_false_iff,Bool.not_eq_false',decide_eq_true_eq,decide_eq_false_iff_not] at hg
  exact absurd ⟨by omega,by omega,hg.2⟩ hn
 ·rw[gx_f] at hg
  simp only[Bool.not_eq_false',Bool.or_eq_true,Bool.not_eq_true',decide_eq_true_eq,decide_eq_false_iff_not] at hg
  omega
end RE
end Go.Proofs.YtjcjdgmojkkioaaGreatDoor
namespace Go.Proofs.YtjcjdgmojkkioaaGreatDoor
namespace RE
set_option maxRecDepth 100000
open Go.RowKit
open PL
def pchk_P (l:List (api_Parcel))(post:Int->Prop):Prop:=(szL l)/\post (checkS l)
def pchk_sp:Spec:=⟨54,false,false,[.sl (.st .api_Parcel)],.dat (.int .i64),λx post=>pchk_P (x.1:List (api_Parcel)) (λy0=>post (y0,()))⟩
def pchk_C:CtxR:=⟨tau,[rule1 pmt_sp,rule1 pright_sp],lookJ [(0,21,⟨[(26,.dat (.int .i64))],[],(List.range' 27 10++[5,6]),[],[]⟩),(12777200361,0,⟨[(0,.dat (.int .i64))],[],[],[],[]⟩),(12777200361,5,⟨[(8,.dat (.int .i64))],[],(List.range' 9 8++[5,18]),[],[]⟩),(0,9,⟨[(12,.dat (.int .i64))],[],(List.range' 13 11++[3,4]),[],[]⟩)]⟩
def pchk_W (l:List (api_Parcel))(post:Int->Prop):Prop:=(↑l.length:Int)<=9223372036854775807->IFB (decide ((60:Int)<(↑l.length:Int))) (post 1) ((↑l.length:Int)<=9223372036854775807->LOOP [Ty.int IntKind.i64] (λ(rec1:Int->Prop) (z2:Int)=>IFB (decide (z2<(↑l.length:Int))) (((0:Int)<=z2/\z2<(↑l.length:Int))/\(Int.NonNeg 0/\0<=z2/\z2<=(↑l.length:Int))/\((sub l (0:Int) z2).length<=1000000/\(ix l z2).5.length<=1000000/\(ix l z2).6.length<=1000000/\(ix l z2).4.length<=1000000/\∀(v3:api_Region),v3∈(ix l z2).6->v3.1.length<=1000000)/\∀(v4:Bool),(v4=true↔rightP (sub l (0:Int) z2) {Number:=(ix l z2).1,From:=(ix l z2).2,Until:=(ix l z2).3,Parents:=(ix l z2).4,Days:=(ix l z2).5,Regions:=(ix l z2).6:api_Parcel})->IFB (!v4) (post 3) (rec1 (IntKind.i64.wrap (z2+1)))) ((↑l.length:Int)<=9223372036854775807->LOOP [Ty.int IntKind.i64] (λ(rec5:Int->Prop) (z6:Int)=>IFB (decide (z6<(↑l.length:Int))) (((0:Int)<=z6/\z6<(↑l.length:Int))/\(Int.NonNeg 0/\0<=z6/\z6<=(↑l.length:Int))/\JOIN [Ty.int IntKind.i64] (λ(y7:Int)=>IFB (decide ((0:Int)<=y7)) (post 3) (rec5 (IntKind.i64.wrap (z6+1)))) λ(J8:Int->Prop)=>(↑(sub l (0:Int) z6).length:Int)<=9223372036854775807->LOOP [Ty.int IntKind.i64] (λ(rec9:Int->Prop) (z10:Int)=>IFB (decide (z10<(↑(sub l (0:Int) z6).length:Int))) (((0:Int)<=z10/\z10<(↑(sub l (0:Int) z6).length:Int))/\((ix l z6).5.length=(ix l z6).6.length/\(ix (sub l (0:Int) z6) z10).5.length=(ix (sub l (0:Int) z6) z10).6.length/\(ix l z6).5.length<=1000000/\(ix (sub l (0:Int) z6) z10).5.length<=1000000)/\∀(v11:Bool),(v11=true↔meetPc {Number:=(ix l z6).1,From:=(ix l z6).2,Until:=(ix l z6).3,Parents:=(ix l z6).4,Days:=(ix l z6).5,Regions:=(ix l z6).6:api_Parcel} {Number:=(ix (sub l (0:Int) z6) z10).1,From:=(ix (sub l (0:Int) z6) z10).2,Until:=(ix (sub l (0:Int) z6) z10).3,Parents:=(ix (sub l (0:Int) z6) z10).4,Days:=(ix (sub l (0:Int) z6) z10).5,Regions:=(ix (sub l (0:Int) z6) z10).6:api_Parcel})->IFB v11 (J8 z10) (rec9 (IntKind.i64.wrap (z10+1)))) (J8 (-1:Int))) ((0:Int),PUnit.unit)) (post 0)) ((0:Int),PUnit.unit))) ((0:Int),PUnit.unit))
theorem pchk_w (l:List (api_Parcel))(post:dens (shT pchk_sp.rs [])->Prop):pchk_W l (λy0=>post (y0,()))=walkG (callR Tryz.prog pchk_C (drawF Tryz.prog tau) 8 0) 54 false [tv (.sl (.st .api_Parcel)) l] pchk_sp.rs post:=by kernel_rfl
theorem pchk_of (h:∀l post,pchk_P l post->pchk_W l post):SpecOK Tryz.prog pchk_sp:=SpecOK.of_rules (C:=pchk_C) (dr:=drawF Tryz.prog tau) (n:=8) (fk:=0) (.cons (rule1_ok pmt_ok) (.cons (rule1_ok pright_ok) .nil)) (drawF_ok tau) λx post hp=>HoldW.of (pchk_w x.1 post) (h x.1 (λy0=>post (y0,())) hp)
theorem take_ix {α:Type}[Inhabited α]{l:List α}{k j:Nat}(hj:j<k)(hk:k<=l.length):ix (l.take k) (j:Int)=ix l (j:Int):=by
 rw[ix_lt (by rw[List.length_take];omega),ix_lt (by omega),List.getElem_take]
theorem regP_sz {l:List Pc}(h:szL l){k:Nat}(hk:k<l.length):szP (ix l (k:Int)):=h.all _ (ix_mem (by omega) (by omega))
theorem pchk_ok:SpecOK Tryz.prog pchk_sp:=pchk_of λl post hp=>by
 obtain⟨hsz,hp⟩:=hp
 have hl:=hsz.len
 unfold pchk_W
 unfold checkS at hp
 intro _
 refine IFB.mk (λhb=> ?_) (λhb _=> ?_)
 ·have hb:(60:Int)<(l.length:Int):=of_decide_eq_true hb
  rw[if_pos (by omega)] at hp;exact hp
 have hb:¬(60:Int)<(l.length:Int):=of_decide_eq_false hb
 rw[if_neg (by omega)] at hp
 have bad:¬regP l->post 3:=λh=>by rw[if_neg h] at hp;exact hp
 refine loopCmp (n:=l.length) (by omega) (p:=λi=>rightP (l.take i) (ix l (i:Int))) (λrec k hk _ hrec=> ?_) λhall=> ?_
 ·have hx:=regP_sz hsz hk
  refine⟨by omega,⟨Int.NonNeg.mk 0,by omega,by omega⟩,?_⟩
  rw[sub_front]
  refine⟨⟨by rw[List.length_take];omega,hx.days,hx.regs,hx.pars,hx.rect⟩,λv hv=>IFB.mk (λhb=> ?_) (λhb=>hrec (hv.1 (by simpa using hb)))⟩
  have hb:v=false:=by simpa using hb
  refine bad λhr=> ?_
  have:=hv.2 (hr.1 k hk)
  rw[hb] at this;cases this
 ·refine λ_=>loopCmp (n:=l.length) (by omega) (p:=λi=>∀j:Nat,j<i->¬meetPc (ix l (i:Int)) (ix l (j:Int))) (λrec k hk _ hrec=> ?_) λhall2=> ?_
  ·have hx:=regP_sz hsz hk
   refine⟨by omega,⟨Int.NonNeg.mk 0,by omega,by omega⟩,?_⟩
   rw[sub_front]
   have hkl:(l.take k).length=k:=by rw[List.length_take];omega
   rw[hkl]
   refine JOIN.opq λ(J:Int->Prop) hJ _=> ?_
   refine loopCmp (n:=k) (by omega) (p:=λj=>¬meetPc (ix l (k:Int)) (ix l (j:Int))) (λrec2 j hj _ hrec2=> ?_) λhall3=> ?_
   ·have hxj:=regP_sz hsz (k:=j) (by omega)
    refine⟨by omega,?_⟩
    rw[take_ix hj (by omega)]
    have ok1:=(hall k hk).2.2.2.2.2.1.2.1
    have ok2:=(hall j (by omega)).2.2.2.2.2.1.2.1
    refine⟨⟨ok1,ok2,hx.days,hxj.days⟩,λr hr=>IFB.mk (λhb=> ?_) (λhb=>hrec2 λh=> ?_)⟩
    ·rw[hJ]
     exact IFB.yes (decide_eq_true (by omega)) (bad λh=>h.2 k j hk hj (hr.1 hb))
    ·have:=hr.2 h;rw[hb] at this;cases this
   ·rw[hJ]
    exact IFB.no rfl (hrec hall3)
  ·rw[if_pos ⟨hall,λi j hi hj=>hall2 i hi j hj⟩] at hp
   exact hp
end RE
end Go.Proofs.YtjcjdgmojkkioaaGreatDoor
set_option maxRecDepth 100000
set_option linter.unusedVariables false
namespace Go.Proofs.YtjcjdgmojkkioaaGreatDoor
open Go.RowKit
namespace RE
open PL
namespace PL
end PL
end RE
end Go.Proofs.YtjcjdgmojkkioaaGreatDoor
namespace Go.Proofs.YtjcjdgmojkkioaaGreatDoor
namespace RE
set_option maxRecDepth 100000
open Go.RowKit
open PL
def pmergeX_P (A:List (region_Span))(B:List (region_Span))(post:List (region_Span)->Prop):Prop:=(A.length<=20000/\B.length<=20000)/\post (mergeX xorS A B)
def pmergeX_sp:Spec:=⟨163,false,true,[.sl (.st .region_Span),.sl (.st .region_Span)],.dat (.sl (.st .region_Span)),λx post=>pmergeX_P (x.1:List (region_Span)) (x.2.1:List (region_Span)) (λy0=>post (y0,()))⟩
def pmergeX_C:CtxR:=⟨tau,[rule1 pconc_sp,rule3 ssort_sp,rule2 scompact_sp,rule1 pins_sp],lookJ [(0,23,⟨[(11,.dat (.int .i64)),(10,.own 237 (.st .region_Span))],[],(List.range' 35 52++[12,13]),[],[]⟩),(0,24,⟨[(10,.own 237 (.st .region_Span))],[],(List.range' 41 46++[12,13]),[3],[]⟩),(0,7,⟨[(19,.dat (.int .i64)),(7,.own 3 (.int .i64))],[],(List.range' 20 11++[9]),[],[]⟩)]⟩
def pmergeX_W (A:List (region_Span))(B:List (region_Span))(post:List (region_Span)->Prop):Prop:=((A.append (B.append [])).length<=100000/\[A,B].length<=10)/\((↑(A.append (B.append [])).length:Int)<=9223372036854775807->LOOP [Ty.int IntKind.i64,(Ty.int IntKind.i64).sl] (λ(rec1:Int->List Int->Prop) (z2:Int) (z3:List Int)=>IFB (decide (z2<(↑(A.append (B.append [])).length:Int))) (((0:Int)<=z2/\z2<(↑(A.append (B.append [])).length:Int))/\(z3.length+[(ix (A.append (B.append [])) z2).1,(ix (A.append (B.append [])) z2).2].length) * (8:Nat)<=140737488355328/\rec1 (IntKind.i64.wrap (z2+1)) (z3++[(ix (A.append (B.append [])) z2).1,(ix (A.append (B.append [])) z2).2])) (z3.length<=1000000/\(sortI z3).length<=1000000/\LOOP [Ty.int IntKind.i64,(Ty.st Sn.region_Span).sl] (λ(rec4:Int->List region_Span->Prop) (z5:Int) (z6:List region_Span)=>(↑(compI (sortI z3)).length:Int)<=9223372036854775807->IFB (decide (z5<(↑(compI (sortI z3)).length:Int))) (JOIN [(Ty.st Sn.region_Span).sl] (λ(y7:List region_Span)=>rec4 (IntKind.i64.wrap (z5+1)) y7) λ(J8:List region_Span->Prop)=>((0:Int)<=IntKind.i64.wrap (z5-1)/\IntKind.i64.wrap (z5-1)<(↑(compI (sortI z3)).length:Int))/\A.length<=1000000/\B.length<=1000000/\IFB (!!insS A (ix (compI (sortI z3)) (IntKind.i64.wrap (z5-1)))==insS B (ix (compI (sortI z3)) (IntKind.i64.wrap (z5-1)))) (J8 z6) ((↑z6.length:Int)<=9223372036854775807->(gx true (decide ((0:Int)<(↑z6.length:Int)))=true->0<=IntKind.i64.wrap ((↑z6.length:Int)-1)/\IntKind.i64.wrap ((↑z6.length:Int)-1)<(↑z6.length:Int))/\IFB (decide ((0:Int)<(↑z6.length:Int))&&decide ((ix z6 (IntKind.i64.wrap ((↑z6.length:Int)-1))).2=ix (compI (sortI z3)) (IntKind.i64.wrap (z5-1)))) (((0:Int)<=z5/\z5<(↑(compI (sortI z3)).length:Int))/\((0:Int)<=IntKind.i64.wrap ((↑z6.length:Int)-1)/\IntKind.i64.wrap ((↑z6.length:Int)-1)<(↑z6.length:Int))/\J8 (z6.set (IntKind.i64.wrap ((↑z6.length:Int)-1)).toNat (⟨(ix z6 (IntKind.i64.wrap ((↑z6.length:Int)-1))).1,ix (compI (sortI z3)) z5⟩:region_Span))) (((0:Int)<=z5/\z5<(↑(compI (sortI z3)).length:Int))/\(z6.length+[(⟨ix (compI (sortI z3)) (IntKind.i64.wrap (z5-1)),ix (compI (sortI z3)) z5⟩:region_Span)].length) * (16:Nat)<=140737488355328/\J8 (z6++[(⟨ix (compI (sortI z3)) (IntKind.i64.wrap (z5-1)),ix (compI (sortI z3)) z5⟩:region_Span)])))) (post z6)) ((1:Int),[],PUnit.unit))) ((0:Int),[],PUnit.unit))
theorem pmergeX_w (A:List (region_Span))(B:List (region_Span))(post:dens (shT pmergeX_sp.rs [])->Prop):pmergeX_W A B (λy0=>post (y0,()))=walkG (callR Tryz.prog pmergeX_C (drawR Tryz.prog tau) 10 0) 163 false [tv (.sl (.st .region_Span)) A,tv (.sl (.st .region_Span)) B,.v (clo 290)] pmergeX_sp.rs post:=by kernel_rfl
theorem pmergeX_of (h:∀A B post,pmergeX_P A B post->pmergeX_W A B post):SpecCOK Tryz.prog pmergeX_sp [clo 290]:=SpecCOK.of_rules (C:=pmergeX_C) (dr:=drawR Tryz.prog tau) (n:=10) (fk:=0) (.cons (rule1_ok pconc_ok) (.cons (rule3_ok ssort_ok) (.cons (rule2_ok scompact_ok) (.cons (rule1_ok pins_ok) .nil)))) (drawR_ok tau) λx post hp=>HoldW.of (pmergeX_w x.1 x.2.1 post) (h x.1 x.2.1 (λy0=>post (y0,())) hp)
theorem pmergeX_ok:SpecCOK Tryz.prog pmergeX_sp [clo 290]:=pmergeX_of λA B post hp=>by
 obtain⟨⟨h1,h2⟩,hp⟩:=hp
 unfold pmergeX_W
 have e:A.append (B.append [])=A++B:=by show A++(B++[])=A++B;rw[List.append_nil]
 rw[e]
 refine⟨⟨by rw[List.length_append];omega,by simp⟩,λ_=> ?_⟩
 refine edg_in (l:=A++B) (A:=[]) (K:=λz3=>z3.length<=(1000000:Nat)/\(sortI z3).length<=(1000000:Nat)/\_) (by simp only[List.length_nil,List.length_append];omega) ?_
 rw[List.nil_append]
 have hel:(edgL (A++B)).length<=80000:=by rw[edgL_len,List.length_append];omega
 have hsl:(sortI (edgL (A++B))).length=(edgL (A++B)).length:=by unfold sortI;simp
 refine⟨by omega,by omega,?_⟩
 have hxl:(uniqI (edgL (A++B))).length<=80000:=Nat.le_trans (uniqI_len _) hel
 have hxe:compI (sortI (edgL (A++B)))=uniqI (edgL (A++B)):=rfl
 rw[hxe]
 have hp:post (spansG (λx=>xorS (insS A x) (insS B x)) [] (uniqI (edgL (A++B)))):=hp
 generalize uniqI (edgL (A++B))=xs at hxl hp ⊢
 refine LOOP.fuel (λu=>∃(k:Nat)(acc:List Sp),u.1=((k+1:Nat):Int)/\u.2.1=acc/\k<=xs.length/\spansG (λx=>xorS (insS A x) (insS B x)) acc (xs.drop k)=spansG (λx=>xorS (insS A x) (insS B x)) [] xs/\acc.length<=k) (λu=>xs.length+1-Int.toNat u.1) ⟨0,[],rfl,rfl,Nat.zero_le _,rfl,Nat.le_refl _⟩ ?_
 rintro rec ⟨(z2:Int),(z3:List region_Span),⟨⟩⟩ ⟨k,acc,i1,i2,i3,i4,i5⟩ hrec
 have i1:z2=((k+1:Nat):Int):=i1
 have i2:z3=acc:=i2
 subst i1 i2
 have i5:z3.length<=k:=i5
 intro _
 refine IFB.mk (λhb=> ?_) (λhb=> ?_)
 ·have hb:((k+1:Nat):Int)<xs.length:=of_decide_eq_true hb
  have hb:k+1<xs.length:=by omega
  obtain⟨d1,d2⟩:=drop_two hb
  have w1:IntKind.i64.wrap (((k+1:Nat):Int)-1)=k:=by rw[wrap_in (by omega) (by omega)];omega
  refine JOIN.opq λ(J:List Sp->Prop) hJ=> ?_
  rw[w1]
  have hgo:∀acc',acc'.length<=k+1->spansG (λx=>xorS (insS A x) (insS B x)) acc' (xs.drop (k+1))=spansG (λx=>xorS (insS A x) (insS B x)) [] xs->J acc':=λacc' hle hG=>by
   rw[hJ]
   show rec (IntKind.i64.wrap (((k+1:Nat):Int)+1)) _
   rw[wrapS (by omega)]
   exact hrec (((k+2:Nat):Int),acc',()) ⟨k+1,acc',rfl,rfl,by omega,hG,hle⟩ (by show xs.length+1-((k+2:Nat):Int).toNat<xs.length+1-((k+1:Nat):Int).toNat;omega)
  have hstep:spansG (λx=>xorS (insS A x) (insS B x)) (if xorS (insS A (ix xs (k:Int))) (insS B (ix xs (k:Int)))=true then addSp z3 (ix xs (k:Int)) (ix xs ((k+1:Nat):Int)) else z3) (xs.drop (k+1))=spansG (λx=>xorS (insS A x) (insS B x)) [] xs:=by
   rw[<-i4,d1,d2]
   rfl
  unfold xorS at hstep
  generalize ix xs (k:Int)=u at hstep ⊢
  generalize ix xs ((k+1:Nat):Int)=v at hstep ⊢
  refine⟨by omega,by omega,by omega,IFB.mk (λhn=> ?_) (λhn=> ?_)⟩
  ·have hn:(!decide (insS A u=insS B u))=false:=by rw[Bool.not_eq_true'] at hn;exact hn
   rw[hn] at hstep
   exact hgo z3 (by omega) hstep
  ·have hn:(!decide (insS A u=insS B u))=true:=by
    rw[Bool.not_eq_false'] at hn;exact hn
   rw[hn,if_pos rfl] at hstep
   intro _
   rcases List.eq_nil_or_concat z3 with rfl|⟨Z,q,rfl⟩
   ·have hj:addSp [] u v=[⟨u,v⟩]:=rfl
    rw[hj] at hstep
    refine⟨λh=>(by cases h),IFB.mk (λhb=>(by cases hb)) (λ_=>⟨by omega,by simp,hgo _ (by simp) hstep⟩)⟩
   ·rw[List.concat_eq_append] at *
    have hAl:(Z++[q]).length=Z.length+1:=by simp
    have w2:IntKind.i64.wrap (((Z++[q]).length:Int)-1)=Z.length:=by
     rw[hAl,wrap_in (by omega) (by omega)]
     omega
    have hq:ix (Z++[q]) (Z.length:Int)=q:=ix_app rfl
    have hset:∀z,(Z++[q]).set (Z.length:Int).toNat z=Z++[z]:=λz=>set_app (by simp)
    rw[w2,hq,hset]
    have hj:addSp (Z++[q]) u v=if q.2=u then Z++[⟨q.1,v⟩] else Z++[q]++[⟨u,v⟩]:=by
     unfold addSp
     simp
    rw[hj] at hstep
    have hd:decide ((0:Int)<((Z++[q]).length:Int))=true:=decide_eq_true (by omega)
    rw[hd,Bool.true_and]
    refine⟨λ_=>by rw[hAl];omega,IFB.mk (λhc=>⟨by omega,by rw[hAl];omega,?_⟩) (λhc=>⟨by omega,by rw[hAl];simp only[List.length_cons,List.length_nil];omega,?_⟩)⟩
    ·have hc:q.2=u:=of_decide_eq_true hc
     rw[if_pos hc] at hstep
     exact hgo _ (by simp only[List.length_append,List.length_cons,List.length_nil] at *;omega) hstep
    ·have hc:¬q.2=u:=of_decide_eq_false hc
     rw[if_neg hc] at hstep
     exact hgo _ (by simp only[List.length_append,List.length_cons,List.length_nil] at *;omega) hstep
 ·have hb:¬((k+1:Nat):Int)<xs.length:=of_decide_eq_false hb
  rw[short_drop2 (by omega)] at i4
  rw[<-i4] at hp
  exact hp
def pcutsL_P (ls:List (List (api_Rect)))(post:List (Int)->Prop):Prop:=(ls.flatten.length<=20000/\ls.length<=10)/\post (cutsS ls.flatten)
def pcutsL_sp:Spec:=⟨147,false,true,[.sl (.sl (.st .api_Rect))],.dat (.sl (.int .i64)),λx post=>pcutsL_P (x.1:List (List (api_Rect))) (λy0=>post (y0,()))⟩
def pcutsL_C:CtxR:=⟨tau,[rule3 ssort_sp,rule2 scompact_sp],lookJ [(0,7,⟨[(10,.dat (.int .i64)),(3,.own 3 (.int .i64))],[],(List.range' 11 18++[5,7]),[],[]⟩),(0,13,⟨[(16,.dat (.int .i64)),(3,.own 3 (.int .i64))],[],(List.range' 17 11++[7]),[0],[]⟩)]⟩
def pcutsL_W (ls:List (List (api_Rect)))(post:List (Int)->Prop):Prop:=(↑ls.length:Int)<=9223372036854775807->LOOP [Ty.int IntKind.i64,(Ty.int IntKind.i64).sl] (λ(rec1:Int->List Int->Prop) (z2:Int) (z3:List Int)=>IFB (decide (z2<(↑ls.length:Int))) (((0:Int)<=z2/\z2<(↑ls.length:Int))/\((↑(ix ls z2).length:Int)<=9223372036854775807->LOOP [Ty.int IntKind.i64,(Ty.int IntKind.i64).sl] (λ(rec4:Int->List Int->Prop) (z5:Int) (z6:List Int)=>IFB (decide (z5<(↑(ix ls z2).length:Int))) (((0:Int)<=z5/\z5<(↑(ix ls z2).length:Int))/\(z6.length+[(ix (ix ls z2) z5).2,(ix (ix ls z2) z5).4].length) * (8:Nat)<=140737488355328/\rec4 (IntKind.i64.wrap (z5+1)) (z6++[(ix (ix ls z2) z5).2,(ix (ix ls z2) z5).4])) (rec1 (IntKind.i64.wrap (z2+1)) z6)) ((0:Int),z3,PUnit.unit))) (z3.length<=1000000/\(sortI z3).length<=1000000/\post (compI (sortI z3)))) ((0:Int),[],PUnit.unit)
theorem pcutsL_w (ls:List (List (api_Rect)))(post:dens (shT pcutsL_sp.rs [])->Prop):pcutsL_W ls (λy0=>post (y0,()))=walkG (callR Tryz.prog pcutsL_C (drawR Tryz.prog tau) 8 0) 147 false [tv (.sl (.sl (.st .api_Rect))) ls] pcutsL_sp.rs post:=by kernel_rfl
theorem pcutsL_of (h:∀ls post,pcutsL_P ls post->pcutsL_W ls post):SpecOK Tryz.prog pcutsL_sp:=SpecOK.of_rules (C:=pcutsL_C) (dr:=drawR Tryz.prog tau) (n:=8) (fk:=0) (.cons (rule3_ok ssort_ok) (.cons (rule2_ok scompact_ok) .nil)) (drawR_ok tau) λx post hp=>HoldW.of (pcutsL_w x.1 post) (h x.1 (λy0=>post (y0,())) hp)
theorem pcutsL_ok:SpecOK Tryz.prog pcutsL_sp:=pcutsL_of λls post hp=>by
 obtain⟨⟨h1,h2⟩,hp⟩:=hp
 unfold pcutsL_W
 intro _
 refine LOOP.list ls (λk (s:List Int)=>((k:Int),s,())) (λu=>Int.toNat u.1) (λk r (s:List Int)=>s++cutL r.flatten=cutL ls.flatten) [] rfl rfl (λk s h=>by simp) ?_ ?_
 ·intro rec k x r s hd hk hkl g1 hrec
  have hx:=ix_of hk
  have hlen:s.length+(2 * x.length+2 * r.flatten.length)<=40000:=by
   have:=congrArg List.length g1
   rw[List.length_append,cutL_len,cutL_len,List.flatten_cons,List.length_append] at this
   omega
  show IFB _ _ _
  refine IFB.mk (λ_=>⟨by show 0<=(k:Int)/\(k:Int)<ls.length;omega,?_⟩) (λh=>absurd (of_decide_eq_false h) (by show ¬¬((k:Int)<ls.length);omega))
  dsimp only
  rw[hx]
  intro _
  refine cuts_in (l:=x) (A:=s) (K:=λz6=>rec (IntKind.i64.wrap ((k:Int)+1)) z6) (by omega) ?_
  rw[wrapS (by omega)]
  refine hrec _ ?_
  rw[<-g1,List.flatten_cons,cutL_app,List.append_assoc]
 ·intro rec s g1
  show IFB _ _ _
  refine IFB.mk (λh=>absurd (of_decide_eq_true h) (by show ¬((ls.length:Int)<ls.length);omega)) (λ_=> ?_)
  have g1:s=cutL ls.flatten:=by simpa [cutL] using g1
  have hlen:s.length<=40000:=by rw[g1,cutL_len];omega
  have hsl:(sortI s).length=s.length:=by unfold sortI;simp
  dsimp only
  refine⟨by omega,by omega,?_⟩
  rw[<-cuts_uniq,<-g1] at hp
  exact hp
def prowL_P (l:List (api_Rect))(y:Int)(post:List (region_Span)->Prop):Prop:=((∀r∈l,r.Left<r.Right)/\l.length<=20000)/\post (rowS l y)
def prowL_sp:Spec:=⟨149,false,true,[.sl (.st .api_Rect),.int .i64],.dat (.sl (.st .region_Span)),λx post=>prowL_P (x.1:List (api_Rect)) (x.2.1:Int) (λy0=>post (y0,()))⟩
def prowL_C:CtxR:=⟨tau,[rule3 psort_sp],lookJ [(0,23,⟨[(41,.dat (.int .i64)),(8,.own 237 (.st .region_Span))],[],(List.range' 42 37++[10,11]),[],[]⟩),(0,34,⟨[(8,.own 237 (.st .region_Span))],[],(List.range' 43 35++[10,11]),[1],[]⟩),(0,7,⟨[(14,.dat (.int .i64)),(5,.own 237 (.st .region_Span))],[],(List.range' 15 22++[7]),[],[]⟩),(0,14,⟨[(5,.own 237 (.st .region_Span))],[],(List.range' 16 20++[7]),[0],[]⟩)]⟩
def prowL_W (l:List (api_Rect))(y:Int)(post:List (region_Span)->Prop):Prop:=(↑l.length:Int)<=9223372036854775807->LOOP [Ty.int IntKind.i64,(Ty.st Sn.region_Span).sl] (λ(rec1:Int->List region_Span->Prop) (z2:Int) (z3:List region_Span)=>IFB (decide (z2<(↑l.length:Int))) (JOIN [(Ty.st Sn.region_Span).sl] (λ(y4:List region_Span)=>rec1 (IntKind.i64.wrap (z2+1)) y4) λ(J5:List region_Span->Prop)=>((0:Int)<=z2/\z2<(↑l.length:Int))/\IFB (decide ((ix l z2).2<=y)&&decide (y<(ix l z2).4)) ((z3.length+[(⟨(ix l z2).1,(ix l z2).3⟩:region_Span)].length) * (16:Nat)<=140737488355328/\J5 (z3++[(⟨(ix l z2).1,(ix l z2).3⟩:region_Span)])) (J5 z3)) (z3.length<=1000000/\∀(v6:List region_Span),v6.Perm z3->List.Pairwise (λ(s t:region_Span)=>s.1<=t.1) v6->(↑v6.length:Int)<=9223372036854775807->LOOP [Ty.int IntKind.i64,(Ty.st Sn.region_Span).sl] (λ(rec7:Int->List region_Span->Prop) (z8:Int) (z9:List region_Span)=>IFB (decide (z8<(↑v6.length:Int))) (JOIN [(Ty.st Sn.region_Span).sl] (λ(y10:List region_Span)=>rec7 (IntKind.i64.wrap (z8+1)) y10) λ(J11:List region_Span->Prop)=>((0:Int)<=z8/\z8<(↑v6.length:Int))/\((↑z9.length:Int)<=9223372036854775807->(gx true (decide ((0:Int)<(↑z9.length:Int)))=true->0<=IntKind.i64.wrap ((↑z9.length:Int)-1)/\IntKind.i64.wrap ((↑z9.length:Int)-1)<(↑z9.length:Int))/\IFB (decide ((0:Int)<(↑z9.length:Int))&&decide ((ix v6 z8).1<=(ix z9 (IntKind.i64.wrap ((↑z9.length:Int)-1))).2)) (((0:Int)<=IntKind.i64.wrap ((↑z9.length:Int)-1)/\IntKind.i64.wrap ((↑z9.length:Int)-1)<(↑z9.length:Int))/\((0:Int)<=IntKind.i64.wrap ((↑z9.length:Int)-1)/\IntKind.i64.wrap ((↑z9.length:Int)-1)<(↑z9.length:Int))/\J11 (z9.set (IntKind.i64.wrap ((↑z9.length:Int)-1)).toNat (⟨(ix z9 (IntKind.i64.wrap ((↑z9.length:Int)-1))).1,Max.max (ix z9 (IntKind.i64.wrap ((↑z9.length:Int)-1))).2 (ix v6 z8).2⟩:region_Span))) ((z9.length+[{Left:=(ix v6 z8).1,Right:=(ix v6 z8).2:region_Span}].length) * (16:Nat)<=140737488355328/\J11 (z9++[{Left:=(ix v6 z8).1,Right:=(ix v6 z8).2:region_Span}])))) (post z9)) ((0:Int),[],PUnit.unit))) ((0:Int),[],PUnit.unit)
theorem prowL_w (l:List (api_Rect))(y:Int)(post:dens (shT prowL_sp.rs [])->Prop):prowL_W l y (λy0=>post (y0,()))=walkG (callR Tryz.prog prowL_C (drawR Tryz.prog tau) 10 0) 149 false [tv (.sl (.st .api_Rect)) l,tv (.int .i64) y] prowL_sp.rs post:=by kernel_rfl
theorem prowL_of (h:∀l y post,prowL_P l y post->prowL_W l y post):SpecOK Tryz.prog prowL_sp:=SpecOK.of_rules (C:=prowL_C) (dr:=drawR Tryz.prog tau) (n:=10) (fk:=0) (.cons (rule3_ok psort_ok) .nil) (drawR_ok tau) λx post hp=>HoldW.of (prowL_w x.1 x.2.1 post) (h x.1 x.2.1 (λy0=>post (y0,())) hp)
theorem prowL_ok:SpecOK Tryz.prog prowL_sp:=prowL_of λl y post hp=>by
 obtain⟨⟨h1,h2⟩,hp⟩:=hp
 unfold prowL_W
 intro _
 refine LOOP.list l (λk (s:List Sp)=>((k:Int),s,())) (λu=>Int.toNat u.1) (λk r (s:List Sp)=>s++(onRow y r).map spanOf=(onRow y l).map spanOf/\s.length<=k) [] rfl ⟨rfl,Nat.le_refl _⟩ (λk s h=>by simp) ?_ ?_
 ·intro rec k x r s hd hk hkl ⟨g1,g2⟩ hrec
  have hx:=ix_of hk
  show IFB _ _ _
  refine IFB.mk (λ_=> ?_) (λh=>absurd (of_decide_eq_false h) (by show ¬¬((k:Int)<l.length);omega))
  refine JOIN.opq λ(J:List Sp->Prop) hJ=> ?_
  dsimp only
  rw[hx]
  refine⟨by omega,IFB.mk (λhb=> ?_) (λhb=> ?_)⟩
  ·refine⟨by simp only[List.length_cons,List.length_nil];omega,?_⟩
   rw[hJ]
   show rec (IntKind.i64.wrap ((k:Int)+1)) _
   rw[wrapS (by omega)]
   refine hrec _ ⟨?_,by simp only[List.length_append,List.length_cons,List.length_nil];omega⟩
   rw[<-g1,onRow_cons,if_pos hb]
   simp[spanOf]
  ·rw[hJ]
   show rec (IntKind.i64.wrap ((k:Int)+1)) _
   rw[wrapS (by omega)]
   refine hrec _ ⟨?_,by omega⟩
   rw[<-g1,onRow_cons,if_neg (by rw[hb];simp)]
 ·intro rec s ⟨g1,g2⟩
  show IFB _ _ _
  refine IFB.mk (λh=>absurd (of_decide_eq_true h) (by show ¬((l.length:Int)<l.length);omega)) (λ_=> ?_)
  have g1:s=(onRow y l).map spanOf:=by simpa [onRow] using g1
  have hsl:s.length<=20000:=by omega
  refine⟨by show s.length<=1000000;omega,λv hperm hsort _=> ?_⟩
  have hvl:v.length=s.length:=hperm.length_eq
  rw[<-rowS_sorted h1 (g1 ▸ hperm) hsort] at hp
  refine LOOP.list v (λk (s:List Sp)=>((k:Int),s,())) (λu=>Int.toNat u.1) (λk r (s:List Sp)=>rowG s r=rowG [] v/\s.length<=k) [] rfl ⟨rfl,Nat.le_refl _⟩ (λk s h=>by simp) ?_ ?_
  ·intro rec k x r out hd hk hkl ⟨q1,q2⟩ hrec
   have hx:=ix_of hk
   show IFB _ _ _
   refine IFB.mk (λ_=> ?_) (λh=>absurd (of_decide_eq_false h) (by show ¬¬((k:Int)<v.length);omega))
   refine JOIN.opq λ(J:List Sp->Prop) hJ=> ?_
   dsimp only
   rw[hx]
   have hgo:(joinSp out x).length<=k+1->J (joinSp out x):=λhle=>by
    rw[hJ]
    show rec (IntKind.i64.wrap ((k:Int)+1)) _
    rw[wrapS (by omega)]
    exact hrec _ ⟨q1,hle⟩
   refine⟨by omega,λ_=> ?_⟩
   rcases List.eq_nil_or_concat out with rfl|⟨A,q,rfl⟩
   ·have hj:joinSp [] x=[x]:=rfl
    rw[hj] at hgo
    refine⟨λh=> ?_,IFB.mk (λhb=> ?_) (λhb=>⟨by simp,hgo (by simp)⟩)⟩
    ·cases h
    ·cases hb
   ·rw[List.concat_eq_append] at *
    have w1:IntKind.i64.wrap (((A++[q]).length:Int)-1)=A.length:=by
     simp only[List.length_append,List.length_cons,List.length_nil]
     rw[wrap_in (by omega) (by simp only[List.length_append,List.length_cons,List.length_nil] at q2;omega)]
     omega
    have hq:ix (A++[q]) (A.length:Int)=q:=ix_app rfl
    have hset:∀z,(A++[q]).set (A.length:Int).toNat z=A++[z]:=λz=>set_app (by simp)
    rw[w1,hq,hset]
    have hAl:(A++[q]).length=A.length+1:=by simp
    have hj:joinSp (A++[q]) x=if x.Left<=q.Right then A++[⟨q.Left,max q.Right x.Right⟩] else A++[q]++[x]:=by
     unfold joinSp
     simp
    rw[hj] at hgo
    refine⟨λ_=>by omega,IFB.mk (λhb=>⟨by omega,by omega,?_⟩) (λhb=>⟨by simp only[List.length_append,List.length_cons,List.length_nil] at *;omega,?_⟩)⟩
    ·rw[Bool.and_eq_true] at hb
     have hb2:x.Left<=q.Right:=of_decide_eq_true hb.2
     rw[if_pos hb2] at hgo
     exact hgo (by simp only[List.length_append,List.length_cons,List.length_nil] at *;omega)
    ·have hb2:¬x.Left<=q.Right:=by
      intro h
      rw[Bool.and_eq_false_iff] at hb
      rcases hb with hb|hb
      ·have:=of_decide_eq_false hb;omega
      ·exact of_decide_eq_false hb h
     rw[if_neg hb2] at hgo
     exact hgo (by simp only[List.length_append,List.length_cons,List.length_nil] at *;omega)
  ·intro rec out ⟨q1,q2⟩
   show IFB _ _ _
   refine IFB.mk (λh=>absurd (of_decide_eq_true h) (by show ¬((v.length:Int)<v.length);omega)) (λ_=> ?_)
   have q1:out=rowG [] v:=q1
   show post out
   rw[q1];exact hp
def pchoX_P (A:List (api_Rect))(B:List (api_Rect))(post:List (api_Rect)->Prop):Prop:=(((∀r∈A,proper r)/\A.length<=8000)/\(∀r∈B,proper r)/\B.length<=8000)/\post (canonF (comb xorS A B))
def pchoX_sp:Spec:=⟨75,false,true,[.sl (.st .api_Rect),.sl (.st .api_Rect)],.dat (.sl (.st .api_Rect)),λx post=>pchoX_P (x.1:List (api_Rect)) (x.2.1:List (api_Rect)) (λy0=>post (y0,()))⟩
def pchoX_C:CtxR:=⟨tau,[rule1 pcutsL_sp,rule1 prowL_sp,rule1 peqs_sp,rule1 prects_sp,ruleC pmergeX_sp 290],lookJ [(1027,7,⟨[(6,.dat (.int .i64)),(5,.own 251 (.st .region_band))],[],(List.range' 7 62),[],[]⟩),(1027,8,⟨[(5,.own 251 (.st .region_band))],[],(List.range' 15 54++[7,8]),[4],[]⟩),(1070592028,1000001,⟨[(5,.dat (.sl (.st .region_Span)))],[],[6,7,8,9,10,11,12,13],[],[]⟩)]⟩
abbrev pchoX_a0 (z3:List region_band):=(ix z3 (IntKind.i64.wrap ((↑z3.length:Int)-(1:Int))))
abbrev pchoX_a1 (z3:List region_band)(A:List (api_Rect))(B:List (api_Rect))(z2:Int):=(decide ((0:Int)<(↑z3.length:Int))&&decide ((pchoX_a0 z3).2=ix (cutsS (A.append (B.append []))) (IntKind.i64.wrap (z2-(1:Int)))))
abbrev pchoX_a2 (z3:List region_band)(J5:List region_band->Prop)(A:List (api_Rect))(B:List (api_Rect))(z2:Int):=(((0:Int)<=IntKind.i64.wrap ((↑z3.length:Int)-(1:Int))/\IntKind.i64.wrap ((↑z3.length:Int)-(1:Int))<(↑z3.length:Int))/\J5 (z3.set (IntKind.i64.wrap ((↑z3.length:Int)-(1:Int))).toNat {low:=(pchoX_a0 z3).1,high:=ix (cutsS (A.append (B.append []))) z2,spans:=(pchoX_a0 z3).3:region_band}))
abbrev pchoX_a3 (z3:List region_band):=(gx true (decide ((0:Int)<(↑z3.length:Int)))=true->(0:Int)<=IntKind.i64.wrap ((↑z3.length:Int)-(1:Int))/\IntKind.i64.wrap ((↑z3.length:Int)-(1:Int))<(↑z3.length:Int))
abbrev pchoX_a4 (A:List (api_Rect))(B:List (api_Rect))(z2:Int):=(ix (cutsS (A.append (B.append []))) (IntKind.i64.wrap (z2-(1:Int))))
abbrev pchoX_a5 (A:List (api_Rect))(B:List (api_Rect))(z2:Int)(y6:List region_Span):={low:=ix (cutsS (A.append (B.append []))) (IntKind.i64.wrap (z2-(1:Int))),high:=ix (cutsS (A.append (B.append []))) z2,spans:=y6:region_band}
abbrev pchoX_a6 (z3:List region_band)(A:List (api_Rect))(B:List (api_Rect))(z2:Int):=(gx true (pchoX_a1 z3 A B z2)=true->(0:Int)<=IntKind.i64.wrap ((↑z3.length:Int)-(1:Int))/\IntKind.i64.wrap ((↑z3.length:Int)-(1:Int))<(↑z3.length:Int))
def pchoX_W (A:List (api_Rect))(B:List (api_Rect))(post:List (api_Rect)->Prop):Prop:=((A.append (B.append [])).length<=20000/\[A,B].length<=10)/\LOOP [Ty.int IntKind.i64,(Ty.st Sn.region_band).sl] (λ(rec1:Int->List region_band->Prop) (z2:Int) (z3:List region_band)=>(↑(cutsS (A.append (B.append []))).length:Int)<=9223372036854775807->IFB (decide (z2<(↑(cutsS (A.append (B.append []))).length:Int))) (JOIN [(Ty.st Sn.region_band).sl] (λ(y4:List region_band)=>rec1 (IntKind.i64.wrap (z2+1)) y4) λ(J5:List region_band->Prop)=>((0:Int)<=IntKind.i64.wrap (z2-1)/\IntKind.i64.wrap (z2-1)<(↑(cutsS (A.append (B.append []))).length:Int))/\((0:Int)<=z2/\z2<(↑(cutsS (A.append (B.append []))).length:Int))/\((0:Int)<=IntKind.i64.wrap (z2-1)/\IntKind.i64.wrap (z2-1)<(↑(cutsS (A.append (B.append []))).length:Int))/\(JOIN [(Ty.st Sn.region_Span).sl] (λ(y6:List region_Span)=>((↑z3.length:Int)<=9223372036854775807->(pchoX_a3 z3)/\(pchoX_a6 z3 A B z2)/\JOIN [Ty.bool] (λ(y7:Bool)=>IFB (decide ((0:Int)<(↑z3.length:Int))&&decide ((pchoX_a0 z3).2=ix (cutsS (A.append (B.append []))) (IntKind.i64.wrap (z2-1)))&&y7) (pchoX_a2 z3 J5 A B z2) ((z3.length+[(pchoX_a5 A B z2 y6)].length) * (40:Nat)<=140737488355328/\J5 (z3++[(pchoX_a5 A B z2 y6)]))) λ(J8:Bool->Prop)=>IFB (gx true (pchoX_a1 z3 A B z2)) ((pchoX_a0 z3).3.length<=1000000000/\∀(v9:Bool),(v9=true↔(pchoX_a0 z3).3=y6)->J8 v9) (J8 false))/\((↑z3.length:Int)<=9223372036854775807->(pchoX_a3 z3)/\(pchoX_a6 z3 A B z2)/\JOIN [Ty.bool] (λ(y10:Bool)=>IFB (decide ((0:Int)<(↑z3.length:Int))&&decide ((pchoX_a0 z3).2=ix (cutsS (A.append (B.append []))) (IntKind.i64.wrap (z2-1)))&&y10) (pchoX_a2 z3 J5 A B z2) ((z3.length+[(pchoX_a5 A B z2 y6)].length) * (40:Nat)<=140737488355328/\J5 (z3++[(pchoX_a5 A B z2 y6)]))) λ(J11:Bool->Prop)=>IFB (gx true (pchoX_a1 z3 A B z2)) ((pchoX_a0 z3).3.length<=1000000000/\∀(v12:Bool),(v12=true↔(pchoX_a0 z3).3=y6)->J11 v12) (J11 false))) λ(J13:List region_Span->Prop)=>((∀(v14:api_Rect),v14∈A->v14.1<v14.3)/\A.length<=20000)/\((∀(v15:api_Rect),v15∈B->v15.1<v15.3)/\B.length<=20000)/\((rowS A (pchoX_a4 A B z2)).length<=20000/\(rowS B (pchoX_a4 A B z2)).length<=20000)/\J13 (mergeX xorS (rowS A (pchoX_a4 A B z2)) (rowS B (pchoX_a4 A B z2))))/\JOIN [(Ty.st Sn.region_Span).sl] (λ(y16:List region_Span)=>(↑z3.length:Int)<=9223372036854775807->(pchoX_a3 z3)/\(pchoX_a6 z3 A B z2)/\JOIN [Ty.bool] (λ(y17:Bool)=>IFB (decide ((0:Int)<(↑z3.length:Int))&&decide ((pchoX_a0 z3).2=ix (cutsS (A.append (B.append []))) (IntKind.i64.wrap (z2-1)))&&y17) (pchoX_a2 z3 J5 A B z2) ((z3.length+[(⟨ix (cutsS (A.append (B.append []))) (IntKind.i64.wrap (z2-1)),ix (cutsS (A.append (B.append []))) z2,y16⟩:region_band)].length) * (40:Nat)<=140737488355328/\J5 (z3++[(⟨ix (cutsS (A.append (B.append []))) (IntKind.i64.wrap (z2-1)),ix (cutsS (A.append (B.append []))) z2,y16⟩:region_band)]))) λ(J18:Bool->Prop)=>IFB (gx true (pchoX_a1 z3 A B z2)) ((pchoX_a0 z3).3.length<=1000000000/\∀(v19:Bool),(v19=true↔(pchoX_a0 z3).3=y16)->J18 v19) (J18 false)) λ(J20:List region_Span->Prop)=>((∀(v21:api_Rect),v21∈A->v21.1<v21.3)/\A.length<=20000)/\((∀(v22:api_Rect),v22∈B->v22.1<v22.3)/\B.length<=20000)/\((rowS A (pchoX_a4 A B z2)).length<=20000/\(rowS B (pchoX_a4 A B z2)).length<=20000)/\J20 (mergeX xorS (rowS A (pchoX_a4 A B z2)) (rowS B (pchoX_a4 A B z2)))) (((flat z3).length<=1000000000/\z3.length<=1000000000)/\post (flat z3))) ((1:Int),[],PUnit.unit)
theorem pchoX_w (A:List (api_Rect))(B:List (api_Rect))(post:dens (shT pchoX_sp.rs [])->Prop):pchoX_W A B (λy0=>post (y0,()))=walkG (callR Tryz.prog pchoX_C (drawR Tryz.prog tau) 12 0) 75 false [tv (.sl (.st .api_Rect)) A,tv (.sl (.st .api_Rect)) B,.v (clo 290)] pchoX_sp.rs post:=by kernel_rfl
theorem pchoX_of (h:∀A B post,pchoX_P A B post->pchoX_W A B post):SpecCOK Tryz.prog pchoX_sp [clo 290]:=SpecCOK.of_rules (C:=pchoX_C) (dr:=drawR Tryz.prog tau) (n:=12) (fk:=0) (.cons (rule1_ok pcutsL_ok) (.cons (rule1_ok prowL_ok) (.cons (rule1_ok peqs_ok) (.cons (rule1_ok prects_ok) (.cons (ruleC_ok pmergeX_ok) .nil))))) (drawR_ok tau) λx post hp=>HoldW.of (pchoX_w x.1 x.2.1 post) (h x.1 x.2.1 (λy0=>post (y0,())) hp)
theorem pchoX_ok:SpecCOK Tryz.prog pchoX_sp [clo 290]:=pchoX_of λl m post hp=>by
 obtain⟨⟨⟨g1,hl1⟩,g2,hl2⟩,hp⟩:=hp
 unfold pchoX_W pchoX_a6 pchoX_a5 pchoX_a4 pchoX_a3 pchoX_a2 pchoX_a1 pchoX_a0
 have e:l.append (m.append [])=l++m:=by show l++(m++[])=l++m;rw[List.append_nil]
 rw[e]
 have hlm:(l++m).length<=16000:=by rw[List.length_append];omega
 have hcl:=cutsS_len (l:=l++m)
 have hJ4:(flat (buildG (λy=>mergeX xorS (rowS l y) (rowS m y)) [] (cutsS (l++m)))).length<=268435456:=by
  rw[<-chooseX_build xorS_0]
  exact box_len (comb_ok (xorS_0) l m).1 λx y hc=>by
   rw[(comb_ok (xorS_0) l m).2] at hc
   unfold comb xorS at hc
   cases h1:cov l x y with
   |true=>exact proper_box g1 h1
   |false=>cases h2:cov m x y with
    |true=>exact proper_box g2 h2
    |false=>rw[h1,h2] at hc;cases hc
 rw[chooseX_build xorS_0] at hp
 refine⟨⟨by omega,by simp⟩,?_⟩
 have hmlen:∀y,(mergeX xorS (rowS l y) (rowS m y)).length<=100000:=λy=>by
  unfold mergeX spansOf
  have q1:=spansG_len (p:=λx=>xorS (insS (rowS l y) x) (insS (rowS m y) x)) (xs:=uniqI (edgL (rowS l y++rowS m y))) (out:=[])
  have q2:=uniqI_len (edgL (rowS l y++rowS m y))
  rw[edgL_len,List.length_append] at q2
  have q3:=rowS_len (l:=l) (y:=y)
  have q4:=rowS_len (l:=m) (y:=y)
  simp only[List.length_nil] at q1
  omega
 refine build_loop (xs:=cutsS (l++m)) (R:=λy=>mergeX xorS (rowS l y) (rowS m y)) hmlen (by omega) (λrec k acc hk hal has hrec=> ?_) (λhlen=>⟨⟨by omega,by omega⟩,hp⟩)
 refine JOIN.opq λ(J9:List Bd->Prop) hJ9=> ?_
 have w1:IntKind.i64.wrap (((k+1:Nat):Int)-1)=k:=by rw[wrap_in (by omega) (by omega)];omega
 rw[w1]
 have hJ9:J9 (addBd acc (ix (cutsS (l++m)) (k:Int)) (ix (cutsS (l++m)) ((k+1:Nat):Int)) (mergeX xorS (rowS l (ix (cutsS (l++m)) (k:Int))) (rowS m (ix (cutsS (l++m)) (k:Int))))):=by
  rw[hJ9]
  show rec (IntKind.i64.wrap (((k+1:Nat):Int)+1)) _
  rw[wrapS (by omega)]
  exact hrec
 have main:=bandM_ok (by omega) (λb hb=>Nat.le_trans (has b hb) (by omega)) hJ9
 have q3:=rowS_len (l:=l) (y:=ix (cutsS (l++m)) (k:Int))
 have q4:=rowS_len (l:=m) (y:=ix (cutsS (l++m)) (k:Int))
 have hD1:(∀v:api_Rect,v∈l->v.1<v.3)/\l.length<=20000:=⟨λr hr=>(g1 r hr).2.1,by omega⟩
 have hD2:(∀v:api_Rect,v∈m->v.1<v.3)/\m.length<=20000:=⟨λr hr=>(g2 r hr).2.1,by omega⟩
 refine⟨by omega,by omega,by omega,?_,?_⟩
 ·refine JOIN.opq λ(J17:List Sp->Prop) hJ17=>⟨hD1,hD2,⟨by omega,by omega⟩,?_⟩
  rw[hJ17]
  exact⟨main,main⟩
 ·refine JOIN.opq λ(J17:List Sp->Prop) hJ17=>⟨hD1,hD2,⟨by omega,by omega⟩,?_⟩
  rw[hJ17]
  exact main
def pclR_P (l:List (api_Region))(post:List (api_Region)->Prop):Prop:=(l.length<=4000000)/\post (l)
def pclR_sp:Spec:=⟨84,false,true,[.sl (.st .api_Region)],.own 56 (.st .api_Region),λx post=>pclR_P (x.1:List (api_Region)) (λy0=>post (y0,()))⟩
def pclR_C:CtxR:=⟨tau,[],lookJ []⟩
def pclR_W (l:List (api_Region))(post:List (api_Region)->Prop):Prop:=∀(v1:Bool),(v1=true->l=[])->IFB v1 (post []) (((0:Nat)+l.length) * (24:Nat)<=140737488355328/\post ([]++l))
theorem pclR_w (l:List (api_Region))(post:dens (shT pclR_sp.rs [])->Prop):pclR_W l (λy0=>post (y0,()))=walkG (callR Tryz.prog pclR_C (drawR Tryz.prog tau) 8 0) 84 false [tv (.sl (.st .api_Region)) l] pclR_sp.rs post:=by kernel_rfl
theorem pclR_of (h:∀l post,pclR_P l post->pclR_W l post):SpecOK Tryz.prog pclR_sp:=SpecOK.of_rules (C:=pclR_C) (dr:=drawR Tryz.prog tau) (n:=8) (fk:=0) .nil (drawR_ok tau) λx post hp=>HoldW.of (pclR_w x.1 post) (h x.1 (λy0=>post (y0,())) hp)
theorem pclR_ok:SpecOK Tryz.prog pclR_sp:=pclR_of λl post hp=>by
 obtain⟨hl,hp⟩:=hp
 unfold pclR_W
 refine λv hv=>IFB.mk (λh=> ?_) (λ_=>⟨by omega,?_⟩)
 ·rw[hv h] at hp;exact hp
 ·rw[List.nil_append];exact hp
def pclr_P (l:List (api_Rect))(post:List (api_Rect)->Prop):Prop:=(l.length<=4000000)/\post (l)
def pclr_sp:Spec:=⟨119,false,true,[.sl (.st .api_Rect)],.dat (.sl (.st .api_Rect)),λx post=>pclr_P (x.1:List (api_Rect)) (λy0=>post (y0,()))⟩
def pclr_C:CtxR:=⟨tau,[],lookJ []⟩
def pclr_W (l:List (api_Rect))(post:List (api_Rect)->Prop):Prop:=∀(v1:Bool),(v1=true->l=[])->IFB v1 (post []) (((0:Nat)+l.length) * (32:Nat)<=140737488355328/\post ([]++l))
theorem pclr_w (l:List (api_Rect))(post:dens (shT pclr_sp.rs [])->Prop):pclr_W l (λy0=>post (y0,()))=walkG (callR Tryz.prog pclr_C (drawR Tryz.prog tau) 8 0) 119 false [tv (.sl (.st .api_Rect)) l] pclr_sp.rs post:=by kernel_rfl
theorem pclr_of (h:∀l post,pclr_P l post->pclr_W l post):SpecOK Tryz.prog pclr_sp:=SpecOK.of_rules (C:=pclr_C) (dr:=drawR Tryz.prog tau) (n:=8) (fk:=0) .nil (drawR_ok tau) λx post hp=>HoldW.of (pclr_w x.1 post) (h x.1 (λy0=>post (y0,())) hp)
theorem pclr_ok:SpecOK Tryz.prog pclr_sp:=pclr_of λl post hp=>by
 obtain⟨hl,hp⟩:=hp
 unfold pclr_W
 refine λv hv=>IFB.mk (λh=> ?_) (λ_=>⟨by omega,?_⟩)
 ·rw[hv h] at hp;exact hp
 ·rw[List.nil_append];exact hp
def pcpy_P (a:api_Region)(post:api_Region->Prop):Prop:=(a.1.length<=4000000)/\post (a)
def pcpy_sp:Spec:=⟨56,false,true,[.st .api_Region],.dat (.st .api_Region),λx post=>pcpy_P (x.1:api_Region) (λy0=>post (y0,()))⟩
def pcpy_C:CtxR:=⟨tau,[rule1 pclr_sp],lookJ []⟩
def pcpy_W (a:api_Region)(post:api_Region->Prop):Prop:=a.1.length<=4000000/\post {Rects:=a.1:api_Region}
theorem pcpy_w (a:api_Region)(post:dens (shT pcpy_sp.rs [])->Prop):pcpy_W a (λy0=>post (y0,()))=walkG (callR Tryz.prog pcpy_C (drawR Tryz.prog tau) 8 0) 56 false [tv (.st .api_Region) a] pcpy_sp.rs post:=by kernel_rfl
theorem pcpy_of (h:∀a post,pcpy_P a post->pcpy_W a post):SpecOK Tryz.prog pcpy_sp:=SpecOK.of_rules (C:=pcpy_C) (dr:=drawR Tryz.prog tau) (n:=8) (fk:=0) (.cons (rule1_ok pclr_ok) .nil) (drawR_ok tau) λx post hp=>HoldW.of (pcpy_w x.1 post) (h x.1 (λy0=>post (y0,())) hp)
theorem pcpy_ok:SpecOK Tryz.prog pcpy_sp:=pcpy_of λa post hp=>⟨hp.1,hp.2⟩
def pallO_P (l:List (api_Parcel))(post:List (api_Parcel)->Prop):Prop:=(szL l)/\post (l)
def pallO_sp:Spec:=⟨139,false,true,[.sl (.st .api_Parcel)],.own 71 (.st .api_Parcel),λx post=>pallO_P (x.1:List (api_Parcel)) (λy0=>post (y0,()))⟩
def pallO_C:CtxR:=⟨tau,[rule1 pclI_sp,rule1 pclR_sp,rule1 pcpy_sp],lookJ [(0,7,⟨[(10,.dat (.int .i64)),(3,.own 71 (.st .api_Parcel))],[],(List.range' 11 35++[5,6,7]),[],[]⟩),(0,15,⟨[(29,.dat (.int .i64))],[],(List.range' 30 11++[6,7]),[],[(4,56,(.st .api_Region))]⟩),(0,1000005,⟨[],[(1,[.dat (.int .i64),.dat (.int .i64),.dat (.int .i64),.own 3 (.int .i64),.own 3 (.int .i64),.own 56 (.st .api_Region)])],(List.range' 14 12),[],[]⟩)]⟩
def pallO_W (l:List (api_Parcel))(post:List (api_Parcel)->Prop):Prop:=(↑l.length:Int)<=9223372036854775807->LOOP [Ty.int IntKind.i64,(Ty.st Sn.api_Parcel).sl] (λ(rec1:Int->List api_Parcel->Prop) (z2:Int) (z3:List api_Parcel)=>IFB (decide (z2<(↑l.length:Int))) (((0:Int)<=z2/\z2<(↑l.length:Int))/\JOIN [Ty.int IntKind.i64,Ty.int IntKind.i64,Ty.int IntKind.i64,(Ty.int IntKind.i64).sl,(Ty.int IntKind.i64).sl,(Ty.st Sn.api_Region).sl] (λ(y4 y5 y6:Int) (y7 y8:List Int) (y9:List api_Region)=>(↑y9.length:Int)<=9223372036854775807->LOOP [Ty.int IntKind.i64,(Ty.st Sn.api_Region).sl] (λ(rec10:Int->List api_Region->Prop) (z11:Int) (z12:List api_Region)=>IFB (decide (z11<(↑y9.length:Int))) (((0:Int)<=z11/\z11<(↑z12.length:Int))/\(ix z12 z11).1.length<=4000000/\((0:Int)<=z11/\z11<(↑z12.length:Int))/\rec10 (IntKind.i64.wrap (z11+1)) (z12.set z11.toNat {Rects:=(ix z12 z11).1:api_Region})) ((z3.length+[(⟨y4,y5,y6,y7,y8,z12⟩:api_Parcel)].length) * (96:Nat)<=140737488355328/\rec1 (IntKind.i64.wrap (z2+1)) (z3++[(⟨y4,y5,y6,y7,y8,z12⟩:api_Parcel)]))) ((0:Int),y9,PUnit.unit)) λ(J13:Int->Int->Int->List Int->List Int->List api_Region->Prop)=>(ix l z2).4.length<=4000000/\(ix l z2).5.length<=4000000/\(ix l z2).6.length<=4000000/\J13 (ix l z2).1 (ix l z2).2 (ix l z2).3 (ix l z2).4 (ix l z2).5 (ix l z2).6) (post z3)) ((0:Int),[],PUnit.unit)
theorem pallO_w (l:List (api_Parcel))(post:dens (shT pallO_sp.rs [])->Prop):pallO_W l (λy0=>post (y0,()))=walkG (callR Tryz.prog pallO_C (drawF Tryz.prog tau) 8 0) 139 false [tv (.sl (.st .api_Parcel)) l] pallO_sp.rs post:=by kernel_rfl
theorem pallO_of (h:∀l post,pallO_P l post->pallO_W l post):SpecOK Tryz.prog pallO_sp:=SpecOK.of_rules (C:=pallO_C) (dr:=drawF Tryz.prog tau) (n:=8) (fk:=0) (.cons (rule1_ok pclI_ok) (.cons (rule1_ok pclR_ok) (.cons (rule1_ok pcpy_ok) .nil))) (drawF_ok tau) λx post hp=>HoldW.of (pallO_w x.1 post) (h x.1 (λy0=>post (y0,())) hp)
namespace PL
def allI (l:List Pc)(z:Int)(b:List Pc):Prop:=∃k:Nat,z=(k:Int)/\k<=l.length/\b=l.take k
end PL
theorem pallO_ok:SpecOK Tryz.prog pallO_sp:=pallO_of λl post hp=>by
 obtain⟨hsz,hp⟩:=hp
 have hl:=hsz.len
 unfold pallO_W
 refine λ_=>LOOP.fuel2 (λz b=>allI l z b) (λz _=>l.length-Int.toNat z) ⟨0,rfl,Nat.zero_le _,rfl⟩ ?_
 rintro rec (z:Int) (b:List Pc) ⟨k,i1,i2,i3⟩ hrec
 subst i1
 refine IFB.mk (λhb=> ?_) (λhb=> ?_)
 ·have hb:(k:Int)<l.length:=of_decide_eq_true hb
  have hk:k<l.length:=by omega
  have hx:=hsz.all _ (ix_mem (l:=l) (i:=(k:Int)) (by omega) (by omega))
  have x1:=hx.days
  have x2:=hx.regs
  have x3:=hx.pars
  have x4:=hx.rect
  refine⟨by omega,JOIN.opq λ(J:Int->Int->Int->List Int->List Int->List api_Region->Prop) hJ=>⟨by omega,by omega,by omega,?_⟩⟩
  rw[hJ]
  refine λ_=>LOOP.fuel2 (λ(u:Int) (c:List api_Region)=>∃j:Nat,u=(j:Int)/\j<=(ix l (k:Int)).6.length/\c=(ix l (k:Int)).6) (λu _=>(ix l (k:Int)).6.length-Int.toNat u) ⟨0,rfl,Nat.zero_le _,rfl⟩ ?_
  rintro rec2 (u:Int) (c:List api_Region) ⟨j,j1,j2,j3⟩ hrec2
  subst j1 j3
  refine IFB.mk (λhc=> ?_) (λhc=> ?_)
  ·have hc:(j:Int)<(ix l (k:Int)).6.length:=of_decide_eq_true hc
   have hj:j<(ix l (k:Int)).6.length:=by omega
   refine⟨by omega,?_,by omega,?_⟩
   ·have:=x4 _ (ix_mem (l:=(ix l (k:Int)).6) (i:=(j:Int)) (by omega) (by omega));omega
   ·rw[wrapS (by omega)]
    have e:(ix l (k:Int)).6.set (j:Int).toNat {Rects:=(ix (ix l (k:Int)).6 (j:Int)).1}=(ix l (k:Int)).6:=by
     show List.set _ j (ix (ix l (k:Int)).6 (j:Int))=_
     rw[ix_lt hj];exact List.set_getElem_self hj
    rw[e]
    exact hrec2 ((j+1:Nat):Int) _ ⟨j+1,rfl,hj,rfl⟩ (by show (ix l (k:Int)).6.length-((j+1:Nat):Int).toNat<(ix l (k:Int)).6.length-(j:Int).toNat;omega)
  ·have hbl:b.length<=1000000:=by rw[i3,List.length_take];omega
   refine⟨by simp only[List.length_cons,List.length_nil];omega,?_⟩
   rw[wrapS (by omega)]
   refine hrec ((k+1:Nat):Int) _ ⟨k+1,rfl,hk,?_⟩ (by show l.length-((k+1:Nat):Int).toNat<l.length-(k:Int).toNat;omega)
   show b++[ix l (k:Int)]=_
   rw[i3,List.take_succ_eq_append_getElem hk,ix_lt hk]
 ·have hb:¬(k:Int)<l.length:=of_decide_eq_false hb
  have hk:k=l.length:=by omega
  have e:b=l:=by rw[i3,hk,List.take_length]
  show post b
  rw[e];exact hp
def plast_P (l:List (api_Parcel))(post:Int->Prop):Prop:=(l.length<=1000000/\∀p∈l,0<p.Days.length/\p.Days.length<=1000000)/\post (dayS l)
def plast_sp:Spec:=⟨213,false,false,[.sl (.st .api_Parcel)],.dat (.int .i64),λx post=>plast_P (x.1:List (api_Parcel)) (λy0=>post (y0,()))⟩
def plast_C:CtxR:=⟨tau,[],lookJ [(0,7,⟨[(8,.dat (.int .i64)),(3,.dat (.int .i64))],[],(List.range' 9 21++[5]),[],[]⟩),(0,16,⟨[(3,.dat (.int .i64))],[],(List.range' 10 19++[5]),[],[]⟩)]⟩
def plast_W (l:List (api_Parcel))(post:Int->Prop):Prop:=(↑l.length:Int)<=9223372036854775807->LOOP [Ty.int IntKind.i64,Ty.int IntKind.i64] (λ(rec1:Int->Int->Prop) (z2 z3:Int)=>IFB (decide (z2<(↑l.length:Int))) (JOIN [Ty.int IntKind.i64] (λ(y4:Int)=>rec1 (IntKind.i64.wrap (z2+1)) y4) λ(J5:Int->Prop)=>((0:Int)<=z2/\z2<(↑l.length:Int))/\((↑(ix l z2).5.length:Int)<=9223372036854775807->((0:Int)<=IntKind.i64.wrap ((↑(ix l z2).5.length:Int)-1)/\IntKind.i64.wrap ((↑(ix l z2).5.length:Int)-1)<(↑(ix l z2).5.length:Int))/\IFB (!decide ((ix l z2).3=36865)) (J5 (Max.max (Max.max z3 (ix (ix l z2).5 (IntKind.i64.wrap ((↑(ix l z2).5.length:Int)-1)))) (ix l z2).3)) (J5 (Max.max z3 (ix (ix l z2).5 (IntKind.i64.wrap ((↑(ix l z2).5.length:Int)-1))))))) (post z3)) ((0:Int),(0:Int),PUnit.unit)
theorem plast_w (l:List (api_Parcel))(post:dens (shT plast_sp.rs [])->Prop):plast_W l (λy0=>post (y0,()))=walkG (callR Tryz.prog plast_C (drawR Tryz.prog tau) 8 0) 213 false [tv (.sl (.st .api_Parcel)) l] plast_sp.rs post:=by kernel_rfl
theorem plast_of (h:∀l post,plast_P l post->plast_W l post):SpecOK Tryz.prog plast_sp:=SpecOK.of_rules (C:=plast_C) (dr:=drawR Tryz.prog tau) (n:=8) (fk:=0) .nil (drawR_ok tau) λx post hp=>HoldW.of (plast_w x.1 post) (h x.1 (λy0=>post (y0,())) hp)
theorem fold_take {α β:Type}[Inhabited α]{f:β->α->β}{l:List α}{b:β}{k:Nat}(hk:k<l.length):(l.take (k+1)).foldl f b=f ((l.take k).foldl f b) (ix l (k:Int)):=by
 rw[List.take_succ_eq_append_getElem hk,List.foldl_append,ix_lt hk];rfl
theorem plast_ok:SpecOK Tryz.prog plast_sp:=plast_of λl post hp=>by
 obtain⟨⟨hl,hsz⟩,hp⟩:=hp
 unfold plast_W
 refine λ_=>LOOP.fuel2 (λz b=>∃k:Nat,z=(k:Int)/\k<=l.length/\b=(l.take k).foldl dayF 0) (λz _=>l.length-Int.toNat z) ⟨0,rfl,Nat.zero_le _,rfl⟩ ?_
 rintro rec (z:Int) (b:Int) ⟨k,i1,i2,i3⟩ hrec
 subst i1
 refine IFB.mk (λhb=> ?_) (λhb=> ?_)
 ·have hb:(k:Int)<l.length:=of_decide_eq_true hb
  have hk:k<l.length:=by omega
  obtain⟨x1,x2⟩:=hsz _ (ix_mem (l:=l) (i:=(k:Int)) (by omega) (by omega))
  have hw:IntKind.i64.wrap (((ix l (k:Int)).5.length:Int)-1)=((ix l (k:Int)).5.length:Int)-1:=wrap_in (by omega) (by omega)
  rw[hw]
  refine JOIN.opq λ(J:Int->Prop) hJ=>⟨by omega,λ_=>⟨by omega,?_⟩⟩
  have fin:∀y:Int,y=dayF b (ix l (k:Int))->J y:=λy hy=>by
   rw[hJ]
   show rec (IntKind.i64.wrap ((k:Int)+1)) y
   rw[wrapS (by omega)]
   exact hrec ((k+1:Nat):Int) y ⟨k+1,rfl,hk,by rw[fold_take hk,<-i3,hy]⟩ (by show l.length-((k+1:Nat):Int).toNat<l.length-(k:Int).toNat;omega)
  refine IFB.mk (λhc=>fin _ ?_) (λhc=>fin _ ?_)
  ·have hc:¬(ix l (k:Int)).3=36865:=by simpa using hc
   unfold dayF;rw[if_neg hc]
  ·have hc:(ix l (k:Int)).3=36865:=by simpa using hc
   unfold dayF;rw[if_pos hc]
 ·have hb:¬(k:Int)<l.length:=of_decide_eq_false hb
  have hk:k=l.length:=by omega
  have e:b=dayS l:=by rw[i3,hk,List.take_length];rfl
  show post b
  rw[e];exact hp
def popn_P (l:List (api_Parcel))(n:Int)(post:Bool->Prop):Prop:=(l.length<=1000000)/\∀q:Bool,(q=true↔openP l n)->post q
def popn_sp:Spec:=⟨216,false,false,[.sl (.st .api_Parcel),.int .i64],.dat (.bool),λx post=>popn_P (x.1:List (api_Parcel)) (x.2.1:Int) (λy0=>post (y0,()))⟩
def popn_C:CtxR:=⟨tau,[],lookJ []⟩
def popn_W (l:List (api_Parcel))(n:Int)(post:Bool->Prop):Prop:=(gx true (decide ((1:Int)<=n))=true->(↑l.length:Int)<=9223372036854775807)->(gx true (decide ((1:Int)<=n)&&decide (n<=(↑l.length:Int)))=true->0<=IntKind.i64.wrap (n-1)/\IntKind.i64.wrap (n-1)<(↑l.length:Int))/\post (decide ((1:Int)<=n)&&decide (n<=(↑l.length:Int))&&decide ((ix l (IntKind.i64.wrap (n-1))).3=36865))
theorem popn_w (l:List (api_Parcel))(n:Int)(post:dens (shT popn_sp.rs [])->Prop):popn_W l n (λy0=>post (y0,()))=walkG (callR Tryz.prog popn_C (drawR Tryz.prog tau) 8 0) 216 false [tv (.sl (.st .api_Parcel)) l,tv (.int .i64) n] popn_sp.rs post:=by kernel_rfl
theorem popn_of (h:∀l n post,popn_P l n post->popn_W l n post):SpecOK Tryz.prog popn_sp:=SpecOK.of_rules (C:=popn_C) (dr:=drawR Tryz.prog tau) (n:=8) (fk:=0) .nil (drawR_ok tau) λx post hp=>HoldW.of (popn_w x.1 x.2.1 post) (h x.1 x.2.1 (λy0=>post (y0,())) hp)
theorem popn_ok:SpecOK Tryz.prog popn_sp:=popn_of λl n post hp=>by
 obtain⟨hl,hp⟩:=hp
 unfold popn_W
 intro _
 refine⟨λh=> ?_,hp _ ?_⟩
 ·simp only[Bool.and_eq_true,decide_eq_true_eq,gx_t] at h
  rw[wrap_in (by omega) (by omega)];omega
 ·unfold openP
  simp only[Bool.and_eq_true,decide_eq_true_eq]
  constructor
  ·rintro ⟨⟨h1,h2⟩,h3⟩
   rw[wrap_in (by omega) (by omega)] at h3
   exact⟨h1,h2,h3⟩
  ·rintro ⟨h1,h2,h3⟩
   rw[wrap_in (by omega) (by omega)]
   exact⟨⟨h1,h2⟩,h3⟩
def parea_P (a:api_Region)(post:Int->Prop):Prop:=(True)/\post (areaS a)
def parea_sp:Spec:=⟨22,false,false,[.st .api_Region],.dat (.int .i64),λx post=>parea_P (x.1:api_Region) (λy0=>post (y0,()))⟩
def parea_C:CtxR:=⟨tau,[rule1 pval_sp],lookJ [(3066,7,⟨[(8,.dat (.int .i64)),(3,.dat (.int .i64))],[],(List.range' 9 17++[5]),[],[]⟩)]⟩
def parea_W (a:api_Region)(post:Int->Prop):Prop:=∀(v1:Bool),(v1=true↔validP a.1)->IFB (!v1) (post 0) ((↑a.1.length:Int)<=9223372036854775807->LOOP [Ty.int IntKind.i64,Ty.int IntKind.i64] (λ(rec2:Int->Int->Prop) (z3 z4:Int)=>IFB (decide (z3<(↑a.1.length:Int))) (((0:Int)<=z3/\z3<(↑a.1.length:Int))/\rec2 (IntKind.i64.wrap (z3+1)) (IntKind.i64.wrap (z4+IntKind.i64.wrap (IntKind.i64.wrap ((ix a.1 z3).3-(ix a.1 z3).1) * IntKind.i64.wrap ((ix a.1 z3).4-(ix a.1 z3).2))))) (post z4)) ((0:Int),(0:Int),PUnit.unit))
theorem parea_w (a:api_Region)(post:dens (shT parea_sp.rs [])->Prop):parea_W a (λy0=>post (y0,()))=walkG (callR Tryz.prog parea_C (drawR Tryz.prog tau) 8 0) 22 false [tv (.st .api_Region) a] parea_sp.rs post:=by kernel_rfl
theorem parea_of (h:∀a post,parea_P a post->parea_W a post):SpecOK Tryz.prog parea_sp:=SpecOK.of_rules (C:=parea_C) (dr:=drawR Tryz.prog tau) (n:=8) (fk:=0) (.cons (rule1_ok pval_ok) .nil) (drawR_ok tau) λx post hp=>HoldW.of (parea_w x.1 post) (h x.1 (λy0=>post (y0,())) hp)
def pjoin_P (l:List (api_Rect))(post:List (api_Rect)->Int->Prop):Prop:=((∀r∈l,proper r)/\l.length<=1000)/\∀(r:List api_Rect)(g:Int),joinP l r g->post r g
def pjoin_sp:Spec:=⟨291,false,true,[.sl (.st .api_Rect)],.tup [.agg [.dat (.sl (.st .api_Rect))],.dat (.int .i64)],λx post=>pjoin_P (x.1:List (api_Rect)) (λy0 y1=>post (y0,y1,()))⟩
def pjoin_C:CtxR:=⟨tau,[rule1 pcan_sp],lookJ [(1024,0,⟨[(0,.tup [.agg [.dat (.sl (.st .api_Rect))],.dat (.int .i64)])],[],[],[],[]⟩)]⟩
def pjoin_W (l:List (api_Rect))(post:List (api_Rect)->Int->Prop):Prop:=((∀(v1:api_Rect),v1∈l->0<=v1.1/\v1.1<v1.3/\v1.3<=16384/\0<=v1.2/\v1.2<v1.4/\v1.4<=16384)/\l.length<=10000)/\JOIN [(Ty.st Sn.api_Rect).sl,Ty.int IntKind.i64] (λ(y2:List api_Rect) (y3:Int)=>post y2 y3) λ(J4:List api_Rect->Int->Prop)=>(↑(canonF (cov l)).length:Int)<=9223372036854775807->IFB (decide ((120:Int)<(↑(canonF (cov l)).length:Int))) (J4 [] 1) (J4 (canonF (cov l)) 0)
theorem pjoin_w (l:List (api_Rect))(post:dens (shT pjoin_sp.rs [])->Prop):pjoin_W l (λy0 y1=>post (y0,y1,()))=walkG (callR Tryz.prog pjoin_C (drawR Tryz.prog tau) 8 0) 291 false [tv (.sl (.st .api_Rect)) l] pjoin_sp.rs post:=by kernel_rfl
theorem pjoin_of (h:∀l post,pjoin_P l post->pjoin_W l post):SpecOK Tryz.prog pjoin_sp:=SpecOK.of_rules (C:=pjoin_C) (dr:=drawR Tryz.prog tau) (n:=8) (fk:=0) (.cons (rule1_ok pcan_ok) .nil) (drawR_ok tau) λx post hp=>HoldW.of (pjoin_w x.1 post) (h x.1 (λy0 y1=>post (y0,y1,())) hp)
theorem size_in {r:Rc}(h:proper r):0<=sizeR r/\sizeR r<=268435456/\IntKind.i64.wrap (IntKind.i64.wrap (r.3-r.1) * IntKind.i64.wrap (r.4-r.2))=sizeR r:=by
 obtain⟨p1,p2,p3,p4,p5,p6⟩:=h
 have h1:0<=(r.3-r.1):=by omega
 have h2:0<=(r.4-r.2):=by omega
 have h3:(r.3-r.1)<=16384:=by omega
 have h4:(r.4-r.2)<=16384:=by omega
 have m1:=Int.mul_nonneg h1 h2
 have m2:(r.3-r.1) * (r.4-r.2)<=16384 * 16384:=Int.mul_le_mul h3 h4 h2 (by omega)
 refine⟨m1,m2,?_⟩
 rw[wrap_in (z:=r.3-r.1) (by omega) (by omega),wrap_in (z:=r.4-r.2) (by omega) (by omega),wrap_in (by omega) (by omega)]
 rfl
theorem size_loop {l:List Rc}(hp:∀r∈l,proper r)(hl:l.length<=268435456){K:Int->Prop}(hK:K (sizeS l)):
 LOOP [Ty.int IntKind.i64,Ty.int IntKind.i64] (λ(rec2:Int->Int->Prop) (z3 z4:Int)=>IFB (decide (z3<(l.length:Int))) (((0:Int)<=z3/\z3<(l.length:Int))/\rec2 (IntKind.i64.wrap (z3+(1:Int))) (IntKind.i64.wrap (z4+IntKind.i64.wrap (IntKind.i64.wrap ((ix l z3).3-(ix l z3).1) * IntKind.i64.wrap ((ix l z3).4-(ix l z3).2))))) (K z4)) ((0:Int),(0:Int),PUnit.unit):=by
 refine LOOP.fuel2 (λ(z b:Int)=>∃k:Nat,z=(k:Int)/\k<=l.length/\b=(l.take k).foldl (λn r=>n+sizeR r) 0/\0<=b/\b<=268435456 * (k:Int)) (λ(z _:Int)=>l.length-Int.toNat z) ⟨0,rfl,Nat.zero_le _,rfl,Int.le_refl _,Int.le_refl _⟩ ?_
 rintro rec (z:Int) (b:Int) ⟨k,i1,i2,i3,i4,i5⟩ hrec
 subst i1
 refine IFB.mk (λhb=> ?_) (λhb=> ?_)
 ·have hb:(k:Int)<l.length:=of_decide_eq_true hb
  have hk:k<l.length:=by omega
  obtain⟨s1,s2,s3⟩:=size_in (hp _ (ix_mem (l:=l) (i:=(k:Int)) (by omega) (by omega)))
  refine⟨by omega,?_⟩
  rw[s3,wrapS (by omega),wrap_in (z:=b+_) (by omega) (by omega)]
  exact hrec ((k+1:Nat):Int) _ ⟨k+1,rfl,hk,by rw[fold_take hk,<-i3],by omega,by omega⟩ (by show l.length-((k+1:Nat):Int).toNat<l.length-(k:Int).toNat;omega)
 ·have hb:¬(k:Int)<l.length:=of_decide_eq_false hb
  have hk:k=l.length:=by omega
  have e:b=sizeS l:=by rw[i3,hk,List.take_length];rfl
  rw[e];exact hK
theorem parea_ok:SpecOK Tryz.prog parea_sp:=parea_of λa post hp=>by
 obtain⟨_,hp⟩:=hp
 unfold parea_W
 unfold areaS at hp
 refine λv hv=>IFB.mk (λhb=> ?_) (λhb=> ?_)
 ·rw[if_neg (λh=>by have:=hv.2 h;rw[this] at hb;cases hb)] at hp;exact hp
 ·have h:=hv.1 (by simpa using hb)
  rw[if_pos h] at hp
  exact λ_=>size_loop h.2.1 (by have:=h.1;omega) hp
theorem pjoin_ok:SpecOK Tryz.prog pjoin_sp:=pjoin_of λl post hp=>by
 obtain⟨⟨h1,h2⟩,hp⟩:=hp
 unfold pjoin_W
 refine⟨⟨h1,by omega⟩,JOIN.opq λ(J:List Rc->Int->Prop) hJ _=>IFB.mk (λhb=> ?_) (λhb=> ?_)⟩
 ·have hb:(120:Int)<_:=of_decide_eq_true hb
  rw[hJ];exact hp _ _ (.inl ⟨by omega,rfl,rfl⟩)
 ·have hb:¬(120:Int)<_:=of_decide_eq_false hb
  rw[hJ];exact hp _ _ (.inr ⟨by omega,rfl,rfl⟩)
end RE
end Go.Proofs.YtjcjdgmojkkioaaGreatDoor
set_option linter.unusedVariables false
set_option maxRecDepth 100000
namespace Go.Proofs.YtjcjdgmojkkioaaGreatDoor
open Go.RowKit Go.Sort Go.Lib
namespace RE
open PL
namespace Forms
theorem set_last (w:World)(o o':Obj):({w.alloc o with heap:=(w.alloc o).heap.setIfInBounds w.heap.size o'}:World)=w.alloc o':=by
 have e:(w.alloc o).heap=w.heap.push o:=rfl
 have e':(w.alloc o').heap=w.heap.push o':=rfl
 have h:(w.alloc o).heap.setIfInBounds w.heap.size o'=(w.alloc o').heap:=by
  rw[e,e']
  apply Array.ext'
  simp
 rw[h]
 rfl
theorem ins_run {P:Program}{mt kt et:TypeId}{kk:IntKind}(hm:P.underlying mt=some (.map kt et))(hk:P.underlying kt=some (.int kk))(w:World)(es:Array MapEntry)(clock:Nat)(z:Int)(v:Value)(hn:Instr.findNow (.int kk) (.int .i64 z) es.toList 0=some none):
 (Instr.mapUpdate mt (.map (some w.heap.size)) (.int .i64 z) v).run P (w.alloc (.map es clock))= .ok () (w.alloc (.map (es.push {key:= .int .i64 z,val:=v,born:=clock}) (clock+1))):=by
 have hb:(w.alloc (.map es clock)).heap[w.heap.size]? =some (.map es clock):=heap_alloc_new w _
 have hget:(getObj w.heap.size).run P (w.alloc (.map es clock))= .ok (.map es clock) (w.alloc (.map es clock)):=by
  simp only[getObj,Sem.run]
  rw[hb]
 have hset:∀o,(setObj w.heap.size o).run P (w.alloc (.map es clock))= .ok () (w.alloc o):=λo=>by
  simp only[setObj,Sem.run,hb,set_last]
 have hck:(Instr.checkKey false 10000 kt (.int .i64 z)).run P (w.alloc (.map es clock))= .ok () (w.alloc (.map es clock)):=by
  show (Instr.checkKey false (9999+1) kt (.int .i64 z)).run P _=_
  unfold Instr.checkKey
  simp[run_underlying hk]
 have hf:(Instr.findKey kt (.int .i64 z) es.toList).run P (w.alloc (.map es clock))= .ok none (w.alloc (.map es clock)):=by
  unfold Instr.findKey
  simp[run_underlying hk,hn]
 simp[Instr.mapUpdate,run_underlying hm,hget,hck,hf,hset]
def fv (a b c d:Int)(f:FuncId):Value:= .agg #[.int .i64 a,.int .i64 b,.int .i64 c,.int .i64 d,.func (.func f) #[] #[]]
def ents:Array MapEntry:= #[{key:= .int .i64 1,val:=fv 0 0 1 1 220,born:=0},{key:= .int .i64 2,val:=fv 1 1 1 1 221,born:=1},{key:= .int .i64 3,val:=fv 1 1 2 8 222,born:=2},{key:= .int .i64 4,val:=fv 2 8 0 0 223,born:=3},{key:= .int .i64 5,val:=fv 1 1 0 0 224,born:=4}]
set_option maxHeartbeats 1000000 in
theorem forms_walk (w:World):Calls Tryz.prog 140 #[] w λex w'=>ex= .returned (.map (some w.heap.size))/\w'=w.alloc (.map ents 5):=by
 have hm:Tryz.prog.underlying 229=some (.map 3 228):=by kernel_rfl
 have hk:Tryz.prog.underlying 3=some (.int .i64):=by kernel_rfl
 have e0:= @run_makeMap Tryz.prog 229 w
 have e1:=ins_run hm hk w #[] 0 1 (fv 0 0 1 1 220) rfl
 have e2:=ins_run hm hk w _ 1 2 (fv 1 1 1 1 221) (show Instr.findNow _ _ (Array.toList (ents.extract 0 1)) 0=some none from rfl)
 have e3:=ins_run hm hk w _ 2 3 (fv 1 1 2 8 222) (show Instr.findNow _ _ (Array.toList (ents.extract 0 2)) 0=some none from rfl)
 have e4:=ins_run hm hk w _ 3 4 (fv 2 8 0 0 223) (show Instr.findNow _ _ (Array.toList (ents.extract 0 3)) 0=some none from rfl)
 have e5:=ins_run hm hk w _ 4 5 (fv 1 1 0 0 224) (show Instr.findNow _ _ (Array.toList (ents.extract 0 4)) 0=some none from rfl)
 have h0:(#[]:Array MapEntry)=ents.extract 0 0:=rfl
 have p1:(#[]:Array MapEntry).push {key:= .int .i64 1,val:=fv 0 0 1 1 220,born:=0}=ents.extract 0 1:=rfl
 have p2:(ents.extract 0 1).push {key:= .int .i64 2,val:=fv 1 1 1 1 221,born:=1}=ents.extract 0 2:=rfl
 have p3:(ents.extract 0 2).push {key:= .int .i64 3,val:=fv 1 1 2 8 222,born:=2}=ents.extract 0 3:=rfl
 have p4:(ents.extract 0 3).push {key:= .int .i64 4,val:=fv 2 8 0 0 223,born:=3}=ents.extract 0 4:=rfl
 have p5:(ents.extract 0 4).push {key:= .int .i64 5,val:=fv 1 1 0 0 224,born:=4}=ents:=rfl
 rw[p1] at e1
 rw[p2] at e2
 rw[p3] at e3
 rw[p4] at e4
 rw[p5] at e5
 unfold fv at e1 e2 e3 e4 e5
 clear p1 p2 p3 p4 p5 h0
 generalize ents.extract 0 1=E1 at e1 e2
 generalize ents.extract 0 2=E2 at e2 e3
 generalize ents.extract 0 3=E3 at e3 e4
 generalize ents.extract 0 4=E4 at e4 e5
 go_enter Tryz.func140,Tryz.ntmps140
 go_wp2
 go_ret
 exact⟨rfl,rfl⟩
end Forms
end RE
end Go.Proofs.YtjcjdgmojkkioaaGreatDoor
namespace Go.Proofs.YtjcjdgmojkkioaaGreatDoor
namespace RE
open Go.RowKit
variable {P:Program}
def MapMk (P:Program)(f:FuncId)(es:List (Int×D)):Prop:=
 ∀(w:World)(S:Cells),Calls P f #[] w λex w'=>∃(v:Value)(F:Nat->Prop),ex= .returned v/\MapAt w' S v F es/\(∀b,F b->w.heap.size<=b/\b<w'.heap.size)/\Below w.heap.size w w'
def mapCp (sym:Bool)(es:List (Int×D))(ss:List SV)(m:MS)(K:SV->MS->Prop):Prop:=match ss with
 |[]=>K (.os m.nx) ⟨(m.nx,some (.mp sym es))::m.ob,m.nx+1,m.tp⟩
 |_=>False
def ruleMap (f:FuncId)(sym:Bool)(es:List (Int×D)):Rule:=⟨f,mapCp sym es⟩
theorem ruleMap_ok {f:FuncId}{sym:Bool}{es:List (Int×D)}(h:MapMk P f es):RuleOK P (ruleMap f sym es):=by
 intro ss m K hk us w c hox hl hr
 have hk2:mapCp sym es ss m K:=hk
 clear hk
 unfold mapCp at hk2
 split at hk2
 rotate_left
 ·exact hk2.elim
 match us,hl with
 |[],_=>
 refine (h w c.S).mono ?_
 rintro ex w' ⟨v,F,rfl,hn,s3,hb⟩
 let x:Ob:= .mp sym es
 have ho:(MS.obs ⟨(m.nx,some x)::m.ob,m.nx+1,m.tp⟩)=put m.obs m.nx (some x):=lookO_cons _ _ _
 have hU:∀i,m.U i->i≠m.nx:=λi hi e=>by have:i<m.nx:=hi;omega
 obtain⟨k1,k2⟩:=OX.upd (ob':=put m.obs m.nx (some x)) (U':=λi=>i<m.nx+1) (w':=w') (c':=⟨c.S,put c.H m.nx v,put c.F m.nx F,c.T⟩) hox m.nx x (λi=>i≠m.nx)
  (λi hi=>Nat.lt_succ_of_lt hi) (Nat.lt_succ_self _) (put_same _ _ _) (λi y hi e=>⟨e,by rw[put_ne _ _ e] at hi;exact hi⟩) (λe=>e rfl) (λi hi=>⟨put_ne _ _ (hU i hi),put_ne _ _ (hU i hi)⟩) (λ_ _ h=>h) (λb o hb=> .inl hb) (λb o hs=>Nat.lt_of_lt_of_le (hox.sb b o hs) hb.size)
  rfl hb.os hb.tape hb.output hb.size (λb hlt _=>hb.block b hlt) (by
   show MapAt w' c.S (put c.H m.nx _ m.nx) (put c.F m.nx F m.nx) es
   rw[put_same,put_same];exact hn) trivial (λ_ b hb=> .inr (s3 b (by
    have hb:put c.F m.nx F m.nx b:=hb
    rw[put_same] at hb;exact hb)).1) (λ_ b hb=>by
    have hb:put c.F m.nx F m.nx b:=hb
    rw[put_same] at hb
    obtain⟨q1,q2⟩:=s3 b hb
    exact⟨q2,λo hs=>by have:=hox.sb b o hs;omega⟩)
 refine⟨v,.os m.nx,⟨(m.nx,some x)::m.ob,m.nx+1,m.tp⟩,⟨c.S,put c.H m.nx v,put c.F m.nx F,c.T⟩,rfl,hk2,⟨⟨[(m.nx,some x)],rfl⟩,id⟩,?_,?_,?_,Nat.lt_succ_self _⟩
 ·show OX _ _ _ _ _
  rw[ho];exact k1
 ·show Tr _ _ _ _ _ _ _ _
  rw[ho];exact k2
 ·have:SRel ⟨c.S,put c.H m.nx v,put c.F m.nx F,c.T⟩ w' (.os m.nx) (put c.H m.nx v m.nx):= .os _
  rwa [put_same] at this
def ruleNo (f:FuncId):Rule:=⟨f,λ_ _ _=>False⟩
theorem ruleNo_ok (f:FuncId):RuleOK P (ruleNo f):=λ_ _ _ h=>h.elim
end RE
end Go.Proofs.YtjcjdgmojkkioaaGreatDoor
set_option linter.unusedVariables false
namespace Go.Proofs.YtjcjdgmojkkioaaGreatDoor
open Go.RowKit
namespace RE
namespace Forms
def fd (a b c d:Int)(f:FuncId):D:= .agg [iD a,iD b,iD c,iD d,.v (.func (.func f) #[] #[])]
def es:List (Int×D):=[(1,fd 0 0 1 1 220),(2,fd 1 1 1 1 221),(3,fd 1 1 2 8 222),(4,fd 2 8 0 0 223),(5,fd 1 1 0 0 224)]
theorem fd_rd (a b c d:Int)(f:FuncId)(S:Cells)(w:World):Rd S w (fd a b c d f) (fv a b c d f):=dOfV_rd (v:=fv a b c d f) rfl S w
theorem forms_mk:MapMk Tryz.prog 140 es:=by
 intro w S
 refine (forms_walk w).mono ?_
 rintro ex w' ⟨rfl,rfl⟩
 refine⟨_,λb=>b=w.heap.size,rfl,⟨w.heap.size,ents,5,rfl,λ_=>Iff.rfl,heap_alloc_new w _,rfl,λi k d m hi hm=> ?_⟩,λb e=>⟨by omega,by subst e;simp⟩,(Below.refl _ _).alloc (Nat.le_refl _) _⟩
 match i,hi,hm with
 |0,hi,hm=>cases hi;cases hm;exact⟨rfl,fd_rd ..⟩
 |1,hi,hm=>cases hi;cases hm;exact⟨rfl,fd_rd ..⟩
 |2,hi,hm=>cases hi;cases hm;exact⟨rfl,fd_rd ..⟩
 |3,hi,hm=>cases hi;cases hm;exact⟨rfl,fd_rd ..⟩
 |4,hi,hm=>cases hi;cases hm;exact⟨rfl,fd_rd ..⟩
 |i+5,hi,hm=>cases hi
end Forms
end RE
end Go.Proofs.YtjcjdgmojkkioaaGreatDoor
set_option maxRecDepth 100000
set_option linter.unusedVariables false
namespace Go.Proofs.YtjcjdgmojkkioaaGreatDoor
open Go.RowKit
namespace RE
open PL
namespace PL
structure szE (e:Ed):Prop where
 pars:e.Parcels.length<=1000000
 regs:e.Regions.length<=1000000
 rect:∀a∈e.Regions,a.Rects.length<=1000000
end PL
theorem checkS_0 {l:List Pc}:checkS l=0↔l.length<=60/\regP l:=by
 unfold checkS
 split
 ·exact⟨λh=>(by cases h),λh=>by omega⟩
 ·split
  ·exact⟨λ_=>⟨by omega,by assumption⟩,λ_=>rfl⟩
  ·exact⟨λh=>(by cases h),λh=>absurd h.2 (by assumption)⟩
theorem regP_days {l:List Pc}(h:regP l):∀p∈l,0<p.Days.length/\p.Days.length=p.Regions.length:=λp hp=>by
 obtain⟨i,hi,rfl⟩:=ix_ex hp
 have:=(h.1 i hi).2.2.2.2.2.1
 exact⟨this.1,this.2.1⟩
def pedit_P (l:List (api_Parcel))(e:api_Edit)(post:Int->Prop):Prop:=(szL l/\szE e)/\post (editS l e)
def pedit_sp:Spec:=⟨138,false,false,[.sl (.st .api_Parcel),.st .api_Edit],.dat (.int .i64),λx post=>pedit_P (x.1:List (api_Parcel)) (x.2.1:api_Edit) (λy0=>post (y0,()))⟩
def pedit_C:CtxR:=⟨tau,[rule1 pchk_sp,ruleMap 140 true Forms.es,rule1 plast_sp,rule1 popn_sp,rule1 pasc_sp,rule1 pprop_sp],lookJ [(14903780001,0,⟨[(0,.dat (.int .i64))],[],[],[],[]⟩),(14903780001,5,⟨[(8,.dat (.int .i64))],[],[9,10,5,11,12,13,14,15,16,18],[],[]⟩),(12776157920,0,⟨[(0,.dat (.int .i64))],[],[],[],[]⟩),(12776157920,5,⟨[(8,.dat (.int .i64))],[],[9,10,5,11,12,13,14,15,16,18],[],[]⟩)]⟩
abbrev pedit_a0 (e:api_Edit):=(gx false (decide ((↑e.4.length:Int)<if e.3=(1:Int) then (0:Int) else if e.3=(2:Int) then (1:Int) else if e.3=(3:Int) then (1:Int) else if e.3=(4:Int) then (2:Int) else if e.3=(5:Int) then (1:Int) else (0:Int))||decide ((if e.3=(1:Int) then (0:Int) else if e.3=(2:Int) then (1:Int) else if e.3=(3:Int) then (1:Int) else if e.3=(4:Int) then (8:Int) else if e.3=(5:Int) then (1:Int) else (0:Int))<(↑e.4.length:Int))||decide ((↑e.5.length:Int)<if e.3=(1:Int) then (1:Int) else if e.3=(2:Int) then (1:Int) else if e.3=(3:Int) then (2:Int) else if e.3=(4:Int) then (0:Int) else if e.3=(5:Int) then (0:Int) else (0:Int))||decide ((if e.3=(1:Int) then (1:Int) else if e.3=(2:Int) then (1:Int) else if e.3=(3:Int) then (8:Int) else if e.3=(4:Int) then (0:Int) else if e.3=(5:Int) then (0:Int) else (0:Int))<(↑e.5.length:Int))))
abbrev pedit_a1 (e:api_Edit):=((if e.3=(1:Int) then (0:Int) else if e.3=(2:Int) then (1:Int) else if e.3=(3:Int) then (1:Int) else if e.3=(4:Int) then (8:Int) else if e.3=(5:Int) then (1:Int) else (0:Int))<(↑e.4.length:Int))
abbrev pedit_a2 (e:api_Edit):=((if e.3=(1:Int) then (1:Int) else if e.3=(2:Int) then (1:Int) else if e.3=(3:Int) then (8:Int) else if e.3=(4:Int) then (0:Int) else if e.3=(5:Int) then (0:Int) else (0:Int))<(↑e.5.length:Int))
abbrev pedit_a3 (e:api_Edit):=((↑e.4.length:Int)<if e.3=(1:Int) then (0:Int) else if e.3=(2:Int) then (1:Int) else if e.3=(3:Int) then (1:Int) else if e.3=(4:Int) then (2:Int) else if e.3=(5:Int) then (1:Int) else (0:Int))
abbrev pedit_a4 (e:api_Edit):=((↑e.5.length:Int)<if e.3=(1:Int) then (1:Int) else if e.3=(2:Int) then (1:Int) else if e.3=(3:Int) then (2:Int) else if e.3=(4:Int) then (0:Int) else if e.3=(5:Int) then (0:Int) else (0:Int))
abbrev pedit_a5 (e:api_Edit):=(!(decide (e.3=(1:Int))||(decide (e.3=(2:Int))||(decide (e.3=(3:Int))||(decide (e.3=(4:Int))||(decide (e.3=(5:Int))||false))))))
def pedit_W (l:List (api_Parcel))(e:api_Edit)(post:Int->Prop):Prop:=szL l/\IFB (!decide (checkS l=0)) (post (checkS l)) ((((↑e.4.length:Int)<=9223372036854775807->(↑e.5.length:Int)<=9223372036854775807->IFB (pedit_a5 e) (post 14) ((l.length<=1000000/\∀(v1:api_Parcel),v1∈l->0<v1.5.length/\v1.5.length<=1000000)/\IFB (decide (e.1<dayS l)||decide ((36864:Int)<e.1)) (post 9) (JOIN [Ty.bool] (λ(y2:Bool)=>IFB (decide (pedit_a3 e)||decide (pedit_a1 e)||decide (pedit_a4 e)||decide (pedit_a2 e)|| !y2) (post 3) (JOIN [Ty.int IntKind.i64] (λ(y3:Int)=>IFB (decide ((0:Int)<=y3)) (post 10) (JOIN [Ty.int IntKind.i64] (λ(y4:Int)=>IFB (decide ((0:Int)<=y4)) (post 7) (post 0)) λ(J5:Int->Prop)=>(↑e.5.length:Int)<=9223372036854775807->LOOP [Ty.int IntKind.i64] (λ(rec6:Int->Prop) (z7:Int)=>IFB (decide (z7<(↑e.5.length:Int))) (((0:Int)<=z7/\z7<(↑e.5.length:Int))/\(ix e.5 z7).1.length<=1000000000/\∀(v8:Bool),(v8=true↔propR {Rects:=(ix e.5 z7).1:api_Region})->IFB (!v8) (J5 z7) (rec6 (IntKind.i64.wrap (z7+1)))) (J5 (-1:Int))) ((0:Int),PUnit.unit))) λ(J9:Int->Prop)=>(↑e.4.length:Int)<=9223372036854775807->LOOP [Ty.int IntKind.i64] (λ(rec10:Int->Prop) (z11:Int)=>IFB (decide (z11<(↑e.4.length:Int))) (((0:Int)<=z11/\z11<(↑e.4.length:Int))/\l.length<=1000000/\∀(v12:Bool),(v12=true↔openP l (ix e.4 z11))->IFB (!v12) (J9 z11) (rec10 (IntKind.i64.wrap (z11+1)))) (J9 (-1:Int))) ((0:Int),PUnit.unit))) λ(J13:Bool->Prop)=>IFB (pedit_a0 e) (e.4.length<=1000000000/\∀(v14:Bool),(v14=true↔asc e.4)->J13 v14) (J13 false))))/\((↑e.4.length:Int)<=9223372036854775807->(↑e.5.length:Int)<=9223372036854775807->IFB (pedit_a5 e) (post 14) ((l.length<=1000000/\∀(v15:api_Parcel),v15∈l->0<v15.5.length/\v15.5.length<=1000000)/\IFB (decide (e.1<dayS l)||decide ((36864:Int)<e.1)) (post 9) (JOIN [Ty.bool] (λ(y16:Bool)=>IFB (decide (pedit_a3 e)||decide (pedit_a1 e)||decide (pedit_a4 e)||decide (pedit_a2 e)|| !y16) (post 3) (JOIN [Ty.int IntKind.i64] (λ(y17:Int)=>IFB (decide ((0:Int)<=y17)) (post 10) (JOIN [Ty.int IntKind.i64] (λ(y18:Int)=>IFB (decide ((0:Int)<=y18)) (post 7) (post 0)) λ(J19:Int->Prop)=>(↑e.5.length:Int)<=9223372036854775807->LOOP [Ty.int IntKind.i64] (λ(rec20:Int->Prop) (z21:Int)=>IFB (decide (z21<(↑e.5.length:Int))) (((0:Int)<=z21/\z21<(↑e.5.length:Int))/\(ix e.5 z21).1.length<=1000000000/\∀(v22:Bool),(v22=true↔propR {Rects:=(ix e.5 z21).1:api_Region})->IFB (!v22) (J19 z21) (rec20 (IntKind.i64.wrap (z21+1)))) (J19 (-1:Int))) ((0:Int),PUnit.unit))) λ(J23:Int->Prop)=>(↑e.4.length:Int)<=9223372036854775807->LOOP [Ty.int IntKind.i64] (λ(rec24:Int->Prop) (z25:Int)=>IFB (decide (z25<(↑e.4.length:Int))) (((0:Int)<=z25/\z25<(↑e.4.length:Int))/\l.length<=1000000/\∀(v26:Bool),(v26=true↔openP l (ix e.4 z25))->IFB (!v26) (J23 z25) (rec24 (IntKind.i64.wrap (z25+1)))) (J23 (-1:Int))) ((0:Int),PUnit.unit))) λ(J27:Bool->Prop)=>IFB (pedit_a0 e) (e.4.length<=1000000000/\∀(v28:Bool),(v28=true↔asc e.4)->J27 v28) (J27 false)))))/\((↑e.4.length:Int)<=9223372036854775807->(↑e.5.length:Int)<=9223372036854775807->IFB (pedit_a5 e) (post 14) ((l.length<=1000000/\∀(v29:api_Parcel),v29∈l->0<v29.5.length/\v29.5.length<=1000000)/\IFB (decide (e.1<dayS l)||decide ((36864:Int)<e.1)) (post 9) (JOIN [Ty.bool] (λ(y30:Bool)=>IFB (decide (pedit_a3 e)||decide (pedit_a1 e)||decide (pedit_a4 e)||decide (pedit_a2 e)|| !y30) (post 3) (JOIN [Ty.int IntKind.i64] (λ(y31:Int)=>IFB (decide ((0:Int)<=y31)) (post 10) (JOIN [Ty.int IntKind.i64] (λ(y32:Int)=>IFB (decide ((0:Int)<=y32)) (post 7) (post 0)) λ(J33:Int->Prop)=>(↑e.5.length:Int)<=9223372036854775807->LOOP [Ty.int IntKind.i64] (λ(rec34:Int->Prop) (z35:Int)=>IFB (decide (z35<(↑e.5.length:Int))) (((0:Int)<=z35/\z35<(↑e.5.length:Int))/\(ix e.5 z35).1.length<=1000000000/\∀(v36:Bool),(v36=true↔propR {Rects:=(ix e.5 z35).1:api_Region})->IFB (!v36) (J33 z35) (rec34 (IntKind.i64.wrap (z35+1)))) (J33 (-1:Int))) ((0:Int),PUnit.unit))) λ(J37:Int->Prop)=>(↑e.4.length:Int)<=9223372036854775807->LOOP [Ty.int IntKind.i64] (λ(rec38:Int->Prop) (z39:Int)=>IFB (decide (z39<(↑e.4.length:Int))) (((0:Int)<=z39/\z39<(↑e.4.length:Int))/\l.length<=1000000/\∀(v40:Bool),(v40=true↔openP l (ix e.4 z39))->IFB (!v40) (J37 z39) (rec38 (IntKind.i64.wrap (z39+1)))) (J37 (-1:Int))) ((0:Int),PUnit.unit))) λ(J41:Bool->Prop)=>IFB (pedit_a0 e) (e.4.length<=1000000000/\∀(v42:Bool),(v42=true↔asc e.4)->J41 v42) (J41 false)))))
theorem pedit_w (l:List (api_Parcel))(e:api_Edit)(post:dens (shT pedit_sp.rs [])->Prop):pedit_W l e (λy0=>post (y0,()))=walkG (callR Tryz.prog pedit_C (drawF Tryz.prog tau) 10 0) 138 false [tv (.sl (.st .api_Parcel)) l,tv (.st .api_Edit) e] pedit_sp.rs post:=by kernel_rfl
theorem pedit_of (h:∀(l:List (api_Parcel))(e:api_Edit)(post:Int->Prop),pedit_P l e post->pedit_W l e post):SpecOK Tryz.prog pedit_sp:=SpecOK.of_rules (C:=pedit_C) (dr:=drawF Tryz.prog tau) (n:=10) (fk:=0) (.cons (rule1_ok pchk_ok) (.cons (ruleMap_ok Forms.forms_mk) (.cons (rule1_ok plast_ok) (.cons (rule1_ok popn_ok) (.cons (rule1_ok pasc_ok) (.cons (rule1_ok pprop_ok) .nil)))))) (drawF_ok tau) λx post hp=>HoldW.of (pedit_w x.1 x.2.1 post) (h x.1 x.2.1 (λy0=>post (y0,())) hp)
theorem kind_iff {z:Int}:(decide (z=(1:Int))||(decide (z=(2:Int))||(decide (z=(3:Int))||(decide (z=(4:Int))||(decide (z=(5:Int))||false)))))=true↔z=1\/z=2\/z=3\/z=4\/z=5:=by simp
theorem fits_iff {e:Ed}(h:e.3=1\/e.3=2\/e.3=3\/e.3=4\/e.3=5):(decide ((e.4.length:Int)<if e.3=(1:Int) then (0:Int) else if e.3=(2:Int) then (1:Int) else if e.3=(3:Int) then (1:Int) else if e.3=(4:Int) then (2:Int) else if e.3=(5:Int) then (1:Int) else (0:Int))||decide ((if e.3=(1:Int) then (0:Int) else if e.3=(2:Int) then (1:Int) else if e.3=(3:Int) then (1:Int) else if e.3=(4:Int) then (8:Int) else if e.3=(5:Int) then (1:Int) else (0:Int))<(e.4.length:Int))||decide ((e.5.length:Int)<if e.3=(1:Int) then (1:Int) else if e.3=(2:Int) then (1:Int) else if e.3=(3:Int) then (2:Int) else if e.3=(4:Int) then (0:Int) else if e.3=(5:Int) then (0:Int) else (0:Int))||decide ((if e.3=(1:Int) then (1:Int) else if e.3=(2:Int) then (1:Int) else if e.3=(3:Int) then (8:Int) else if e.3=(4:Int) then (0:Int) else if e.3=(5:Int) then (0:Int) else (0:Int))<(e.5.length:Int)))=false↔fitsP e:=by
 unfold fitsP
 rcases h with h|h|h|h|h<;>rw[h]<;>simp only[Bool.or_eq_false_iff,decide_eq_false_iff_not,Int.reduceEq,↓reduceIte,false_and,true_and,false_or,or_false]<;>omega
set_option maxHeartbeats 1000000 in
theorem pedit_ok:SpecOK Tryz.prog pedit_sp:=pedit_of λl e post hp=>by
 obtain⟨⟨hsz,hse⟩,hp⟩:=hp
 have hl:=hsz.len
 have he1:e.4.length<=1000000:=hse.pars
 have he2:e.5.length<=1000000:=hse.regs
 unfold pedit_W pedit_a5 pedit_a4 pedit_a3 pedit_a2 pedit_a1 pedit_a0
 unfold editS at hp
 refine⟨hsz,IFB.mk (λhb=> ?_) (λhb=> ?_)⟩
 ·have hb:checkS l≠0:=by simpa using hb
  rw[if_pos hb] at hp;exact hp
 have hb:checkS l=0:=by simpa using hb
 rw[if_neg (by rw[hb];exact λh=>h rfl)] at hp
 obtain⟨h60,hreg⟩:=checkS_0.1 hb
 refine (λh=>⟨⟨h,h⟩,h⟩:∀{A:Prop},A->(A/\A)/\A) ?_
 intro _ _
 refine IFB.mk (λhk=> ?_) (λhk=>⟨⟨hl,λp hp=>⟨(regP_days hreg p hp).1,(hsz.all p hp).days⟩⟩,?_⟩)
 ·rw[Bool.not_eq_true'] at hk
  have hk:¬(e.3=1\/e.3=2\/e.3=3\/e.3=4\/e.3=5):=λh=>by rw[kind_iff.2 h] at hk;cases hk
  rw[if_pos (by show e.3<1\/5<e.3;omega)] at hp
  exact hp
 rw[Bool.not_eq_false'] at hk
 have hk:=kind_iff.1 hk
 rw[if_neg (by show ¬(e.3<1\/5<e.3);omega)] at hp
 refine IFB.mk (λhd=> ?_) (λhd=> ?_)
 ·rw[if_pos (by simpa using hd)] at hp;exact hp
 rw[if_neg (by simpa using hd)] at hp
 have hfit:=fits_iff hk
 generalize (decide ((e.4.length:Int)<if e.3=(1:Int) then (0:Int) else if e.3=(2:Int) then (1:Int) else if e.3=(3:Int) then (1:Int) else if e.3=(4:Int) then (2:Int) else if e.3=(5:Int) then (1:Int) else (0:Int))||decide ((if e.3=(1:Int) then (0:Int) else if e.3=(2:Int) then (1:Int) else if e.3=(3:Int) then (1:Int) else if e.3=(4:Int) then (8:Int) else if e.3=(5:Int) then (1:Int) else (0:Int))<(e.4.length:Int))||decide ((e.5.length:Int)<if e.3=(1:Int) then (1:Int) else if e.3=(2:Int) then (1:Int) else if e.3=(3:Int) then (2:Int) else if e.3=(4:Int) then (0:Int) else if e.3=(5:Int) then (0:Int) else (0:Int))||decide ((if e.3=(1:Int) then (1:Int) else if e.3=(2:Int) then (1:Int) else if e.3=(3:Int) then (8:Int) else if e.3=(4:Int) then (0:Int) else if e.3=(5:Int) then (0:Int) else (0:Int))<(e.5.length:Int)))=c at hfit
 refine JOIN.opq λ(J:Bool->Prop) hJ=> ?_
 have main:∀y:Bool,(c=false->(y=true↔asc e.4))->J y:=λy hy=>by
  rw[hJ]
  refine IFB.mk (λhc=> ?_) (λhc=> ?_)
  ·rw[if_pos (λh=> ?_)] at hp
   ·exact hp
   ·have hc0:=hfit.2 h.1
    rw[hc0,(hy hc0).2 h.2] at hc
    cases hc
  obtain⟨hc0,hy0⟩:=Bool.or_eq_false_iff.1 hc
  have hyt:y=true:=by simpa using hy0
  rw[if_neg (λh=>h ⟨hfit.1 hc0,(hy hc0).1 hyt⟩)] at hp
  refine JOIN.opq λ(J9:Int->Prop) hJ9 _=> ?_
  refine loopCmp (n:=e.4.length) (by omega) (p:=λi=>openP l (ix e.4 (i:Int))) (λrec k hk _ hrec=>⟨by omega,hl,λv hv=>IFB.mk (λhb=> ?_) (λhb=>hrec (hv.1 (by simpa using hb)))⟩) λhall=> ?_
  ·have hv0:v=false:=by simpa using hb
   rw[hJ9]
   refine IFB.yes (decide_eq_true (by omega)) ?_
   rw[if_pos (λh=> ?_)] at hp
   ·exact hp
   ·have:=hv.2 (h _ (ix_mem (l:=e.4) (i:=(k:Int)) (by omega) (by omega)))
    rw[hv0] at this;cases this
  ·rw[hJ9]
   refine IFB.no rfl ?_
   rw[if_neg (λh=>h λx hx=>by obtain⟨i,hi,rfl⟩:=ix_ex hx;exact hall i hi)] at hp
   refine JOIN.opq λ(J5:Int->Prop) hJ5 _=> ?_
   refine loopCmp (n:=e.5.length) (by omega) (p:=λi=>propR (ix e.5 (i:Int))) (λrec k hk _ hrec=>⟨by omega,?_,λv hv=>IFB.mk (λhb=> ?_) (λhb=>hrec (hv.1 (by simpa using hb)))⟩) λhall=> ?_
   ·have:=hse.rect _ (ix_mem (l:=e.5) (i:=(k:Int)) (by omega) (by omega));omega
   ·have hv0:v=false:=by simpa using hb
    rw[hJ5]
    refine IFB.yes (decide_eq_true (by omega)) ?_
    rw[if_pos (λh=> ?_)] at hp
    ·exact hp
    ·have:=hv.2 (h _ (ix_mem (l:=e.5) (i:=(k:Int)) (by omega) (by omega)))
     rw[hv0] at this;cases this
   ·rw[hJ5]
    refine IFB.no rfl ?_
    rw[if_neg (λh=>h λx hx=>by obtain⟨i,hi,rfl⟩:=ix_ex hx;exact hall i hi)] at hp
    exact hp
 refine IFB.mk (λhg=>⟨by omega,λv hv=>main v λ_=>hv⟩) (λhg=>main false λh=> ?_)
 rw[h] at hg;cases hg
end RE
end Go.Proofs.YtjcjdgmojkkioaaGreatDoor
namespace Go.Proofs.YtjcjdgmojkkioaaGreatDoor
namespace RE
set_option maxRecDepth 100000
open Go.RowKit
open PL
theorem editS_0 {l:List Pc}{e:Ed}:editS l e=0↔checkS l=0/\(1<=e.Kind/\e.Kind<=5)/\(dayS l<=e.Day/\e.Day<=36864)/\(fitsP e/\asc e.Parcels)/\(∀k∈e.Parcels,openP l k)/\∀a∈e.Regions,propR a:=by
 unfold editS
 split
 ·rename_i h;exact⟨λh2=>absurd h2 h,λh2=>absurd h2.1 h⟩
 rename_i h1
 have h1:checkS l=0:=Classical.byContradiction h1
 split
 ·rename_i h;exact⟨λh2=>(by cases h2),λh2=>by omega⟩
 rename_i h2
 split
 ·rename_i h;exact⟨λh2=>(by cases h2),λh2=>by omega⟩
 rename_i h3
 split
 ·rename_i h;exact⟨λh2=>(by cases h2),λh2=>absurd h2.2.2.2.1 h⟩
 rename_i h4
 split
 ·rename_i h;exact⟨λh2=>(by cases h2),λh2=>absurd h2.2.2.2.2.1 h⟩
 rename_i h5
 split
 ·rename_i h;exact⟨λh2=>(by cases h2),λh2=>absurd h2.2.2.2.2.2 h⟩
 rename_i h6
 exact⟨λ_=>⟨h1,by omega,by omega,Classical.byContradiction h4,Classical.byContradiction h5,Classical.byContradiction h6⟩,λ_=>rfl⟩
theorem meets_in {l:List Pc}{a:Rn}{but:Int}(hl:l.length<=1000000)(hr:∀p∈l,0<p.6.length/\p.6.length<=1000000){J:Int->Prop}(hy:∀z:Int,0<=z->hitP l a but->J z)(hn:¬hitP l a but->J (-1)):
 LOOP [Ty.int IntKind.i64] (λ(rec14:Int->Prop) (z15:Int)=>IFB (decide (z15<(l.length:Int))) (((0:Int)<=z15/\z15<(l.length:Int))/\JOIN [Ty.bool] (λ(y16:Bool)=>IFB y16 (J z15) (rec14 (IntKind.i64.wrap (z15+(1:Int))))) λ(J17:Bool->Prop)=>JOIN [Ty.st Sn.api_Region] (λ(y18:api_Region)=>JOIN [Ty.bool] (λ(y19:Bool)=>J17 (decide ((ix l z15).3=(36865:Int))&& !decide ((ix l z15).1=but)&&y19)) λ(J20:Bool->Prop)=>IFB (gx true (decide ((ix l z15).3=(36865:Int))&& !decide ((ix l z15).1=but))) (∀(v21:Bool),(v21=true↔meetP a.1 y18.1)->J20 v21) (J20 false)) λ(J22:api_Region->Prop)=>IFB (gx true (decide ((ix l z15).3=(36865:Int))&& !decide ((ix l z15).1=but))) (((ix l z15).6.length:Int)<=(9223372036854775807:Int)->((0:Int)<=IntKind.i64.wrap (((ix l z15).6.length:Int)-(1:Int))/\IntKind.i64.wrap (((ix l z15).6.length:Int)-(1:Int))<((ix l z15).6.length:Int))/\J22 {Rects:=(ix (ix l z15).6 (IntKind.i64.wrap (((ix l z15).6.length:Int)-(1:Int)))).1:api_Region}) (J22 (dflt (Ty.st Sn.api_Region),()).fst)) (J (-1:Int))) ((0:Int),PUnit.unit):=by
 refine loopCmp (n:=l.length) (by omega) (p:=λi=>¬((ix l (i:Int)).3=36865/\(ix l (i:Int)).1≠but/\meetP a.1 (nowR (ix l (i:Int))).1)) (λrec k hk _ hrec=>⟨by omega,?_⟩) λhall=>hn ?_
 ·have hm:=ix_mem (l:=l) (i:=(k:Int)) (by omega) (by omega)
  obtain⟨x1,x2⟩:=hr _ hm
  generalize hpe:ix l (k:Int)=p at hm x1 x2 hrec ⊢
  refine JOIN.opq λ(J17:Bool->Prop) hJ17=>JOIN.opq λ(J22:api_Region->Prop) hJ22=> ?_
  have k17:∀c:Bool,(c=true↔(p.3=36865/\p.1≠but/\meetP a.1 (nowR p).1))->J17 c:=λc hc=>by
   rw[hJ17]
   exact IFB.mk (λh=>hy _ (by omega) ⟨p,hm,hc.1 h⟩) (λh=>hrec λh2=>by rw[hc.2 h2] at h;cases h)
  refine IFB.mk (λhg _=>⟨by rw[wrap_in (by omega) (by omega)];omega,?_⟩) (λhg=> ?_)
  ·rw[hJ22]
   refine JOIN.opq λ(J20:Bool->Prop) hJ20=>IFB.mk (λhg2 v hv=> ?_) (λhg2=>by rw[hg] at hg2;cases hg2)
   rw[hJ20]
   rw[gx_t] at hg
   have hg1:p.3=36865/\p.1≠but:=by simpa using hg
   refine k17 _ ?_
   rw[hg,Bool.true_and,hv,wrap_in (by omega) (by omega)]
   exact⟨λh=>⟨hg1.1,hg1.2,h⟩,λh=>h.2.2⟩
  ·rw[hJ22]
   refine JOIN.opq λ(J20:Bool->Prop) hJ20=>IFB.mk (λhg2 v hv=>by rw[hg] at hg2;cases hg2) (λhg2=> ?_)
   rw[hJ20]
   refine k17 _ ?_
   rw[Bool.and_false]
   refine⟨λh=>(by cases h),λh=> ?_⟩
   rw[gx_t] at hg
   have:(decide (p.3=(36865:Int))&& !decide (p.1=but))=true:=by simp[h.1,h.2.1]
   rw[this] at hg;cases hg
 ·rintro ⟨p,hp,h1,h2,h3⟩
  obtain⟨i,hi,rfl⟩:=ix_ex hp
  exact hall i hi ⟨h1,h2,h3⟩
theorem open_ix {l:List Pc}{k:Int}(hl:l.length<=1000000)(h:openP l k):IntKind.i64.wrap (k-1)=k-1/\0<=k-1/\k-1<(l.length:Int):=by
 obtain⟨h1,h2,_⟩:=h
 exact⟨wrap_in (by omega) (by omega),by omega,by omega⟩
def papp5_P (l:List (api_Parcel))(e:api_Edit)(post:List (api_Parcel)->Int->Prop):Prop:=(szL l/\szE e/\e.Kind=5)/\post (applyS l e).1 (applyS l e).2
def papp5_sp:Spec:=⟨49,false,true,[.sl (.st .api_Parcel),.st .api_Edit],.tup [.dat (.sl (.st .api_Parcel)),.dat (.int .i64)],λx post=>papp5_P (x.1:List (api_Parcel)) (x.2.1:api_Edit) (λy0 y1=>post (y0,y1,()))⟩
def papp5_C:CtxR:=⟨tau,[rule1 pedit_sp,rule1 pallO_sp,ruleMap 140 false Forms.es],lookJ [(0,1000005,⟨[(8,.dat (.int .i64))],[],[21,22,23,24,25,26,27,28],[],[(1,71,(.st .api_Parcel))]⟩)]⟩
def papp5_W (l:List (api_Parcel))(day:Int)(known:Int)(ps:List (Int))(rs:List (api_Region))(post:List (api_Parcel)->Int->Prop):Prop:=(szL l/\szE (⟨day,known,(5:Int),ps,rs⟩:api_Edit))/\IFB (!decide (editS l (⟨day,known,(5:Int),ps,rs⟩:api_Edit)=0)) (szL l/\post l (editS l (⟨day,known,(5:Int),ps,rs⟩:api_Edit))) (szL l/\JOIN [Ty.int IntKind.i64,(Ty.st Sn.api_Parcel).sl] (λ(y1:Int) (y2:List api_Parcel)=>IFB (!decide (y1=0)) (szL l/\post l y1) (post y2 0)) λ(J3:Int->List api_Parcel->Prop)=>(Int.NonNeg 0/\0<(↑ps.length:Int))/\((0:Int)<=IntKind.i64.wrap (ix ps 0-1)/\IntKind.i64.wrap (ix ps 0-1)<(↑l.length:Int))/\J3 (0:Int) (l.set (IntKind.i64.wrap (ix ps 0-1)).toNat (⟨(ix l (IntKind.i64.wrap (ix ps 0-1))).1,(ix l (IntKind.i64.wrap (ix ps 0-1))).2,day,(ix l (IntKind.i64.wrap (ix ps 0-1))).4,(ix l (IntKind.i64.wrap (ix ps 0-1))).5,(ix l (IntKind.i64.wrap (ix ps 0-1))).6⟩:api_Parcel)))
theorem papp5_w (l:List (api_Parcel))(day:Int)(known:Int)(ps:List (Int))(rs:List (api_Region))(post:dens (shT papp5_sp.rs [])->Prop):papp5_W l day known ps rs (λy0 y1=>post (y0,y1,()))=walkG (callR Tryz.prog papp5_C (drawF Tryz.prog tau) 12 0) 49 false [tv (.sl (.st .api_Parcel)) (l),tv (.st .api_Edit) (⟨day,known,5,ps,rs⟩)] papp5_sp.rs post:=by kernel_rfl
theorem papp5_of (h:∀x (post:dens (shT papp5_sp.rs [])->Prop),papp5_sp.pt x post->HoldW (walkG (callR Tryz.prog papp5_C (drawF Tryz.prog tau) 12 0) papp5_sp.f papp5_sp.tp (tvs papp5_sp.ts x) papp5_sp.rs post)):SpecOK Tryz.prog papp5_sp:=SpecOK.of_rules (C:=papp5_C) (dr:=drawF Tryz.prog tau) (n:=12) (fk:=0) (.cons (rule1_ok pedit_ok) (.cons (rule1_ok pallO_ok) (.cons (ruleMap_ok Forms.forms_mk) .nil))) (drawF_ok tau) h
theorem papp5_h (l:List api_Parcel)(day known:Int)(ps:List Int)(rs:List api_Region)(post:List api_Parcel->Int->Prop)(hsz:szL l)(hse:szE ⟨day,known,5,ps,rs⟩)(hp:post (applyS l ⟨day,known,5,ps,rs⟩).1 (applyS l ⟨day,known,5,ps,rs⟩).2):papp5_W l day known ps rs post:=by
 unfold papp5_W
 refine⟨⟨hsz,hse⟩,IFB.mk (λhb=>⟨hsz,?_⟩) (λhb=>⟨hsz,?_⟩)⟩
 ·have hb:editS l ⟨day,known,5,ps,rs⟩≠0:=by simpa using hb
  unfold applyS at hp
  rw[if_pos hb] at hp;exact hp
 have hb:editS l ⟨day,known,5,ps,rs⟩=0:=by simpa using hb
 unfold applyS at hp
 rw[if_neg (λh=>h hb),if_neg (by decide:¬(5:Int)=1),if_neg (by decide:¬(5:Int)=2),if_neg (by decide:¬(5:Int)=3),if_neg (by decide:¬(5:Int)=4)] at hp
 obtain⟨e1,e2,e3,⟨e4,e5⟩,e6,e7⟩:=editS_0.1 hb
 have hps:ps.length=1:=by
  unfold fitsP at e4
  dsimp only at e4
  omega
 obtain⟨k,rfl⟩:∃k,ps=[k]:=List.length_eq_one_iff.1 hps
 have ho:=e6 k (by simp)
 obtain⟨w1,w2,w3⟩:=open_ix hsz.len ho
 have hk0:ix [k] 0=k:=rfl
 refine JOIN.opq λ(J:Int->List api_Parcel->Prop) hJ=>⟨⟨Int.NonNeg.mk 0,by simp⟩,?_⟩
 rw[hk0,w1]
 refine⟨⟨w2,w3⟩,?_⟩
 rw[hJ]
 exact IFB.no rfl hp
theorem papp5_ok:SpecOK Tryz.prog papp5_sp:=papp5_of λx post hp=>by
 obtain⟨l,e,u⟩:=x
 obtain⟨day,known,kind,ps,rs⟩:=e
 obtain⟨⟨hsz,hse,hk⟩,hp⟩:=hp
 have hk:kind=5:=hk
 subst hk
 exact HoldW.of (papp5_w l day known ps rs post) (papp5_h l day known ps rs (λy0 y1=>post (y0,y1,())) hsz hse hp)
def papp1_P (l:List (api_Parcel))(e:api_Edit)(post:List (api_Parcel)->Int->Prop):Prop:=(szL l/\szE e/\e.Kind=1)/\post (applyS l e).1 (applyS l e).2
def papp1_sp:Spec:=⟨49,false,true,[.sl (.st .api_Parcel),.st .api_Edit],.tup [.dat (.sl (.st .api_Parcel)),.dat (.int .i64)],λx post=>papp1_P (x.1:List (api_Parcel)) (x.2.1:api_Edit) (λy0 y1=>post (y0,y1,()))⟩
def papp1_C:CtxR:=⟨tau,[rule1 pedit_sp,rule1 pallO_sp,ruleMap 140 false Forms.es,rule1 pclI_sp,rule1 pcpy_sp,rule1 pmts_sp],lookJ [(0,1000005,⟨[(8,.dat (.int .i64))],[(2,[.own 71 (.st .api_Parcel)])],[21,22,23,24,25,26,27,28],[1],[]⟩),(5113,0,⟨[(0,.dat (.int .i64))],[(2,[.own 71 (.st .api_Parcel)])],[],[1],[]⟩),(5330003904,0,⟨[(0,.dat (.int .i64))],[(2,[.own 71 (.st .api_Parcel)])],[],[1],[]⟩),(5330003904,1000003,⟨[],[(2,[.own 71 (.st .api_Parcel)])],(List.range' 15 24),[1],[]⟩),(5792023682335624162591,0,⟨[(0,.dat (.int .i64))],[],[],[],[]⟩),(5792023682335624162591,5,⟨[(8,.dat (.int .i64))],[],(List.range' 9 8++[5,18]),[],[]⟩),(6037842959437630387675528721,1000001,⟨[(4,.dat .bool)],[],(List.range' 5 15),[],[]⟩)]⟩
abbrev papp1_a0 (l:List (api_Parcel))(day:Int)(rs:List (api_Region)):={Number:=IntKind.i64.wrap ((↑l.length:Int)+(1:Int)),From:=day,Until:=(36865:Int),Parents:=[],Days:=[day],Regions:=[{Rects:=(ix rs (0:Int)).1:api_Region}]:api_Parcel}
def papp1_W (l:List (api_Parcel))(day:Int)(known:Int)(ps:List (Int))(rs:List (api_Region))(post:List (api_Parcel)->Int->Prop):Prop:=(szL l/\szE (⟨day,known,(1:Int),ps,rs⟩:api_Edit))/\IFB (!decide (editS l (⟨day,known,(1:Int),ps,rs⟩:api_Edit)=0)) (szL l/\post l (editS l (⟨day,known,(1:Int),ps,rs⟩:api_Edit))) (szL l/\JOIN [Ty.int IntKind.i64,(Ty.st Sn.api_Parcel).sl] (λ(y1:Int) (y2:List api_Parcel)=>IFB (!decide (y1=0)) (szL l/\post l y1) (post y2 0)) λ(J3:Int->List api_Parcel->Prop)=>JOIN [Ty.int IntKind.i64,(Ty.st Sn.api_Parcel).sl] (λ(y4:Int) (y5:List api_Parcel)=>J3 y4 y5) λ(J6:Int->List api_Parcel->Prop)=>(Int.NonNeg 0/\0<(↑rs.length:Int))/\JOIN [Ty.int IntKind.i64] (λ(y7:Int)=>IFB (decide ((0:Int)<=y7)) (J6 (11:Int) l) ((Int.NonNeg 0/\0<(↑rs.length:Int))/\JOIN [Ty.int IntKind.i64,(Ty.st Sn.api_Parcel).sl] (λ(y8:Int) (y9:List api_Parcel)=>J6 y8 y9) λ(J10:Int->List api_Parcel->Prop)=>(↑l.length:Int)<=9223372036854775807->IFB (decide ((↑l.length:Int)=60)) (J10 (1:Int) l) (JOIN [(Ty.st Sn.api_Parcel).sl] (λ(y11:List api_Parcel)=>J10 (0:Int) y11) λ(J12:List api_Parcel->Prop)=>(↑l.length:Int)<=9223372036854775807->(Nat.le ((0:Nat)) ((4000000:Nat))/\((ix rs 0).1.length<=4000000/\(l.length+[(papp1_a0 l day rs)].length) * (96:Nat)<=140737488355328/\J12 (l++[(papp1_a0 l day rs)]))/\(ix rs 0).1.length<=4000000/\((l.length+[(papp1_a0 l day rs)].length) * (96:Nat)<=140737488355328/\J12 (l++[(papp1_a0 l day rs)]))/\(l.length+[(papp1_a0 l day rs)].length) * (96:Nat)<=140737488355328/\J12 (l++[(papp1_a0 l day rs)]))/\Nat.le ((0:Nat)) ((4000000:Nat))/\(ix rs 0).1.length<=4000000/\(l.length+[(papp1_a0 l day rs)].length) * (96:Nat)<=140737488355328/\J12 (l++[(papp1_a0 l day rs)])))) λ(J13:Int->Prop)=>(↑l.length:Int)<=9223372036854775807->LOOP [Ty.int IntKind.i64] (λ(rec14:Int->Prop) (z15:Int)=>IFB (decide (z15<(↑l.length:Int))) (((0:Int)<=z15/\z15<(↑l.length:Int))/\JOIN [Ty.bool] (λ(y16:Bool)=>IFB y16 (J13 z15) (rec14 (IntKind.i64.wrap (z15+1)))) λ(J17:Bool->Prop)=>JOIN [Ty.st Sn.api_Region] (λ(y18:api_Region)=>JOIN [Ty.bool] (λ(y19:Bool)=>J17 (decide ((ix l z15).3=36865)&& !decide ((ix l z15).1=0)&&y19)) λ(J20:Bool->Prop)=>IFB (gx true (decide ((ix l z15).3=36865)&& !decide ((ix l z15).1=0))) (∀(v21:Bool),(v21=true↔meetP (ix rs 0).1 y18.1)->J20 v21) (J20 false)) λ(J22:api_Region->Prop)=>IFB (gx true (decide ((ix l z15).3=36865)&& !decide ((ix l z15).1=0))) ((↑(ix l z15).6.length:Int)<=9223372036854775807->((0:Int)<=IntKind.i64.wrap ((↑(ix l z15).6.length:Int)-1)/\IntKind.i64.wrap ((↑(ix l z15).6.length:Int)-1)<(↑(ix l z15).6.length:Int))/\J22 {Rects:=(ix (ix l z15).6 (IntKind.i64.wrap ((↑(ix l z15).6.length:Int)-1))).1:api_Region}) (J22 (dflt (Ty.st Sn.api_Region),()).fst)) (J13 (-1:Int))) ((0:Int),PUnit.unit))
theorem papp1_w (l:List (api_Parcel))(day:Int)(known:Int)(ps:List (Int))(rs:List (api_Region))(post:dens (shT papp1_sp.rs [])->Prop):papp1_W l day known ps rs (λy0 y1=>post (y0,y1,()))=walkG (callR Tryz.prog papp1_C (drawF Tryz.prog tau) 12 0) 49 false [tv (.sl (.st .api_Parcel)) (l),tv (.st .api_Edit) (⟨day,known,1,ps,rs⟩)] papp1_sp.rs post:=by kernel_rfl
theorem papp1_of (h:∀x (post:dens (shT papp1_sp.rs [])->Prop),papp1_sp.pt x post->HoldW (walkG (callR Tryz.prog papp1_C (drawF Tryz.prog tau) 12 0) papp1_sp.f papp1_sp.tp (tvs papp1_sp.ts x) papp1_sp.rs post)):SpecOK Tryz.prog papp1_sp:=SpecOK.of_rules (C:=papp1_C) (dr:=drawF Tryz.prog tau) (n:=12) (fk:=0) (.cons (rule1_ok pedit_ok) (.cons (rule1_ok pallO_ok) (.cons (ruleMap_ok Forms.forms_mk) (.cons (rule1_ok pclI_ok) (.cons (rule1_ok pcpy_ok) (.cons (rule1_ok pmts_ok) .nil)))))) (drawF_ok tau) h
theorem papp1_h (l:List api_Parcel)(day known:Int)(ps:List Int)(rs:List api_Region)(post:List api_Parcel->Int->Prop)(hsz:szL l)(hse:szE ⟨day,known,1,ps,rs⟩)(hp:post (applyS l ⟨day,known,1,ps,rs⟩).1 (applyS l ⟨day,known,1,ps,rs⟩).2):papp1_W l day known ps rs post:=by
 unfold papp1_W papp1_a0
 refine⟨⟨hsz,hse⟩,IFB.mk (λhb=>⟨hsz,?_⟩) (λhb=>⟨hsz,?_⟩)⟩
 ·have hb:editS l ⟨day,known,1,ps,rs⟩≠0:=by simpa using hb
  unfold applyS at hp
  rw[if_pos hb] at hp;exact hp
 have hb:editS l ⟨day,known,1,ps,rs⟩=0:=by simpa using hb
 unfold applyS at hp
 rw[if_neg (λh=>h hb),if_pos rfl] at hp
 obtain⟨e1,e2,e3,⟨e4,e5⟩,e6,e7⟩:=editS_0.1 hb
 have hrs:rs.length=1:=by
  unfold fitsP at e4
  dsimp only at e4
  omega
 obtain⟨a,rfl⟩:∃a,rs=[a]:=List.length_eq_one_iff.1 hrs
 obtain⟨h60,hreg⟩:=checkS_0.1 e1
 have hl:=hsz.len
 have ha:a.1.length<=1000000:=hse.rect a (by simp)
 have hk0:ix [a] 0=a:=rfl
 have hz:Int.NonNeg (0:Int):=Int.NonNeg.mk 0
 have h01:Int.NonNeg (0:Int)/\(0:Int)<(([a]:List api_Region).length:Int):=⟨hz,by simp⟩
 dsimp only at hp
 rw[hk0] at hp
 refine JOIN.opq λ(J3:Int->List api_Parcel->Prop) hJ3=>JOIN.opq λ(J6:Int->List api_Parcel->Prop) hJ6=>⟨h01,JOIN.opq λ(J13:Int->Prop) hJ13 _=> ?_⟩
 rw[hk0] at hJ13 ⊢
 have hr:∀p∈l,0<p.6.length/\p.6.length<=1000000:=λp hp=>⟨by have:=regP_days hreg p hp;omega,(hsz.all p hp).regs⟩
 refine meets_in (a:=a) (but:=0) hl hr (λz h0 hh=> ?_) (λhh=> ?_)
 ·rw[if_pos hh] at hp
  rw[hJ13]
  refine IFB.yes (decide_eq_true h0) ?_
  rw[hJ6,hJ3]
  exact IFB.yes rfl ⟨hsz,hp⟩
 ·rw[if_neg hh] at hp
  rw[hJ13]
  refine IFB.no rfl ⟨h01,JOIN.opq λ(J10:Int->List api_Parcel->Prop) hJ10 _=>IFB.mk (λhc=> ?_) (λhc=>JOIN.opq λ(J12:List api_Parcel->Prop) hJ12 _=> ?_)⟩
  ·have hc:(l.length:Int)=60:=of_decide_eq_true hc
   rw[if_pos (by omega)] at hp
   rw[hJ10,hJ6,hJ3]
   exact IFB.yes rfl ⟨hsz,hp⟩
  ·have hc:¬(l.length:Int)=60:=of_decide_eq_false hc
   rw[if_neg (by omega)] at hp
   have hw:IntKind.i64.wrap ((l.length:Int)+1)=(l.length:Int)+1:=wrap_in (by omega) (by omega)
   rw[hw]
   have hJ:J12 (l++[{Number:=(l.length:Int)+(1:Int),From:=day,Until:=(36865:Int),Parents:=[],Days:=[day],Regions:=[{Rects:=a.1:api_Region}]:api_Parcel}]):=by
    rw[hJ12,hJ10,hJ6,hJ3]
    exact IFB.no rfl hp
   have hA:a.1.length<=4000000:=by omega
   have hB:(l.length+[{Number:=(l.length:Int)+(1:Int),From:=day,Until:=(36865:Int),Parents:=[],Days:=[day],Regions:=[{Rects:=a.1:api_Region}]:api_Parcel}].length) * 96<=140737488355328:=by
    simp only[List.length_cons,List.length_nil];omega
   repeat' (first|exact hA|exact hB|exact hJ|exact Nat.zero_le _|with_reducible apply And.intro)
theorem papp1_ok:SpecOK Tryz.prog papp1_sp:=papp1_of λx post hp=>by
 obtain⟨l,e,u⟩:=x
 obtain⟨day,known,kind,ps,rs⟩:=e
 obtain⟨⟨hsz,hse,hk⟩,hp⟩:=hp
 have hk:kind=1:=hk
 subst hk
 exact HoldW.of (papp1_w l day known ps rs post) (papp1_h l day known ps rs (λy0 y1=>post (y0,y1,())) hsz hse hp)
def papp3_P (l:List (api_Parcel))(e:api_Edit)(post:List (api_Parcel)->Int->Prop):Prop:=(szL l/\szE e/\e.Kind=3)/\post (applyS l e).1 (applyS l e).2
def papp3_sp:Spec:=⟨49,false,true,[.sl (.st .api_Parcel),.st .api_Edit],.tup [.dat (.sl (.st .api_Parcel)),.dat (.int .i64)],λx post=>papp3_P (x.1:List (api_Parcel)) (x.2.1:api_Edit) (λy0 y1=>post (y0,y1,()))⟩
def papp3_C:CtxR:=⟨tau,[rule1 pedit_sp,rule1 pallO_sp,ruleMap 140 false Forms.es,rule1 pclI_sp,rule1 pcpy_sp,rule1 pmts_sp,rule1 parea_sp,ruleC pchoX_sp 290],lookJ [(0,1000005,⟨[(8,.dat (.int .i64))],[(2,[.own 71 (.st .api_Parcel)])],[21,22,23,24,25,26,27,28],[1],[]⟩),(5113,0,⟨[(0,.dat (.int .i64))],[(2,[.own 71 (.st .api_Parcel)])],[],[1],[]⟩),(5113,43,⟨[(87,.dat (.int .i64))],[(2,[.own 71 (.st .api_Parcel)])],(List.range' 88 15++[14,15,104]),[1],[]⟩),(5113,1000023,⟨[(15,.dat (.int .i64))],[(2,[.own 71 (.st .api_Parcel)])],(List.range' 91 10),[9],[]⟩),(5330024326,0,⟨[(0,.dat (.int .i64))],[(2,[.own 71 (.st .api_Parcel)])],[],[9],[]⟩),(5330024326,1000003,⟨[],[(2,[.own 71 (.st .api_Parcel)])],(List.range' 15 24),[9],[]⟩),(5113,9,⟨[(19,.dat (.int .i64)),(6,.dat (.int .i64)),(5,.own 78 (.st .api_Rect))],[],(List.range' 20 26++[7,8,10]),[],[]⟩),(5113,15,⟨[(29,.dat (.int .i64))],[],[30,31,32,10,33,34,35,36],[],[]⟩)]⟩
abbrev papp3_a0 (l:List (api_Parcel))(ps:List (Int)):=(ix (ix l (IntKind.i64.wrap (ix ps (0:Int)-(1:Int)))).6 (IntKind.i64.wrap ((↑(ix l (IntKind.i64.wrap (ix ps (0:Int)-(1:Int)))).6.length:Int)-(1:Int))))
abbrev papp3_a1 (z18:List api_Parcel)(day:Int)(ps:List (Int))(rs:List (api_Region))(z17:Int):={Number:=IntKind.i64.wrap ((↑z18.length:Int)+(1:Int)),From:=day,Until:=(36865:Int),Parents:=[ix ps (0:Int)],Days:=[day],Regions:=[{Rects:=(ix rs z17).1:api_Region}]:api_Parcel}
abbrev papp3_a2 (z31:List api_Parcel)(day:Int)(ps:List (Int))(rs:List (api_Region))(z30:Int):={Number:=IntKind.i64.wrap ((↑z31.length:Int)+(1:Int)),From:=day,Until:=(36865:Int),Parents:=[ix ps (0:Int)],Days:=[day],Regions:=[{Rects:=(ix rs z30).1:api_Region}]:api_Parcel}
abbrev papp3_a3 (l:List (api_Parcel))(ps:List (Int)):=(ix l (IntKind.i64.wrap (ix ps (0:Int)-(1:Int))))
abbrev papp3_a4 (ps:List (Int))(l:List (api_Parcel)):=((0:Int)<=IntKind.i64.wrap (ix ps (0:Int)-(1:Int))/\IntKind.i64.wrap (ix ps (0:Int)-(1:Int))<(↑l.length:Int))
abbrev papp3_a5 (l:List (api_Parcel))(ps:List (Int))(day:Int):=((0:Int),l.set (IntKind.i64.wrap (ix ps (0:Int)-(1:Int))).toNat {Number:=(papp3_a3 l ps).1,From:=(papp3_a3 l ps).2,Until:=day,Parents:=(papp3_a3 l ps).4,Days:=(papp3_a3 l ps).5,Regions:=(papp3_a3 l ps).6:api_Parcel},PUnit.unit)
abbrev papp3_a6 (ps:List (Int)):=(Int.NonNeg (0:Int)/\(0:Int)<(↑ps.length:Int))
def papp3_W (l:List (api_Parcel))(day:Int)(known:Int)(ps:List (Int))(rs:List (api_Region))(post:List (api_Parcel)->Int->Prop):Prop:=(szL l/\szE (⟨day,known,(3:Int),ps,rs⟩:api_Edit))/\IFB (!decide (editS l (⟨day,known,(3:Int),ps,rs⟩:api_Edit)=0)) (szL l/\post l (editS l (⟨day,known,(3:Int),ps,rs⟩:api_Edit))) (szL l/\JOIN [Ty.int IntKind.i64,(Ty.st Sn.api_Parcel).sl] (λ(y1:Int) (y2:List api_Parcel)=>IFB (!decide (y1=0)) (szL l/\post l y1) (post y2 0)) λ(J3:Int->List api_Parcel->Prop)=>JOIN [Ty.int IntKind.i64,(Ty.st Sn.api_Parcel).sl] (λ(y4:Int) (y5:List api_Parcel)=>J3 y4 y5) λ(J6:Int->List api_Parcel->Prop)=>(↑rs.length:Int)<=9223372036854775807->LOOP [Ty.int IntKind.i64,Ty.int IntKind.i64,(Ty.st Sn.api_Rect).sl] (λ(rec7:Int->Int->List api_Rect->Prop) (z8 z9:Int) (z10:List api_Rect)=>IFB (decide (z8<(↑rs.length:Int))) (((0:Int)<=z8/\z8<(↑rs.length:Int))/\(Int.NonNeg 0/\0<=z8/\z8<=(↑rs.length:Int))/\((↑(sub rs (0:Int) z8).length:Int)<=9223372036854775807->LOOP [Ty.int IntKind.i64] (λ(rec11:Int->Prop) (z12:Int)=>IFB (decide (z12<(↑(sub rs (0:Int) z8).length:Int))) (((0:Int)<=z12/\z12<(↑(sub rs (0:Int) z8).length:Int))/\∀(v13:Bool),(v13=true↔meetP (ix rs z8).1 (ix (sub rs (0:Int) z8) z12).1)->IFB v13 (J6 (11:Int) l) (rec11 (IntKind.i64.wrap (z12+1)))) ((z10.length+(ix rs z8).1.length) * (32:Nat)<=140737488355328/\True/\rec7 (IntKind.i64.wrap (z8+1)) (IntKind.i64.wrap (z9+areaS {Rects:=(ix rs z8).1:api_Region})) (z10++(ix rs z8).1))) ((0:Int),PUnit.unit))) ((papp3_a6 ps)/\(papp3_a4 ps l)/\((↑(papp3_a3 l ps).6.length:Int)<=9223372036854775807->((0:Int)<=IntKind.i64.wrap ((↑(papp3_a3 l ps).6.length:Int)-1)/\IntKind.i64.wrap ((↑(papp3_a3 l ps).6.length:Int)-1)<(↑(papp3_a3 l ps).6.length:Int))/\(((∀(v14:api_Rect),v14∈(papp3_a0 l ps).1->0<=v14.1/\v14.1<v14.3/\v14.3<=16384/\0<=v14.2/\v14.2<v14.4/\v14.4<=16384)/\(papp3_a0 l ps).1.length<=8000)/\(∀(v15:api_Rect),v15∈z10->0<=v15.1/\v15.1<v15.3/\v15.3<=16384/\0<=v15.2/\v15.2<v15.4/\v15.4<=16384)/\z10.length<=8000)/\True/\(((gx false !decide (z9=areaS {Rects:=(papp3_a0 l ps).1:api_Region}))=true->(↑(canonF λ(x y:Int)=>xorS (cov (papp3_a0 l ps).1 x y) (cov z10 x y)).length:Int)<=9223372036854775807)->IFB (!decide (z9=areaS {Rects:=(papp3_a0 l ps).1:api_Region})||decide ((0:Int)<(↑(canonF λ(x y:Int)=>xorS (cov (papp3_a0 l ps).1 x y) (cov z10 x y)).length:Int))) (J6 (12:Int) l) ((papp3_a6 ps)/\(papp3_a4 ps l)/\((↑rs.length:Int)<=9223372036854775807->LOOP [Ty.int IntKind.i64,(Ty.st Sn.api_Parcel).sl] (λ(rec16:Int->List api_Parcel->Prop) (z17:Int) (z18:List api_Parcel)=>IFB (decide (z17<(↑rs.length:Int))) (((0:Int)<=z17/\z17<(↑rs.length:Int))/\JOIN [Ty.int IntKind.i64,(Ty.st Sn.api_Parcel).sl] (λ(y19:Int) (y20:List api_Parcel)=>IFB (!decide (y19=0)) (J6 y19 y20) (rec16 (IntKind.i64.wrap (z17+1)) y20)) λ(J21:Int->List api_Parcel->Prop)=>(papp3_a6 ps)/\JOIN [Ty.int IntKind.i64,(Ty.st Sn.api_Parcel).sl] (λ(y22:Int) (y23:List api_Parcel)=>J21 y22 y23) λ(J24:Int->List api_Parcel->Prop)=>(↑z18.length:Int)<=9223372036854775807->IFB (decide ((↑z18.length:Int)=60)) (J24 (1:Int) z18) (JOIN [(Ty.st Sn.api_Parcel).sl] (λ(y25:List api_Parcel)=>J24 (0:Int) y25) λ(J26:List api_Parcel->Prop)=>(↑z18.length:Int)<=9223372036854775807->([ix ps (0:Int)].length<=4000000/\((ix rs z17).1.length<=4000000/\(z18.length+[(papp3_a1 z18 day ps rs z17)].length) * (96:Nat)<=140737488355328/\J26 (z18++[(papp3_a1 z18 day ps rs z17)]))/\(ix rs z17).1.length<=4000000/\((z18.length+[(papp3_a1 z18 day ps rs z17)].length) * (96:Nat)<=140737488355328/\J26 (z18++[(papp3_a1 z18 day ps rs z17)]))/\(z18.length+[(papp3_a1 z18 day ps rs z17)].length) * (96:Nat)<=140737488355328/\J26 (z18++[(papp3_a1 z18 day ps rs z17)]))/\[ix ps (0:Int)].length<=4000000/\(ix rs z17).1.length<=4000000/\(z18.length+[(papp3_a1 z18 day ps rs z17)].length) * (96:Nat)<=140737488355328/\J26 (z18++[(papp3_a1 z18 day ps rs z17)]))) (J6 (0:Int) z18)) (papp3_a5 l ps day)))))/\((↑(papp3_a3 l ps).6.length:Int)<=9223372036854775807->((0:Int)<=IntKind.i64.wrap ((↑(papp3_a3 l ps).6.length:Int)-1)/\IntKind.i64.wrap ((↑(papp3_a3 l ps).6.length:Int)-1)<(↑(papp3_a3 l ps).6.length:Int))/\(((∀(v27:api_Rect),v27∈(papp3_a0 l ps).1->0<=v27.1/\v27.1<v27.3/\v27.3<=16384/\0<=v27.2/\v27.2<v27.4/\v27.4<=16384)/\(papp3_a0 l ps).1.length<=8000)/\(∀(v28:api_Rect),v28∈z10->0<=v28.1/\v28.1<v28.3/\v28.3<=16384/\0<=v28.2/\v28.2<v28.4/\v28.4<=16384)/\z10.length<=8000)/\True/\(((gx false !decide (z9=areaS {Rects:=(papp3_a0 l ps).1:api_Region}))=true->(↑(canonF λ(x y:Int)=>xorS (cov (papp3_a0 l ps).1 x y) (cov z10 x y)).length:Int)<=9223372036854775807)->IFB (!decide (z9=areaS {Rects:=(papp3_a0 l ps).1:api_Region})||decide ((0:Int)<(↑(canonF λ(x y:Int)=>xorS (cov (papp3_a0 l ps).1 x y) (cov z10 x y)).length:Int))) (J6 (12:Int) l) ((papp3_a6 ps)/\(papp3_a4 ps l)/\((↑rs.length:Int)<=9223372036854775807->LOOP [Ty.int IntKind.i64,(Ty.st Sn.api_Parcel).sl] (λ(rec29:Int->List api_Parcel->Prop) (z30:Int) (z31:List api_Parcel)=>IFB (decide (z30<(↑rs.length:Int))) (((0:Int)<=z30/\z30<(↑rs.length:Int))/\JOIN [Ty.int IntKind.i64,(Ty.st Sn.api_Parcel).sl] (λ(y32:Int) (y33:List api_Parcel)=>IFB (!decide (y32=0)) (J6 y32 y33) (rec29 (IntKind.i64.wrap (z30+1)) y33)) λ(J34:Int->List api_Parcel->Prop)=>(papp3_a6 ps)/\JOIN [Ty.int IntKind.i64,(Ty.st Sn.api_Parcel).sl] (λ(y35:Int) (y36:List api_Parcel)=>J34 y35 y36) λ(J37:Int->List api_Parcel->Prop)=>(↑z31.length:Int)<=9223372036854775807->IFB (decide ((↑z31.length:Int)=60)) (J37 (1:Int) z31) (JOIN [(Ty.st Sn.api_Parcel).sl] (λ(y38:List api_Parcel)=>J37 (0:Int) y38) λ(J39:List api_Parcel->Prop)=>(↑z31.length:Int)<=9223372036854775807->([ix ps (0:Int)].length<=4000000/\((ix rs z30).1.length<=4000000/\(z31.length+[(papp3_a2 z31 day ps rs z30)].length) * (96:Nat)<=140737488355328/\J39 (z31++[(papp3_a2 z31 day ps rs z30)]))/\(ix rs z30).1.length<=4000000/\((z31.length+[(papp3_a2 z31 day ps rs z30)].length) * (96:Nat)<=140737488355328/\J39 (z31++[(papp3_a2 z31 day ps rs z30)]))/\(z31.length+[(papp3_a2 z31 day ps rs z30)].length) * (96:Nat)<=140737488355328/\J39 (z31++[(papp3_a2 z31 day ps rs z30)]))/\[ix ps (0:Int)].length<=4000000/\(ix rs z30).1.length<=4000000/\(z31.length+[(papp3_a2 z31 day ps rs z30)].length) * (96:Nat)<=140737488355328/\J39 (z31++[(papp3_a2 z31 day ps rs z30)]))) (J6 (0:Int) z31)) (papp3_a5 l ps day))))))) ((0:Int),(0:Int),[],PUnit.unit))
theorem papp3_w (l:List (api_Parcel))(day:Int)(known:Int)(ps:List (Int))(rs:List (api_Region))(post:dens (shT papp3_sp.rs [])->Prop):papp3_W l day known ps rs (λy0 y1=>post (y0,y1,()))=walkG (callR Tryz.prog papp3_C (drawF Tryz.prog tau) 12 0) 49 false [tv (.sl (.st .api_Parcel)) (l),tv (.st .api_Edit) (⟨day,known,3,ps,rs⟩)] papp3_sp.rs post:=by kernel_rfl
theorem papp3_of (h:∀x (post:dens (shT papp3_sp.rs [])->Prop),papp3_sp.pt x post->HoldW (walkG (callR Tryz.prog papp3_C (drawF Tryz.prog tau) 12 0) papp3_sp.f papp3_sp.tp (tvs papp3_sp.ts x) papp3_sp.rs post)):SpecOK Tryz.prog papp3_sp:=SpecOK.of_rules (C:=papp3_C) (dr:=drawF Tryz.prog tau) (n:=12) (fk:=0) (.cons (rule1_ok pedit_ok) (.cons (rule1_ok pallO_ok) (.cons (ruleMap_ok Forms.forms_mk) (.cons (rule1_ok pclI_ok) (.cons (rule1_ok pcpy_ok) (.cons (rule1_ok pmts_ok) (.cons (rule1_ok parea_ok) (.cons (ruleC_ok pchoX_ok) .nil)))))))) (drawF_ok tau) h
theorem regP_prop {l:List Pc}(h:regP l):∀p∈l,∀a∈p.Regions,propR a:=λp hp=>by
 obtain⟨i,hi,rfl⟩:=ix_ex hp
 exact (h.1 i hi).2.2.2.2.2.1.2.2.2.2.2
theorem now_mem {p:Pc}(h:0<p.Regions.length):nowR p∈p.Regions:=ix_mem (by omega) (by omega)
theorem xor_none {a b:List Rc}:¬((0:Int)<((canonF λ(x y:Int)=>xorS (cov a x y) (cov b x y)).length:Int))↔∀x y,cov b x y=cov a x y:=by
 obtain⟨h1,h2⟩:=comb_ok xorS_0 a b
 have h2:∀x y,cov (canonF λ(x y:Int)=>xorS (cov a x y) (cov b x y)) x y=xorS (cov a x y) (cov b x y):=h2
 have h1:Canon (canonF λ(x y:Int)=>xorS (cov a x y) (cov b x y)):=h1
 have hn:=canon_none h1
 generalize (canonF λ(x y:Int)=>xorS (cov a x y) (cov b x y))=c at h1 h2 hn
 constructor
 ·intro h x y
  have hc:c=[]:=List.eq_nil_of_length_eq_zero (by omega)
  have:=hn.1 hc x y
  rw[h2] at this
  unfold xorS at this
  simp only[Bool.not_eq_false',decide_eq_true_eq] at this
  exact this.symm
 ·intro h hl
  have hc:c=[]:=hn.2 λx y=>by rw[h2,h x y];unfold xorS;simp
  rw[hc] at hl
  exact absurd hl (by decide)
theorem partsR_take {l:List Rn}{k:Nat}(hk:k<l.length):partsR (l.take (k+1))=partsR (l.take k)++(ix l (k:Int)).Rects:=by
 unfold partsR
 rw[List.take_succ_eq_append_getElem hk,List.flatMap_append,ix_lt hk];simp
theorem sum_take {l:List Rn}{k:Nat}(hk:k<l.length):((l.take (k+1)).map areaS).sum=((l.take k).map areaS).sum+areaS (ix l (k:Int)):=by
 rw[List.take_succ_eq_append_getElem hk,List.map_append,List.sum_append,ix_lt hk];simp
theorem partsR_proper {l:List Rn}(h:∀a∈l,propR a):∀r∈partsR l,proper r:=λr hr=>by
 obtain⟨a,ha,hr⟩:=List.mem_flatMap.1 hr
 exact (h a ha).2.2.1 r hr
theorem addL_take {day:Int}{ps:List Int}{l:List Pc}{rs:List Rn}{k:Nat}(hk:k<rs.length):addL day ps l (rs.take (k+1))=addL day ps l (rs.take k)++[newP (((addL day ps l (rs.take k)).length:Int)+1) day ps (ix rs (k:Int))]:=by
 unfold addL
 rw[fold_take hk]
theorem addL_len {day:Int}{ps:List Int}:∀{rs:List Rn}{l:List Pc},(addL day ps l rs).length=l.length+rs.length
 |[],l=>rfl
 |a::rs,l=>by
  show (addL day ps (l++[_]) rs).length=_
  rw[addL_len,List.length_append,List.length_cons,List.length_cons,List.length_nil];omega
theorem endP_len {day:Int}{l:List Pc}{k:Int}:(endP day l k).length=l.length:=List.length_set
set_option maxHeartbeats 2000000 in
theorem papp3_h (l:List api_Parcel)(day known:Int)(ps:List Int)(rs:List api_Region)(post:List api_Parcel->Int->Prop)(hsz:szL l)(hse:szE ⟨day,known,3,ps,rs⟩)(hp:post (applyS l ⟨day,known,3,ps,rs⟩).1 (applyS l ⟨day,known,3,ps,rs⟩).2):papp3_W l day known ps rs post:=by
 unfold papp3_W papp3_a6 papp3_a5 papp3_a4 papp3_a3 papp3_a2 papp3_a1 papp3_a0
 refine⟨⟨hsz,hse⟩,IFB.mk (λhb=>⟨hsz,?_⟩) (λhb=>⟨hsz,?_⟩)⟩
 ·have hb:editS l ⟨day,known,3,ps,rs⟩≠0:=by simpa using hb
  unfold applyS at hp
  rw[if_pos hb] at hp;exact hp
 have hb:editS l ⟨day,known,3,ps,rs⟩=0:=by simpa using hb
 unfold applyS at hp
 rw[if_neg (λh=>h hb),if_neg (by decide:¬(3:Int)=1),if_neg (by decide:¬(3:Int)=2),if_pos rfl] at hp
 obtain⟨e1,e2,e3,⟨e4,e5⟩,e6,e7⟩:=editS_0.1 hb
 have e4:ps.length=1/\2<=rs.length/\rs.length<=8:=by
  unfold fitsP at e4
  dsimp only at e4
  omega
 have e7:∀a∈rs,propR a:=e7
 obtain⟨k,rfl⟩:∃k,ps=[k]:=List.length_eq_one_iff.1 e4.1
 obtain⟨h60,hreg⟩:=checkS_0.1 e1
 have hl:=hsz.len
 have ho:=e6 k (by simp)
 obtain⟨w1,w2,w3⟩:=open_ix hsz.len ho
 have hk0:ix [k] 0=k:=rfl
 have hz:Int.NonNeg (0:Int):=Int.NonNeg.mk 0
 have hq:=ix_mem (l:=l) (i:=k-1) w2 w3
 dsimp only at hp
 rw[hk0] at hp
 have hvr:∀a∈rs,validP a.Rects:=λa ha=>(e7 a ha).2
 have hlr:∀a∈rs,a.Rects.length<=120:=λa ha=>(hvr a ha).1
 have h01:Int.NonNeg (0:Int)/\(0:Int)<(([k]:List Int).length:Int):=⟨hz,by simp⟩
 have hend:endL day l [k]=endP day l k:=rfl
 rw[hend] at hp
 have hq0:0<(ix l (k-1)).6.length:=by have:=regP_days hreg _ hq;omega
 have hq1:(ix l (k-1)).6.length<=1000000:=(hsz.all _ hq).regs
 have hw:propR (nowR (ix l (k-1))):=regP_prop hreg _ hq _ (now_mem hq0)
 have hset:l.set (k-1).toNat {Number:=(ix l (k-1)).1,From:=(ix l (k-1)).2,Until:=day,Parents:=(ix l (k-1)).4,Days:=(ix l (k-1)).5,Regions:=(ix l (k-1)).6:api_Parcel}=endP day l k:=rfl
 have hww:IntKind.i64.wrap (((ix l (k-1)).6.length:Int)-1)=((ix l (k-1)).6.length:Int)-1:=wrap_in (by omega) (by omega)
 rw[hk0,w1,hww,hset]
 have hnow:(ix (ix l (k-1)).6 (((ix l (k-1)).6.length:Int)-1))=nowR (ix l (k-1)):=rfl
 rw[hnow]
 have hin:0<=((ix l (k-1)).6.length:Int)-1/\((ix l (k-1)).6.length:Int)-1<((ix l (k-1)).6.length:Int):=by omega
 generalize nowR (ix l (k-1))=w at hw hp ⊢
 refine JOIN.opq λ(J3:Int->List api_Parcel->Prop) hJ3=>JOIN.opq λ(J6:Int->List api_Parcel->Prop) hJ6 _=> ?_
 have bad:∀(c:Int)(z:List api_Parcel),c≠0->post l c->J6 c z:=λc z hc h=>by
  rw[hJ6,hJ3]
  exact IFB.yes (by simpa using hc) ⟨hsz,h⟩
 refine LOOP.fuel3 (λ(z s:Int) (b:List Rc)=>∃i:Nat,z=(i:Int)/\i<=rs.length/\s=((rs.take i).map areaS).sum/\b=partsR (rs.take i)/\0<=s/\s<=268435456 * (i:Int)/\b.length<=120 * i/\∀u v:Nat,v<u->u<i->¬meetP (ix rs (u:Int)).Rects (ix rs (v:Int)).Rects) (λz _ _=>rs.length-Int.toNat z) ⟨0,rfl,Nat.zero_le _,rfl,rfl,Int.le_refl _,Int.le_refl _,Nat.le_refl _,λu v h1 h2=>by omega⟩ ?_
 rintro rec (z:Int) (s:Int) (b:List Rc) ⟨i,i1,i2,i3,i4,i5,i6,i7,i8⟩ hrec
 subst i1
 refine IFB.mk (λhb=> ?_) (λhb=> ?_)
 ·have hb:(i:Int)<rs.length:=of_decide_eq_true hb
  have hi:i<rs.length:=by omega
  refine⟨by omega,⟨hz,by omega,by omega⟩,?_⟩
  rw[sub_front]
  have hil:(rs.take i).length=i:=by rw[List.length_take];omega
  rw[hil]
  have hir:=hlr _ (ix_mem (l:=rs) (i:=(i:Int)) (by omega) (by omega))
  have hia:=areaS_le (a:=ix rs (i:Int))
  refine λ_=>loopCmp (n:=i) (by omega) (p:=λj=>¬meetP (ix rs (i:Int)).Rects (ix rs (j:Int)).Rects) (λrec2 j hj _ hrec2=>⟨by omega,λv hv=>IFB.mk (λhm=> ?_) (λhm=>hrec2 λh=> ?_)⟩) λhall=>⟨by omega,trivial,?_⟩
  ·rw[take_ix hj (by omega)] at hv
   rw[if_pos (λh=>h i j hj hi (hv.1 hm))] at hp
   exact bad 11 l (by decide) hp
  ·rw[take_ix hj (by omega)] at hv
   rw[hv.2 h] at hm;cases hm
  ·rw[wrapS (by omega),wrap_in (z:=s+_) (by omega) (by omega)]
   refine hrec ((i+1:Nat):Int) _ _ ⟨i+1,rfl,hi,by rw[sum_take hi,<-i3],by rw[partsR_take hi,<-i4],by omega,by omega,?_,λu v h1 h2=> ?_⟩ (by show rs.length-((i+1:Nat):Int).toNat<rs.length-(i:Int).toNat;omega)
   ·show (b++(ix rs (i:Int)).Rects).length<=_
    rw[List.length_append];omega
   ·by_cases e:u=i
    ·subst e;exact hall v h1
    ·exact i8 u v h1 (by omega)
 ·have hb:¬(i:Int)<rs.length:=of_decide_eq_false hb
  have hi:i=rs.length:=by omega
  rw[hi,List.take_length] at i3 i4
  have hap:apartP rs:=λu v h1 h2=>i8 u v h1 (by omega)
  rw[if_neg (λh=>h hap)] at hp
  clear i8
  have hsum:s=cntS (cov (partsR rs)):=by rw[i3,cnt_parts hvr ((apart_pw hvr).1 hap)]
  have hcond:∀c:Bool,c=(!decide (s=areaS w)||decide ((0:Int)<((canonF λ(x y:Int)=>xorS (cov w.1 x y) (cov b x y)).length:Int)))->(c=false↔∀x y,cov (partsR rs) x y=cov w.Rects x y):=λc hc=>by
   rw[hc,i4,Bool.or_eq_false_iff,decide_eq_false_iff_not,xor_none,Bool.not_eq_false',decide_eq_true_eq]
   refine⟨λh=>h.2,λh=>⟨?_,h⟩⟩
   rw[hsum,areaS_valid hw.2]
   exact cntS_congr h
  have hpr:∀r∈b,proper r:=by rw[i4];exact partsR_proper e7
  have hlw:w.1.length<=8000:=by have:=hw.2.1;omega
  have hlb:b.length<=8000:=by omega
  refine⟨h01,⟨w2,w3⟩,?_⟩
  have key:IFB (!decide (s=areaS w)||decide ((0:Int)<((canonF λ(x y:Int)=>xorS (cov w.1 x y) (cov b x y)).length:Int))) (J6 12 l) ((Int.NonNeg (0:Int)/\(0:Int)<(([k]:List Int).length:Int))/\((0:Int)<=k-1/\k-1<(l.length:Int))/\((rs.length:Int)<=(9223372036854775807:Int)->LOOP [Ty.int IntKind.i64,(Ty.st Sn.api_Parcel).sl] (λ(rec16:Int->List api_Parcel->Prop) (z17:Int) (z18:List api_Parcel)=>IFB (decide (z17<(rs.length:Int))) (((0:Int)<=z17/\z17<(rs.length:Int))/\JOIN [Ty.int IntKind.i64,(Ty.st Sn.api_Parcel).sl] (λ(y19:Int) (y20:List api_Parcel)=>IFB (!decide (y19=(0:Int))) (J6 y19 y20) (rec16 (IntKind.i64.wrap (z17+(1:Int))) y20)) λ(J21:Int->List api_Parcel->Prop)=>(Int.NonNeg (0:Int)/\(0:Int)<(([k]:List Int).length:Int))/\JOIN [Ty.int IntKind.i64,(Ty.st Sn.api_Parcel).sl] (λ(y22:Int) (y23:List api_Parcel)=>J21 y22 y23) λ(J24:Int->List api_Parcel->Prop)=>(z18.length:Int)<=(9223372036854775807:Int)->IFB (decide ((z18.length:Int)=(60:Int))) (J24 (1:Int) z18) (JOIN [(Ty.st Sn.api_Parcel).sl] (λ(y25:List api_Parcel)=>J24 (0:Int) y25) λ(J26:List api_Parcel->Prop)=>(z18.length:Int)<=(9223372036854775807:Int)->([k].length<=(4000000:Nat)/\((ix rs z17).1.length<=(4000000:Nat)/\(z18.length+[{Number:=IntKind.i64.wrap ((z18.length:Int)+(1:Int)),From:=day,Until:=(36865:Int),Parents:=[k],Days:=[day],Regions:=[{Rects:=(ix rs z17).1:api_Region}]:api_Parcel}].length) * (96:Nat)<=(140737488355328:Nat)/\J26 (z18++[{Number:=IntKind.i64.wrap ((z18.length:Int)+(1:Int)),From:=day,Until:=(36865:Int),Parents:=[k],Days:=[day],Regions:=[{Rects:=(ix rs z17).1:api_Region}]:api_Parcel}]))/\(ix rs z17).1.length<=(4000000:Nat)/\((z18.length+[{Number:=IntKind.i64.wrap ((z18.length:Int)+(1:Int)),From:=day,Until:=(36865:Int),Parents:=[k],Days:=[day],Regions:=[{Rects:=(ix rs z17).1:api_Region}]:api_Parcel}].length) * (96:Nat)<=(140737488355328:Nat)/\J26 (z18++[{Number:=IntKind.i64.wrap ((z18.length:Int)+(1:Int)),From:=day,Until:=(36865:Int),Parents:=[k],Days:=[day],Regions:=[{Rects:=(ix rs z17).1:api_Region}]:api_Parcel}]))/\(z18.length+[{Number:=IntKind.i64.wrap ((z18.length:Int)+(1:Int)),From:=day,Until:=(36865:Int),Parents:=[k],Days:=[day],Regions:=[{Rects:=(ix rs z17).1:api_Region}]:api_Parcel}].length) * (96:Nat)<=(140737488355328:Nat)/\J26 (z18++[{Number:=IntKind.i64.wrap ((z18.length:Int)+(1:Int)),From:=day,Until:=(36865:Int),Parents:=[k],Days:=[day],Regions:=[{Rects:=(ix rs z17).1:api_Region}]:api_Parcel}]))/\[k].length<=(4000000:Nat)/\(ix rs z17).1.length<=(4000000:Nat)/\(z18.length+[{Number:=IntKind.i64.wrap ((z18.length:Int)+(1:Int)),From:=day,Until:=(36865:Int),Parents:=[k],Days:=[day],Regions:=[{Rects:=(ix rs z17).1:api_Region}]:api_Parcel}].length) * (96:Nat)<=(140737488355328:Nat)/\J26 (z18++[{Number:=IntKind.i64.wrap ((z18.length:Int)+(1:Int)),From:=day,Until:=(36865:Int),Parents:=[k],Days:=[day],Regions:=[{Rects:=(ix rs z17).1:api_Region}]:api_Parcel}]))) (J6 (0:Int) z18)) ((0:Int),endP day l k,PUnit.unit))):=by
   refine IFB.mk (λhc=> ?_) (λhc=>⟨h01,⟨w2,w3⟩,λ_=> ?_⟩)
   ·rw[if_pos (λh=>by have:=(hcond _ rfl).2 h;rw[hc] at this;cases this)] at hp
    exact bad 12 l (by decide) hp
   rw[if_neg (λh=>h ((hcond _ rfl).1 hc))] at hp
   refine LOOP.fuel2 (λ(z:Int) (b:List Pc)=>∃i:Nat,z=(i:Int)/\i<=rs.length/\b=addL day [k] (endP day l k) (rs.take i)/\l.length+i<=60) (λz _=>rs.length-Int.toNat z) ⟨0,rfl,Nat.zero_le _,rfl,h60⟩ ?_
   rintro rec2 (z2:Int) (c:List Pc) ⟨j,j1,j2,j3,j4⟩ hrec2
   subst j1
   have hcl:c.length=l.length+j:=by rw[j3,addL_len,endP_len,List.length_take];omega
   refine IFB.mk (λhb=> ?_) (λhb=> ?_)
   ·have hb:(j:Int)<rs.length:=of_decide_eq_true hb
    have hj:j<rs.length:=by omega
    have hjr:=hlr _ (ix_mem (l:=rs) (i:=(j:Int)) (by omega) (by omega))
    refine⟨by omega,JOIN.opq λ(J21:Int->List api_Parcel->Prop) hJ21=>⟨h01,JOIN.opq λ(J24:Int->List api_Parcel->Prop) hJ24 _=>IFB.mk (λhc=> ?_) (λhc=>JOIN.opq λ(J26:List api_Parcel->Prop) hJ26 _=> ?_)⟩⟩
    ·have hc:(c.length:Int)=60:=of_decide_eq_true hc
     rw[if_pos (by omega)] at hp
     rw[hJ24,hJ21]
     exact IFB.yes rfl (bad 1 c (by decide) hp)
    ·have hc:¬(c.length:Int)=60:=of_decide_eq_false hc
     have hwr:IntKind.i64.wrap ((c.length:Int)+1)=(c.length:Int)+1:=wrap_in (by omega) (by omega)
     rw[hwr]
     have hA:(ix rs (j:Int)).1.length<=4000000:=by omega
     have hA2:[k].length<=4000000:=by simp
     have hB:(c.length+[{Number:=(c.length:Int)+(1:Int),From:=day,Until:=(36865:Int),Parents:=[k],Days:=[day],Regions:=[{Rects:=(ix rs (j:Int)).1:api_Region}]:api_Parcel}].length) * 96<=140737488355328:=by
      simp only[List.length_cons,List.length_nil];omega
     have hJ:J26 (c++[{Number:=(c.length:Int)+(1:Int),From:=day,Until:=(36865:Int),Parents:=[k],Days:=[day],Regions:=[{Rects:=(ix rs (j:Int)).1:api_Region}]:api_Parcel}]):=by
      rw[hJ26,hJ24,hJ21]
      refine IFB.no rfl ?_
      rw[wrapS (by omega)]
      refine hrec2 ((j+1:Nat):Int) _ ⟨j+1,rfl,hj,?_,by omega⟩ (by show rs.length-((j+1:Nat):Int).toNat<rs.length-(j:Int).toNat;omega)
      rw[addL_take hj,<-j3];rfl
     repeat' (first|exact hA|exact hA2|exact hB|exact hJ|with_reducible apply And.intro)
   ·have hb:¬(j:Int)<rs.length:=of_decide_eq_false hb
    have hj:j=rs.length:=by omega
    rw[if_neg (by omega)] at hp
    rw[hJ6,hJ3]
    refine IFB.no rfl ?_
    rw[j3,hj,List.take_length]
    exact hp
  have hpw:∀r∈w.1,proper r:=hw.2.2.1
  repeat' (first|exact hin|exact hpw|exact hpr|exact hlw|exact hlb|exact trivial|exact key|with_reducible apply And.intro|intro _)
theorem papp3_ok:SpecOK Tryz.prog papp3_sp:=papp3_of λx post hp=>by
 obtain⟨l,e,u⟩:=x
 obtain⟨day,known,kind,ps,rs⟩:=e
 obtain⟨⟨hsz,hse,hk⟩,hp⟩:=hp
 have hk:kind=3:=hk
 subst hk
 exact HoldW.of (papp3_w l day known ps rs post) (papp3_h l day known ps rs (λy0 y1=>post (y0,y1,())) hsz hse hp)
def pnow_P (p:api_Parcel)(post:api_Region->Prop):Prop:=(0<p.Regions.length/\p.Regions.length<=1000000)/\post (nowR p)
def pnow_sp:Spec:=⟨289,false,true,[.st .api_Parcel],.dat (.st .api_Region),λx post=>pnow_P (x.1:api_Parcel) (λy0=>post (y0,()))⟩
def pnow_C:CtxR:=⟨tau,[],lookJ []⟩
def pnow_W (p:api_Parcel)(post:api_Region->Prop):Prop:=(↑p.6.length:Int)<=9223372036854775807->((0:Int)<=IntKind.i64.wrap ((↑p.6.length:Int)-1)/\IntKind.i64.wrap ((↑p.6.length:Int)-1)<(↑p.6.length:Int))/\post {Rects:=(ix p.6 (IntKind.i64.wrap ((↑p.6.length:Int)-1))).1:api_Region}
theorem pnow_w (p:api_Parcel)(post:dens (shT pnow_sp.rs [])->Prop):pnow_W p (λy0=>post (y0,()))=walkG (callR Tryz.prog pnow_C (drawR Tryz.prog tau) 8 0) 289 false [tv (.st .api_Parcel) p] pnow_sp.rs post:=by kernel_rfl
theorem pnow_of (h:∀p post,pnow_P p post->pnow_W p post):SpecOK Tryz.prog pnow_sp:=SpecOK.of_rules (C:=pnow_C) (dr:=drawR Tryz.prog tau) (n:=8) (fk:=0) .nil (drawR_ok tau) λx post hp=>HoldW.of (pnow_w x.1 post) (h x.1 (λy0=>post (y0,())) hp)
theorem pnow_ok:SpecOK Tryz.prog pnow_sp:=pnow_of λp post hp=>by
 obtain⟨⟨h1,h2⟩,hp⟩:=hp
 unfold pnow_W
 have hw:IntKind.i64.wrap ((p.6.length:Int)-1)=(p.6.length:Int)-1:=wrap_in (by omega) (by omega)
 rw[hw]
 exact λ_=>⟨by omega,hp⟩
def papp4_P (l:List (api_Parcel))(e:api_Edit)(post:List (api_Parcel)->Int->Prop):Prop:=(szL l/\szE e/\e.Kind=4)/\post (applyS l e).1 (applyS l e).2
def papp4_sp:Spec:=⟨49,false,true,[.sl (.st .api_Parcel),.st .api_Edit],.tup [.dat (.sl (.st .api_Parcel)),.dat (.int .i64)],λx post=>papp4_P (x.1:List (api_Parcel)) (x.2.1:api_Edit) (λy0 y1=>post (y0,y1,()))⟩
def papp4_C:CtxR:=⟨tau,[rule1 pedit_sp,rule1 pallO_sp,ruleMap 140 false Forms.es,rule1 pclI_sp,rule1 pcpy_sp,rule1 pjoin_sp,rule1 pnow_sp],lookJ [(0,1000005,⟨[(8,.dat (.int .i64))],[(2,[.own 71 (.st .api_Parcel)])],[21,22,23,24,25,26,27,28],[1],[]⟩),(5113,0,⟨[(0,.dat (.int .i64))],[(2,[.own 71 (.st .api_Parcel)])],[],[1],[]⟩),(5330016155,0,⟨[(0,.dat (.int .i64))],[(2,[.own 71 (.st .api_Parcel)])],[],[1],[]⟩),(5330016155,1000003,⟨[],[(2,[.own 71 (.st .api_Parcel)])],(List.range' 15 24),[1],[]⟩),(5113,23,⟨[(43,.dat (.int .i64))],[],(List.range' 44 14++[11]),[],[(1,71,(.st .api_Parcel))]⟩),(5113,7,⟨[(15,.dat (.int .i64)),(5,.own 78 (.st .api_Rect))],[],(List.range' 16 16++[7]),[],[]⟩)]⟩
abbrev papp4_a0 (z15:List api_Parcel)(day:Int)(ps:List (Int))(v11:List api_Rect):={Number:=IntKind.i64.wrap ((↑z15.length:Int)+(1:Int)),From:=day,Until:=(36865:Int),Parents:=ps,Days:=[day],Regions:=[{Rects:=v11:api_Region}]:api_Parcel}
abbrev papp4_a1 (l:List (api_Parcel))(ps:List (Int))(z8:Int):=(nowR {Number:=(ix l (IntKind.i64.wrap (ix ps z8-(1:Int)))).1,From:=(ix l (IntKind.i64.wrap (ix ps z8-(1:Int)))).2,Until:=(ix l (IntKind.i64.wrap (ix ps z8-(1:Int)))).3,Parents:=(ix l (IntKind.i64.wrap (ix ps z8-(1:Int)))).4,Days:=(ix l (IntKind.i64.wrap (ix ps z8-(1:Int)))).5,Regions:=(ix l (IntKind.i64.wrap (ix ps z8-(1:Int)))).6:api_Parcel})
def papp4_W (l:List (api_Parcel))(day:Int)(known:Int)(ps:List (Int))(rs:List (api_Region))(post:List (api_Parcel)->Int->Prop):Prop:=(szL l/\szE (⟨day,known,(4:Int),ps,rs⟩:api_Edit))/\IFB (!decide (editS l (⟨day,known,(4:Int),ps,rs⟩:api_Edit)=0)) (szL l/\post l (editS l (⟨day,known,(4:Int),ps,rs⟩:api_Edit))) (szL l/\JOIN [Ty.int IntKind.i64,(Ty.st Sn.api_Parcel).sl] (λ(y1:Int) (y2:List api_Parcel)=>IFB (!decide (y1=0)) (szL l/\post l y1) (post y2 0)) λ(J3:Int->List api_Parcel->Prop)=>JOIN [Ty.int IntKind.i64,(Ty.st Sn.api_Parcel).sl] (λ(y4:Int) (y5:List api_Parcel)=>J3 y4 y5) λ(J6:Int->List api_Parcel->Prop)=>(↑ps.length:Int)<=9223372036854775807->LOOP [Ty.int IntKind.i64,(Ty.st Sn.api_Rect).sl] (λ(rec7:Int->List api_Rect->Prop) (z8:Int) (z9:List api_Rect)=>IFB (decide (z8<(↑ps.length:Int))) (((0:Int)<=z8/\z8<(↑ps.length:Int))/\((0:Int)<=IntKind.i64.wrap (ix ps z8-1)/\IntKind.i64.wrap (ix ps z8-1)<(↑l.length:Int))/\((0:Nat)<(ix l (IntKind.i64.wrap (ix ps z8-1))).6.length/\(ix l (IntKind.i64.wrap (ix ps z8-1))).6.length<=1000000)/\(z9.length+(papp4_a1 l ps z8).1.length) * (32:Nat)<=140737488355328/\rec7 (IntKind.i64.wrap (z8+1)) (z9++(papp4_a1 l ps z8).1)) (((∀(v10:api_Rect),v10∈z9->0<=v10.1/\v10.1<v10.3/\v10.3<=16384/\0<=v10.2/\v10.2<v10.4/\v10.4<=16384)/\z9.length<=1000)/\∀(v11:List api_Rect)(v12:Int),joinP z9 v11 v12->IFB (!decide (v12=0)) (J6 v12 l) ((↑ps.length:Int)<=9223372036854775807->LOOP [Ty.int IntKind.i64,(Ty.st Sn.api_Parcel).sl] (λ(rec13:Int->List api_Parcel->Prop) (z14:Int) (z15:List api_Parcel)=>IFB (decide (z14<(↑ps.length:Int))) (((0:Int)<=z14/\z14<(↑ps.length:Int))/\((0:Int)<=IntKind.i64.wrap (ix ps z14-1)/\IntKind.i64.wrap (ix ps z14-1)<(↑z15.length:Int))/\rec13 (IntKind.i64.wrap (z14+1)) (z15.set (IntKind.i64.wrap (ix ps z14-1)).toNat (⟨(ix z15 (IntKind.i64.wrap (ix ps z14-1))).1,(ix z15 (IntKind.i64.wrap (ix ps z14-1))).2,day,(ix z15 (IntKind.i64.wrap (ix ps z14-1))).4,(ix z15 (IntKind.i64.wrap (ix ps z14-1))).5,(ix z15 (IntKind.i64.wrap (ix ps z14-1))).6⟩:api_Parcel))) (JOIN [Ty.int IntKind.i64,(Ty.st Sn.api_Parcel).sl] (λ(y16:Int) (y17:List api_Parcel)=>J6 y16 y17) λ(J18:Int->List api_Parcel->Prop)=>(↑z15.length:Int)<=9223372036854775807->IFB (decide ((↑z15.length:Int)=60)) (J18 (1:Int) z15) (JOIN [(Ty.st Sn.api_Parcel).sl] (λ(y19:List api_Parcel)=>J18 (0:Int) y19) λ(J20:List api_Parcel->Prop)=>(↑z15.length:Int)<=9223372036854775807->(ps.length<=4000000/\(v11.length<=4000000/\(z15.length+[(papp4_a0 z15 day ps v11)].length) * (96:Nat)<=140737488355328/\J20 (z15++[(papp4_a0 z15 day ps v11)]))/\v11.length<=4000000/\((z15.length+[(papp4_a0 z15 day ps v11)].length) * (96:Nat)<=140737488355328/\J20 (z15++[(papp4_a0 z15 day ps v11)]))/\(z15.length+[(papp4_a0 z15 day ps v11)].length) * (96:Nat)<=140737488355328/\J20 (z15++[(papp4_a0 z15 day ps v11)]))/\ps.length<=4000000/\v11.length<=4000000/\(z15.length+[(papp4_a0 z15 day ps v11)].length) * (96:Nat)<=140737488355328/\J20 (z15++[(papp4_a0 z15 day ps v11)])))) ((0:Int),l,PUnit.unit)))) ((0:Int),[],PUnit.unit))
theorem papp4_w (l:List (api_Parcel))(day:Int)(known:Int)(ps:List (Int))(rs:List (api_Region))(post:dens (shT papp4_sp.rs [])->Prop):papp4_W l day known ps rs (λy0 y1=>post (y0,y1,()))=walkG (callR Tryz.prog papp4_C (drawF Tryz.prog tau) 12 0) 49 false [tv (.sl (.st .api_Parcel)) (l),tv (.st .api_Edit) (⟨day,known,4,ps,rs⟩)] papp4_sp.rs post:=by kernel_rfl
theorem papp4_of (h:∀x (post:dens (shT papp4_sp.rs [])->Prop),papp4_sp.pt x post->HoldW (walkG (callR Tryz.prog papp4_C (drawF Tryz.prog tau) 12 0) papp4_sp.f papp4_sp.tp (tvs papp4_sp.ts x) papp4_sp.rs post)):SpecOK Tryz.prog papp4_sp:=SpecOK.of_rules (C:=papp4_C) (dr:=drawF Tryz.prog tau) (n:=12) (fk:=0) (.cons (rule1_ok pedit_ok) (.cons (rule1_ok pallO_ok) (.cons (ruleMap_ok Forms.forms_mk) (.cons (rule1_ok pclI_ok) (.cons (rule1_ok pcpy_ok) (.cons (rule1_ok pjoin_ok) (.cons (rule1_ok pnow_ok) .nil))))))) (drawF_ok tau) h
theorem endL_len {day:Int}:∀{ps:List Int}{l:List Pc},(endL day l ps).length=l.length
 |[],l=>rfl
 |k::ps,l=>by
  show (endL day (endP day l k) ps).length=_
  rw[endL_len,endP_len]
set_option maxHeartbeats 1000000 in
theorem papp4_h (l:List api_Parcel)(day known:Int)(ps:List Int)(rs:List api_Region)(post:List api_Parcel->Int->Prop)(hsz:szL l)(hse:szE ⟨day,known,4,ps,rs⟩)(hp:post (applyS l ⟨day,known,4,ps,rs⟩).1 (applyS l ⟨day,known,4,ps,rs⟩).2):papp4_W l day known ps rs post:=by
 unfold papp4_W papp4_a1 papp4_a0
 refine⟨⟨hsz,hse⟩,IFB.mk (λhb=>⟨hsz,?_⟩) (λhb=>⟨hsz,?_⟩)⟩
 ·have hb:editS l ⟨day,known,4,ps,rs⟩≠0:=by simpa using hb
  unfold applyS at hp
  rw[if_pos hb] at hp;exact hp
 have hb:editS l ⟨day,known,4,ps,rs⟩=0:=by simpa using hb
 unfold applyS at hp
 rw[if_neg (λh=>h hb),if_neg (by decide:¬(4:Int)=1),if_neg (by decide:¬(4:Int)=2),if_neg (by decide:¬(4:Int)=3),if_pos rfl] at hp
 obtain⟨e1,e2,e3,⟨e4,e5⟩,e6,e7⟩:=editS_0.1 hb
 have e4:2<=ps.length/\ps.length<=8:=by
  unfold fitsP at e4
  dsimp only at e4
  omega
 have e6:∀k∈ps,openP l k:=e6
 obtain⟨h60,hreg⟩:=checkS_0.1 e1
 have hl:=hsz.len
 dsimp only at hp
 have hz:Int.NonNeg (0:Int):=Int.NonNeg.mk 0
 refine JOIN.opq λ(J3:Int->List api_Parcel->Prop) hJ3=>JOIN.opq λ(J6:Int->List api_Parcel->Prop) hJ6 _=> ?_
 have bad:∀(c:Int)(z:List api_Parcel),c≠0->post l c->J6 c z:=λc z hc h=>by
  rw[hJ6,hJ3]
  exact IFB.yes (by simpa using hc) ⟨hsz,h⟩
 have hop:∀i:Nat,i<ps.length->IntKind.i64.wrap (ix ps (i:Int)-1)=ix ps (i:Int)-1/\0<=ix ps (i:Int)-1/\ix ps (i:Int)-1<(l.length:Int):=λi hi=>open_ix hl (e6 _ (ix_mem (l:=ps) (i:=(i:Int)) (by omega) (by omega)))
 have hnow:∀i:Nat,i<ps.length->0<(ix l (ix ps (i:Int)-1)).6.length/\(ix l (ix ps (i:Int)-1)).6.length<=1000000/\propR (nowR (ix l (ix ps (i:Int)-1))):=λi hi=>by
  obtain⟨_,w2,w3⟩:=hop i hi
  have hq:=ix_mem (l:=l) w2 w3
  have hq0:0<(ix l (ix ps (i:Int)-1)).6.length:=by have:=regP_days hreg _ hq;omega
  exact⟨hq0,(hsz.all _ hq).regs,regP_prop hreg _ hq _ (now_mem hq0)⟩
 let g:Int->Rn:=λk=>nowR (ix l (k-1))
 have hmap:∀i:Nat,i<ps.length->ix (ps.map g) (i:Int)=g (ix ps (i:Int)):=λi hi=>by
  rw[ix_lt (by simpa using hi),ix_lt hi,List.getElem_map]
 refine LOOP.fuel2 (λ(z:Int) (b:List Rc)=>∃i:Nat,z=(i:Int)/\i<=ps.length/\b=partsR ((ps.map g).take i)/\b.length<=120 * i) (λz _=>ps.length-Int.toNat z) ⟨0,rfl,Nat.zero_le _,rfl,Nat.le_refl _⟩ ?_
 rintro rec (z:Int) (b:List Rc) ⟨i,i1,i2,i3,i4⟩ hrec
 subst i1
 refine IFB.mk (λhb=> ?_) (λhb=> ?_)
 ·have hb:(i:Int)<ps.length:=of_decide_eq_true hb
  have hi:i<ps.length:=by omega
  obtain⟨w1,w2,w3⟩:=hop i hi
  obtain⟨n1,n2,n3⟩:=hnow i hi
  rw[w1]
  have hlen:(nowR (ix l (ix ps (i:Int)-1))).1.length<=120:=n3.2.1
  refine⟨by omega,⟨w2,w3⟩,⟨n1,n2⟩,?_,?_⟩
  ·show (b.length+(nowR (ix l (ix ps (i:Int)-1))).1.length) * 32<=_
   omega
  ·rw[wrapS (by omega)]
   refine hrec ((i+1:Nat):Int) _ ⟨i+1,rfl,hi,?_,?_⟩ (by show ps.length-((i+1:Nat):Int).toNat<ps.length-(i:Int).toNat;omega)
   ·rw[partsR_take (by simpa using hi),<-i3,hmap i hi]
   ·show (b++(nowR (ix l (ix ps (i:Int)-1))).1).length<=_
    rw[List.length_append];omega
 ·have hb:¬(i:Int)<ps.length:=of_decide_eq_false hb
  have hi:i=ps.length:=by omega
  have hbe:b=outsL l ps:=by rw[i3,hi,List.take_of_length_le (by simp)];rfl
  have hpr:∀r∈b,proper r:=by
   rw[hbe]
   refine partsR_proper λa ha=> ?_
   obtain⟨k,hk,rfl⟩:=List.mem_map.1 ha
   obtain⟨j,hj,rfl⟩:=ix_ex hk
   exact (hnow j hj).2.2
  refine⟨⟨hpr,by omega⟩,λr c hr=> ?_⟩
  rw[hbe] at hr
  rcases hr with⟨r1,r2,r3⟩|⟨r1,r2,r3⟩
  ·rw[if_pos r1] at hp
   subst r3
   exact IFB.yes rfl (bad 1 l (by decide) hp)
  rw[if_neg (by omega)] at hp
  rw[<-r2] at r1 hp
  subst r3
  refine IFB.no rfl λ_=> ?_
  refine LOOP.fuel2 (λ(z:Int) (c:List Pc)=>∃j:Nat,z=(j:Int)/\j<=ps.length/\c=endL day l (ps.take j)) (λz _=>ps.length-Int.toNat z) ⟨0,rfl,Nat.zero_le _,rfl⟩ ?_
  rintro rec2 (z2:Int) (c:List Pc) ⟨j,j1,j2,j3⟩ hrec2
  subst j1
  have hcl:c.length=l.length:=by rw[j3,endL_len]
  refine IFB.mk (λhb=> ?_) (λhb=> ?_)
  ·have hb:(j:Int)<ps.length:=of_decide_eq_true hb
   have hj:j<ps.length:=by omega
   obtain⟨w1,w2,w3⟩:=hop j hj
   rw[w1]
   refine⟨by omega,by omega,?_⟩
   rw[wrapS (by omega)]
   refine hrec2 ((j+1:Nat):Int) _ ⟨j+1,rfl,hj,?_⟩ (by show ps.length-((j+1:Nat):Int).toNat<ps.length-(j:Int).toNat;omega)
   show endP day c (ix ps (j:Int))=_
   unfold endL at j3 ⊢
   rw[fold_take hj,<-j3]
  ·have hb:¬(j:Int)<ps.length:=of_decide_eq_false hb
   have hj:j=ps.length:=by omega
   rw[hj,List.take_length] at j3
   refine JOIN.opq λ(J18:Int->List api_Parcel->Prop) hJ18 _=>IFB.mk (λhc=> ?_) (λhc=>JOIN.opq λ(J20:List api_Parcel->Prop) hJ20 _=> ?_)
   ·have hc:(c.length:Int)=60:=of_decide_eq_true hc
    rw[if_pos (by omega)] at hp
    rw[hJ18]
    exact bad 1 c (by decide) hp
   ·have hc:¬(c.length:Int)=60:=of_decide_eq_false hc
    rw[if_neg (by omega)] at hp
    have hwr:IntKind.i64.wrap ((c.length:Int)+1)=(c.length:Int)+1:=wrap_in (by omega) (by omega)
    rw[hwr]
    have hA:r.length<=4000000:=by omega
    have hA2:ps.length<=4000000:=by omega
    have hB:(c.length+[{Number:=(c.length:Int)+(1:Int),From:=day,Until:=(36865:Int),Parents:=ps,Days:=[day],Regions:=[{Rects:=r:api_Region}]:api_Parcel}].length) * 96<=140737488355328:=by
     simp only[List.length_cons,List.length_nil];omega
    have hJ:J20 (c++[{Number:=(c.length:Int)+(1:Int),From:=day,Until:=(36865:Int),Parents:=ps,Days:=[day],Regions:=[{Rects:=r:api_Region}]:api_Parcel}]):=by
     rw[hJ20,hJ18,hJ6,hJ3]
     refine IFB.no rfl ?_
     rw[j3]
     exact hp
    repeat' (first|exact hA|exact hA2|exact hB|exact hJ|with_reducible apply And.intro)
theorem papp4_ok:SpecOK Tryz.prog papp4_sp:=papp4_of λx post hp=>by
 obtain⟨l,e,u⟩:=x
 obtain⟨day,known,kind,ps,rs⟩:=e
 obtain⟨⟨hsz,hse,hk⟩,hp⟩:=hp
 have hk:kind=4:=hk
 subst hk
 exact HoldW.of (papp4_w l day known ps rs post) (papp4_h l day known ps rs (λy0 y1=>post (y0,y1,())) hsz hse hp)
def papp0_P (l:List (api_Parcel))(e:api_Edit)(post:List (api_Parcel)->Int->Prop):Prop:=(szL l/\szE e/\editS l e≠0)/\post l (editS l e)
def papp0_sp:Spec:=⟨49,false,true,[.sl (.st .api_Parcel),.st .api_Edit],.tup [.dat (.sl (.st .api_Parcel)),.dat (.int .i64)],λx post=>papp0_P (x.1:List (api_Parcel)) (x.2.1:api_Edit) (λy0 y1=>post (y0,y1,()))⟩
def papp0_C:CtxR:=⟨tau,[rule1 pedit_sp,rule1 pallO_sp,ruleNo 140],lookJ []⟩
def papp0_W (l:List (api_Parcel))(e:api_Edit)(post:List (api_Parcel)->Int->Prop):Prop:=(szL l/\szE {Day:=e.1,Known:=e.2,Kind:=e.3,Parcels:=e.4,Regions:=e.5:api_Edit})/\IFB (!decide (editS l {Day:=e.1,Known:=e.2,Kind:=e.3,Parcels:=e.4,Regions:=e.5:api_Edit}=0)) (szL l/\post l (editS l {Day:=e.1,Known:=e.2,Kind:=e.3,Parcels:=e.4,Regions:=e.5:api_Edit})) (szL l/\False)
theorem papp0_w (l:List (api_Parcel))(e:api_Edit)(post:dens (shT papp0_sp.rs [])->Prop):papp0_W l e (λy0 y1=>post (y0,y1,()))=walkG (callR Tryz.prog papp0_C (drawF Tryz.prog tau) 12 0) 49 false [tv (.sl (.st .api_Parcel)) l,tv (.st .api_Edit) e] papp0_sp.rs post:=by kernel_rfl
theorem papp0_of (h:∀l e post,papp0_P l e post->papp0_W l e post):SpecOK Tryz.prog papp0_sp:=SpecOK.of_rules (C:=papp0_C) (dr:=drawF Tryz.prog tau) (n:=12) (fk:=0) (.cons (rule1_ok pedit_ok) (.cons (rule1_ok pallO_ok) (.cons (ruleNo_ok 140) .nil))) (drawF_ok tau) λx post hp=>HoldW.of (papp0_w x.1 x.2.1 post) (h x.1 x.2.1 (λy0 y1=>post (y0,y1,())) hp)
theorem papp0_ok:SpecOK Tryz.prog papp0_sp:=papp0_of λl e post hp=>by
 obtain⟨⟨hsz,hse,hne⟩,hp⟩:=hp
 unfold papp0_W
 refine⟨⟨hsz,hse⟩,IFB.mk (λ_=>⟨hsz,hp⟩) (λhb=>absurd (by simpa using hb) hne)⟩
def pappN_P (l:List (api_Parcel))(e:api_Edit)(post:List (api_Parcel)->Int->Prop):Prop:=(szL l/\szE e/\e.Kind≠2)/\post (applyS l e).1 (applyS l e).2
def pappN_sp:Spec:=⟨49,false,true,[.sl (.st .api_Parcel),.st .api_Edit],.tup [.dat (.sl (.st .api_Parcel)),.dat (.int .i64)],λx post=>pappN_P (x.1:List (api_Parcel)) (x.2.1:api_Edit) (λy0 y1=>post (y0,y1,()))⟩
theorem applyS_err {l:List Pc}{e:Ed}(h:editS l e≠0):applyS l e=(l,editS l e):=by unfold applyS;rw[if_pos h]
theorem pappN_ok:SpecOK Tryz.prog pappN_sp:=λx post hp=>by
 obtain⟨l,e,u⟩:=x
 have hp:(szL l/\szE e/\e.Kind≠2)/\post ((applyS l e).1,(applyS l e).2,()):=hp
 obtain⟨⟨hsz,hse,hk⟩,hp⟩:=hp
 by_cases h:editS l e=0
 ·have hk2:=(editS_0.1 h).2.1
  have:e.Kind=1\/e.Kind=3\/e.Kind=4\/e.Kind=5:=by omega
  rcases this with h1|h1|h1|h1
  ·exact papp1_ok (l,e,()) post ⟨⟨hsz,hse,h1⟩,hp⟩
  ·exact papp3_ok (l,e,()) post ⟨⟨hsz,hse,h1⟩,hp⟩
  ·exact papp4_ok (l,e,()) post ⟨⟨hsz,hse,h1⟩,hp⟩
  ·exact papp5_ok (l,e,()) post ⟨⟨hsz,hse,h1⟩,hp⟩
 ·rw[applyS_err h] at hp
  exact papp0_ok (l,e,()) post ⟨⟨hsz,hse,h⟩,hp⟩
theorem asc_len {l:List Int}(h:asc l){a b:Int}(h0:0<l.length)(ha:a<=ix l 0)(hb:ix l ((l.length:Int)-1)<=b):(l.length:Int)<=b-a+1:=by
 have key:∀k:Nat,k<l.length->a+(k:Int)<=ix l (k:Int):=λk=>by
  induction k with
  |zero=>intro _;simpa using ha
  |succ k ih=>
   intro hk
   have:=ih (by omega)
   have:=h k hk
   push_cast
   push_cast at this
   omega
 have:=key (l.length-1) (by omega)
 rw[show ((l.length-1:Nat):Int)=(l.length:Int)-1 by omega] at this
 omega
theorem regP_out {l:List Pc}(h:regP l):∀p∈l,outP p/\0<=p.From/\p.From<=p.Until/\p.Until<=36865:=λp hp=>by
 obtain⟨i,hi,rfl⟩:=ix_ex hp
 obtain⟨_,h2,h3,h4,_,h5,_⟩:=h.1 i hi
 exact⟨h5,h2,h3,h4⟩
theorem regP_dlen {l:List Pc}(h:regP l):∀p∈l,p.Days.length<=36865:=λp hp=>by
 obtain⟨⟨o1,o2,o3,o4,o5,_⟩,f0,_⟩:=regP_out h p hp
 have:=asc_len o4 (a:=0) (b:=36864) o1 (by rw[o3];exact f0) (by omega)
 omega
theorem set_mem {α:Type}{l:List α}{k:Nat}{y x:α}(h:x∈l.set k y):x∈l\/x=y:=List.mem_or_eq_of_mem_set h
theorem endP_mem {day:Int}{l:List Pc}{k:Int}{p:Pc}(h1:1<=k)(h2:k<=(l.length:Int))(h:p∈endP day l k):∃q∈l,p.Number=q.Number/\p.From=q.From/\p.Parents=q.Parents/\p.Days=q.Days/\p.Regions=q.Regions:=by
 rcases set_mem h with h|h
 ·exact⟨p,h,rfl,rfl,rfl,rfl,rfl⟩
 ·exact⟨_,ix_mem (l:=l) (i:=k-1) (by omega) (by omega),by rw[h],by rw[h],by rw[h],by rw[h],by rw[h]⟩
theorem endL_mem {day:Int}:∀{ps:List Int}{l:List Pc}{p:Pc},(∀k∈ps,1<=k/\k<=(l.length:Int))->p∈endL day l ps->∃q∈l,p.Number=q.Number/\p.From=q.From/\p.Parents=q.Parents/\p.Days=q.Days/\p.Regions=q.Regions
 |[],l,p,_,h=>⟨p,h,rfl,rfl,rfl,rfl,rfl⟩
 |k::ps,l,p,hk,h=>by
  obtain⟨q,hq,a1,a2,a3,a4,a5⟩:=endL_mem (ps:=ps) (l:=endP day l k) (λj hj=>by rw[endP_len];exact hk j (by simp[hj])) h
  obtain⟨r,hr,b1,b2,b3,b4,b5⟩:=endP_mem (hk k (by simp)).1 (hk k (by simp)).2 hq
  exact⟨r,hr,a1.trans b1,a2.trans b2,a3.trans b3,a4.trans b4,a5.trans b5⟩
theorem addL_mem {day:Int}{ps:List Int}:∀{rs:List Rn}{l:List Pc}{p:Pc},p∈addL day ps l rs->p∈l\/∃(n:Int)(a:Rn),a∈rs/\p=newP n day ps a
 |[],l,p,h=> .inl h
 |a::rs,l,p,h=>by
  rcases addL_mem (rs:=rs) (l:=l++[newP ((l.length:Int)+1) day ps a]) h with h|⟨n,b,hb,h⟩
  ·rcases List.mem_append.1 h with h|h
   ·exact .inl h
   ·exact .inr ⟨_,a,by simp,by simpa using h⟩
  ·exact .inr ⟨n,b,by simp[hb],h⟩
theorem szP_like {p q:Pc}(h:szP q)(h3:p.Parents=q.Parents)(h4:p.Days=q.Days)(h5:p.Regions=q.Regions):szP p:=⟨by rw[h4];exact h.days,by rw[h5];exact h.regs,by rw[h3];exact h.pars,by rw[h5];exact h.rect⟩
theorem szP_new {n day:Int}{ps:List Int}{a:Rn}(h1:ps.length<=1000000)(h2:a.Rects.length<=1000000):szP (newP n day ps a):=⟨by simp[newP],by simp[newP],h1,λb hb=>by
 have:b=a:=by simpa [newP] using hb
 rw[this];exact h2⟩
theorem szL_add {day:Int}{ps:List Int}{l:List Pc}{rs:List Rn}(h:szL l)(h1:ps.length<=1000000)(h2:∀a∈rs,a.Rects.length<=1000000)(h3:l.length+rs.length<=1000000):szL (addL day ps l rs):=⟨by rw[addL_len];exact h3,λp hp=>by
 rcases addL_mem hp with hp|⟨n,a,ha,rfl⟩
 ·exact h.all p hp
 ·exact szP_new h1 (h2 a ha)⟩
theorem szL_end {day:Int}{ps:List Int}{l:List Pc}(h:szL l)(h1:∀k∈ps,1<=k/\k<=(l.length:Int)):szL (endL day l ps):=⟨by rw[endL_len];exact h.len,λp hp=>by
 obtain⟨q,hq,_,_,a3,a4,a5⟩:=endL_mem h1 hp
 exact szP_like (h.all q hq) a3 a4 a5⟩
theorem applyS_sz {l:List Pc}{e:Ed}(h:szL l)(he:szE e):szL (applyS l e).1:=by
 by_cases h0:editS l e=0
 rotate_left
 ·rw[applyS_err h0];exact h
 obtain⟨e1,e2,e3,⟨e4,e5⟩,e6,e7⟩:=editS_0.1 h0
 obtain⟨h60,hreg⟩:=checkS_0.1 e1
 have hop:∀k∈e.Parcels,1<=k/\k<=(l.length:Int):=λk hk=>⟨(e6 k hk).1,(e6 k hk).2.1⟩
 unfold applyS
 rw[if_neg (λh=>h h0)]
 have hrs:e.Regions.length<=8:=by unfold fitsP at e4;omega
 split
 ·split
  ·exact h
  ·split
   ·exact h
   ·exact szL_add h (by simp) he.rect (by omega)
 split
 ·rename_i hk
  split
  ·exact h
  ·have hps:e.Parcels.length=1:=by unfold fitsP at e4;omega
   have hrs1:e.Regions.length=1:=by unfold fitsP at e4;omega
   have hm:=ix_mem (l:=e.Parcels) (i:=0) (by omega) (by omega)
   obtain⟨o1,o2⟩:=hop _ hm
   have hq:=ix_mem (l:=l) (i:=ix e.Parcels 0-1) (by omega) (by omega)
   have hs:=h.all _ hq
   have hd:=regP_dlen hreg _ hq
   have hdr:=(regP_days hreg _ hq).2
   have hr0:=he.rect _ (ix_mem (l:=e.Regions) (i:=0) (by omega) (by omega))
   refine⟨by rw[List.length_set];exact h.len,λp hp=> ?_⟩
   rcases set_mem hp with hp|rfl
   ·exact h.all p hp
   ·generalize ix l (ix e.Parcels 0-1)=q at hs hd hdr
    unfold drawnP
    split
    ·exact⟨hs.days,by show (List.set _ _ _).length<=_;rw[List.length_set];exact hs.regs,hs.pars,λa ha=>by
      rcases set_mem ha with ha|rfl
      ·exact hs.rect a ha
      ·exact hr0⟩
    ·refine⟨by show (q.Days++[e.Day]).length<=_;rw[List.length_append,List.length_singleton];omega,by show (q.Regions++[ix e.Regions 0]).length<=_;rw[List.length_append,List.length_singleton];omega,hs.pars,λa ha=> ?_⟩
     rcases List.mem_append.1 ha with ha|ha
     ·exact hs.rect a ha
     ·rw[List.mem_singleton.1 ha];exact hr0
 split
 ·split
  ·exact h
  ·split
   ·exact h
   ·split
    ·exact h
    ·exact szL_add (szL_end h hop) he.pars he.rect (by rw[endL_len];omega)
 split
 ·split
  ·exact h
  ·split
   ·exact h
   ·rename_i hc _
    refine szL_add (szL_end h hop) he.pars (λa ha=> ?_) (by rw[endL_len];simp;omega)
    rw[List.mem_singleton.1 ha]
    show (canonF _).length<=_
    omega
 ·exact szL_end h hop
theorem szL_nil:szL []:=⟨by simp,λp hp=>by cases hp⟩
theorem runG_take {x:List Pc}{i:Int}:∀{l:List Ed},(∀e∈l,szE e)->szL x->szL (runG x i l).1:=by
 intro l
 induction l generalizing x i with
 |nil=>exact λ_ h=>h
 |cons e r ih=>
  intro he hx
  unfold runG
  split
  ·exact hx
  ·exact ih (λe' h'=>he e' (by simp[h'])) (applyS_sz hx (he e (by simp)))
end RE
end Go.Proofs.YtjcjdgmojkkioaaGreatDoor
set_option linter.unusedVariables false
set_option maxRecDepth 100000
namespace Go.Proofs.YtjcjdgmojkkioaaGreatDoor
open Go.RowKit
namespace RE
open PL
namespace PL
def pcl (n day u:Int)(ps:List Int)(a:Rn):Pc:=⟨n,day,u,ps,[day],[a]⟩
end PL
theorem regP_nil:regP []:=⟨λi hi=>absurd hi (Nat.not_lt_zero _),λi j hi=>absurd hi (Nat.not_lt_zero _)⟩
theorem ix_app1 {α:Type}[Inhabited α]{l:List α}{x:α}{i:Nat}(h:i<l.length):ix (l++[x]) (i:Int)=ix l (i:Int):=by
 rw[ix_lt (by rw[List.length_append];omega),ix_lt h,List.getElem_append_left h]
theorem ix_app2 {α:Type}[Inhabited α]{l:List α}{x:α}:ix (l++[x]) (l.length:Int)=x:=by
 rw[ix_lt (by rw[List.length_append,List.length_singleton];omega)];simp
theorem regP_snoc {l:List Pc}{p:Pc}(h:regP l)(hr:rightP l p)(hm:∀q∈l,¬meetPc p q):regP (l++[p]):=by
 refine⟨λi hi=> ?_,λi j hi hj=> ?_⟩
 ·rw[List.length_append,List.length_singleton] at hi
  rcases Nat.lt_or_ge i l.length with hlt|hge
  ·rw[ix_app1 hlt,List.take_append_of_le_length (by omega)];exact h.1 i hlt
  ·have:i=l.length:=by omega
   subst this
   rw[ix_app2,List.take_left' rfl];exact hr
 ·rw[List.length_append,List.length_singleton] at hi
  rcases Nat.lt_or_ge i l.length with hlt|hge
  ·rw[ix_app1 hlt,ix_app1 (by omega)];exact h.2 i j hlt hj
  ·have:i=l.length:=by omega
   subst this
   rw[ix_app2,ix_app1 hj]
   exact hm _ (ix_mem (by omega) (by omega))
theorem right_pcl {l:List Pc}{n d u:Int}{ps:List Int}{a:Rn}(hn:n=(l.length:Int)+1)(h0:0<=d)(hd:d<=u)(hu:u<=36865)(hd2:d<=36864)(hl:0<l.length->(ix l ((l.length:Int)-1)).From<=d)(ha:propR a)(hp:asc ps)(hq:∀k∈ps,1<=k/\k<=(l.length:Int)/\(ix l (k-1)).Until=d):rightP l (pcl n d u ps a):=
 ⟨hn,h0,hd,hu,hl,⟨Nat.zero_lt_one,rfl,rfl,λi hi=>absurd hi (by show ¬i+1<1;omega),(by show d<=min u 36864;omega),λb hb=>by
  have:b=a:=by simpa [pcl] using hb
  rw[this];exact ha⟩,hp,hq⟩
theorem asc_1 (k:Int):asc [k]:=λi hi=>absurd hi (by show ¬i+1<1;omega)
theorem asc_0:asc []:=λi hi=>absurd hi (by show ¬i+1<0;omega)
theorem asc_2 {j k:Int}(h:j<k):asc [j,k]:=λi hi=>by
 have hi:i+1<2:=hi
 have hi:i=0:=by omega
 subst hi;exact h
namespace PL
end PL
theorem check_reg {l:List Pc}(h:regP l)(h2:l.length<=60):checkS l=0:=checkS_0.2 ⟨h2,h⟩
end RE
end Go.Proofs.YtjcjdgmojkkioaaGreatDoor
set_option linter.unusedVariables false
set_option maxRecDepth 100000
namespace Go.Proofs.YtjcjdgmojkkioaaGreatDoor
open Go.RowKit
namespace RE
open PL
namespace PL
def okD (d:Int):Prop:=0<=d/\d<=36864
instance (d:Int):Decidable (okD d):=by unfold okD;infer_instance
def badAt (l:List Ed)(i:Nat):Prop:=¬okD (ix l (i:Int)).Day\/¬okD (ix l (i:Int)).Known\/(0<i/\(ix l (i:Int)).Known<(ix l ((i-1:Nat):Int)).Known)
def badK (l:List Ed):Prop:=∃i,i<l.length/\badAt l i
def bub (S:List Ed)(x:Ed):Nat->List Ed
 |0=>x::S
 |j+1=>if x.Day<(ix S (j:Int)).Day then bub S x j else S.take (j+1)++x::S.drop (j+1)
def isE (l:List Ed):List Ed:=l.foldl (λS x=>bub S x S.length) []
def knownL (l:List Ed)(day:Int):List Ed:=l.filter λe=>decide (e.Known<=day)
open Classical in
noncomputable def knownS (l:List Ed) (day:Int):List Ed×Int:=if badK l\/¬okD day then ([],9) else (isE (knownL l day),0)
end PL
theorem bub_perm {S:List Ed}{x:Ed}:∀{j:Nat},(bub S x j).Perm (x::S)
 |0=>List.Perm.refl _
 |j+1=>by
  unfold bub
  split
  ·exact bub_perm
  ·have:=List.perm_middle (a:=x) (l₁:=S.take (j+1)) (l₂:=S.drop (j+1))
   rwa [List.take_append_drop] at this
theorem isE_app {l:List Ed}{x:Ed}:isE (l++[x])=bub (isE l) x (isE l).length:=by unfold isE;rw[List.foldl_append];rfl
theorem isE_perm {l:List Ed}:(isE l).Perm l:=by
 have key:∀(n:Nat)(l:List Ed),l.length=n->(isE l).Perm l:=λn=>by
  induction n with
  |zero=>intro l h;rw[List.length_eq_zero_iff.1 h];exact List.Perm.refl _
  |succ n ih=>
   intro l h
   have hne:l≠[]:=λe=>by rw[e] at h;cases h
   obtain⟨m,x,e⟩:∃m x,l=m++[x]:=⟨l.dropLast,l.getLast hne,(List.dropLast_concat_getLast hne).symm⟩
   subst e
   rw[List.length_append,List.length_singleton] at h
   rw[isE_app]
   exact (bub_perm.trans (List.Perm.cons x (ih m (by omega)))).trans (List.perm_append_comm (l₁:=[x]) (l₂:=m))
 exact key _ l rfl
theorem isE_len {l:List Ed}:(isE l).length=l.length:=isE_perm.length_eq
theorem swap_at {P Q:List Ed}{a b:Ed}:((P++a::b::Q).set (P.length+1) a).set P.length b=P++b::a::Q:=by
 rw[List.set_append_right _ _ (by omega),List.set_append_right _ _ (by omega)]
 simp
theorem at_mid {P Q:List Ed}{a:Ed}{k:Nat}(h:k=P.length):ix (P++a::Q) (k:Int)=a:=by
 rw[ix_lt (by rw[List.length_append,List.length_cons];omega)]
 subst h;simp
theorem bub_step {S R:List Ed}{x:Ed}{j:Nat}(hj:j+1<=S.length):
 S.take (j+1)++x::(S.drop (j+1)++R)=S.take j++ix S (j:Int)::x::(S.drop (j+1)++R)/\S.take j++x::ix S (j:Int)::(S.drop (j+1)++R)=S.take j++x::(S.drop j++R):=by
 constructor
 ·have e:S.take (j+1)=S.take j++[ix S (j:Int)]:=by rw[ix_lt (by omega)];exact List.take_succ_eq_append_getElem (by omega)
  generalize S.drop (j+1)=D
  rw[e,List.append_assoc];rfl
 ·have e:S.drop j=ix S (j:Int)::S.drop (j+1):=by rw[ix_lt (by omega)];exact List.drop_eq_getElem_cons (by omega)
  rw[e];rfl
end RE
end Go.Proofs.YtjcjdgmojkkioaaGreatDoor
set_option linter.unusedVariables false
set_option maxRecDepth 100000
namespace Go.Proofs.YtjcjdgmojkkioaaGreatDoor
open Go.RowKit
namespace RE
open PL
namespace PL
def rcC (k w h:Int):Rn:=⟨[⟨10 * k,0,10 * k+w,h⟩]⟩
def colC (k:Int)(a:Rn):Prop:=∃w h:Int,1<=w/\w<=9/\1<=h/\h<=9/\a=rcC k w h
def edC (k:Int)(a:Rn):Ed:=⟨k,k,1,[],[a]⟩
def edD (n:Int)(a:Rn):Ed:=⟨5,30,2,[n],[a]⟩
def pcO (n day:Int)(a:Rn):Option Rn->Pc
 |none=>⟨n,day,36865,[],[day],[a]⟩
 |some r=>⟨n,day,36865,[],[day,5],[a,r]⟩
def regC (a b c:Rn)(oa ob oc:Option Rn):List Pc:=[pcO 1 0 a oa,pcO 2 1 b ob,pcO 3 2 c oc]
def inC (k:Int)(p:Pc):Prop:=∀a∈p.Regions,colC k a
end PL
theorem cov_1c {r:Rc}{x y:Int}(h:cov [r] x y=true):r.Left<=x/\x<r.Right:=by
 rw[cov_cons,cov_nil,Bool.or_false] at h
 unfold hit at h
 simp at h
 omega
theorem colC_prop {k:Int}{a:Rn}(h:colC k a)(h0:0<=k)(h2:k<=100):propR a:=by
 obtain⟨w,g,h1,h3,h4,h5,rfl⟩:=h
 have hp:proper ⟨10 * k,0,10 * k+w,g⟩:=⟨by show 0<=10 * k;omega,by show 10 * k<10 * k+w;omega,by show 10 * k+w<=16384;omega,Int.le_refl 0,by show 0<g;omega,by show g<=16384;omega⟩
 exact⟨by unfold rcC;simp,by show (1:Nat)<=120;omega,λq hq=>by rw[List.mem_singleton.1 hq];exact hp,canon_one hp⟩
theorem colC_apart {j k:Int}{a b:Rn}(h:colC j a)(h':colC k b)(hne:j≠k):¬meetP a.Rects b.Rects:=by
 obtain⟨w,g,h1,h3,h4,h5,rfl⟩:=h
 obtain⟨w',g',h1',h3',h4',h5',rfl⟩:=h'
 rintro ⟨_,_,x,y,q1,q2⟩
 have q1:10 * j<=x/\x<10 * j+w:=cov_1c (r:=⟨10 * j,0,10 * j+w,g⟩) q1
 have q2:10 * k<=x/\x<10 * k+w':=cov_1c (r:=⟨10 * k,0,10 * k+w',g'⟩) q2
 omega
theorem ix_mem0 {α:Type}[Inhabited α]{l:List α}{i:Nat}(h:i<l.length):ix l (i:Int)∈l:=ix_mem (by omega) (by omega)
theorem inC_apart {j k:Int}{p q:Pc}(h:inC j p)(h':inC k q)(hne:j≠k):¬meetPc p q:=by
 rintro ⟨a,b,h1,h2,_,h3⟩
 exact colC_apart (h _ (ix_mem0 h1)) (h' _ (ix_mem0 h2)) hne h3
theorem inC_pcO {n day k:Int}{a:Rn}{o:Option Rn}(h:colC k a)(ho:∀r,o=some r->colC k r):inC k (pcO n day a o):=by
 cases o with
 |none=>intro b hb;rw[List.mem_singleton.1 hb];exact h
 |some r=>
  intro b hb
  have hb:b∈[a,r]:=hb
  rcases List.mem_cons.1 hb with rfl|hb
  ·exact h
  ·rw[List.mem_singleton.1 hb];exact ho r rfl
theorem right_pcO {l:List Pc}{n day k:Int}{a:Rn}{o:Option Rn}(hn:n=(l.length:Int)+1)(h0:0<=day)(hd:day<=4)(hl:0<l.length->(ix l ((l.length:Int)-1)).From<=day)(hk:0<=k/\k<=100)(h:colC k a)(ho:∀r,o=some r->colC k r):rightP l (pcO n day a o):=by
 cases o with
 |none=>exact right_pcl (u:=36865) hn h0 (by omega) (by omega) (by omega) hl (colC_prop h hk.1 hk.2) asc_0 (λk hk=>by cases hk)
 |some r=>
  refine⟨hn,h0,by show day<=36865;omega,by show (36865:Int)<=36865;omega,hl,⟨by show 0<2;omega,rfl,rfl,asc_2 (by omega),by show (5:Int)<=min 36865 36864;omega,λb hb=> ?_⟩,asc_0,λk hk=>by cases hk⟩
  have hb:b∈[a,r]:=hb
  rcases List.mem_cons.1 hb with rfl|hb
  ·exact colC_prop h hk.1 hk.2
  ·rw[List.mem_singleton.1 hb];exact colC_prop (ho r rfl) hk.1 hk.2
theorem reg_C1 {a:Rn}{oa:Option Rn}(ha:colC 0 a)(qa:∀r,oa=some r->colC 0 r):regP [pcO 1 0 a oa]:=
 regP_snoc (l:=[]) regP_nil (right_pcO (k:=0) rfl (by omega) (by omega) (λh=>absurd h (by decide)) ⟨by omega,by omega⟩ ha qa) (λq hq=>by cases hq)
theorem from_pcO {n day:Int}{a:Rn}{o:Option Rn}:(pcO n day a o).From=day:=by cases o<;>rfl
theorem reg_C2 {a b:Rn}{oa ob:Option Rn}(ha:colC 0 a)(qa:∀r,oa=some r->colC 0 r)(hb:colC 1 b)(qb:∀r,ob=some r->colC 1 r):regP [pcO 1 0 a oa,pcO 2 1 b ob]:=
 regP_snoc (l:=[pcO 1 0 a oa]) (reg_C1 ha qa) (right_pcO (k:=1) rfl (by omega) (by omega) (λ_=>by show (pcO 1 0 a oa).From<=1;rw[from_pcO];omega) ⟨by omega,by omega⟩ hb qb) (λq hq=>by
  rw[List.mem_singleton.1 hq];exact inC_apart (inC_pcO hb qb) (inC_pcO ha qa) (by omega))
theorem reg_C {a b c:Rn}{oa ob oc:Option Rn}(ha:colC 0 a)(qa:∀r,oa=some r->colC 0 r)(hb:colC 1 b)(qb:∀r,ob=some r->colC 1 r)(hc:colC 2 c)(qc:∀r,oc=some r->colC 2 r):regP (regC a b c oa ob oc):=
 regP_snoc (l:=[pcO 1 0 a oa,pcO 2 1 b ob]) (reg_C2 ha qa hb qb) (right_pcO (k:=2) rfl (by omega) (by omega) (λ_=>by show (pcO 2 1 b ob).From<=2;rw[from_pcO];omega) ⟨by omega,by omega⟩ hc qc) (λq hq=>by
  simp only[List.mem_cons,List.not_mem_nil,or_false] at hq
  rcases hq with rfl|rfl
  ·exact inC_apart (inC_pcO hc qc) (inC_pcO ha qa) (by omega)
  ·exact inC_apart (inC_pcO hc qc) (inC_pcO hb qb) (by omega))
theorem none_q {k:Int}:∀r:Rn,(none:Option Rn)=some r->colC k r:=λr h=>by cases h
theorem create_C {l:List Pc}{k:Int}{a:Rn}(hr:regP l)(hlen:l.length<=10)(hk:0<=k/\k<=100)(ha:colC k a)(hd:dayS l<=k)(hm:∀p∈l,∃j,j≠k/\0<p.Regions.length/\inC j p):applyS l (edC k a)=(l++[newP ((l.length:Int)+1) k [] a],0):=by
 have he:editS l (edC k a)=0:=editS_0.2 ⟨check_reg hr (by omega),⟨by show (1:Int)<=1;decide,by show (1:Int)<=5;decide⟩,⟨hd,by show k<=36864;omega⟩,⟨.inl ⟨rfl,rfl,rfl⟩,asc_0⟩,λk hk=>(by cases hk),λb hb=>by rw[List.mem_singleton.1 hb];exact colC_prop ha hk.1 hk.2⟩
 unfold applyS
 rw[if_neg (λh=>h he),if_pos (show (edC k a).Kind=1 from rfl),if_neg (λh=>by
  obtain⟨p,hp,_,_,h3⟩:=h
  obtain⟨j,hj,hl,hin⟩:=hm p hp
  have e:((p.Regions.length:Int)-1)=((p.Regions.length-1:Nat):Int):=by omega
  refine colC_apart ha (hin (nowR p) ?_) (Ne.symm hj) h3
  unfold nowR
  rw[e];exact ix_mem0 (by omega)),if_neg (by omega)]
 rfl
theorem redraw_C {l:List Pc}{n:Nat}{k:Int}{r:Rn}(hr:regP l)(hlen:l.length<=10)(hn:n<l.length)(hnum:∀i:Nat,i<l.length->(ix l (i:Int)).Number=(i:Int)+1)(hu:(ix l (n:Int)).Until=36865)(hk:0<=k/\k<=100)(ha:colC k r)(hd:dayS l<=5)(hm:∀i:Nat,i<l.length->i≠n->∃j,j≠k/\0<(ix l (i:Int)).Regions.length/\inC j (ix l (i:Int))):
 applyS l (edD ((n:Int)+1) r)=(l.set n (drawnP (ix l (n:Int)) 5 r),0):=by
 have en:((n:Int)+1-1)=(n:Int):=by omega
 have he:editS l (edD ((n:Int)+1) r)=0:=editS_0.2 ⟨check_reg hr (by omega),⟨by show (1:Int)<=2;decide,by show (2:Int)<=5;decide⟩,⟨hd,by show (5:Int)<=36864;decide⟩,⟨.inr (.inl ⟨rfl,rfl,rfl⟩),asc_1 _⟩,λk hk=>(by
  rw[List.mem_singleton.1 hk];exact⟨by omega,by omega,by rw[en];exact hu⟩),λb hb=>by rw[List.mem_singleton.1 hb];exact colC_prop ha hk.1 hk.2⟩
 unfold applyS
 rw[if_neg (λh=>h he),if_neg (show ¬(edD ((n:Int)+1) r).Kind=1 from (by decide:¬(2:Int)=1)),if_pos (show (edD ((n:Int)+1) r).Kind=2 from rfl),if_neg (λh=>by
  obtain⟨p,hp,_,h2,h3⟩:=h
  obtain⟨i,hi,rfl⟩:=List.getElem_of_mem hp
  have h2:(l[i]).Number≠(n:Int)+1:=h2
  have hix:ix l (i:Int)=l[i]:=ix_lt hi
  rw[<-hix] at h2 h3
  have hin:i≠n:=λe=>h2 (by rw[hnum i hi,e])
  obtain⟨j,hj,hl,hin⟩:=hm i hi hin
  have e:(((ix l (i:Int)).Regions.length:Int)-1)=(((ix l (i:Int)).Regions.length-1:Nat):Int):=by omega
  refine colC_apart ha (hin (nowR (ix l (i:Int))) ?_) (Ne.symm hj) h3
  unfold nowR
  rw[e];exact ix_mem0 (by omega))]
 show (l.set ((n:Int)+1-1).toNat (drawnP (ix l ((n:Int)+1-1)) 5 r),(0:Int))=_
 rw[en,Int.toNat_natCast]
end RE
end Go.Proofs.YtjcjdgmojkkioaaGreatDoor
set_option linter.unusedVariables false
set_option maxRecDepth 100000
namespace Go.Proofs.YtjcjdgmojkkioaaGreatDoor
open Go.RowKit
namespace RE
open PL
namespace PL
def edsC (a b c:Rn):List Ed:=[edC 0 a,edC 1 b,edC 2 c]
end PL
theorem runC_3 {a b c:Rn}(ha:colC 0 a)(hb:colC 1 b)(hc:colC 2 c):runG [] 0 (edsC a b c)=(regC a b c none none none,3,0):=by
 have s1:applyS [] (edC 0 a)=([pcO 1 0 a none],0):=create_C (l:=[]) regP_nil (by decide) ⟨by omega,by omega⟩ ha (Int.le_refl 0) (λp hp=>by cases hp)
 have s2:applyS [pcO 1 0 a none] (edC 1 b)=([pcO 1 0 a none,pcO 2 1 b none],0):=create_C (l:=[pcO 1 0 a none]) (reg_C1 ha none_q) (by show 1<=10;omega) ⟨by omega,by omega⟩ hb (by show (0:Int)<=1;omega) (λp hp=>by
  rw[List.mem_singleton.1 hp];exact⟨0,by omega,by show 0<1;omega,inC_pcO ha none_q⟩)
 have s3:applyS [pcO 1 0 a none,pcO 2 1 b none] (edC 2 c)=(regC a b c none none none,0):=create_C (l:=[pcO 1 0 a none,pcO 2 1 b none]) (reg_C2 ha none_q hb none_q) (by show 2<=10;omega) ⟨by omega,by omega⟩ hc (by show (1:Int)<=2;omega) (λp hp=>by
  simp only[List.mem_cons,List.not_mem_nil,or_false] at hp
  rcases hp with rfl|rfl
  ·exact⟨0,by omega,by show 0<1;omega,inC_pcO ha none_q⟩
  ·exact⟨1,by omega,by show 0<1;omega,inC_pcO hb none_q⟩)
 unfold edsC runG
 rw[s1]
 rw[if_neg (λh=>h rfl)]
 unfold runG
 rw[s2]
 rw[if_neg (λh=>h rfl)]
 unfold runG
 rw[s3]
 rw[if_neg (λh=>h rfl)]
 rfl
theorem runG_snoc {l:List Ed}{e:Ed}{y:List Pc}:∀{x:List Pc}{i j:Int},runG x i l=(y,j,0)->(applyS y e).2=0->runG x i (l++[e])=((applyS y e).1,j+1,0):=by
 induction l with
 |nil=>
  intro x i j h h2
  unfold runG at h
  injection h with h1 h3
  injection h3 with h3 h4
  subst h1 h3
  show runG x i [e]=_
  unfold runG
  rw[if_neg (λh=>h h2)]
  rfl
 |cons q r ih=>
  intro x i j h h2
  unfold runG at h
  show runG x i (q::(r++[e]))=_
  unfold runG
  split
  ·rename_i hq
   rw[if_pos hq] at h
   injection h with h1 h3
   injection h3 with h3 h4
   exact absurd h4 hq
  ·rename_i hq
   rw[if_neg hq] at h
   exact ih h h2
namespace PL
def regD (n:Nat)(a b c r:Rn):List Pc:=match n with
 |0=>regC a b c (some r) none none
 |1=>regC a b c none (some r) none
 |_=>regC a b c none none (some r)
end PL
theorem draw_C {a b c r:Rn}{n:Nat}(hn:n<3)(ha:colC 0 a)(hb:colC 1 b)(hc:colC 2 c)(hr:colC (n:Int) r):applyS (regC a b c none none none) (edD ((n:Int)+1) r)=(regD n a b c r,0):=by
 have hreg:=reg_C ha none_q hb none_q hc none_q
 rw[redraw_C (l:=regC a b c none none none) (n:=n) (k:=(n:Int)) hreg (by show 3<=10;omega) (by show n<3;omega) (λi hi=>by
  have hi:i<3:=hi
  match i,hi with
  |0,_=>rfl
  |1,_=>rfl
  |2,_=>rfl) (by
  match n,hn with
  |0,_=>rfl
  |1,_=>rfl
  |2,_=>rfl) ⟨by omega,by omega⟩ hr (by show (2:Int)<=5;omega) (λi hi hne=> ?_)]
 ·match n,hn with
  |0,_=>rfl
  |1,_=>rfl
  |2,_=>rfl
 ·have hi:i<3:=hi
  match i,hi with
  |0,_=>exact⟨0,by omega,by show 0<1;omega,inC_pcO (n:=1) (day:=0) ha none_q⟩
  |1,_=>exact⟨1,by omega,by show 0<1;omega,inC_pcO (n:=2) (day:=1) hb none_q⟩
  |2,_=>exact⟨2,by omega,by show 0<1;omega,inC_pcO (n:=3) (day:=2) hc none_q⟩
theorem some_q {k:Int}{r:Rn}(h:colC k r):∀q:Rn,some r=some q->colC k q:=λq e=>by cases e;exact h
theorem reg_D {a b c r:Rn}{n:Nat}(hn:n<3)(ha:colC 0 a)(hb:colC 1 b)(hc:colC 2 c)(hr:colC (n:Int) r):regP (regD n a b c r):=by
 match n,hn with
 |0,_=>exact reg_C ha (some_q hr) hb none_q hc none_q
 |1,_=>exact reg_C ha none_q hb (some_q hr) hc none_q
 |2,_=>exact reg_C ha none_q hb none_q hc (some_q hr)
theorem known_29 {a b c r:Rn}{n:Int}:knownS (edsC a b c++[edD n r]) 29=(edsC a b c,0)/\knownS (edsC a b c++[edD n r]) 30=(edsC a b c++[edD n r],0):=by
 have hb:¬badK (edsC a b c++[edD n r]):=by
  rintro ⟨i,hi,h⟩
  have hi:i<4:=hi
  unfold badAt okD at h
  match i,hi with
  |0,_=>
   have h:¬(0<=(0:Int)/\(0:Int)<=36864)\/¬(0<=(0:Int)/\(0:Int)<=36864)\/(0<0/\_):=h
   omega
  |1,_=>
   have h:¬(0<=(1:Int)/\(1:Int)<=36864)\/¬(0<=(1:Int)/\(1:Int)<=36864)\/(0<1/\(1:Int)<0):=h
   omega
  |2,_=>
   have h:¬(0<=(2:Int)/\(2:Int)<=36864)\/¬(0<=(2:Int)/\(2:Int)<=36864)\/(0<2/\(2:Int)<1):=h
   omega
  |3,_=>
   have h:¬(0<=(5:Int)/\(5:Int)<=36864)\/¬(0<=(30:Int)/\(30:Int)<=36864)\/(0<3/\(30:Int)<2):=h
   omega
 constructor
 ·unfold knownS
  rw[if_neg (λh=>h.elim hb λh=>h (by decide))]
  rfl
 ·unfold knownS
  rw[if_neg (λh=>h.elim hb λh=>h (by decide))]
  rfl
theorem on_at {l:List Pc}{n:Nat}{d:Int}(hr:regP l)(hlen:l.length<=60)(hn:n<l.length)(ht:thereP (ix l (n:Int)) d):onP l ((n:Int)+1) d/\onS l ((n:Int)+1) d=outlS (ix l (n:Int)) d:=by
 have en:((n:Int)+1-1)=(n:Int):=by omega
 have h:onP l ((n:Int)+1) d:=⟨by omega,by omega,check_reg hr hlen,by rw[en];exact ht⟩
 refine⟨h,?_⟩
 unfold onS
 rw[if_pos h,en]
theorem there_pcO {n day d:Int}{a:Rn}{o:Option Rn}(h:day<=d)(h2:d<=100):thereP (pcO n day a o) d:=by
 cases o with
 |none=>exact⟨h,by show d<36865;omega⟩
 |some r=>exact⟨h,by show d<36865;omega⟩
theorem outl_n {n day d:Int}{a:Rn}:outlS (pcO n day a none) d=a:=by
 show outlF (pcO n day a none) d 1=a
 rw[outlF_succ]
 split<;>rfl
theorem outl_9 {n day:Int}{a r:Rn}:outlS (pcO n day a (some r)) 9=r:=by
 show outlF (pcO n day a (some r)) 9 2=r
 rw[outlF_succ]
 show (if (5:Int)<=9 then r else outlF (pcO n day a (some r)) 9 1)=r
 rw[if_pos (by omega)]
theorem outl_4 {n day:Int}{a r:Rn}(h:day<=4):outlS (pcO n day a (some r)) 4=a:=by
 show outlF (pcO n day a (some r)) 4 2=a
 rw[outlF_succ]
 show (if (5:Int)<=4 then r else outlF (pcO n day a (some r)) 4 1)=a
 rw[if_neg (by omega),outlF_succ]
 show (if day<=4 then a else outlF (pcO n day a (some r)) 4 0)=a
 rw[if_pos h]
theorem on_as {l:List Pc}{n:Nat}{d:Int}{p:Pc}{a:Rn}(hr:regP l)(hlen:l.length<=60)(hn:n<l.length)(hp:ix l (n:Int)=p)(ht:thereP p d)(ho:outlS p d=a):onP l ((n:Int)+1) d/\onS l ((n:Int)+1) d=a:=by
 subst hp ho
 exact on_at hr hlen hn ht
theorem corr_main {a b c r:Rn}{n:Nat}(hn:n<3)(ha:colC 0 a)(hb:colC 1 b)(hc:colC 2 c)(hr:colC (n:Int) r):∃x y:List Pc,runS (edsC a b c)=(x,3,0)/\runS (edsC a b c++[edD ((n:Int)+1) r])=(y,4,0)/\
 (onP x ((n:Int)+1) 9/\onS x ((n:Int)+1) 9=ix (ix (edsC a b c++[edD ((n:Int)+1) r]) (n:Int)).Regions 0)/\(onP y ((n:Int)+1) 9/\onS y ((n:Int)+1) 9=r)/\(onP y ((n:Int)+1) 4/\onS y ((n:Int)+1) 4=ix (ix (edsC a b c++[edD ((n:Int)+1) r]) (n:Int)).Regions 0):=by
 have h3:=runC_3 ha hb hc
 have hd:=draw_C hn ha hb hc hr
 have h4:=runG_snoc (e:=edD ((n:Int)+1) r) h3 (by rw[hd])
 rw[hd] at h4
 refine⟨regC a b c none none none,regD n a b c r,?_,?_,?_,?_,?_⟩
 ·unfold runS
  rw[if_neg (by show ¬120<3;omega)]
  exact h3
 ·unfold runS
  rw[if_neg (by show ¬120<4;omega)]
  exact h4
 ·clear h3 h4 hd
  match n,hn with
  |0,_=>exact on_as (l:=regC a b c none none none) (n:=0) (d:=9) (p:=pcO 1 0 a none) (reg_C ha none_q hb none_q hc none_q) (by show 3<=60;omega) (by show 0<3;omega) rfl (there_pcO (by omega) (by omega)) outl_n
  |1,_=>exact on_as (l:=regC a b c none none none) (n:=1) (d:=9) (p:=pcO 2 1 b none) (reg_C ha none_q hb none_q hc none_q) (by show 3<=60;omega) (by show 1<3;omega) rfl (there_pcO (by omega) (by omega)) outl_n
  |2,_=>exact on_as (l:=regC a b c none none none) (n:=2) (d:=9) (p:=pcO 3 2 c none) (reg_C ha none_q hb none_q hc none_q) (by show 3<=60;omega) (by show 2<3;omega) rfl (there_pcO (by omega) (by omega)) outl_n
 ·clear h3 h4 hd
  have hreg:=reg_D hn ha hb hc hr
  match n,hn with
  |0,_=>exact on_as (l:=regD 0 a b c r) (n:=0) (d:=9) (p:=pcO 1 0 a (some r)) hreg (by show 3<=60;omega) (by show 0<3;omega) rfl (there_pcO (by omega) (by omega)) outl_9
  |1,_=>exact on_as (l:=regD 1 a b c r) (n:=1) (d:=9) (p:=pcO 2 1 b (some r)) hreg (by show 3<=60;omega) (by show 1<3;omega) rfl (there_pcO (by omega) (by omega)) outl_9
  |2,_=>exact on_as (l:=regD 2 a b c r) (n:=2) (d:=9) (p:=pcO 3 2 c (some r)) hreg (by show 3<=60;omega) (by show 2<3;omega) rfl (there_pcO (by omega) (by omega)) outl_9
 ·clear h3 h4 hd
  have hreg:=reg_D hn ha hb hc hr
  match n,hn with
  |0,_=>exact on_as (l:=regD 0 a b c r) (n:=0) (d:=4) (p:=pcO 1 0 a (some r)) hreg (by show 3<=60;omega) (by show 0<3;omega) rfl (there_pcO (by omega) (by omega)) (outl_4 (by omega))
  |1,_=>exact on_as (l:=regD 1 a b c r) (n:=1) (d:=4) (p:=pcO 2 1 b (some r)) hreg (by show 3<=60;omega) (by show 1<3;omega) rfl (there_pcO (by omega) (by omega)) (outl_4 (by omega))
  |2,_=>exact on_as (l:=regD 2 a b c r) (n:=2) (d:=4) (p:=pcO 3 2 c (some r)) hreg (by show 3<=60;omega) (by show 2<3;omega) rfl (there_pcO (by omega) (by omega)) (outl_4 (by omega))
end RE
end Go.Proofs.YtjcjdgmojkkioaaGreatDoor
namespace Go.Proofs.YtjcjdgmojkkioaaGreatDoor
namespace RE
open Go.RowKit
variable {P:Program}
theorem OX.toFro {ob:Obs}{U:Nat->Prop}{tp:Bool}{w:World}{c:Cx}(h:OX ob U tp w c){id:Nat}{x:Ob}(hid:ob id=some x)(ho:x.own=true){t:Ty}{l:List (den t)}(hrd:∀S':Cells,(∀b o,c.S b o->S' b o)->(∀b,c.F id b->∀o,S' b o)->Rd S' w (.sl t l) (c.H id))(hsl:l=[]\/∃b n cap,c.H id= .slice (some ⟨b,0,none⟩) n cap):
 ∃c',OX (put ob id (some (.fro t l))) U tp w c'/\Tr ob U w c (put ob id (some (.fro t l))) U w c'/\c'.H=c.H:=by
 obtain⟨hU,_,_⟩:=h.objs id _ hid
 let S':Cells:=λb o=>c.S b o\/c.F id b
 have hS:∀b o,c.S b o->S' b o:=λ_ _ h=> .inl h
 obtain⟨k1,k2⟩:=h.upd (ob':=put ob id (some (.fro t l))) (w':=w) (c':=⟨S',c.H,c.F,c.T⟩) id (.fro t l) (λi=>i≠id) (λ_ h=>h) hU (put_same _ _ _) (λi y hi e=>⟨e,by rw[put_ne _ _ e] at hi;exact hi⟩) (λe=>e rfl) (λ_ _=>⟨rfl,rfl⟩) hS
  (λb o hb=>by
   rcases hb with hb|hb
   ·exact .inl hb
   ·exact .inr (.inl ⟨id,_,hid,ho,λe=>e rfl,hb⟩))
  (λb o hb=>by
   rcases hb with hb|hb
   ·exact h.sb b o hb
   ·exact (h.fb id _ hid ho b hb).1) rfl rfl rfl rfl (Nat.le_refl _) (λ_ _ _=>rfl) ⟨hrd S' hS λb hb o=> .inr hb,hsl⟩ trivial (λe=>by cases e) (λe=>by cases e)
 exact⟨_,k1,k2,rfl⟩
theorem DpAt.rd {w:World}{S S':Cells}{v:Value}{F:Nat->Prop}{e:TypeId}{t:Ty}{l:List (den t)}(h:DpAt w S v F e t l)(hS:∀b o,S b o->S' b o)(hF':∀b,F b->∀o,S' b o):Rd S' w (.sl t l) v/\(l=[]\/∃b n cap,v= .slice (some ⟨b,0,none⟩) n cap):=by
 obtain⟨h0,⟨hl,⟨ad,hv⟩,_⟩|⟨g,cap,cur,Fi,hv,hF,hg1,hg2,hg,h1,h2,h3,h4⟩⟩:=h
 ·subst hl
  rw[hv];exact⟨Rd.nil _ _ _ (Nat.zero_le _),.inl rfl⟩
 ·refine⟨?_,.inr ⟨_,_,_,hv⟩⟩
  rw[hv]
  refine rd_cells h1 h2 (λi x hx j d hd=> ?_) λo=>hF' g ((hF g).2 (.inl rfl)) o
  obtain⟨u,u1,u2,u3⟩:=h4 i x hx j d hd
  refine⟨u,by rw[cell_row hg];exact u1,u2,?_⟩
  unfold CellD at u3
  split at u3
  ·exact Rd.mono hS (λ_ _ _=>rfl) u3
  ·obtain⟨li,hd',hrow⟩:=u3
   rw[hd']
   exact hrow.rd hS λb hb o=>hF' b ((hF b).2 (.inr ⟨i,j,(List.getElem?_eq_some_iff.1 hx).1,hb⟩)) o
def wordD (ob:Obs):SV->Option D
 | .d d=>some d
 | .os id=>match ob id with
  |some (.fro t l)=>some (.sl t l)
  |_=>none
 |_=>none
def wordsD (ob:Obs):List SV->Option (List D)
 |[]=>some []
 |s::r=>match wordD ob s,wordsD ob r with
  |some d,some ds=>some (d::ds)
  |_,_=>none
theorem wordsD_spec {ob:Obs}:∀{cs:List SV}{ds:List D},wordsD ob cs=some ds->ds.length=cs.length/\∀(j:Nat)(s:SV)(d:D),cs[j]? =some s->ds[j]? =some d->wordD ob s=some d
 |[],ds,h=>by
  injection h with h
  subst h
  exact⟨rfl,λj s d hs=>by simp at hs⟩
 |s::r,ds,h=>by
  unfold wordsD at h
  split at h
  ·rename_i d ds' h1 h2
   injection h with h
   subst h
   obtain⟨k1,k2⟩:=wordsD_spec h2
   refine⟨by simp[k1],λj s' d' hs hd=> ?_⟩
   cases j with
   |zero=>simp at hs hd;subst hs hd;exact h1
   |succ j=>simp at hs hd;exact k2 j s' d' hs hd
  ·cases h
theorem wordD_rd {ob:Obs}{U:Nat->Prop}{tp:Bool}{w:World}{c:Cx}(h:OX ob U tp w c){s:SV}{d:D}(hd:wordD ob s=some d){u:Value}(hr:SRel c w s u):Rd c.S w d u:=by
 unfold wordD at hd
 split at hd
 ·injection hd with hd;subst hd;exact srel_d hr
 ·rename_i id
  split at hd
  ·rename_i t l hob
   injection hd with hd
   subst hd
   rw[srel_os hr]
   exact (h.objs id _ hob).2.2.1
  ·cases hd
 ·cases hd
theorem FocAt.rd {ob:Obs}{U:Nat->Prop}{tp:Bool}{w:World}{c:Cx}(h:OX ob U tp w c){id:Nat}{e:TypeId}{t:Ty}{l:List (den t)}{k:Int}{cs:List SV}(hf:FocAt w c id e t l k cs){ds:List D}(hw:wordsD ob cs=some ds){x:den t}(hx:dec t ds=some x){S':Cells}(hS:∀b o,c.S b o->S' b o)(hF':∀b,c.F id b->∀o,S' b o):
 Rd S' w (.sl t (l.set k.toNat x)) (c.H id)/\∃b n cap,c.H id= .slice (some ⟨b,0,none⟩) n cap:=by
 obtain⟨h0,h1,h2,h3,g,cap,cur,q1,q2,q3,q4,q5,q6,q7,q8⟩:=hf
 have hkl:k.toNat<l.length:=by omega
 refine⟨?_,_,_,_,q1⟩
 rw[q1]
 have hlen:(l.set k.toNat x).length=l.length:=List.length_set ..
 rw[<-hlen]
 refine rd_cells (by rw[hlen];exact q4) q5 (λi y hy j d hd=> ?_) λo=>hF' g ((q2 g).2 rfl) o
 rw[List.getElem?_set] at hy
 by_cases e:k.toNat=i
 ·subst e
  rw[if_pos rfl,if_pos hkl] at hy
  injection hy with hy
  subst hy
  obtain⟨w1,w2⟩:=wordsD_spec hw
  obtain⟨d1,d2⟩:=dec_rd hx
  have hjl:=enc_lt hd
  have hjc:j<cs.length:=by rw[h3];exact hjl
  have hjd:j<ds.length:=by rw[w1];exact hjc
  obtain⟨u,u1,u2,u3⟩:=q8 j cs[j] (List.getElem?_eq_getElem hjc)
  refine⟨u,by rw[cell_row q3];exact u1,u2,?_⟩
  have:=wordD_rd h (w2 j cs[j] ds[j] (List.getElem?_eq_getElem hjc) (List.getElem?_eq_getElem hjd)) u3
  exact (d2 j d ds[j] hd (List.getElem?_eq_getElem hjd) this).mono hS λ_ _ _=>rfl
 ·rw[if_neg e] at hy
  obtain⟨u,u1,u2,u3⟩:=q7 i y hy (λe'=>e e'.symm) j d hd
  exact⟨u,by rw[cell_row q3];exact u1,u2,u3.mono hS λ_ _ _=>rfl⟩
def stl1 (m:MS)(i:Nat):MS:=match m.obs i with
 |some (.dp _ t l)=>⟨(i,some (.fro t l))::m.ob,m.nx,m.tp⟩
 |some (.foc _ t l k cs)=>match wordsD m.obs cs with
  |some ds=>match dec t ds with
   |some x=>⟨(i,some (.fro t (l.set k.toNat x)))::m.ob,m.nx,m.tp⟩
   |none=>m
  |none=>m
 |some (.als k)=>match m.obs k with
  |some (.fro t l)=>⟨(i,some (.fro t l))::m.ob,m.nx,m.tp⟩
  |_=>m
 |_=>m
def StlOK (m m':MS):Prop:=FrM m m'/\∀w c,OXM m w c->∃c',OXM m' w c'/\TrM m w c m' w c'/\c'.H=c.H
theorem StlOK.refl (m:MS):StlOK m m:=⟨.refl m,λw c h=>⟨c,h,.refl,rfl⟩⟩
theorem StlOK.trans {a b d:MS}(h:StlOK a b)(k:StlOK b d):StlOK a d:=⟨h.1.trans k.1,λw c ho=>by
 obtain⟨c1,o1,t1,e1⟩:=h.2 w c ho
 obtain⟨c2,o2,t2,e2⟩:=k.2 w c1 o1
 exact⟨c2,o2,t1.trans t2,e2.trans e1⟩⟩
theorem stl_put {m:MS}{i:Nat}{x:Ob}(h:∀w c,OXM m w c->∃c',OX (put m.obs i (some x)) m.U m.tp w c'/\Tr m.obs m.U w c (put m.obs i (some x)) m.U w c'/\c'.H=c.H):StlOK m ⟨(i,some x)::m.ob,m.nx,m.tp⟩:=by
 have ho:(MS.obs ⟨(i,some x)::m.ob,m.nx,m.tp⟩)=put m.obs i (some x):=lookO_cons _ _ _
 refine⟨⟨⟨[(i,some x)],rfl⟩,id⟩,λw c hc=> ?_⟩
 obtain⟨c',h1,h2,h3⟩:=h w c hc
 refine⟨c',?_,?_,h3⟩
 ·show OX _ _ _ _ _
  rw[ho];exact h1
 ·show Tr _ _ _ _ _ _ _ _
  rw[ho];exact h2
theorem stl1_ok (m:MS)(i:Nat):StlOK m (stl1 m i):=by
 unfold stl1
 split
 ·rename_i e t l hob
  refine stl_put λw c hc=> ?_
  have hat:DpAt w c.S (c.H i) (c.F i) e t l:=(hc.objs i _ hob).2.2
  exact hc.toFro hob rfl (λS' hS hF=>(hat.rd hS hF).1) (hat.rd (S':=λb o=>c.S b o\/c.F i b) (λ_ _ h=> .inl h) λb hb o=> .inr hb).2
 ·rename_i e t l k cs hob
  split
  ·rename_i ds hw
   split
   ·rename_i x hx
    refine stl_put λw c hc=> ?_
    have hat:FocAt w c i e t l k cs:=(hc.objs i _ hob).2.2
    exact hc.toFro hob rfl (λS' hS hF=>(hat.rd hc hw hx hS hF).1) (.inr (hat.rd hc hw hx (S':=λb o=>c.S b o\/c.F i b) (λ_ _ h=> .inl h) λb hb o=> .inr hb).2)
   ·exact .refl m
  ·exact .refl m
 ·rename_i k hob
  split
  ·rename_i t l hobk
   refine stl_put λw c hc=> ?_
   obtain⟨u1,u2,u3⟩:=hc.objs i _ hob
   have u3:c.H i=c.H k:=u3
   obtain⟨v1,v2,v3⟩:=hc.objs k _ hobk
   obtain⟨k1,k2⟩:=hc.upd (ob':=put m.obs i (some (.fro t l))) (w':=w) (c':=c) i (.fro t l) (λj=>j≠i) (λ_ h=>h) u1 (put_same _ _ _) (λj y hj e=>⟨e,by rw[put_ne _ _ e] at hj;exact hj⟩) (λe=>e rfl) (λ_ _=>⟨rfl,rfl⟩) (λ_ _ h=>h) (λ_ _ h=> .inl h) (λb o hb=>hc.sb b o hb) rfl rfl rfl rfl (Nat.le_refl _) (λ_ _ _=>rfl) (by
    have v3:Rd c.S w (.sl t l) (c.H k)/\(l=[]\/∃b n cap,c.H k= .slice (some ⟨b,0,none⟩) n cap):=v3
    rw[<-u3] at v3
    exact v3) trivial (λe=>by cases e) (λe=>by cases e)
   exact⟨c,k1,k2,rfl⟩
  ·exact .refl m
 ·exact .refl m
def stlL:List Nat->MS->MS
 |[],m=>m
 |i::r,m=>stlL r (stl1 m i)
theorem stlL_ok:∀(l:List Nat)(m:MS),StlOK m (stlL l m)
 |[],m=> .refl m
 |i::r,m=>(stl1_ok m i).trans (stlL_ok r _)
def rowIds:List SV->List Nat
 |[]=>[]
 | .os id::r=>id::rowIds r
 |_::r=>rowIds r
def focIds (m:MS):List Nat->List Nat
 |[]=>[]
 |i::r=>match m.obs i with
  |some (.foc _ _ _ _ cs)=>rowIds cs++focIds m r
  |_=>focIds m r
def fzM (m:MS)(ids:List Nat):MS:=⟨fzU m.obs ids++m.ob,m.nx,m.tp⟩
theorem fzM_ok (m:MS)(ids:List Nat):StlOK m (fzM m ids):=by
 have ho:(fzM m ids).obs=ovr m.obs (fzU m.obs ids):=lookO_app _ _
 refine⟨⟨⟨_,rfl⟩,id⟩,λw c hc=> ?_⟩
 obtain⟨c',h1,h2,h3,_⟩:=hc.freezes ids
 refine⟨c',?_,?_,h3⟩
 ·show OX _ _ _ _ _
  rw[ho];exact h1
 ·show Tr _ _ _ _ _ _ _ _
  rw[ho];exact h2
def upN:Nat->List Nat
 |0=>[]
 |n+1=>upN n++[n]
def settle (m:MS):MS:=stlL (upN m.nx) (stlL (upN m.nx) (fzM m (focIds m (upN m.nx))))
theorem settle_ok (m:MS):StlOK m (settle m):=((fzM_ok m _).trans (stlL_ok _ _)).trans (stlL_ok _ _)
def stlCP (cp:CP):CP:=λf ss m k=>cp f ss m λr m'=>k r (settle m')
theorem stlCP_ok {cp:CP}(h:CallOK P cp):CallOK P (stlCP cp):=by
 intro f ss m k hk us w c hox hl hr
 refine (h f ss m _ hk us w c hox hl hr).mono ?_
 rintro e w' ⟨v,s,m',c',rfl,h1,h2,h3,h4,h5,h6⟩
 obtain⟨q1,q2⟩:=settle_ok m'
 obtain⟨c2,o2,t2,e2⟩:=q2 w' c' h3
 exact⟨v,s,settle m',c2,rfl,h1,h2.trans q1,o2,h4.trans t2,t2.srel h3 h5 h6,SV.inU_mono t2.uU _ h6⟩
theorem SpecOK.of_rulesS {C:CtxR}{dr:DR}(hR:RulesOK P C.rs)(hdr:DrOK P dr){n fk:Nat}{s:Spec}(h:∀x post,s.pt x post->HoldW (walkG (stlCP (callR P C dr n fk)) s.f s.tp (tvs s.ts x) s.rs post)):SpecOK P s:=
 SpecOK.of_walkG (stlCP_ok (callR_ok hR hdr n fk)) λx post hp=>(h x post hp).h
structure SpecL where
 f:FuncId
 t:Ty
 ts:List Ty
 pt:List (den t)->dens ts->(Bool->Prop)->Prop
def SpecLOK (P:Program)(s:SpecL):Prop:=∀l x post,s.pt l x post->∀(w:World)(S:Cells)(v:Value)(b:Nat)(T:TypeId)(us:List Value),w.heap[b]? =some (.cells #[v] T (0,0))->Rd S w (.sl s.t l) v->(l=[]\/∃b n cap,v= .slice (some ⟨b,0,none⟩) n cap)->(∀b o,S b o->b<w.heap.size)->(∀o,¬S b o)->us.length=s.ts.length->
 (∀(i:Nat)(d:D)(u:Value),(tvs s.ts x)[i]? =some d->us[i]? =some u->Rd S w d u)->
 Calls P s.f (.pointer (some ⟨b,0,none⟩)::us).toArray w λe w'=>∃q,e= .returned (.bool q)/\post q/\w'.os=w.os/\w'.tape=w.tape/\w'.output=w.output/\w.heap.size<=w'.heap.size/\(∀k,k<w.heap.size->k≠b->w'.heap[k]? =w.heap[k]?)/\∃T',w'.heap[b]? =some (.cells #[v] T' (0,0))
def looksM (t:Ty)(l:List (den t)):MS:=⟨[(0,some (.box [.os 1])),(1,some (.fro t l))],2,false⟩
def sameL (m:MS):Bool:=match m.obs 0 with
 |some (.box [.os i])=>Nat.beq i 1
 |_=>false
def fitB (post:Bool->Prop)(r:SV)(m:MS):Prop:=match r with
 | .d (.v (.bool q))=>bif sameL m then post q else False
 |_=>False
def walkL (cp:CP)(f:FuncId)(t:Ty)(l:List (den t))(ds:List D)(post:Bool->Prop):Prop:=cp f (.bx 0 0::ds.map SV.d) (looksM t l) (fitB post)
theorem SpecLOK.of_cp {cp:CP}(hcp:CallOK P cp){s:SpecL}(h:∀l x post,s.pt l x post->walkL cp s.f s.t l (tvs s.ts x) post):SpecLOK P s:=by
 intro l x post hp w S v b T us hb hrd hsl hS hSb hus hr
 have hbl:b<w.heap.size:=(Array.getElem?_eq_some_iff.1 hb).1
 let c0:Cx:=⟨S,λi=>if i=0 then .pointer (some ⟨b,0,none⟩) else v,λi=>if i=0 then (·=b) else λ_=>False,none⟩
 have hobs:∀id x,(looksM s.t l).obs id=some x->(id=0/\x= .box [.os 1])\/(id=1/\x= .fro s.t l):=λid x hx=>by
  have hx:lookO [(0,some (.box [.os 1])),(1,some (.fro s.t l))] id=some x:=hx
  rw[lookO_cons,lookO_cons] at hx
  by_cases e:id=0
  ·subst e;rw[put_same] at hx;injection hx with hx;exact .inl ⟨rfl,hx.symm⟩
  ·rw[put_ne _ _ e] at hx
   by_cases e1:id=1
   ·subst e1;rw[put_same] at hx;injection hx with hx;exact .inr ⟨rfl,hx.symm⟩
   ·rw[put_ne _ _ e1] at hx;cases hx
 have hv1:v.oneCell'=true:=by
  obtain⟨ad,cap,_,_,_,e,_⟩:=hrd.slInv
  rw[e];rfl
 have hox:OXM (looksM s.t l) w c0:=by
  refine⟨hS,λid x hx=> ?_,λid x hx ho k hk=> ?_,λi j x y hx ho hy ho' hne k hk=> ?_,λT hT=>(by cases hT),λe=>(by cases e),λ_=>rfl⟩
  ·rcases hobs id x hx with⟨rfl,rfl⟩|⟨rfl,rfl⟩
   ·refine⟨by show 0<2;omega,⟨by show 1<2;omega,trivial⟩,b,[v],T,rfl,λ_=>Iff.rfl,hb,rfl,λu hu=>by rw[List.mem_singleton] at hu;rw[hu];exact hv1,λj s u hs hu=> ?_⟩
    match j,hs,hu with
    |0,hs,hu=>
     cases hs;cases hu
     exact SRel.os (c:=c0) (w:=w) 1
    |j+1,hs,hu=>cases hs
   ·exact⟨by show 1<2;omega,trivial,hrd,hsl⟩
  ·rcases hobs id x hx with⟨rfl,rfl⟩|⟨rfl,rfl⟩
   ·have hk:k=b:=hk
    subst hk
    exact⟨hbl,hSb,λe=>by cases e⟩
   ·cases ho
  ·rcases hobs i x hx with⟨rfl,rfl⟩|⟨rfl,rfl⟩
   ·rcases hobs j y hy with⟨rfl,rfl⟩|⟨rfl,rfl⟩
    ·exact absurd rfl hne
    ·cases ho'
   ·cases ho
 have hargs:∀(i:Nat)(q:SV)(u:Value),(SV.bx 0 0::(tvs s.ts x).map SV.d)[i]? =some q->(Value.pointer (some ⟨b,0,none⟩)::us)[i]? =some u->SRel c0 w q u/\q.inU (looksM s.t l).U:=λi q u hq hu=>by
  cases i with
  |zero=>
   simp at hq hu
   subst hq hu
   exact⟨.bx 0 0 b rfl,by show 0<2;omega⟩
  |succ i=>
   simp only[List.getElem?_cons_succ] at hq hu
   rw[List.getElem?_map,Option.map_eq_some_iff] at hq
   obtain⟨d,hd,rfl⟩:=hq
   exact⟨.d _ _ (hr i d u hd hu),trivial⟩
 refine (hcp _ _ _ _ (h l x post hp) _ w c0 hox (by simp[hus,tvs_len]) hargs).mono ?_
 rintro e w' ⟨rv,q,m',c',rfl,hfit,hfr,hox',htr,hsr,hu⟩
 unfold fitB at hfit
 split at hfit
 rotate_left
 ·exact hfit.elim
 rename_i q
 cases hsm:sameL m' with
 |false=>rw[hsm] at hfit;exact hfit.elim
 |true=>
 rw[hsm] at hfit
 have hrv:=srel_v hsr
 subst hrv
 have hFP:∀k,FP (looksM s.t l).obs c0 k->k=b:=λk ⟨id,x,hx,ho,hk⟩=>by
  rcases hobs id x hx with⟨rfl,rfl⟩|⟨rfl,rfl⟩
  ·exact hk
  ·cases ho
 refine⟨q,rfl,hfit,htr.os,htr.tape,htr.output,htr.sz,λk hk hne=>htr.blk k hk (λhf=>hne (hFP k hf)) (λe=>by cases e),?_⟩
 unfold sameL at hsm
 split at hsm
 ·rename_i i hob
  have hi:=beq_eq hsm
  subst hi
  obtain⟨b',arr,T',e1,e2,e3,e4,e5,e6⟩:=(hox'.objs 0 _ hob).2.2
  have hH0:c'.H 0= .pointer (some ⟨b,0,none⟩):=(htr.hH 0 (by show 0<2;omega)).1
  have hH1:c'.H 1=v:=(htr.hH 1 (by show 1<2;omega)).1
  rw[hH0] at e1
  injection e1 with e1
  injection e1 with e1
  injection e1 with e1
  subst e1
  match arr,e4,e3,e6 with
  |[u],_,e3,e6=>
   have hu:=srel_os (e6 0 (.os 1) u rfl rfl)
   rw[hH1] at hu
   subst hu
   exact⟨T',e3⟩
 ·cases hsm
theorem SpecLOK.of_rules {C:CtxR}{dr:DR}(hR:RulesOK P C.rs)(hdr:DrOK P dr){n fk:Nat}{s:SpecL}(h:∀l x post,s.pt l x post->HoldW (walkL (callR P C dr n fk) s.f s.t l (tvs s.ts x) post)):SpecLOK P s:=
 SpecLOK.of_cp (callR_ok hR hdr n fk) λl x post hp=>(h l x post hp).h
def rowLk (m:MS)(t:Ty)(id:Nat):Option (List (den t)):=match m.obs id with
 |some (.dp _ t' l)=>castL t t' l
 |some (.row _ t' l)=>castL t t' l
 |some (.fro t' l)=>castL t t' l
 |_=>none
def datsL:List SV->Option (List D)
 |[]=>some []
 |s::r=>match datIs s,datsL r with
  |some d,some ds=>some (d::ds)
  |_,_=>none
theorem datsL_eq:∀{ss:List SV}{ds:List D},datsL ss=some ds->ss=ds.map SV.d
 |[],ds,h=>by injection h with h;subst h;rfl
 |s::r,ds,h=>by
  unfold datsL at h
  split at h
  ·rename_i d ds' h1 h2
   injection h with h
   subst h
   unfold datIs at h1
   split at h1
   ·injection h1 with h1
    subst h1
    rw[datsL_eq h2];rfl
   ·cases h1
  ·cases h
def lookCp (s:SpecL)(ss:List SV)(m:MS)(k:SV->MS->Prop):Prop:=match ss with
 | .bx id 0::r=>match m.obs id with
  |some (.box [.os i])=>match rowLk m s.t i,datsL r with
   |some l,some ds=>match undoL s.ts ds with
    |some x=>s.pt l x λq=>k (.d (.v (.bool q))) m
    |none=>False
   |_,_=>False
  |_=>False
 |_=>False
def ruleL (s:SpecL):Rule:=⟨s.f,lookCp s⟩
theorem ruleL_ok {s:SpecL}(hs:SpecLOK P s):RuleOK P (ruleL s):=by
 intro ss m k hk us w c hox hl hr
 replace hk:lookCp s ss m k:=hk
 unfold lookCp at hk
 split at hk
 rotate_left
 ·exact hk.elim
 rename_i id r
 split at hk
 rotate_left
 ·exact hk.elim
 rename_i i hbox
 split at hk
 rotate_left
 ·exact hk.elim
 rename_i l ds hrow hds
 split at hk
 rotate_left
 ·exact hk.elim
 rename_i x hx
 have hds:=datsL_eq hds
 subst hds
 match us,hl with
 |u::us',hl=>
 obtain⟨b,hbH,hbu⟩:=srel_bx (hr 0 (.bx id 0) u rfl rfl).1
 subst hbu
 obtain⟨hUid,hUbox,b',arr,T,e1,e2,e3,e4,e5,e6⟩:=hox.objs id _ hbox
 rw[hbH] at e1
 injection e1 with e1
 injection e1 with e1
 injection e1 with e1
 subst e1
 match arr,e4,e3,e6 with
 |[v],_,e3,e6=>
 have hv:=srel_os (e6 0 (.os i) v rfl rfl)
 subst hv
 have hfb:=hox.fb id _ hbox rfl b ((e2 b).2 rfl)
 obtain⟨S',hS,hSb,hSn,hrd,hsl⟩:∃S':Cells,(∀b o,c.S b o->S' b o)/\(∀b o,S' b o->b<w.heap.size)/\(∀o,¬S' b o)/\Rd S' w (.sl s.t l) (c.H i)/\(l=[]\/∃b n cap,c.H i= .slice (some ⟨b,0,none⟩) n cap):=by
  have own:∀y,m.obs i=some y->y.own=true->(∀S':Cells,(∀b o,c.S b o->S' b o)->(∀b,c.F i b->∀o,S' b o)->Rd S' w (.sl s.t l) (c.H i)/\(l=[]\/∃b n cap,c.H i= .slice (some ⟨b,0,none⟩) n cap))->∃S':Cells,(∀b o,c.S b o->S' b o)/\(∀b o,S' b o->b<w.heap.size)/\(∀o,¬S' b o)/\Rd S' w (.sl s.t l) (c.H i)/\(l=[]\/∃b n cap,c.H i= .slice (some ⟨b,0,none⟩) n cap):=λy hy ho hq=>by
   have hne:i≠id:=λe=>by subst e;rw[hbox] at hy;injection hy with hy;subst hy;simp[rowLk,hbox] at hrow
   obtain⟨g1,g2⟩:=hq (λb o=>c.S b o\/c.F i b) (λ_ _ h=> .inl h) λb hb o=> .inr hb
   refine⟨λb o=>c.S b o\/c.F i b,λ_ _ h=> .inl h,λb o hb=> ?_,λo hb=> ?_,g1,g2⟩
   ·rcases hb with hb|hb
    ·exact hox.sb b o hb
    ·exact (hox.fb i y hy ho b hb).1
   ·rcases hb with hb|hb
    ·exact hfb.2.1 o hb
    ·exact hox.dj id i _ y hbox rfl hy ho (λe=>hne e.symm) b ((e2 b).2 rfl) hb
  unfold rowLk at hrow
  split at hrow
  ·rename_i e t' l' hob
   obtain⟨a1,a2⟩:=castL_eq hrow
   subst a1
   have a2:=eq_of_heq a2
   subst a2
   have hat:DpAt w c.S (c.H i) (c.F i) e s.t l':=(hox.objs i _ hob).2.2
   exact own _ hob rfl λS' h1 h2=>hat.rd h1 h2
  ·rename_i e t' l' hob
   obtain⟨a1,a2⟩:=castL_eq hrow
   subst a1
   have a2:=eq_of_heq a2
   subst a2
   have hat:RowAt w c.S (c.H i) (c.F i) e s.t l':=(hox.objs i _ hob).2.2
   refine own _ hob rfl λS' h1 h2=>⟨hat.rd h1 h2,?_⟩
   obtain⟨_,⟨q,_⟩|⟨g,cap,_,q,_⟩⟩:=hat
   ·exact .inl q
   ·exact .inr ⟨g,_,_,q⟩
  ·rename_i t' l' hob
   obtain⟨a1,a2⟩:=castL_eq hrow
   subst a1
   have a2:=eq_of_heq a2
   subst a2
   have hat:Rd c.S w (.sl s.t l') (c.H i)/\(l'=[]\/∃b n cap,c.H i= .slice (some ⟨b,0,none⟩) n cap):=(hox.objs i _ hob).2.2
   exact⟨c.S,λ_ _ h=>h,hox.sb,hfb.2.1,hat.1,hat.2⟩
  ·cases hrow
 have hb3:w.heap[b]? =some (.cells #[c.H i] T (0,0)):=e3
 have hlen:us'.length=s.ts.length:=by
  have:=(undoL_rd hx).1
  simp at hl
  omega
 refine (hs l x _ hk w S' (c.H i) b T us' hb3 hrd hsl hSb hSn hlen (λj d u hd hu=> ?_)).mono ?_
 ·have hjl:j<ds.length:=by
   have h1:=(List.getElem?_eq_some_iff.1 hu).1
   simp at hl
   omega
  have h1:=(hr (j+1) (.d ds[j]) u (by rw[List.getElem?_cons_succ,List.getElem?_map,List.getElem?_eq_getElem hjl];rfl) (by simpa using hu)).1
  exact (undoL_rd hx).2 j d ds[j] hd (List.getElem?_eq_getElem hjl) ((srel_d h1).mono hS λ_ _ _=>rfl)
 rintro ex w' ⟨q,rfl,hq,g1,g2,g3,g4,g5,T',g6⟩
 have hcell:∀b' o,c.S b' o->w'.cell? ⟨b',o,none⟩=w.cell? ⟨b',o,none⟩:=λb' o hs=>World.cell?_of_block (g5 b' (hox.sb b' o hs) λe=>by subst e;exact hfb.2.1 o hs)
 refine⟨_,.d (.v (.bool q)),m,c,rfl,hq,.refl m,⟨λb' o hb'=>Nat.lt_of_lt_of_le (hox.sb b' o hb') g4,λj y hy=> ?_,λj y hy ho b' hb'=> ?_,hox.dj,λT0 hT=> ?_,λe=> ?_,hox.tF⟩,⟨g1,g2,g3,g4,λ_ h=>h,λ_ h=> .inl h,λ_ h=>h,λ_ _=>⟨rfl,rfl⟩,λ_ _ h=>h,λ_ _ h=> .inl h,λb' hb' hf hT=> ?_,λb' hb'=> .inl hb'⟩,.d _ _ (.v _),trivial⟩
 ·obtain⟨u1,u2,u3⟩:=hox.objs j y hy
  refine⟨u1,u2,?_⟩
  by_cases e:j=id
  ·subst e
   rw[hbox] at hy
   injection hy with hy
   subst hy
   refine⟨b,[c.H i],T',hbH,e2,g6,rfl,e5,λj' s' u' hs' hu'=> ?_⟩
   match j',hs',hu' with
   |0,hs',hu'=>cases hs';cases hu';exact .os i
   |j'+1,hs',hu'=>cases hs'
  ·exact u3.keep (U:=m.U) u2 (λ_ _ h=>h) hcell (λ_ h=>h) (λ_ _=>rfl) ⟨rfl,rfl⟩ λho b' hb'=>g5 b' (hox.fb j y hy ho b' hb').1 λe'=>by
    subst e'
    exact hox.dj j id y _ hy ho hbox rfl e b' hb' ((e2 b').2 rfl)
 ·obtain⟨u1,u2,u3⟩:=hox.fb j y hy ho b' hb'
  exact⟨Nat.lt_of_lt_of_le u1 g4,u2,u3⟩
 ·obtain⟨t1,t2⟩:=hox.nT T0 hT
  exact⟨Nat.lt_of_lt_of_le t1 g4,t2⟩
 ·obtain⟨T0,hT,ht⟩:=hox.tpe e
  exact⟨T0,hT,ht.mono (λ_ _ h=>h) hcell (g5 T0 ht.lt λe'=>by subst e';exact hfb.2.2 hT)⟩
 ·exact g5 b' hb' λe=>by subst e;exact hf ⟨id,_,hbox,rfl,(e2 b').2 rfl⟩
end RE
end Go.Proofs.YtjcjdgmojkkioaaGreatDoor
