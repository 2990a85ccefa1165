/-
  Texts of the proof of TopAmended, part GD.
-/
import Derived.Test.YtjcjdgmojkkioaaGreatDoorDGC
import Derived.RangeFuncNested
import Derived.RangeFuncBound
import Derived.RangeFuncCalls
import Derived.RangeFuncLeaves
import Derived.RangeFuncBox
import Derived.RangeFuncWrites
import Derived.Shelf.Abstract
import Derived.Shelf.RegionOpen
import Derived.WalkKit
import Derived.OwnWalkIn
import Derived.TacticsInMore
import Derived.LoopNIn
import Derived.LoopIn
import Derived.Maps.AppendAt
import Derived.Lib.Hide
import Derived.Test.YtjcjdgmojkkioaaGreatDoorRows
import Derived.RangeFuncFrom
set_option linter.unusedVariables false
noncomputable section
namespace Go.Proofs.YtjcjdgmojkkioaaGreatDoor
namespace RE
set_option maxRecDepth 100000
open Go.RowKit
open PL
def pcuts_P (ls:List (List (api_Rect)))(post:List (Int)->Prop):Prop:=(ls.flatten.length<=10000/\ls.length<=10)/\post (cutsS ls.flatten)
def pcuts_sp:Spec:=⟨147,false,true,[.sl (.sl (.st .api_Rect))],.dat (.sl (.int .i64)),λx post=>pcuts_P (x.1:List (List (api_Rect))) (λy0=>post (y0,()))⟩
def pcuts_C:CtxR:=⟨tau,[rule3 ssort_sp,rule2 scompact_sp],lookJ [(0,7,⟨[(10,.dat (.int .i64)),(3,.own 3 (.int .i64))],[],(List.range' 11 18++[5,7]),[],[]⟩),(0,13,⟨[(16,.dat (.int .i64)),(3,.own 3 (.int .i64))],[],(List.range' 17 11++[7]),[0],[]⟩)]⟩
def pcuts_W (ls:List (List (api_Rect)))(post:List (Int)->Prop):Prop:=(↑ls.length:Int)<=9223372036854775807->LOOP [Ty.int IntKind.i64,(Ty.int IntKind.i64).sl] (λ(rec1:Int->List Int->Prop) (z2:Int) (z3:List Int)=>IFB (decide (z2<(↑ls.length:Int))) (((0:Int)<=z2/\z2<(↑ls.length:Int))/\((↑(ix ls z2).length:Int)<=9223372036854775807->LOOP [Ty.int IntKind.i64,(Ty.int IntKind.i64).sl] (λ(rec4:Int->List Int->Prop) (z5:Int) (z6:List Int)=>IFB (decide (z5<(↑(ix ls z2).length:Int))) (((0:Int)<=z5/\z5<(↑(ix ls z2).length:Int))/\(z6.length+[(ix (ix ls z2) z5).2,(ix (ix ls z2) z5).4].length) * (8:Nat)<=140737488355328/\rec4 (IntKind.i64.wrap (z5+1)) (z6++[(ix (ix ls z2) z5).2,(ix (ix ls z2) z5).4])) (rec1 (IntKind.i64.wrap (z2+1)) z6)) ((0:Int),z3,PUnit.unit))) (z3.length<=1000000/\(sortI z3).length<=1000000/\post (compI (sortI z3)))) ((0:Int),[],PUnit.unit)
theorem pcuts_w (ls:List (List (api_Rect)))(post:dens (shT pcuts_sp.rs [])->Prop):pcuts_W ls (λy0=>post (y0,()))=walkG (callR Tryz.prog pcuts_C (drawR Tryz.prog tau) 8 0) 147 false [tv (.sl (.sl (.st .api_Rect))) ls] pcuts_sp.rs post:=by kernel_rfl
theorem pcuts_of (h:∀ls post,pcuts_P ls post->pcuts_W ls post):SpecOK Tryz.prog pcuts_sp:=SpecOK.of_rules (C:=pcuts_C) (dr:=drawR Tryz.prog tau) (n:=8) (fk:=0) (.cons (rule3_ok ssort_ok) (.cons (rule2_ok scompact_ok) .nil)) (drawR_ok tau) λx post hp=>HoldW.of (pcuts_w x.1 post) (h x.1 (λy0=>post (y0,())) hp)
def cutL (l:List Rc):List Int:=l.flatMap λr=>[r.Low,r.High]
theorem cutL_cons {r:Rc}{l:List Rc}:cutL (r::l)=r.Low::r.High::cutL l:=rfl
theorem cutL_app {a b:List Rc}:cutL (a++b)=cutL a++cutL b:=by unfold cutL;simp
theorem cutL_len {l:List Rc}:(cutL l).length=2 * l.length:=by
 induction l with
 |nil=>rfl
 |cons r l ih=>rw[cutL_cons];simp only[List.length_cons,ih];omega
theorem cutL_mem {l:List Rc}{x:Int}:x∈cutL l↔∃r∈l,x=r.Low\/x=r.High:=by unfold cutL;simp
theorem cuts_uniq (l:List Rc):uniqI (cutL l)=cutsS l:=uniqI_eq cutsS_ok.1 λx=>by rw[cutsS_ok.2,cutL_mem]
theorem cuts_in {l:List Rc}{A:List Int}{K:List Int->Prop}(hl:A.length+2 * l.length<=100000)(hK:K (A++cutL l)):
 LOOP [Ty.int IntKind.i64,(Ty.int IntKind.i64).sl] (λ(rec4:Int->List Int->Prop) (z5:Int) (z6:List Int)=>IFB (decide (z5<(↑l.length:Int))) (((0:Int)<=z5/\z5<(↑l.length:Int))/\(z6.length+[(ix l z5).2,(ix l z5).4].length) * 8<=140737488355328/\rec4 (IntKind.i64.wrap (z5+(1:Int))) (z6++[(ix l z5).2,(ix l z5).4])) (K z6)) ((0:Int),A,PUnit.unit):=by
 refine LOOP.list l (λk (s:List Int)=>((k:Int),s,())) (λu=>Int.toNat u.1) (λk r (s:List Int)=>s++cutL r=A++cutL l/\s.length=A.length+2 * k) A rfl ⟨rfl,by omega⟩ (λk s h=>by simp) ?_ ?_
 ·intro rec k x r s hd hk hkl ⟨g1,g2⟩ hrec
  have hx:=ix_of hk
  show IFB _ _ _
  refine IFB.mk (λ_=>⟨by show 0<=(k:Int)/\(k:Int)<l.length;omega,?_⟩) (λh=>absurd (of_decide_eq_false h) (by show ¬¬((k:Int)<l.length);omega))
  dsimp only
  rw[hx]
  refine⟨by simp only[List.length_cons,List.length_nil];omega,?_⟩
  rw[wrapS (by omega)]
  refine hrec _ ⟨?_,?_⟩
  ·rw[<-g1,cutL_cons];simp
  ·simp only[List.length_append,List.length_cons,List.length_nil];omega
 ·intro rec s ⟨g1,g2⟩
  show IFB _ _ _
  refine IFB.mk (λh=>absurd (of_decide_eq_true h) (by show ¬((l.length:Int)<l.length);omega)) (λ_=> ?_)
  have g1:s=A++cutL l:=by simpa [cutL] using g1
  show K s
  rw[g1];exact hK
theorem pcuts_ok:SpecOK Tryz.prog pcuts_sp:=pcuts_of λls post hp=>by
 obtain⟨⟨h1,h2⟩,hp⟩:=hp
 unfold pcuts_W
 intro _
 refine LOOP.list ls (λk (s:List Int)=>((k:Int),s,())) (λu=>Int.toNat u.1) (λk r (s:List Int)=>s++cutL r.flatten=cutL ls.flatten) [] rfl rfl (λk s h=>by simp) ?_ ?_
 ·intro rec k x r s hd hk hkl g1 hrec
  have hx:=ix_of hk
  have hlen:s.length+(2 * x.length+2 * r.flatten.length)<=20000:=by
   have:=congrArg List.length g1
   rw[List.length_append,cutL_len,cutL_len,List.flatten_cons,List.length_append] at this
   omega
  show IFB _ _ _
  refine IFB.mk (λ_=>⟨by show 0<=(k:Int)/\(k:Int)<ls.length;omega,?_⟩) (λh=>absurd (of_decide_eq_false h) (by show ¬¬((k:Int)<ls.length);omega))
  dsimp only
  rw[hx]
  intro _
  refine cuts_in (l:=x) (A:=s) (K:=λz6=>rec (IntKind.i64.wrap ((k:Int)+1)) z6) (by omega) ?_
  rw[wrapS (by omega)]
  refine hrec _ ?_
  rw[<-g1,List.flatten_cons,cutL_app,List.append_assoc]
 ·intro rec s g1
  show IFB _ _ _
  refine IFB.mk (λh=>absurd (of_decide_eq_true h) (by show ¬((ls.length:Int)<ls.length);omega)) (λ_=> ?_)
  have g1:s=cutL ls.flatten:=by simpa [cutL] using g1
  have hlen:s.length<=20000:=by rw[g1,cutL_len];omega
  have hsl:(sortI s).length=s.length:=by unfold sortI;simp
  dsimp only
  refine⟨by omega,by omega,?_⟩
  rw[<-cuts_uniq,<-g1] at hp
  exact hp
def prow_P (l:List (api_Rect))(y:Int)(post:List (region_Span)->Prop):Prop:=((∀r∈l,r.Left<r.Right)/\l.length<=10000)/\post (rowS l y)
def prow_sp:Spec:=⟨149,false,true,[.sl (.st .api_Rect),.int .i64],.dat (.sl (.st .region_Span)),λx post=>prow_P (x.1:List (api_Rect)) (x.2.1:Int) (λy0=>post (y0,()))⟩
def prow_C:CtxR:=⟨tau,[rule3 psort_sp],lookJ [(0,23,⟨[(41,.dat (.int .i64)),(8,.own 237 (.st .region_Span))],[],(List.range' 42 37++[10,11]),[],[]⟩),(0,34,⟨[(8,.own 237 (.st .region_Span))],[],(List.range' 43 35++[10,11]),[1],[]⟩),(0,7,⟨[(14,.dat (.int .i64)),(5,.own 237 (.st .region_Span))],[],(List.range' 15 22++[7]),[],[]⟩),(0,14,⟨[(5,.own 237 (.st .region_Span))],[],(List.range' 16 20++[7]),[0],[]⟩)]⟩
def prow_W (l:List (api_Rect))(y:Int)(post:List (region_Span)->Prop):Prop:=(↑l.length:Int)<=9223372036854775807->LOOP [Ty.int IntKind.i64,(Ty.st Sn.region_Span).sl] (λ(rec1:Int->List region_Span->Prop) (z2:Int) (z3:List region_Span)=>IFB (decide (z2<(↑l.length:Int))) (JOIN [(Ty.st Sn.region_Span).sl] (λ(y4:List region_Span)=>rec1 (IntKind.i64.wrap (z2+1)) y4) λ(J5:List region_Span->Prop)=>((0:Int)<=z2/\z2<(↑l.length:Int))/\IFB (decide ((ix l z2).2<=y)&&decide (y<(ix l z2).4)) ((z3.length+[(⟨(ix l z2).1,(ix l z2).3⟩:region_Span)].length) * (16:Nat)<=140737488355328/\J5 (z3++[(⟨(ix l z2).1,(ix l z2).3⟩:region_Span)])) (J5 z3)) (z3.length<=1000000/\∀(v6:List region_Span),v6.Perm z3->List.Pairwise (λ(s t:region_Span)=>s.1<=t.1) v6->(↑v6.length:Int)<=9223372036854775807->LOOP [Ty.int IntKind.i64,(Ty.st Sn.region_Span).sl] (λ(rec7:Int->List region_Span->Prop) (z8:Int) (z9:List region_Span)=>IFB (decide (z8<(↑v6.length:Int))) (JOIN [(Ty.st Sn.region_Span).sl] (λ(y10:List region_Span)=>rec7 (IntKind.i64.wrap (z8+1)) y10) λ(J11:List region_Span->Prop)=>((0:Int)<=z8/\z8<(↑v6.length:Int))/\((↑z9.length:Int)<=9223372036854775807->(gx true (decide ((0:Int)<(↑z9.length:Int)))=true->0<=IntKind.i64.wrap ((↑z9.length:Int)-1)/\IntKind.i64.wrap ((↑z9.length:Int)-1)<(↑z9.length:Int))/\IFB (decide ((0:Int)<(↑z9.length:Int))&&decide ((ix v6 z8).1<=(ix z9 (IntKind.i64.wrap ((↑z9.length:Int)-1))).2)) (((0:Int)<=IntKind.i64.wrap ((↑z9.length:Int)-1)/\IntKind.i64.wrap ((↑z9.length:Int)-1)<(↑z9.length:Int))/\((0:Int)<=IntKind.i64.wrap ((↑z9.length:Int)-1)/\IntKind.i64.wrap ((↑z9.length:Int)-1)<(↑z9.length:Int))/\J11 (z9.set (IntKind.i64.wrap ((↑z9.length:Int)-1)).toNat (⟨(ix z9 (IntKind.i64.wrap ((↑z9.length:Int)-1))).1,Max.max (ix z9 (IntKind.i64.wrap ((↑z9.length:Int)-1))).2 (ix v6 z8).2⟩:region_Span))) ((z9.length+[{Left:=(ix v6 z8).1,Right:=(ix v6 z8).2:region_Span}].length) * (16:Nat)<=140737488355328/\J11 (z9++[{Left:=(ix v6 z8).1,Right:=(ix v6 z8).2:region_Span}])))) (post z9)) ((0:Int),[],PUnit.unit))) ((0:Int),[],PUnit.unit)
theorem prow_w (l:List (api_Rect))(y:Int)(post:dens (shT prow_sp.rs [])->Prop):prow_W l y (λy0=>post (y0,()))=walkG (callR Tryz.prog prow_C (drawR Tryz.prog tau) 10 0) 149 false [tv (.sl (.st .api_Rect)) l,tv (.int .i64) y] prow_sp.rs post:=by kernel_rfl
theorem prow_of (h:∀l y post,prow_P l y post->prow_W l y post):SpecOK Tryz.prog prow_sp:=SpecOK.of_rules (C:=prow_C) (dr:=drawR Tryz.prog tau) (n:=10) (fk:=0) (.cons (rule3_ok psort_ok) .nil) (drawR_ok tau) λx post hp=>HoldW.of (prow_w x.1 x.2.1 post) (h x.1 x.2.1 (λy0=>post (y0,())) hp)
theorem onRow_cons {y:Int}{r:Rc}{l:List Rc}:onRow y (r::l)=if (decide (r.Low<=y)&&decide (y<r.High))=true then r::onRow y l else onRow y l:=by
 unfold onRow
 rw[List.filter_cons]
theorem prow_ok:SpecOK Tryz.prog prow_sp:=prow_of λl y post hp=>by
 obtain⟨⟨h1,h2⟩,hp⟩:=hp
 unfold prow_W
 intro _
 refine LOOP.list l (λk (s:List Sp)=>((k:Int),s,())) (λu=>Int.toNat u.1) (λk r (s:List Sp)=>s++(onRow y r).map spanOf=(onRow y l).map spanOf/\s.length<=k) [] rfl ⟨rfl,Nat.le_refl _⟩ (λk s h=>by simp) ?_ ?_
 ·intro rec k x r s hd hk hkl ⟨g1,g2⟩ hrec
  have hx:=ix_of hk
  show IFB _ _ _
  refine IFB.mk (λ_=> ?_) (λh=>absurd (of_decide_eq_false h) (by show ¬¬((k:Int)<l.length);omega))
  refine JOIN.opq λ(J:List Sp->Prop) hJ=> ?_
  dsimp only
  rw[hx]
  refine⟨by omega,IFB.mk (λhb=> ?_) (λhb=> ?_)⟩
  ·refine⟨by simp only[List.length_cons,List.length_nil];omega,?_⟩
   rw[hJ]
   show rec (IntKind.i64.wrap ((k:Int)+1)) _
   rw[wrapS (by omega)]
   refine hrec _ ⟨?_,by simp only[List.length_append,List.length_cons,List.length_nil];omega⟩
   rw[<-g1,onRow_cons,if_pos hb]
   simp[spanOf]
  ·rw[hJ]
   show rec (IntKind.i64.wrap ((k:Int)+1)) _
   rw[wrapS (by omega)]
   refine hrec _ ⟨?_,by omega⟩
   rw[<-g1,onRow_cons,if_neg (by rw[hb];simp)]
 ·intro rec s ⟨g1,g2⟩
  show IFB _ _ _
  refine IFB.mk (λh=>absurd (of_decide_eq_true h) (by show ¬((l.length:Int)<l.length);omega)) (λ_=> ?_)
  have g1:s=(onRow y l).map spanOf:=by simpa [onRow] using g1
  have hsl:s.length<=10000:=by omega
  refine⟨by show s.length<=1000000;omega,λv hperm hsort _=> ?_⟩
  have hvl:v.length=s.length:=hperm.length_eq
  rw[<-rowS_sorted h1 (g1 ▸ hperm) hsort] at hp
  refine LOOP.list v (λk (s:List Sp)=>((k:Int),s,())) (λu=>Int.toNat u.1) (λk r (s:List Sp)=>rowG s r=rowG [] v/\s.length<=k) [] rfl ⟨rfl,Nat.le_refl _⟩ (λk s h=>by simp) ?_ ?_
  ·intro rec k x r out hd hk hkl ⟨q1,q2⟩ hrec
   have hx:=ix_of hk
   show IFB _ _ _
   refine IFB.mk (λ_=> ?_) (λh=>absurd (of_decide_eq_false h) (by show ¬¬((k:Int)<v.length);omega))
   refine JOIN.opq λ(J:List Sp->Prop) hJ=> ?_
   dsimp only
   rw[hx]
   have hgo:(joinSp out x).length<=k+1->J (joinSp out x):=λhle=>by
    rw[hJ]
    show rec (IntKind.i64.wrap ((k:Int)+1)) _
    rw[wrapS (by omega)]
    exact hrec _ ⟨q1,hle⟩
   refine⟨by omega,λ_=> ?_⟩
   rcases List.eq_nil_or_concat out with rfl|⟨A,q,rfl⟩
   ·have hj:joinSp [] x=[x]:=rfl
    rw[hj] at hgo
    refine⟨λh=> ?_,IFB.mk (λhb=> ?_) (λhb=>⟨by simp,hgo (by simp)⟩)⟩
    ·cases h
    ·cases hb
   ·rw[List.concat_eq_append] at *
    have w1:IntKind.i64.wrap (((A++[q]).length:Int)-1)=A.length:=by
     simp only[List.length_append,List.length_cons,List.length_nil]
     rw[wrap_in (by omega) (by simp only[List.length_append,List.length_cons,List.length_nil] at q2;omega)]
     omega
    have hq:ix (A++[q]) (A.length:Int)=q:=ix_app rfl
    have hset:∀z,(A++[q]).set (A.length:Int).toNat z=A++[z]:=λz=>set_app (by simp)
    rw[w1,hq,hset]
    have hAl:(A++[q]).length=A.length+1:=by simp
    have hj:joinSp (A++[q]) x=if x.Left<=q.Right then A++[⟨q.Left,max q.Right x.Right⟩] else A++[q]++[x]:=by
     unfold joinSp
     simp
    rw[hj] at hgo
    refine⟨λ_=>by omega,IFB.mk (λhb=>⟨by omega,by omega,?_⟩) (λhb=>⟨by simp only[List.length_append,List.length_cons,List.length_nil] at *;omega,?_⟩)⟩
    ·rw[Bool.and_eq_true] at hb
     have hb2:x.Left<=q.Right:=of_decide_eq_true hb.2
     rw[if_pos hb2] at hgo
     exact hgo (by simp only[List.length_append,List.length_cons,List.length_nil] at *;omega)
    ·have hb2:¬x.Left<=q.Right:=by
      intro h
      rw[Bool.and_eq_false_iff] at hb
      rcases hb with hb|hb
      ·have:=of_decide_eq_false hb;omega
      ·exact of_decide_eq_false hb h
     rw[if_neg hb2] at hgo
     exact hgo (by simp only[List.length_append,List.length_cons,List.length_nil] at *;omega)
  ·intro rec out ⟨q1,q2⟩
   show IFB _ _ _
   refine IFB.mk (λh=>absurd (of_decide_eq_true h) (by show ¬((v.length:Int)<v.length);omega)) (λ_=> ?_)
   have q1:out=rowG [] v:=q1
   show post out
   rw[q1];exact hp
open Go.Sort
open Go.Lib
open Go.Shelf
def growCp (ss:List SV)(m:MS)(k:SV->MS->Prop):Prop:=match ss with
 |[.d (.v (.slice none 0 0)),.d (.v (.int .i64 n))]=>(0<=n/\n<=1000000)/\k (.os m.nx) ⟨(m.nx,some (.row 237 (.st .region_Span) []))::m.ob,m.nx+1,m.tp⟩
 |_=>False
def pgrow_rule:Rule:=⟨302,growCp⟩
noncomputable def info187:TypeInfo:=(Tryz.prog.info? 237).get!
noncomputable def zero187:Value:=info187.zero.get!
theorem info187_eq:Tryz.prog.info? 237=some info187:=by kernel_rfl
theorem zero187_eq:info187.zero=some zero187:=by kernel_rfl
theorem size187:info187.size=2:=by kernel_rfl
theorem bytes187:info187.bytes=16:=by kernel_rfl
theorem cells187:zero187.cells.size=2:=by kernel_rfl
theorem newRow {m:MS}{w w':World}{c:Cx}(hox:OXM m w c){v:Value}{F:Nat->Prop}{e:TypeId}{t:Ty}{l:List (den t)}(h1:w'.os=w.os)(h2:w'.tape=w.tape)(h3:w'.output=w.output)(h4:w.heap.size<=w'.heap.size)(h5:∀b,b<w.heap.size->w'.heap[b]? =w.heap[b]?)
 (hF:∀b,F b->w.heap.size<=b/\b<w'.heap.size) (hr:RowAt w' c.S v F e t l):
 ∃c',OXM ⟨(m.nx,some (.row e t l))::m.ob,m.nx+1,m.tp⟩ w' c'/\TrM m w c ⟨(m.nx,some (.row e t l))::m.ob,m.nx+1,m.tp⟩ w' c'/\c'.H m.nx=v:=by
 have ho:(MS.obs ⟨(m.nx,some (.row e t l))::m.ob,m.nx+1,m.tp⟩)=put m.obs m.nx (some (.row e t l)):=lookO_cons _ _ _
 have hU:∀i,m.U i->i≠m.nx:=λi hi e=>by have:i<m.nx:=hi;omega
 obtain⟨k1,k2⟩:=OX.upd (ob':=put m.obs m.nx (some (.row e t l))) (U':=λi=>i<m.nx+1) (w':=w') (c':=⟨c.S,put c.H m.nx v,put c.F m.nx F,c.T⟩) hox m.nx (.row e t l) (λi=>i≠m.nx)
  (λi hi=>Nat.lt_succ_of_lt hi) (Nat.lt_succ_self _) (put_same _ _ _) (λi y hi e=>⟨e,by rw[put_ne _ _ e] at hi;exact hi⟩) (λe=>e rfl) (λi hi=>⟨put_ne _ _ (hU i hi),put_ne _ _ (hU i hi)⟩) (λ_ _ h=>h) (λ_ _ h=> .inl h) (λb o hb=>Nat.lt_of_lt_of_le (hox.sb b o hb) h4)
  rfl h1 h2 h3 h4 (λb hb _=>h5 b hb) (by
   show RowAt w' c.S (put c.H m.nx v m.nx) (put c.F m.nx F m.nx) e t l
   rw[put_same,put_same];exact hr) trivial (λ_ b hb=> .inr (hF b (by
    have hb:put c.F m.nx F m.nx b:=hb
    rw[put_same] at hb;exact hb)).1) (λ_ b hb=>by
    have hb:put c.F m.nx F m.nx b:=hb
    rw[put_same] at hb
    obtain⟨q1,q2⟩:=hF b hb
    exact⟨q2,λo hs=>by have:=hox.sb b o hs;omega⟩)
 refine⟨⟨c.S,put c.H m.nx v,put c.F m.nx F,c.T⟩,?_,?_,put_same _ _ _⟩
 ·show OX _ _ _ _ _
  rw[ho];exact k1
 ·show Tr _ _ _ _ _ _ _ _
  rw[ho];exact k2
theorem growRun (n:Nat)(hn:n<=1000000)(w:World)(S:Cells):Calls Tryz.prog 302 #[.slice none 0 0,.int .i64 n] w λe w'=>∃v F,e= .returned v/\w'.os=w.os/\w'.tape=w.tape/\w'.output=w.output/\w.heap.size<=w'.heap.size/\(∀b,b<w.heap.size->w'.heap[b]? =w.heap[b]?)/\(∀b,F b->w.heap.size<=b/\b<w'.heap.size)/\RowAt w' S v F 237 (.st .region_Span) []:=by
 by_cases h0:n=0
 ·subst h0
  refine (Any8.slices_Grow_room Tryz.growSp none 0 0 0 w (by omega) (by omega) (by omega) (by omega)).mono ?_
  rintro e w' ⟨rfl,rfl⟩
  exact⟨_,λ_=>False,rfl,rfl,rfl,rfl,Nat.le_refl _,λ_ _=>rfl,λb h=>h.elim,by decide,.inl ⟨rfl,⟨none,rfl⟩,λb h=>h⟩⟩
 ·refine (Any8.slices_Grow_grow Tryz.growSp info187 zero187 info187_eq zero187_eq (by rw[size187];omega) none 0 0 n [] w (by omega) (by omega) ?_ (by omega) rfl (λ_=>rfl) (λa h=>by cases h)).mono ?_
  ·rw[bytes187]
   omega
  rintro e w' ⟨rfl,rfl⟩
  have hge:=grownCap_ge w (0+n) 0 237
  refine⟨_,λb=>b=w.heap.size,rfl,rfl,rfl,rfl,by simp,λb hb=>heap_alloc_old w.drew _ hb,λb h=>⟨by omega,by simp[h]⟩,by decide,.inr ⟨w.heap.size,_,_,rfl,λb=>Iff.rfl,heap_alloc_new w.drew _,Nat.zero_le _,grownCap_le_maxLen w (0+n) 0 237 (by simp only[maxLen];omega),?_,λi x hx=>by simp at hx⟩⟩
  show _=_ * 2
  simp only[Array.size_append,List.size_toArray,List.length_nil,size_zeroCells,cells187,Nat.zero_add,show Tryz.growSp_ren.t 25=237 from rfl] at hge ⊢
  omega
theorem pgrow_rule_ok:RuleOK Tryz.prog pgrow_rule:=by
 intro ss m k hk us w c hox hl hr
 have hk2:growCp ss m k:=hk
 clear hk
 unfold growCp at hk2
 split at hk2
 ·rename_i n
  obtain⟨⟨p1,p2⟩,hk2⟩:=hk2
  match us,hl with
  |[a,b],_=>
  have ha:a= .slice none 0 0:=srel_v (hr 0 _ a rfl rfl).1
  have hb:b= .int .i64 n:=srel_v (hr 1 _ b rfl rfl).1
  subst ha hb
  obtain⟨q,rfl⟩:∃q:Nat,n=q:=⟨n.toNat,by omega⟩
  refine (growRun q (by omega) w c.S).mono ?_
  rintro e w' ⟨v,F,rfl,g1,g2,g3,g4,g5,g6,g7⟩
  obtain⟨c',k1,k2,k3⟩:=newRow hox g1 g2 g3 g4 g5 g6 g7
  exact⟨v,_,_,c',rfl,hk2,⟨⟨[(m.nx,some (.row 237 (.st .region_Span) []))],rfl⟩,id⟩,k1,k2,by rw[<-k3];exact .os _,Nat.lt_succ_self _⟩
 ·exact hk2.elim
def pins_P (l:List (region_Span))(x:Int)(post:Bool->Prop):Prop:=(l.length<=1000000)/\post (insS l x)
def pins_sp:Spec:=⟨255,false,false,[.sl (.st .region_Span),.int .i64],.dat (.bool),λx post=>pins_P (x.1:List (region_Span)) (x.2.1:Int) (λy0=>post (y0,()))⟩
def pins_C:CtxR:=⟨tau,[],lookJ [(1067460608,0,⟨[(0,.dat (.int .i64))],[],[],[],[]⟩),(1067460608,5,⟨[(8,.dat (.int .i64))],[],(List.range' 9 8++[5,18]),[],[]⟩)]⟩
def pins_W (l:List (region_Span))(x:Int)(post:Bool->Prop):Prop:=JOIN [Ty.int IntKind.i64] (λ(y1:Int)=>post (decide ((0:Int)<=y1))) λ(J2:Int->Prop)=>(↑l.length:Int)<=9223372036854775807->LOOP [Ty.int IntKind.i64] (λ(rec3:Int->Prop) (z4:Int)=>IFB (decide (z4<(↑l.length:Int))) (((0:Int)<=z4/\z4<(↑l.length:Int))/\IFB (decide ((ix l z4).1<=x)&&decide (x<(ix l z4).2)) (J2 z4) (rec3 (IntKind.i64.wrap (z4+1)))) (J2 (-1:Int))) ((0:Int),PUnit.unit)
theorem pins_w (l:List (region_Span))(x:Int)(post:dens (shT pins_sp.rs [])->Prop):pins_W l x (λy0=>post (y0,()))=walkG (callR Tryz.prog pins_C (drawR Tryz.prog tau) 8 0) 255 false [tv (.sl (.st .region_Span)) l,tv (.int .i64) x] pins_sp.rs post:=by kernel_rfl
theorem pins_of (h:∀l x post,pins_P l x post->pins_W l x post):SpecOK Tryz.prog pins_sp:=SpecOK.of_rules (C:=pins_C) (dr:=drawR Tryz.prog tau) (n:=8) (fk:=0) .nil (drawR_ok tau) λx post hp=>HoldW.of (pins_w x.1 x.2.1 post) (h x.1 x.2.1 (λy0=>post (y0,())) hp)
theorem pins_ok:SpecOK Tryz.prog pins_sp:=pins_of λl x post hp=>by
 obtain⟨hl,hp⟩:=hp
 unfold pins_W
 refine JOIN.opq λ(J:Int->Prop) hJ=> ?_
 intro _
 have hJ:∀z,post (decide (0<=z))->J z:=λz h=>by rw[hJ];exact h
 refine loopCmp (n:=l.length) (by omega) (p:=λj=>(decide ((ix l (j:Int)).1<=x)&&decide (x<(ix l (j:Int)).2))=false) (λrec k hk hpre hrec=>⟨by omega,IFB.mk (λhb=>hJ _ ?_) (λhb=>hrec hb)⟩) λhall=>hJ _ ?_
 ·have:insS l x=true:=by
   unfold insS
   rw[List.any_eq_true]
   exact⟨_,ix_mem (l:=l) (i:=(k:Int)) (by omega) (by omega),hb⟩
  rw[this] at hp
  rw[decide_eq_true (by omega)]
  exact hp
 ·have:insS l x=false:=by
   unfold insS
   rw[List.any_eq_false]
   intro r hr
   obtain⟨j,hj,rfl⟩:=List.getElem_of_mem hr
   have:=hall j hj
   rw[ix_lt hj] at this
   simpa using this
  rw[this] at hp
  rw[decide_eq_false (by omega)]
  exact hp
def pconc_P (ls:List (List (region_Span)))(post:List (region_Span)->Prop):Prop:=(ls.flatten.length<=100000/\ls.length<=10)/\post (ls.flatten)
def pconc_sp:Spec:=⟨254,false,true,[.sl (.sl (.st .region_Span))],.dat (.sl (.st .region_Span)),λx post=>pconc_P (x.1:List (List (region_Span))) (λy0=>post (y0,()))⟩
def pconc_C:CtxR:=⟨tau,[pgrow_rule],lookJ [(0,23,⟨[(27,.dat (.int .i64)),(6,.own 237 (.st .region_Span))],[],[28,29,30,8,31,32,33,34],[0],[]⟩),(0,7,⟨[(11,.dat (.int .i64)),(3,.dat (.int .i64))],[],(List.range' 12 11++[5]),[],[]⟩),(0,16,⟨[(3,.dat (.int .i64))],[],(List.range' 13 9++[5]),[],[]⟩)]⟩
def pconc_W (ls:List (List (region_Span)))(post:List (region_Span)->Prop):Prop:=(↑ls.length:Int)<=9223372036854775807->LOOP [Ty.int IntKind.i64,Ty.int IntKind.i64] (λ(rec1:Int->Int->Prop) (z2 z3:Int)=>IFB (decide (z2<(↑ls.length:Int))) (JOIN [Ty.int IntKind.i64] (λ(y4:Int)=>rec1 (IntKind.i64.wrap (z2+1)) y4) λ(J5:Int->Prop)=>((0:Int)<=z2/\z2<(↑ls.length:Int))/\((↑(ix ls z2).length:Int)<=9223372036854775807->IFB (decide (IntKind.i64.wrap (z3+(↑(ix ls z2).length:Int))<0)) False (J5 (IntKind.i64.wrap (z3+(↑(ix ls z2).length:Int)))))) (((0:Int)<=z3/\z3<=1000000)/\((↑ls.length:Int)<=9223372036854775807->LOOP [Ty.int IntKind.i64,(Ty.st Sn.region_Span).sl] (λ(rec6:Int->List region_Span->Prop) (z7:Int) (z8:List region_Span)=>IFB (decide (z7<(↑ls.length:Int))) (((0:Int)<=z7/\z7<(↑ls.length:Int))/\(z8.length+(ix ls z7).length) * (16:Nat)<=140737488355328/\rec6 (IntKind.i64.wrap (z7+1)) (z8++ix ls z7)) (post z8)) ((0:Int),[],PUnit.unit)))) ((0:Int),(0:Int),PUnit.unit)
theorem pconc_w (ls:List (List (region_Span)))(post:dens (shT pconc_sp.rs [])->Prop):pconc_W ls (λy0=>post (y0,()))=walkG (callR Tryz.prog pconc_C (drawR Tryz.prog tau) 8 0) 254 false [tv (.sl (.sl (.st .region_Span))) ls] pconc_sp.rs post:=by kernel_rfl
theorem pconc_of (h:∀ls post,pconc_P ls post->pconc_W ls post):SpecOK Tryz.prog pconc_sp:=SpecOK.of_rules (C:=pconc_C) (dr:=drawR Tryz.prog tau) (n:=8) (fk:=0) (.cons pgrow_rule_ok .nil) (drawR_ok tau) λx post hp=>HoldW.of (pconc_w x.1 post) (h x.1 (λy0=>post (y0,())) hp)
theorem pconc_ok:SpecOK Tryz.prog pconc_sp:=pconc_of λls post hp=>by
 obtain⟨⟨h1,h2⟩,hp⟩:=hp
 unfold pconc_W
 intro _
 refine LOOP.list ls (λk (s:Int)=>((k:Int),s,())) (λu=>Int.toNat u.1) (λk r (s:Int)=>0<=s/\s+r.flatten.length=ls.flatten.length) 0 rfl ⟨Int.le_refl _,by omega⟩ (λk s h=>by simp) ?_ ?_
 ·intro rec k x r s hd hk hkl ⟨g1,g2⟩ hrec
  have hx:=ix_of hk
  rw[List.flatten_cons,List.length_append] at g2
  show IFB _ _ _
  refine IFB.mk (λ_=> ?_) (λh=>absurd (of_decide_eq_false h) (by show ¬¬((k:Int)<ls.length);omega))
  refine JOIN.opq λ(J:Int->Prop) hJ=> ?_
  dsimp only
  rw[hx]
  have w1:IntKind.i64.wrap (s+(x.length:Int))=s+x.length:=wrap_in (by omega) (by omega)
  rw[w1]
  refine⟨by omega,λ_=>IFB.mk (λhb=>absurd (of_decide_eq_true hb) (by omega)) (λ_=> ?_)⟩
  rw[hJ]
  show rec (IntKind.i64.wrap ((k:Int)+1)) _
  rw[wrapS (by omega)]
  exact hrec _ ⟨by omega,by omega⟩
 ·intro rec s ⟨g1,g2⟩
  have g2:s+(([]:List (List Sp)).flatten.length:Int)=ls.flatten.length:=g2
  simp only[List.flatten_nil,List.length_nil] at g2
  show IFB _ _ _
  refine IFB.mk (λh=>absurd (of_decide_eq_true h) (by show ¬((ls.length:Int)<ls.length);omega)) (λ_=> ?_)
  dsimp only
  refine⟨by omega,λ_=> ?_⟩
  refine LOOP.list ls (λk (s:List Sp)=>((k:Int),s,())) (λu=>Int.toNat u.1) (λk r (s:List Sp)=>s++r.flatten=ls.flatten) [] rfl rfl (λk s h=>by simp) ?_ ?_
  ·intro rec k x r s hd hk hkl g1 hrec
   have hx:=ix_of hk
   have hlen:s.length+(x.length+r.flatten.length)<=100000:=by
    have:=congrArg List.length g1
    rw[List.length_append,List.flatten_cons,List.length_append] at this
    omega
   show IFB _ _ _
   refine IFB.mk (λ_=>⟨by show 0<=(k:Int)/\(k:Int)<ls.length;omega,?_⟩) (λh=>absurd (of_decide_eq_false h) (by show ¬¬((k:Int)<ls.length);omega))
   dsimp only
   rw[hx,wrapS (by omega)]
   refine⟨by omega,hrec _ ?_⟩
   rw[<-g1,List.flatten_cons,List.append_assoc]
  ·intro rec s g1
   show IFB _ _ _
   refine IFB.mk (λh=>absurd (of_decide_eq_true h) (by show ¬((ls.length:Int)<ls.length);omega)) (λ_=> ?_)
   have g1:s=ls.flatten:=by simpa using g1
   show post s
   rw[g1];exact hp
def peqs_P (a:List (region_Span))(b:List (region_Span))(post:Bool->Prop):Prop:=(a.length<=1000000000)/\∀q:Bool,(q=true↔a=b)->post q
def peqs_sp:Spec:=⟨160,false,false,[.sl (.st .region_Span),.sl (.st .region_Span)],.dat (.bool),λx post=>peqs_P (x.1:List (region_Span)) (x.2.1:List (region_Span)) (λy0=>post (y0,()))⟩
def peqs_C:CtxR:=⟨tau,[],lookJ [(0,9,⟨[(13,.dat (.int .i64))],[],(List.range' 14 12++[5]),[],[]⟩)]⟩
def peqs_W (a:List (region_Span))(b:List (region_Span))(post:Bool->Prop):Prop:=(↑a.length:Int)<=9223372036854775807->(↑b.length:Int)<=9223372036854775807->IFB (!decide ((↑a.length:Int)=(↑b.length:Int))) (post false) ((↑a.length:Int)<=9223372036854775807->LOOP [Ty.int IntKind.i64] (λ(rec1:Int->Prop) (z2:Int)=>IFB (decide (z2<(↑a.length:Int))) (((0:Int)<=z2/\z2<(↑a.length:Int))/\((0:Int)<=z2/\z2<(↑b.length:Int))/\IFB (!(decide ((ix a z2).1=(ix b z2).1)&&(decide ((ix a z2).2=(ix b z2).2)&&true))) (post false) (rec1 (IntKind.i64.wrap (z2+1)))) (post true)) ((0:Int),PUnit.unit))
theorem peqs_w (a:List (region_Span))(b:List (region_Span))(post:dens (shT peqs_sp.rs [])->Prop):peqs_W a b (λy0=>post (y0,()))=walkG (callR Tryz.prog peqs_C (drawR Tryz.prog tau) 8 0) 160 false [tv (.sl (.st .region_Span)) a,tv (.sl (.st .region_Span)) b] peqs_sp.rs post:=by kernel_rfl
theorem peqs_of (h:∀a b post,peqs_P a b post->peqs_W a b post):SpecOK Tryz.prog peqs_sp:=SpecOK.of_rules (C:=peqs_C) (dr:=drawR Tryz.prog tau) (n:=8) (fk:=0) .nil (drawR_ok tau) λx post hp=>HoldW.of (peqs_w x.1 x.2.1 post) (h x.1 x.2.1 (λy0=>post (y0,())) hp)
theorem peqs_ok:SpecOK Tryz.prog peqs_sp:=peqs_of λa b post hp=>by
 obtain⟨hl,hp⟩:=hp
 unfold peqs_W
 intro _ _
 refine IFB.mk (λhb=>hp _ ?_) (λhb _=> ?_)
 ·have hb:¬(a.length:Int)=b.length:=by simpa using hb
  constructor
  ·intro h;cases h
  ·intro h;rw[h] at hb;exact absurd rfl hb
 ·have hb:(a.length:Int)=b.length:=by simpa using hb
  have hab:a.length=b.length:=by omega
  have hiff:=list_eq_iff hab
  refine loopCmp (n:=a.length) (by omega) (p:=λj=>ix a (j:Int)=ix b (j:Int)) (λrec k hk hpre hrec=>⟨by omega,by omega,IFB.mk (λhb=>hp _ ?_) (λhb=>hrec ?_)⟩) λhall=>hp _ ?_
  ·constructor
   ·intro h;cases h
   ·intro h
    rw[hiff.1 h k hk] at hb
    simp at hb
  ·generalize ix a (k:Int)=u at hb ⊢
   generalize ix b (k:Int)=v at hb ⊢
   cases u
   cases v
   simp at hb
   simp[hb]
  ·exact⟨λ_=>hiff.2 hall,λ_=>rfl⟩
def peqr_P (a:List (api_Rect))(b:List (api_Rect))(post:Bool->Prop):Prop:=(a.length<=1000000000)/\∀q:Bool,(q=true↔a=b)->post q
def peqr_sp:Spec:=⟨78,false,false,[.sl (.st .api_Rect),.sl (.st .api_Rect)],.dat (.bool),λx post=>peqr_P (x.1:List (api_Rect)) (x.2.1:List (api_Rect)) (λy0=>post (y0,()))⟩
def peqr_C:CtxR:=⟨tau,[],lookJ [(0,9,⟨[(13,.dat (.int .i64))],[],(List.range' 14 12++[5]),[],[]⟩)]⟩
def peqr_W (a:List (api_Rect))(b:List (api_Rect))(post:Bool->Prop):Prop:=(↑a.length:Int)<=9223372036854775807->(↑b.length:Int)<=9223372036854775807->IFB (!decide ((↑a.length:Int)=(↑b.length:Int))) (post false) ((↑a.length:Int)<=9223372036854775807->LOOP [Ty.int IntKind.i64] (λ(rec1:Int->Prop) (z2:Int)=>IFB (decide (z2<(↑a.length:Int))) (((0:Int)<=z2/\z2<(↑a.length:Int))/\((0:Int)<=z2/\z2<(↑b.length:Int))/\IFB (!(decide ((ix a z2).1=(ix b z2).1)&&(decide ((ix a z2).2=(ix b z2).2)&&(decide ((ix a z2).3=(ix b z2).3)&&(decide ((ix a z2).4=(ix b z2).4)&&true))))) (post false) (rec1 (IntKind.i64.wrap (z2+1)))) (post true)) ((0:Int),PUnit.unit))
theorem peqr_w (a:List (api_Rect))(b:List (api_Rect))(post:dens (shT peqr_sp.rs [])->Prop):peqr_W a b (λy0=>post (y0,()))=walkG (callR Tryz.prog peqr_C (drawR Tryz.prog tau) 8 0) 78 false [tv (.sl (.st .api_Rect)) a,tv (.sl (.st .api_Rect)) b] peqr_sp.rs post:=by kernel_rfl
theorem peqr_of (h:∀a b post,peqr_P a b post->peqr_W a b post):SpecOK Tryz.prog peqr_sp:=SpecOK.of_rules (C:=peqr_C) (dr:=drawR Tryz.prog tau) (n:=8) (fk:=0) .nil (drawR_ok tau) λx post hp=>HoldW.of (peqr_w x.1 x.2.1 post) (h x.1 x.2.1 (λy0=>post (y0,())) hp)
theorem peqr_ok:SpecOK Tryz.prog peqr_sp:=peqr_of λa b post hp=>by
 obtain⟨hl,hp⟩:=hp
 unfold peqr_W
 intro _ _
 refine IFB.mk (λhb=>hp _ ?_) (λhb _=> ?_)
 ·have hb:¬(a.length:Int)=b.length:=by simpa using hb
  constructor
  ·intro h;cases h
  ·intro h;rw[h] at hb;exact absurd rfl hb
 ·have hb:(a.length:Int)=b.length:=by simpa using hb
  have hab:a.length=b.length:=by omega
  have hiff:=list_eq_iff hab
  refine loopCmp (n:=a.length) (by omega) (p:=λj=>ix a (j:Int)=ix b (j:Int)) (λrec k hk hpre hrec=>⟨by omega,by omega,IFB.mk (λhb=>hp _ ?_) (λhb=>hrec ?_)⟩) λhall=>hp _ ?_
  ·constructor
   ·intro h;cases h
   ·intro h
    rw[hiff.1 h k hk] at hb
    simp at hb
  ·generalize ix a (k:Int)=u at hb ⊢
   generalize ix b (k:Int)=v at hb ⊢
   cases u
   cases v
   simp at hb
   simp[hb]
  ·exact⟨λ_=>hiff.2 hall,λ_=>rfl⟩
def prects_P (l:List (region_band))(post:List (api_Rect)->Prop):Prop:=((flat l).length<=1000000000/\l.length<=1000000000)/\post (flat l)
def prects_sp:Spec:=⟨161,false,true,[.sl (.st .region_band)],.dat (.sl (.st .api_Rect)),λx post=>prects_P (x.1:List (region_band)) (λy0=>post (y0,()))⟩
def prects_C:CtxR:=⟨tau,[],lookJ [(0,7,⟨[(10,.dat (.int .i64)),(3,.own 78 (.st .api_Rect))],[],(List.range' 11 24++[5,7]),[],[]⟩),(0,13,⟨[(17,.dat (.int .i64)),(3,.own 78 (.st .api_Rect))],[],(List.range' 18 16++[7]),[0],[]⟩)]⟩
def prects_W (l:List (region_band))(post:List (api_Rect)->Prop):Prop:=(↑l.length:Int)<=9223372036854775807->LOOP [Ty.int IntKind.i64,(Ty.st Sn.api_Rect).sl] (λ(rec1:Int->List api_Rect->Prop) (z2:Int) (z3:List api_Rect)=>IFB (decide (z2<(↑l.length:Int))) (((0:Int)<=z2/\z2<(↑l.length:Int))/\((↑(ix l z2).3.length:Int)<=9223372036854775807->LOOP [Ty.int IntKind.i64,(Ty.st Sn.api_Rect).sl] (λ(rec4:Int->List api_Rect->Prop) (z5:Int) (z6:List api_Rect)=>IFB (decide (z5<(↑(ix l z2).3.length:Int))) (((0:Int)<=z5/\z5<(↑(ix l z2).3.length:Int))/\(z6.length+[(⟨(ix (ix l z2).3 z5).1,(ix l z2).1,(ix (ix l z2).3 z5).2,(ix l z2).2⟩:api_Rect)].length) * (32:Nat)<=140737488355328/\rec4 (IntKind.i64.wrap (z5+1)) (z6++[(⟨(ix (ix l z2).3 z5).1,(ix l z2).1,(ix (ix l z2).3 z5).2,(ix l z2).2⟩:api_Rect)])) (rec1 (IntKind.i64.wrap (z2+1)) z6)) ((0:Int),z3,PUnit.unit))) (post z3)) ((0:Int),[],PUnit.unit)
theorem prects_w (l:List (region_band))(post:dens (shT prects_sp.rs [])->Prop):prects_W l (λy0=>post (y0,()))=walkG (callR Tryz.prog prects_C (drawR Tryz.prog tau) 8 0) 161 false [tv (.sl (.st .region_band)) l] prects_sp.rs post:=by kernel_rfl
theorem prects_of (h:∀l post,prects_P l post->prects_W l post):SpecOK Tryz.prog prects_sp:=SpecOK.of_rules (C:=prects_C) (dr:=drawR Tryz.prog tau) (n:=8) (fk:=0) .nil (drawR_ok tau) λx post hp=>HoldW.of (prects_w x.1 post) (h x.1 (λy0=>post (y0,())) hp)
theorem flat1_cons {u v:Int}{s:Sp}{r:List Sp}:flat1 ⟨u,v,s::r⟩=⟨s.1,u,s.2,v⟩::flat1 ⟨u,v,r⟩:=rfl
theorem rects_in {b:Bd}{A:List Rc}{K:List Rc->Prop}(hl:A.length+(flat1 b).length<=1000000000)(hK:K (A++flat1 b)):
 LOOP [Ty.int IntKind.i64,(Ty.st Sn.api_Rect).sl] (λ(rec4:Int->List api_Rect->Prop) (z5:Int) (z6:List api_Rect)=>IFB (decide (z5<(↑b.3.length:Int))) (((0:Int)<=z5/\z5<(↑b.3.length:Int))/\(z6.length+[{Left:=(ix b.3 z5).1,Low:=b.1,Right:=(ix b.3 z5).2,High:=b.2:api_Rect}].length) * 32<=140737488355328/\rec4 (IntKind.i64.wrap (z5+(1:Int))) (z6++[{Left:=(ix b.3 z5).1,Low:=b.1,Right:=(ix b.3 z5).2,High:=b.2:api_Rect}])) (K z6)) ((0:Int),A,PUnit.unit):=by
 have hfl:(flat1 b).length=b.3.length:=by unfold flat1;simp
 refine LOOP.list b.3 (λk (s:List Rc)=>((k:Int),s,())) (λu=>Int.toNat u.1) (λk r (s:List Rc)=>s++flat1 ⟨b.1,b.2,r⟩=A++flat1 b/\s.length=A.length+k) A rfl ⟨rfl,rfl⟩ (λk s h=>by simp) ?_ ?_
 ·intro rec k x r s hd hk hkl ⟨g1,g2⟩ hrec
  have hx:=ix_of hk
  show IFB _ _ _
  refine IFB.mk (λ_=>⟨by show 0<=(k:Int)/\(k:Int)<b.3.length;omega,?_⟩) (λh=>absurd (of_decide_eq_false h) (by show ¬¬((k:Int)<b.3.length);omega))
  dsimp only
  rw[hx]
  refine⟨by simp only[List.length_cons,List.length_nil];omega,?_⟩
  rw[wrapS (by omega)]
  refine hrec _ ⟨?_,?_⟩
  ·rw[<-g1,flat1_cons];simp
  ·simp only[List.length_append,List.length_cons,List.length_nil];omega
 ·intro rec s ⟨g1,g2⟩
  show IFB _ _ _
  refine IFB.mk (λh=>absurd (of_decide_eq_true h) (by show ¬((b.3.length:Int)<b.3.length);omega)) (λ_=> ?_)
  have g1:s=A++flat1 b:=by simpa [flat1] using g1
  show K s
  rw[g1];exact hK
theorem prects_ok:SpecOK Tryz.prog prects_sp:=prects_of λl post hp=>by
 obtain⟨⟨h1,h2⟩,hp⟩:=hp
 unfold prects_W
 intro _
 refine LOOP.list l (λk (s:List Rc)=>((k:Int),s,())) (λu=>Int.toNat u.1) (λk r (s:List Rc)=>s++flat r=flat l) [] rfl rfl (λk s h=>by simp) ?_ ?_
 ·intro rec k x r s hd hk hkl g1 hrec
  have hx:=ix_of hk
  have hfc:flat (x::r)=flat1 x++flat r:=rfl
  have hlen:s.length+((flat1 x).length+(flat r).length)<=1000000000:=by
   have:=congrArg List.length g1
   rw[List.length_append,hfc,List.length_append] at this
   omega
  show IFB _ _ _
  refine IFB.mk (λ_=>⟨by show 0<=(k:Int)/\(k:Int)<l.length;omega,?_⟩) (λh=>absurd (of_decide_eq_false h) (by show ¬¬((k:Int)<l.length);omega))
  dsimp only
  rw[hx]
  intro _
  refine rects_in (b:=x) (A:=s) (K:=λz6=>rec (IntKind.i64.wrap ((k:Int)+1)) z6) (by omega) ?_
  rw[wrapS (by omega)]
  refine hrec _ ?_
  rw[<-g1,hfc,List.append_assoc]
 ·intro rec s g1
  show IFB _ _ _
  refine IFB.mk (λh=>absurd (of_decide_eq_true h) (by show ¬((l.length:Int)<l.length);omega)) (λ_=> ?_)
  have g1:s=flat l:=by simpa [flat] using g1
  show post s
  rw[g1];exact hp
def bandM (z3:List region_band)(u v:Int)(ss:List region_Span)(J5:List region_band->Prop):Prop:=((↑z3.length:Int)<=(9223372036854775807:Int)->(gx true (decide ((0:Int)<(↑z3.length:Int)))=true->(0:Int)<=IntKind.i64.wrap ((↑z3.length:Int)-(1:Int))/\IntKind.i64.wrap ((↑z3.length:Int)-(1:Int))<(↑z3.length:Int))/\(gx true (decide ((0:Int)<(↑z3.length:Int))&&decide ((ix z3 (IntKind.i64.wrap ((↑z3.length:Int)-(1:Int)))).2=u))=true->(0:Int)<=IntKind.i64.wrap ((↑z3.length:Int)-(1:Int))/\IntKind.i64.wrap ((↑z3.length:Int)-(1:Int))<(↑z3.length:Int))/\JOIN [Ty.bool] (λ(y14:Bool)=>IFB (decide ((0:Int)<(↑z3.length:Int))&&decide ((ix z3 (IntKind.i64.wrap ((↑z3.length:Int)-(1:Int)))).2=u)&&y14) (((0:Int)<=IntKind.i64.wrap ((↑z3.length:Int)-(1:Int))/\IntKind.i64.wrap ((↑z3.length:Int)-(1:Int))<(↑z3.length:Int))/\J5 (z3.set (IntKind.i64.wrap ((↑z3.length:Int)-(1:Int))).toNat {low:=(ix z3 (IntKind.i64.wrap ((↑z3.length:Int)-(1:Int)))).1,high:=v,spans:=(ix z3 (IntKind.i64.wrap ((↑z3.length:Int)-(1:Int)))).3:region_band})) ((z3.length+[{low:=u,high:=v,spans:=ss:region_band}].length) * (40:Nat)<=(140737488355328:Nat)/\J5 (z3++[{low:=u,high:=v,spans:=ss:region_band}]))) λ(J15:Bool->Prop)=>IFB (gx true (decide ((0:Int)<(↑z3.length:Int))&&decide ((ix z3 (IntKind.i64.wrap ((↑z3.length:Int)-(1:Int)))).2=u))) ((ix z3 (IntKind.i64.wrap ((↑z3.length:Int)-(1:Int)))).3.length<=(1000000000:Nat)/\∀(v16:Bool),(v16=true↔(ix z3 (IntKind.i64.wrap ((↑z3.length:Int)-(1:Int)))).3=ss)->J15 v16) (J15 false))
theorem bandM_ok {out:List Bd}{u v:Int}{ss:List Sp}{J:List Bd->Prop}(hN:out.length<=1000000)(hS:∀b∈out,b.3.length<=1000000000)(hJ:J (addBd out u v ss)):bandM out u v ss J:=by
 unfold bandM
 intro _
 rcases List.eq_nil_or_concat out with rfl|⟨A,b,rfl⟩
 ·have hj:addBd [] u v ss=[⟨u,v,ss⟩]:=rfl
  rw[hj] at hJ
  refine⟨λh=>(by cases h),λh=>(by cases h),JOIN.opq λ(J8:Bool->Prop) hJ8=>IFB.mk (λhb=>(by cases hb)) (λ_=> ?_)⟩
  rw[hJ8]
  exact IFB.mk (λhb=>(by cases hb)) (λ_=>⟨by simp,hJ⟩)
 ·rw[List.concat_eq_append] at *
  have hAl:(A++[b]).length=A.length+1:=by simp
  have w1:IntKind.i64.wrap (((A++[b]).length:Int)-1)=A.length:=by
   rw[hAl,wrap_in (by omega) (by omega)]
   omega
  have hq:ix (A++[b]) (A.length:Int)=b:=ix_app rfl
  have hset:∀z,(A++[b]).set (A.length:Int).toNat z=A++[z]:=λz=>set_app (by simp)
  rw[w1,hq,hset]
  have hj:addBd (A++[b]) u v ss=if b.high=u/\b.spans=ss then A++[⟨b.low,v,b.spans⟩] else A++[b]++[⟨u,v,ss⟩]:=by
   unfold addBd
   simp
  rw[hj] at hJ
  have hd:decide ((0:Int)<((A++[b]).length:Int))=true:=decide_eq_true (by omega)
  rw[hd,Bool.true_and]
  have hsz:((A++[b]).length+[({low:=u,high:=v,spans:=ss}:region_band)].length) * 40<=140737488355328:=by
   rw[hAl];simp only[List.length_cons,List.length_nil];omega
  refine⟨λ_=>by omega,λ_=>by omega,JOIN.opq λ(J8:Bool->Prop) hJ8=>IFB.mk (λhb=>⟨hS b (by simp),λy hy=> ?_⟩) (λhb=> ?_)⟩
  ·have hb:b.high=u:=of_decide_eq_true hb
   have hb2:decide (b.high=u)=true:=decide_eq_true hb
   rw[hJ8]
   dsimp only
   refine IFB.mk (λh=>⟨by omega,?_⟩) (λh=>⟨hsz,?_⟩)
   ·rw[Bool.and_eq_true] at h
    rw[if_pos ⟨hb,hy.1 h.2⟩] at hJ
    exact hJ
   ·rw[if_neg (λhh=>by rw[hy.2 hh.2] at h;rw[show b.2=u from hb] at h;simp at h)] at hJ
    exact hJ
  ·have hb:¬b.high=u:=of_decide_eq_false hb
   rw[hJ8]
   dsimp only
   refine IFB.mk (λh=> ?_) (λh=>⟨hsz,?_⟩)
   ·rw[Bool.and_eq_true] at h
    cases h.2
   ·rw[if_neg (λhh=>hb hh.1)] at hJ
    exact hJ
theorem addBd_len1 {out:List Bd}{u v:Int}{ss:List Sp}:(addBd out u v ss).length<=out.length+1:=by
 rcases List.eq_nil_or_concat out with rfl|⟨A,b,rfl⟩
 ·simp[addBd]
 ·unfold addBd
  simp
  split<;>simp
theorem addBd_sp {out:List Bd}{u v:Int}{ss:List Sp}{N:Nat}(h:∀b∈out,b.3.length<=N)(hs:ss.length<=N):∀b∈addBd out u v ss,b.3.length<=N:=by
 rcases List.eq_nil_or_concat out with rfl|⟨A,c,rfl⟩
 ·intro b hb
  simp[addBd] at hb
  subst hb;exact hs
 ·rw[List.concat_eq_append] at *
  have hj:addBd (A++[c]) u v ss=if c.high=u/\c.spans=ss then A++[⟨c.low,v,c.spans⟩] else A++[c]++[⟨u,v,ss⟩]:=by
   unfold addBd
   simp
  rw[hj]
  intro b hb
  split at hb
  ·rcases List.mem_append.1 hb with hb|hb
   ·exact h b (by simp[hb])
   ·rw[List.mem_singleton] at hb
    subst hb
    exact h c (by simp)
  ·rcases List.mem_append.1 hb with hb|hb
   ·exact h b hb
   ·rw[List.mem_singleton] at hb
    subst hb
    exact hs
theorem build_loop {xs:List Int}{R:Int->List Sp}(hR:∀y,(R y).length<=100000)(hx:xs.length<=100000){B:(Int->List region_band->Prop)->Int->List region_band->Prop}{K:List region_band->Prop}
 (hB:∀(rec:Int->List Bd->Prop)(k:Nat)(acc:List Bd),k+1<xs.length->acc.length<=k->(∀b∈acc,b.3.length<=100000)->rec ((k+2:Nat):Int) (addBd acc (ix xs (k:Int)) (ix xs ((k+1:Nat):Int)) (R (ix xs (k:Int))))->B rec ((k+1:Nat):Int) acc)
 (hK:(buildG R [] xs).length<=100000->K (buildG R [] xs)):
 LOOP [Ty.int IntKind.i64,(Ty.st Sn.region_band).sl] (λ(rec1:Int->List region_band->Prop) (z2:Int) (z3:List region_band)=>(xs.length:Int)<=(9223372036854775807:Int)->IFB (decide (z2<(xs.length:Int))) (B rec1 z2 z3) (K z3)) ((1:Int),[],PUnit.unit):=by
 refine LOOP.fuel (λu=>∃(k:Nat)(acc:List Bd),u.1=((k+1:Nat):Int)/\u.2.1=acc/\k<=xs.length/\buildG R acc (xs.drop k)=buildG R [] xs/\acc.length<=k/\∀b∈acc,b.3.length<=100000) (λu=>xs.length+1-Int.toNat u.1) ⟨0,[],rfl,rfl,Nat.zero_le _,rfl,Nat.le_refl _,λb hb=>by cases hb⟩ ?_
 rintro rec ⟨(z2:Int),(z3:List region_band),⟨⟩⟩ ⟨k,acc,h1,h2,h3,h4,h5,h6⟩ hrec
 have h1:z2=((k+1:Nat):Int):=h1
 have h2:z3=acc:=h2
 subst h1 h2
 have h5:z3.length<=k:=h5
 intro _
 refine IFB.mk (λhb=> ?_) (λhb=> ?_)
 ·have hb:((k+1:Nat):Int)<xs.length:=of_decide_eq_true hb
  have hb:k+1<xs.length:=by omega
  refine hB rec k z3 hb h5 h6 ?_
  obtain⟨d1,d2⟩:=drop_two hb
  refine hrec (((k+2:Nat):Int),_,()) ⟨k+1,_,rfl,rfl,by omega,?_,Nat.le_trans addBd_len1 (by show z3.length+1<=k+1;omega),addBd_sp h6 (hR _)⟩ (by show xs.length+1-((k+2:Nat):Int).toNat<xs.length+1-((k+1:Nat):Int).toNat;omega)
  rw[<-h4,d1,d2]
  rfl
 ·have hb:¬((k+1:Nat):Int)<xs.length:=of_decide_eq_false hb
  rw[short_drop (by omega)] at h4
  rw[<-h4] at hK
  exact hK (by omega)
theorem rowS_len {l:List Rc}{y:Int}:(rowS l y).length<=2 * l.length:=by
 unfold rowS spansOf
 have h1:=spansG_len (p:=λx=>cov l x y) (xs:=edgesS l) (out:=[])
 have h2:=fold_len (f:=λr=>r.Left) (g:=λr=>r.Right) (l:=l) (a:=[])
 have h3:(edgesS l).length<=([]:List Int).length+2 * l.length:=h2
 simp only[List.length_nil] at h1 h3
 omega
theorem cutsS_len {l:List Rc}:(cutsS l).length<=2 * l.length:=by
 have h3:(cutsS l).length<=([]:List Int).length+2 * l.length:=fold_len (f:=λr=>r.Low) (g:=λr=>r.High) (l:=l) (a:=[])
 simpa using h3
theorem can_build (l:List Rc):canonF (cov l)=flat (buildG (rowS l) [] (cutsS l)):=by
 have h:=comb_build (howS_0 1) (a:=l) (b:=[]) (R:=rowS l) λu hu=>by
  have h:=comb_row (howS_0 1) (a:=l) (b:=[]) (y:=u)
  rw[comb_or_nil,List.append_nil] at h
  rw[comb_or_nil]
  exact h
 rw[comb_or_nil,List.append_nil] at h
 exact h.2.2
def pcan_P (l:List (api_Rect))(post:List (api_Rect)->Prop):Prop:=((∀r∈l,proper r)/\l.length<=10000)/\post (canonF (cov l))
def pcan_sp:Spec:=⟨93,false,true,[.sl (.st .api_Rect)],.dat (.sl (.st .api_Rect)),λx post=>pcan_P (x.1:List (api_Rect)) (λy0=>post (y0,()))⟩
def pcan_C:CtxR:=⟨tau,[rule1 pcuts_sp,rule1 prow_sp,rule1 peqs_sp,rule1 prects_sp],lookJ [(1026,7,⟨[(6,.dat (.int .i64)),(5,.own 251 (.st .region_band))],[],(List.range' 7 62),[],[]⟩),(1026,8,⟨[(5,.own 251 (.st .region_band))],[],(List.range' 15 54++[7,8]),[2],[]⟩)]⟩
abbrev pcan_a0 (z3:List region_band):=(ix z3 (IntKind.i64.wrap ((↑z3.length:Int)-(1:Int))))
abbrev pcan_a1 (l:List (api_Rect))(z2:Int):={low:=ix (cutsS (l.append [])) (IntKind.i64.wrap (z2-(1:Int))),high:=ix (cutsS (l.append [])) z2,spans:=rowS l (ix (cutsS (l.append [])) (IntKind.i64.wrap (z2-(1:Int)))):region_band}
abbrev pcan_a2 (z3:List region_band)(l:List (api_Rect))(z2:Int):=(decide ((0:Int)<(↑z3.length:Int))&&decide ((pcan_a0 z3).2=ix (cutsS (l.append [])) (IntKind.i64.wrap (z2-(1:Int)))))
abbrev pcan_a3 (z3:List region_band)(J5:List region_band->Prop)(l:List (api_Rect))(z2:Int):=(((0:Int)<=IntKind.i64.wrap ((↑z3.length:Int)-(1:Int))/\IntKind.i64.wrap ((↑z3.length:Int)-(1:Int))<(↑z3.length:Int))/\J5 (z3.set (IntKind.i64.wrap ((↑z3.length:Int)-(1:Int))).toNat {low:=(pcan_a0 z3).1,high:=ix (cutsS (l.append [])) z2,spans:=(pcan_a0 z3).3:region_band}))
abbrev pcan_a4 (z3:List region_band):=(gx true (decide ((0:Int)<(↑z3.length:Int)))=true->(0:Int)<=IntKind.i64.wrap ((↑z3.length:Int)-(1:Int))/\IntKind.i64.wrap ((↑z3.length:Int)-(1:Int))<(↑z3.length:Int))
abbrev pcan_a5 (z3:List region_band)(l:List (api_Rect))(z2:Int):=(gx true (pcan_a2 z3 l z2)=true->(0:Int)<=IntKind.i64.wrap ((↑z3.length:Int)-(1:Int))/\IntKind.i64.wrap ((↑z3.length:Int)-(1:Int))<(↑z3.length:Int))
def pcan_W (l:List (api_Rect))(post:List (api_Rect)->Prop):Prop:=((l.append []).length<=10000/\[l].length<=10)/\LOOP [Ty.int IntKind.i64,(Ty.st Sn.region_band).sl] (λ(rec1:Int->List region_band->Prop) (z2:Int) (z3:List region_band)=>(↑(cutsS (l.append [])).length:Int)<=9223372036854775807->IFB (decide (z2<(↑(cutsS (l.append [])).length:Int))) (JOIN [(Ty.st Sn.region_band).sl] (λ(y4:List region_band)=>rec1 (IntKind.i64.wrap (z2+1)) y4) λ(J5:List region_band->Prop)=>((0:Int)<=IntKind.i64.wrap (z2-1)/\IntKind.i64.wrap (z2-1)<(↑(cutsS (l.append [])).length:Int))/\((0:Int)<=z2/\z2<(↑(cutsS (l.append [])).length:Int))/\((0:Int)<=IntKind.i64.wrap (z2-1)/\IntKind.i64.wrap (z2-1)<(↑(cutsS (l.append [])).length:Int))/\(((∀(v6:api_Rect),v6∈l->v6.1<v6.3)/\l.length<=10000)/\((↑z3.length:Int)<=9223372036854775807->(pcan_a4 z3)/\(pcan_a5 z3 l z2)/\JOIN [Ty.bool] (λ(y7:Bool)=>IFB (decide ((0:Int)<(↑z3.length:Int))&&decide ((pcan_a0 z3).2=ix (cutsS (l.append [])) (IntKind.i64.wrap (z2-1)))&&y7) (pcan_a3 z3 J5 l z2) ((z3.length+[(pcan_a1 l z2)].length) * (40:Nat)<=140737488355328/\J5 (z3++[(pcan_a1 l z2)]))) λ(J8:Bool->Prop)=>IFB (gx true (pcan_a2 z3 l z2)) ((pcan_a0 z3).3.length<=1000000000/\∀(v9:Bool),(v9=true↔(pcan_a0 z3).3=rowS l (ix (cutsS (l.append [])) (IntKind.i64.wrap (z2-1))))->J8 v9) (J8 false))/\((↑z3.length:Int)<=9223372036854775807->(pcan_a4 z3)/\(pcan_a5 z3 l z2)/\JOIN [Ty.bool] (λ(y10:Bool)=>IFB (decide ((0:Int)<(↑z3.length:Int))&&decide ((pcan_a0 z3).2=ix (cutsS (l.append [])) (IntKind.i64.wrap (z2-1)))&&y10) (pcan_a3 z3 J5 l z2) ((z3.length+[(pcan_a1 l z2)].length) * (40:Nat)<=140737488355328/\J5 (z3++[(pcan_a1 l z2)]))) λ(J11:Bool->Prop)=>IFB (gx true (pcan_a2 z3 l z2)) ((pcan_a0 z3).3.length<=1000000000/\∀(v12:Bool),(v12=true↔(pcan_a0 z3).3=rowS l (ix (cutsS (l.append [])) (IntKind.i64.wrap (z2-1))))->J11 v12) (J11 false)))/\((∀(v13:api_Rect),v13∈l->v13.1<v13.3)/\l.length<=10000)/\((↑z3.length:Int)<=9223372036854775807->(pcan_a4 z3)/\(pcan_a5 z3 l z2)/\JOIN [Ty.bool] (λ(y14:Bool)=>IFB (decide ((0:Int)<(↑z3.length:Int))&&decide ((pcan_a0 z3).2=ix (cutsS (l.append [])) (IntKind.i64.wrap (z2-1)))&&y14) (pcan_a3 z3 J5 l z2) ((z3.length+[(pcan_a1 l z2)].length) * (40:Nat)<=140737488355328/\J5 (z3++[(pcan_a1 l z2)]))) λ(J15:Bool->Prop)=>IFB (gx true (pcan_a2 z3 l z2)) ((pcan_a0 z3).3.length<=1000000000/\∀(v16:Bool),(v16=true↔(pcan_a0 z3).3=rowS l (ix (cutsS (l.append [])) (IntKind.i64.wrap (z2-1))))->J15 v16) (J15 false))) (((flat z3).length<=1000000000/\z3.length<=1000000000)/\post (flat z3))) ((1:Int),[],PUnit.unit)
theorem pcan_w (l:List (api_Rect))(post:dens (shT pcan_sp.rs [])->Prop):pcan_W l (λy0=>post (y0,()))=walkG (callR Tryz.prog pcan_C (drawR Tryz.prog tau) 10 0) 93 false [tv (.sl (.st .api_Rect)) l] pcan_sp.rs post:=by kernel_rfl
theorem pcan_of (h:∀l post,pcan_P l post->pcan_W l post):SpecOK Tryz.prog pcan_sp:=SpecOK.of_rules (C:=pcan_C) (dr:=drawR Tryz.prog tau) (n:=10) (fk:=0) (.cons (rule1_ok pcuts_ok) (.cons (rule1_ok prow_ok) (.cons (rule1_ok peqs_ok) (.cons (rule1_ok prects_ok) .nil)))) (drawR_ok tau) λx post hp=>HoldW.of (pcan_w x.1 post) (h x.1 (λy0=>post (y0,())) hp)
theorem pcan_ok:SpecOK Tryz.prog pcan_sp:=pcan_of λl post hp=>by
 obtain⟨⟨h1,h2⟩,hp⟩:=hp
 have hcl:=cov_len h1
 rw[can_build] at hp hcl
 unfold pcan_W pcan_a5 pcan_a4 pcan_a3 pcan_a2 pcan_a1 pcan_a0
 have e:l.append []=l:=List.append_nil l
 rw[e]
 have hc:=cutsS_len (l:=l)
 have hlr:∀r∈l,r.1<r.3:=λr hr=>(h1 r hr).2.1
 refine⟨⟨h2,by simp⟩,?_⟩
 refine build_loop (xs:=cutsS l) (R:=rowS l) (λy=>by have:=rowS_len (l:=l) (y:=y);omega) (by omega) (λrec k acc hk hal has hrec=> ?_) (λhlen=>⟨⟨by omega,by omega⟩,hp⟩)
 refine JOIN.opq λ(J:List Bd->Prop) hJ=> ?_
 have w1:IntKind.i64.wrap (((k+1:Nat):Int)-1)=k:=by rw[wrap_in (by omega) (by omega)];omega
 rw[w1]
 have hJ:J (addBd acc (ix (cutsS l) (k:Int)) (ix (cutsS l) ((k+1:Nat):Int)) (rowS l (ix (cutsS l) (k:Int)))):=by
  rw[hJ]
  show rec (IntKind.i64.wrap (((k+1:Nat):Int)+1)) _
  rw[wrapS (by omega)]
  exact hrec
 have main:=bandM_ok (by omega) (λb hb=>Nat.le_trans (has b hb) (by omega)) hJ
 have hD:(∀v6:api_Rect,v6∈l->v6.1<v6.3)/\l.length<=10000:=⟨hlr,h2⟩
 exact⟨by omega,by omega,by omega,⟨hD,main,main⟩,hD,main⟩
variable {P:Program}
def clo (g:FuncId):Value:= .func (.func g) #[] #[]
def SpecCOK (P:Program)(s:Spec)(cl:List Value):Prop:=∀x post,s.pt x post->∀w (S:Cells)(T:Option Nat)(us:List Value),(∀b o,S b o->b<w.heap.size)->TapeC s.tp w S T->us.length=s.ts.length->
 (∀(i:Nat)(d:D)(u:Value),(tvs s.ts x)[i]? =some d->us[i]? =some u->Rd S w d u)->
 Calls P s.f (tpArg T us++cl).toArray w λe w'=>∃v y c',e= .returned v/\post y/\OXM (MS.add ⟨[],0,s.tp⟩ (instS s.rs [] y 0).2.1) w' c'/\TrM ⟨[],0,s.tp⟩ w (cx0 S T) (MS.add ⟨[],0,s.tp⟩ (instS s.rs [] y 0).2.1) w' c'/\SRel c' w' (instS s.rs [] y 0).1 v
theorem byConC_ok {cl:List Value}{s:Spec}(hs:SpecCOK P s cl){ss:List SV}{m:MS}{k:SV->MS->Prop}(h:byCon s ss m k){us:List Value}{w:World}{c:Cx}(hox:OXM m w c)(hl:us.length=ss.length)(hr:∀(i:Nat)(x:SV)(u:Value),ss[i]? =some x->us[i]? =some u->SRel c w x u/\x.inU m.U):
 Calls P s.f (us++cl).toArray w λe w'=>∃v r m' c',e= .returned v/\k r m'/\FrM m m'/\OXM m' w' c'/\TrM m w c m' w' c'/\SRel c' w' r v/\r.inU m'.U:=by
 unfold byCon at h
 split at h
 ·exact h.elim
 ·rename_i ss' hta
  have harg:∃(us':List Value)(T0:Option Nat),us=tpArg T0 us'/\us'.length=ss'.length/\(∀(i:Nat)(x:SV)(u:Value),ss'[i]? =some x->us'[i]? =some u->SRel c w x u/\x.inU m.U)/\((s.tp=true/\T0=c.T/\m.tp=true/\∃t,c.T=some t)\/(s.tp=false/\T0=none)):=by
   cases htp:s.tp with
   |false=>
    rw[htp] at hta
    injection hta with hta
    subst hta
    exact⟨us,none,rfl,hl,hr,.inr ⟨rfl,rfl⟩⟩
   |true=>
    rw[htp] at hta
    unfold tapeArg at hta
    split at hta
    ·split at hta
     ·rename_i r
      cases hm:m.tp with
      |false=>rw[hm] at hta;cases hta
      |true=>
       rw[hm] at hta
       injection hta with hta
       subst hta
       match us,hl,hr with
       |u::us',hl,hr=>
        obtain⟨T,hT,rfl⟩:=srel_tp (hr 0 .tp u rfl rfl).1
        exact⟨us',some T,rfl,by simpa using hl,λi x u hx hu=>hr (i+1) x u hx hu,.inl ⟨rfl,hT.symm,rfl,T,hT⟩⟩
     ·cases hta
    ·rename_i he;cases he
  obtain⟨us',T0,rfl,hl',hr',hT⟩:=harg
  have hTC:∀S:Cells,(∀b o,c.S b o->S b o)->(s.tp=true->S=c.S)->TapeC s.tp w S T0:=λS hS hSe=>by
   rcases hT with⟨e1,e2,e3,t,e4⟩|⟨e1,e2⟩
   ·rw[e1]
    obtain⟨T,h1,h2⟩:=hox.tpe e3
    refine⟨T,e2.trans h1,?_,?_⟩
    ·rw[hSe e1];exact h2
    ·rw[hSe e1];exact (hox.nT T h1).2
   ·rw[e1];exact e2
  cases hal:s.al with
  |true=>
   rw[hal] at h
   simp only[cond_true] at h
   split at h
   ·rename_i ds ids hd
    split at h
    ·rename_i x hx
     cases hp:shPure s.rs with
     |false=>rw[hp] at h;exact h.elim
     |true=>
      rw[hp] at h
      simp only[cond_true] at h
      obtain⟨c1,ox1,t1,hH1,hT1⟩:=hox.freezes ids
      have ob1:MS.obs ⟨fzU m.obs ids++m.ob,m.nx,m.tp⟩=ovr m.obs (fzU m.obs ids):=lookO_app _ _
      have ox1':OXM ⟨fzU m.obs ids++m.ob,m.nx,m.tp⟩ w c1:=by show OX (MS.obs _) _ _ _ _;rw[ob1];exact ox1
      have t1':TrM m w c ⟨fzU m.obs ids++m.ob,m.nx,m.tp⟩ w c1:=by show Tr _ _ _ _ (MS.obs ⟨_,_,_⟩) _ _ _;rw[ob1];exact t1
      obtain⟨d1,d2⟩:=dataL_rel (m:=m.mem) hox ox1 t1 hH1 ss' hd (λ_ h=>h)
      obtain⟨x1,x2⟩:=undoL_rd hx
      have hTC':TapeC s.tp w c1.S T0:=by
       rcases hT with⟨e1,e2,e3,t,e4⟩|⟨e1,e2⟩
       ·rw[e1]
        obtain⟨T,h1,h2⟩:=ox1'.tpe e3
        exact⟨T,e2.trans (by rw[<-hT1];exact h1),h2,(ox1'.nT T h1).2⟩
       ·rw[e1];exact e2
      refine (hs x _ h w c1.S T0 us' ox1.sb hTC' (by omega) (λi d u hdi hu=> ?_)).mono ?_
      ·have hi:i<ds.length:=by have:=(List.getElem?_eq_some_iff.1 hdi).1;rw[tvs_len] at this;omega
       have his:i<ss'.length:=by omega
       exact x2 i d ds[i] hdi (List.getElem?_eq_getElem hi) (d2 i ss'[i] ds[i] (List.getElem?_eq_getElem his) (List.getElem?_eq_getElem hi) (hr' i _ u (List.getElem?_eq_getElem his) hu).1)
      ·rintro e w' ⟨v,y,c',rfl,hy,oxr,tr,hsr⟩
       have hTT:(s.tp=true/\true=true/\T0=c1.T)\/T0=none:=by
        rcases hT with⟨e1,e2,_⟩|⟨_,e2⟩
        ·exact .inl ⟨e1,rfl,by rw[hT1];exact e2⟩
        ·exact .inr e2
       obtain⟨c2,b1,b2,b3,b4⟩:=call_back (al:=true) ox1' hTT (λ_ _ _ h=>h) (.inl rfl) oxr tr (λe=>by
        rcases hT with⟨_,e2,_⟩|⟨e2,_⟩
        ·rw[hT1];exact e2
        ·rw[e] at e2;cases e2)
       have hsh:=instS_shift (c:=c') (c2:=c2) (w:=w') (n:=m.nx) (al:=true) (λ_=>b4 rfl) b3 s.rs [] y 0 hp rfl hsr
       refine⟨v,_,_,c2,rfl,hy,⟨⟨_,by show rowsOb _ _++(fzU m.obs ids++m.ob)=_;rw[<-List.append_assoc]⟩,id⟩,b1,t1'.trans b2,by rw[Nat.add_zero] at hsh;exact hsh,?_⟩
       refine SV.inU_mono (λi hi=> ?_) _ (instS_inU (n:=0) s.rs [] y m.nx hp)
       show i<m.nx+_
       rw[instS_rows s.rs [] y m.nx 0] at hi
       exact hi.2
    ·exact h.elim
   ·exact h.elim
  |false=>
   rw[hal] at h
   simp only[cond_false] at h
   split at h
   ·rename_i ds hd
    split at h
    ·rename_i x hx
     cases hp:(shPure s.rs&&shFlat s.rs&& !s.tp) with
     |false=>rw[hp] at h;exact h.elim
     |true=>
      rw[hp] at h
      simp only[cond_true] at h
      simp only[Bool.and_eq_true,Bool.not_eq_true'] at hp
      obtain⟨⟨p1,p2⟩,p3⟩:=hp
      have hT0:T0=none:=by
       rcases hT with⟨e1,_⟩|⟨_,e2⟩
       ·rw[p3] at e1;cases e1
       ·exact e2
      obtain⟨d1,d2⟩:=viewL_rel (m:=m.mem) hox ss' hd
      obtain⟨x1,x2⟩:=undoL_rd hx
      refine (hs x _ h w (lentS m.obs c) T0 us' (λb o hb=> ?_) (by rw[p3];exact hT0) (by omega) (λi d u hdi hu=> ?_)).mono ?_
      ·rcases hb with hb|⟨id,y,hy,ho,hb⟩
       ·exact hox.sb b o hb
       ·exact (hox.fb id y hy ho b hb).1
      ·have hi:i<ds.length:=by have:=(List.getElem?_eq_some_iff.1 hdi).1;rw[tvs_len] at this;omega
       have his:i<ss'.length:=by omega
       exact x2 i d ds[i] hdi (List.getElem?_eq_getElem hi) (d2 i ss'[i] ds[i] (List.getElem?_eq_getElem his) (List.getElem?_eq_getElem hi) (hr' i _ u (List.getElem?_eq_getElem his) hu).1)
      ·rintro e w' ⟨v,y,c',rfl,hy,oxr,tr,hsr⟩
       obtain⟨c2,b1,b2,b3,b4⟩:=call_back (al:=false) hox (.inr hT0) (λe=>by cases e) (.inr (instS_flat s.rs [] y 0 p2)) oxr tr (λe=>by rw[p3] at e;cases e)
       have hsh:=instS_shift (c:=c') (c2:=c2) (w:=w') (n:=m.nx) (al:=false) (λe=>by cases e) b3 s.rs [] y 0 p1 (by simpa using p2) hsr
       refine⟨v,_,_,c2,rfl,hy,⟨⟨_,rfl⟩,id⟩,b1,b2,by rw[Nat.add_zero] at hsh;exact hsh,?_⟩
       refine SV.inU_mono (λi hi=> ?_) _ (instS_inU (n:=0) s.rs [] y m.nx p1)
       show i<m.nx+_
       rw[instS_rows s.rs [] y m.nx 0] at hi
       exact hi.2
    ·exact h.elim
   ·exact h.elim
def dropCl (g:FuncId):List SV->Option (List SV)
 |[]=>none
 |[x]=>bif isCl g x then some [] else none
 |x::r=>(dropCl g r).map (x::·)
theorem dropCl_ok {g:FuncId}:∀{ss ss':List SV},dropCl g ss=some ss'->∃x,ss=ss'++[x]/\isCl g x=true
 |[],ss',h=>by cases h
 |[x],ss',h=>by
  unfold dropCl at h
  cases hb:isCl g x with
  |false=>rw[hb] at h;cases h
  |true=>
   rw[hb] at h
   injection h with h
   subst h
   exact⟨x,rfl,hb⟩
 |x::y::r,ss',h=>by
  unfold dropCl at h
  rw[Option.map_eq_some_iff] at h
  obtain⟨t,h1,rfl⟩:=h
  obtain⟨z,h2,h3⟩:=dropCl_ok h1
  exact⟨z,by rw[h2];rfl,h3⟩
def byConC (s:Spec)(g:FuncId)(ss:List SV)(m:MS)(k:SV->MS->Prop):Prop:=match dropCl g ss with
 |some ss'=>byCon s ss' m k
 |none=>False
def ruleC (s:Spec)(g:FuncId):Rule:=⟨s.f,byConC s g⟩
theorem ruleC_ok {s:Spec}{g:FuncId}(h:SpecCOK P s [clo g]):RuleOK P (ruleC s g):=λss m k hk us w c hox hl hr=>by
 have hk2:byConC s g ss m k:=hk
 clear hk
 unfold byConC at hk2
 split at hk2
 ·rename_i ss' hd
  obtain⟨x,rfl,hx⟩:=dropCl_ok hd
  rcases List.eq_nil_or_concat us with rfl|⟨us',u,rfl⟩
  ·simp at hl
  ·rw[List.concat_eq_append] at *
   have hl':us'.length=ss'.length:=by simpa using hl
   have hu:u=clo g:=isCl_rel hx (hr ss'.length x u (by simp) (by rw[<-hl'];simp)).1
   subst hu
   refine byConC_ok h hk2 hox hl' λi y v hy hv=>hr i y v ?_ ?_
   ·rw[List.getElem?_append_left (List.getElem?_eq_some_iff.1 hy).1];exact hy
   ·rw[List.getElem?_append_left (List.getElem?_eq_some_iff.1 hv).1];exact hv
 ·exact hk2.elim
theorem SpecCOK.of_rules {C:CtxR}{dr:DR}(hR:RulesOK P C.rs)(hdr:DrOK P dr){n fk:Nat}{s:Spec}{g:FuncId}(h:∀x post,s.pt x post->HoldW (walkG (callR P C dr n fk) s.f s.tp (tvs s.ts x++[.v (clo g)]) s.rs post)):SpecCOK P s [clo g]:=by
 intro x post hp w S T us h1 h2 h3 h4
 have e:tpArg T us++[clo g]=tpArg T (us++[clo g]):=by
  unfold tpArg
  split<;>simp
 rw[e]
 refine walkG_ok (callR_ok hR hdr n fk) (h x post hp).h h1 h2 (by simp[h3,tvs_len]) λi d u hd hu=> ?_
 by_cases hi:i<us.length
 ·rw[List.getElem?_append_left hi] at hu
  rw[List.getElem?_append_left (by rw[tvs_len];omega)] at hd
  exact h4 i d u hd hu
 ·have hi':(tvs s.ts x).length<=i:=by rw[tvs_len];omega
  rw[List.getElem?_append_right hi'] at hd
  rw[List.getElem?_append_right (by omega)] at hu
  have e2:i-(tvs s.ts x).length=i-us.length:=by rw[tvs_len,h3]
  rw[e2] at hd
  match hq:i-us.length,hd,hu with
  |0,hd,hu=>
   simp at hd hu
   subst hd hu
   exact .v _
  |k+1,hd,hu=>simp at hd
def pval_P (a:api_Region)(post:Bool->Prop):Prop:=∀q:Bool,(q=true↔validP a.1)->post q
def pval_sp:Spec:=⟨58,false,false,[.st .api_Region],.dat (.bool),λx post=>pval_P (x.1:api_Region) (λy0=>post (y0,()))⟩
def pval_C:CtxR:=⟨tau,[rule1 pcan_sp,rule1 peqr_sp],lookJ [(0,1000003,⟨[(2,.dat .bool)],[],[12,13,14,15,16,17],[],[]⟩),(1072672813,0,⟨[(0,.dat (.int .i64))],[],[],[],[]⟩),(1072672813,5,⟨[(8,.dat (.int .i64))],[],(List.range' 9 8++[5,18]),[],[]⟩)]⟩
def pval_W (a:api_Region)(post:Bool->Prop):Prop:=(↑a.1.length:Int)<=9223372036854775807->JOIN [Ty.bool] (λ(y1:Bool)=>IFB (decide ((120:Int)<(↑a.1.length:Int))||y1) (post false) (JOIN [Ty.bool] (λ(y2:Bool)=>post y2) λ(J3:Bool->Prop)=>((∀(v4:api_Rect),v4∈a.1->0<=v4.1/\v4.1<v4.3/\v4.3<=16384/\0<=v4.2/\v4.2<v4.4/\v4.4<=16384)/\a.1.length<=10000)/\(canonF (cov a.1)).length<=1000000000/\∀(v5:Bool),(v5=true↔canonF (cov a.1)=a.1)->J3 v5)) λ(J6:Bool->Prop)=>IFB (gx false (decide ((120:Int)<(↑a.1.length:Int)))) (JOIN [Ty.int IntKind.i64] (λ(y7:Int)=>J6 (decide ((0:Int)<=y7))) λ(J8:Int->Prop)=>(↑a.1.length:Int)<=9223372036854775807->LOOP [Ty.int IntKind.i64] (λ(rec9:Int->Prop) (z10:Int)=>IFB (decide (z10<(↑a.1.length:Int))) (((0:Int)<=z10/\z10<(↑a.1.length:Int))/\IFB (!(decide ((0:Int)<=(ix a.1 z10).1)&&decide ((ix a.1 z10).1<(ix a.1 z10).3)&&decide ((ix a.1 z10).3<=16384)&&decide ((0:Int)<=(ix a.1 z10).2)&&decide ((ix a.1 z10).2<(ix a.1 z10).4)&&decide ((ix a.1 z10).4<=16384))) (J8 z10) (rec9 (IntKind.i64.wrap (z10+1)))) (J8 (-1:Int))) ((0:Int),PUnit.unit)) (J6 false)
theorem pval_w (a:api_Region)(post:dens (shT pval_sp.rs [])->Prop):pval_W a (λy0=>post (y0,()))=walkG (callR Tryz.prog pval_C (drawR Tryz.prog tau) 10 0) 58 false [tv (.st .api_Region) a] pval_sp.rs post:=by kernel_rfl
theorem pval_of (h:∀a post,pval_P a post->pval_W a post):SpecOK Tryz.prog pval_sp:=SpecOK.of_rules (C:=pval_C) (dr:=drawR Tryz.prog tau) (n:=10) (fk:=0) (.cons (rule1_ok pcan_ok) (.cons (rule1_ok peqr_ok) .nil)) (drawR_ok tau) λx post hp=>HoldW.of (pval_w x.1 post) (h x.1 (λy0=>post (y0,())) hp)
theorem pval_ok:SpecOK Tryz.prog pval_sp:=pval_of λa post hp=>by
 obtain⟨l⟩:=a
 unfold pval_P at hp
 unfold pval_W
 dsimp only at hp ⊢
 intro _
 refine JOIN.opq λ(J:Bool->Prop) hJ=> ?_
 refine IFB.mk (λhb=> ?_) (λhb=> ?_)
 ·have hb:(!decide ((120:Int)<l.length))=true:=hb
  have hb:decide ((120:Int)<l.length)=false:=by simpa using hb
  have hle:=of_decide_eq_false hb
  refine JOIN.opq λ(J8:Int->Prop) hJ8=> ?_
  intro _
  refine loopCmp (n:=l.length) (by omega) (p:=λj=>proper (ix l (j:Int))) (λrec k hk hpre hrec=>⟨by omega,IFB.mk (λhb2=> ?_) (λhb2=>hrec ?_)⟩) λhall=> ?_
  ·rw[hJ8]
   show J (decide (0<=(k:Int)))
   rw[decide_eq_true (by omega:(0:Int)<=k),hJ]
   dsimp only
   refine IFB.mk (λ_=>hp _ ?_) (λh=> ?_)
   ·constructor
    ·intro h;cases h
    ·intro h
     have:=properB_iff.2 (h.2.1 _ (ix_mem (l:=l) (i:=(k:Int)) (by omega) (by omega)))
     unfold properB at this
     rw[this] at hb2
     cases hb2
   ·rw[Bool.or_true] at h;cases h
  ·exact properB_iff.1 (by unfold properB;simpa using hb2)
  ·have hall:=all_ix hall
   rw[hJ8]
   show J (decide (0<=(-1:Int)))
   have hm:decide (0<=(-1:Int))=false:=rfl
   rw[hm,hJ]
   dsimp only
   rw[hb]
   refine IFB.mk (λh=>by cases h) (λ_=> ?_)
   refine JOIN.opq λ(J3:Bool->Prop) hJ3=> ?_
   have:=cov_len hall
   refine⟨⟨hall,by omega⟩,by omega,λq hq=> ?_⟩
   rw[hJ3]
   refine hp q (hq.trans ⟨λh=>⟨by omega,hall,(canon_iff l).1 h⟩,λh=>(canon_iff l).2 h.2.2⟩)
 ·have hb:(!decide ((120:Int)<l.length))=false:=hb
  have hb:decide ((120:Int)<l.length)=true:=by simpa using hb
  rw[hJ]
  dsimp only
  rw[hb]
  refine IFB.mk (λ_=>hp _ ?_) (λh=>by cases h)
  have hb:=of_decide_eq_true hb
  constructor
  ·intro h;cases h
  ·intro h;have:=h.1;omega
namespace PL
def edgL (l:List Sp):List Int:=l.flatMap λs=>[s.Left,s.Right]
noncomputable def mergeS (h:Int) (A B:List Sp):List Sp:=spansOf (λx=>howS h (insS A x) (insS B x)) (uniqI (edgL (A++B)))
end PL
def pmerge_P (A:List (region_Span))(B:List (region_Span))(post:List (region_Span)->Prop):Prop:=(A.length<=10000/\B.length<=10000)/\post (mergeS 3 A B)
def pmerge_sp:Spec:=⟨163,false,true,[.sl (.st .region_Span),.sl (.st .region_Span)],.dat (.sl (.st .region_Span)),λx post=>pmerge_P (x.1:List (region_Span)) (x.2.1:List (region_Span)) (λy0=>post (y0,()))⟩
def pmerge_C:CtxR:=⟨tau,[rule1 pconc_sp,rule3 ssort_sp,rule2 scompact_sp,rule1 pins_sp],lookJ [(0,23,⟨[(11,.dat (.int .i64)),(10,.own 237 (.st .region_Span))],[],(List.range' 35 52++[12,13]),[],[]⟩),(0,24,⟨[(10,.own 237 (.st .region_Span))],[],(List.range' 41 46++[12,13]),[3],[]⟩),(0,7,⟨[(19,.dat (.int .i64)),(7,.own 3 (.int .i64))],[],(List.range' 20 11++[9]),[],[]⟩)]⟩
def pmerge_W (A:List (region_Span))(B:List (region_Span))(post:List (region_Span)->Prop):Prop:=((A.append (B.append [])).length<=100000/\[A,B].length<=10)/\((↑(A.append (B.append [])).length:Int)<=9223372036854775807->LOOP [Ty.int IntKind.i64,(Ty.int IntKind.i64).sl] (λ(rec1:Int->List Int->Prop) (z2:Int) (z3:List Int)=>IFB (decide (z2<(↑(A.append (B.append [])).length:Int))) (((0:Int)<=z2/\z2<(↑(A.append (B.append [])).length:Int))/\(z3.length+[(ix (A.append (B.append [])) z2).1,(ix (A.append (B.append [])) z2).2].length) * (8:Nat)<=140737488355328/\rec1 (IntKind.i64.wrap (z2+1)) (z3++[(ix (A.append (B.append [])) z2).1,(ix (A.append (B.append [])) z2).2])) (z3.length<=1000000/\(sortI z3).length<=1000000/\LOOP [Ty.int IntKind.i64,(Ty.st Sn.region_Span).sl] (λ(rec4:Int->List region_Span->Prop) (z5:Int) (z6:List region_Span)=>(↑(compI (sortI z3)).length:Int)<=9223372036854775807->IFB (decide (z5<(↑(compI (sortI z3)).length:Int))) (JOIN [(Ty.st Sn.region_Span).sl] (λ(y7:List region_Span)=>rec4 (IntKind.i64.wrap (z5+1)) y7) λ(J8:List region_Span->Prop)=>((0:Int)<=IntKind.i64.wrap (z5-1)/\IntKind.i64.wrap (z5-1)<(↑(compI (sortI z3)).length:Int))/\A.length<=1000000/\B.length<=1000000/\IFB (!(insS A (ix (compI (sortI z3)) (IntKind.i64.wrap (z5-1)))&& !insS B (ix (compI (sortI z3)) (IntKind.i64.wrap (z5-1))))) (J8 z6) ((↑z6.length:Int)<=9223372036854775807->(gx true (decide ((0:Int)<(↑z6.length:Int)))=true->0<=IntKind.i64.wrap ((↑z6.length:Int)-1)/\IntKind.i64.wrap ((↑z6.length:Int)-1)<(↑z6.length:Int))/\IFB (decide ((0:Int)<(↑z6.length:Int))&&decide ((ix z6 (IntKind.i64.wrap ((↑z6.length:Int)-1))).2=ix (compI (sortI z3)) (IntKind.i64.wrap (z5-1)))) (((0:Int)<=z5/\z5<(↑(compI (sortI z3)).length:Int))/\((0:Int)<=IntKind.i64.wrap ((↑z6.length:Int)-1)/\IntKind.i64.wrap ((↑z6.length:Int)-1)<(↑z6.length:Int))/\J8 (z6.set (IntKind.i64.wrap ((↑z6.length:Int)-1)).toNat (⟨(ix z6 (IntKind.i64.wrap ((↑z6.length:Int)-1))).1,ix (compI (sortI z3)) z5⟩:region_Span))) (((0:Int)<=z5/\z5<(↑(compI (sortI z3)).length:Int))/\(z6.length+[(⟨ix (compI (sortI z3)) (IntKind.i64.wrap (z5-1)),ix (compI (sortI z3)) z5⟩:region_Span)].length) * (16:Nat)<=140737488355328/\J8 (z6++[(⟨ix (compI (sortI z3)) (IntKind.i64.wrap (z5-1)),ix (compI (sortI z3)) z5⟩:region_Span)])))) (post z6)) ((1:Int),[],PUnit.unit))) ((0:Int),[],PUnit.unit))
theorem pmerge_w (A:List (region_Span))(B:List (region_Span))(post:dens (shT pmerge_sp.rs [])->Prop):pmerge_W A B (λy0=>post (y0,()))=walkG (callR Tryz.prog pmerge_C (drawR Tryz.prog tau) 10 0) 163 false [tv (.sl (.st .region_Span)) A,tv (.sl (.st .region_Span)) B,.v (clo 320)] pmerge_sp.rs post:=by kernel_rfl
theorem pmerge_of (h:∀A B post,pmerge_P A B post->pmerge_W A B post):SpecCOK Tryz.prog pmerge_sp [clo 320]:=SpecCOK.of_rules (C:=pmerge_C) (dr:=drawR Tryz.prog tau) (n:=10) (fk:=0) (.cons (rule1_ok pconc_ok) (.cons (rule3_ok ssort_ok) (.cons (rule2_ok scompact_ok) (.cons (rule1_ok pins_ok) .nil)))) (drawR_ok tau) λx post hp=>HoldW.of (pmerge_w x.1 x.2.1 post) (h x.1 x.2.1 (λy0=>post (y0,())) hp)
theorem insS_iff {l:List Sp}{x:Int}:insS l x=true↔inSp l x:=by
 unfold insS inSp
 simp[List.any_eq_true]
theorem edgL_len {l:List Sp}:(edgL l).length=2 * l.length:=by
 induction l with
 |nil=>rfl
 |cons r l ih=>
  have e:edgL (r::l)=r.Left::r.Right::edgL l:=rfl
  rw[e];simp only[List.length_cons,ih];omega
theorem edgL_mem {l:List Sp}{x:Int}:x∈uniqI (edgL l)↔∃s∈l,x=s.Left\/x=s.Right:=by
 rw[(uniqI_ok _).2]
 unfold edgL;simp
theorem insS_cols {l:List Sp}{x u:Int}(hux:u<=x)(hm:∀s∈l,(s.Left<=x->s.Left<=u)/\(s.Right<=x->s.Right<=u)):insS l x=insS l u:=by
 refine bool_iff ?_
 rw[insS_iff,insS_iff]
 constructor
 ·rintro ⟨r,hr,h1,h2⟩
  have h1:r.Left<=x:=h1
  have h2:x<r.Right:=h2
  exact⟨r,hr,(hm r hr).1 h1,by show u<r.Right;omega⟩
 ·rintro ⟨r,hr,h1,h2⟩
  have h1:r.Left<=u:=h1
  have h2:u<r.Right:=h2
  refine⟨r,hr,by show r.Left<=x;omega,?_⟩
  rcases Int.lt_or_le x r.Right with h|h
  ·exact h
  ·have:=(hm r hr).2 h;omega
theorem mergeS_ok (h:Int)(A B:List Sp):SpOK (mergeS h A B)/\∀x,inSp (mergeS h A B) x↔howS h (insS A x) (insS B x)=true:=by
 have c1:=(uniqI_ok (edgL (A++B))).1
 have c2:=λx=>edgL_mem (l:=A++B) (x:=x)
 obtain⟨h1,h2⟩:=spansOf_ok (p:=λx=>howS h (insS A x) (insS B x)) c1
 have hin:∀x,howS h (insS A x) (insS B x)=true->∃s∈A++B,s.Left<=x/\x<s.Right:=λx hx=>by
  cases ha:insS A x with
  |true=>
   obtain⟨s,hs,q1,q2⟩:=insS_iff.1 ha
   exact⟨s,by simp[hs],q1,q2⟩
  |false=>
   cases hb:insS B x with
   |true=>
    obtain⟨s,hs,q1,q2⟩:=insS_iff.1 hb
    exact⟨s,by simp[hs],q1,q2⟩
   |false=>rw[ha,hb,howS_0] at hx;cases hx
 refine⟨h1,λx=> ?_⟩
 unfold mergeS
 rw[h2]
 refine edges_set (f:=λx=>howS h (insS A x) (insS B x)) c1 (λx hx=> ?_) (λx hx=> ?_) (λu x hu hux hm=> ?_) x
 ·obtain⟨r,hr,h3,h4⟩:=hin x hx
  exact⟨r.Left,(c2 _).2 ⟨r,hr,.inl rfl⟩,h3⟩
 ·obtain⟨r,hr,h3,h4⟩:=hin x hx
  exact⟨r.Right,(c2 _).2 ⟨r,hr,.inr rfl⟩,h4⟩
 ·have hm':∀r∈A++B,(r.Left<=x->r.Left<=u)/\(r.Right<=x->r.Right<=u):=λr hr=>⟨hm _ ((c2 _).2 ⟨r,hr,.inl rfl⟩),hm _ ((c2 _).2 ⟨r,hr,.inr rfl⟩)⟩
  show howS h (insS A x) (insS B x)=howS h (insS A u) (insS B u)
  rw[insS_cols hux (λr hr=>hm' r (by simp[hr])),insS_cols hux (λr hr=>hm' r (by simp[hr]))]
theorem rowS_ins {l:List Rc}{u x:Int}:insS (rowS l u) x=cov l x u:=by
 refine bool_iff ?_
 rw[insS_iff]
 have h:=(comb_row (howS_0 1) (a:=l) (b:=[]) (y:=u)).2 x
 rw[comb_or_nil,List.append_nil] at h
 exact h
theorem choose_build (h:Int)(l m:List Rc):canonF (comb (howS h) l m)=flat (buildG (λy=>mergeS h (rowS l y) (rowS m y)) [] (cutsS (l++m))):=
 (comb_build (howS_0 h) (a:=l) (b:=m) (R:=λy=>mergeS h (rowS l y) (rowS m y)) λu hu=>⟨(mergeS_ok h _ _).1,λx=>by
  rw[(mergeS_ok h _ _).2,rowS_ins,rowS_ins];rfl⟩).2.2
theorem edg_in {l:List Sp}{A:List Int}{K:List Int->Prop}(hl:A.length+2 * l.length<=100000)(hK:K (A++edgL l)):
 LOOP [Ty.int IntKind.i64,(Ty.int IntKind.i64).sl] (λ(rec4:Int->List Int->Prop) (z5:Int) (z6:List Int)=>IFB (decide (z5<(↑l.length:Int))) (((0:Int)<=z5/\z5<(↑l.length:Int))/\(z6.length+[(ix l z5).1,(ix l z5).2].length) * 8<=140737488355328/\rec4 (IntKind.i64.wrap (z5+(1:Int))) (z6++[(ix l z5).1,(ix l z5).2])) (K z6)) ((0:Int),A,PUnit.unit):=by
 refine LOOP.list l (λk (s:List Int)=>((k:Int),s,())) (λu=>Int.toNat u.1) (λk r (s:List Int)=>s++edgL r=A++edgL l/\s.length=A.length+2 * k) A rfl ⟨rfl,by omega⟩ (λk s h=>by simp) ?_ ?_
 ·intro rec k x r s hd hk hkl ⟨g1,g2⟩ hrec
  have hx:=ix_of hk
  show IFB _ _ _
  refine IFB.mk (λ_=>⟨by show 0<=(k:Int)/\(k:Int)<l.length;omega,?_⟩) (λh=>absurd (of_decide_eq_false h) (by show ¬¬((k:Int)<l.length);omega))
  dsimp only
  rw[hx]
  refine⟨by simp only[List.length_cons,List.length_nil];omega,?_⟩
  rw[wrapS (by omega)]
  refine hrec _ ⟨?_,?_⟩
  ·rw[<-g1]
   have e:edgL (x::r)=x.Left::x.Right::edgL r:=rfl
   rw[e];simp
  ·simp only[List.length_append,List.length_cons,List.length_nil];omega
 ·intro rec s ⟨g1,g2⟩
  show IFB _ _ _
  refine IFB.mk (λh=>absurd (of_decide_eq_true h) (by show ¬((l.length:Int)<l.length);omega)) (λ_=> ?_)
  have g1:s=A++edgL l:=by simpa [edgL] using g1
  show K s
  rw[g1];exact hK
theorem howS_3 (a b:Bool):howS 3 a b=(a&& !b):=by unfold howS;simp
theorem pmerge_ok:SpecCOK Tryz.prog pmerge_sp [clo 320]:=pmerge_of λA B post hp=>by
 obtain⟨⟨h1,h2⟩,hp⟩:=hp
 unfold pmerge_W
 have e:A.append (B.append [])=A++B:=by show A++(B++[])=A++B;rw[List.append_nil]
 rw[e]
 refine⟨⟨by rw[List.length_append];omega,by simp⟩,λ_=> ?_⟩
 refine edg_in (l:=A++B) (A:=[]) (K:=λz3=>z3.length<=(1000000:Nat)/\(sortI z3).length<=(1000000:Nat)/\_) (by simp only[List.length_nil,List.length_append];omega) ?_
 rw[List.nil_append]
 have hel:(edgL (A++B)).length<=40000:=by rw[edgL_len,List.length_append];omega
 have hsl:(sortI (edgL (A++B))).length=(edgL (A++B)).length:=by unfold sortI;simp
 refine⟨by omega,by omega,?_⟩
 have hxl:(uniqI (edgL (A++B))).length<=40000:=Nat.le_trans (uniqI_len _) hel
 have hxe:compI (sortI (edgL (A++B)))=uniqI (edgL (A++B)):=rfl
 rw[hxe]
 have hp:post (spansG (λx=>howS 3 (insS A x) (insS B x)) [] (uniqI (edgL (A++B)))):=hp
 generalize uniqI (edgL (A++B))=xs at hxl hp ⊢
 refine LOOP.fuel (λu=>∃(k:Nat)(acc:List Sp),u.1=((k+1:Nat):Int)/\u.2.1=acc/\k<=xs.length/\spansG (λx=>howS 3 (insS A x) (insS B x)) acc (xs.drop k)=spansG (λx=>howS 3 (insS A x) (insS B x)) [] xs/\acc.length<=k) (λu=>xs.length+1-Int.toNat u.1) ⟨0,[],rfl,rfl,Nat.zero_le _,rfl,Nat.le_refl _⟩ ?_
 rintro rec ⟨(z2:Int),(z3:List region_Span),⟨⟩⟩ ⟨k,acc,i1,i2,i3,i4,i5⟩ hrec
 have i1:z2=((k+1:Nat):Int):=i1
 have i2:z3=acc:=i2
 subst i1 i2
 have i5:z3.length<=k:=i5
 intro _
 refine IFB.mk (λhb=> ?_) (λhb=> ?_)
 ·have hb:((k+1:Nat):Int)<xs.length:=of_decide_eq_true hb
  have hb:k+1<xs.length:=by omega
  obtain⟨d1,d2⟩:=drop_two hb
  have w1:IntKind.i64.wrap (((k+1:Nat):Int)-1)=k:=by rw[wrap_in (by omega) (by omega)];omega
  refine JOIN.opq λ(J:List Sp->Prop) hJ=> ?_
  rw[w1]
  have hgo:∀acc',acc'.length<=k+1->spansG (λx=>howS 3 (insS A x) (insS B x)) acc' (xs.drop (k+1))=spansG (λx=>howS 3 (insS A x) (insS B x)) [] xs->J acc':=λacc' hle hG=>by
   rw[hJ]
   show rec (IntKind.i64.wrap (((k+1:Nat):Int)+1)) _
   rw[wrapS (by omega)]
   exact hrec (((k+2:Nat):Int),acc',()) ⟨k+1,acc',rfl,rfl,by omega,hG,hle⟩ (by show xs.length+1-((k+2:Nat):Int).toNat<xs.length+1-((k+1:Nat):Int).toNat;omega)
  have hstep:spansG (λx=>howS 3 (insS A x) (insS B x)) (if howS 3 (insS A (ix xs (k:Int))) (insS B (ix xs (k:Int)))=true then addSp z3 (ix xs (k:Int)) (ix xs ((k+1:Nat):Int)) else z3) (xs.drop (k+1))=spansG (λx=>howS 3 (insS A x) (insS B x)) [] xs:=by
   rw[<-i4,d1,d2]
   rfl
  rw[howS_3] at hstep
  generalize ix xs (k:Int)=u at hstep ⊢
  generalize ix xs ((k+1:Nat):Int)=v at hstep ⊢
  refine⟨by omega,by omega,by omega,IFB.mk (λhn=> ?_) (λhn=> ?_)⟩
  ·have hn:(insS A u&& !insS B u)=false:=by rw[Bool.not_eq_true'] at hn;exact hn
   rw[hn] at hstep
   exact hgo z3 (by omega) hstep
  ·have hn:(insS A u&& !insS B u)=true:=by
    rw[Bool.not_eq_false'] at hn;exact hn
   rw[hn,if_pos rfl] at hstep
   intro _
   rcases List.eq_nil_or_concat z3 with rfl|⟨Z,q,rfl⟩
   ·have hj:addSp [] u v=[⟨u,v⟩]:=rfl
    rw[hj] at hstep
    refine⟨λh=>(by cases h),IFB.mk (λhb=>(by cases hb)) (λ_=>⟨by omega,by simp,hgo _ (by simp) hstep⟩)⟩
   ·rw[List.concat_eq_append] at *
    have hAl:(Z++[q]).length=Z.length+1:=by simp
    have w2:IntKind.i64.wrap (((Z++[q]).length:Int)-1)=Z.length:=by
     rw[hAl,wrap_in (by omega) (by omega)]
     omega
    have hq:ix (Z++[q]) (Z.length:Int)=q:=ix_app rfl
    have hset:∀z,(Z++[q]).set (Z.length:Int).toNat z=Z++[z]:=λz=>set_app (by simp)
    rw[w2,hq,hset]
    have hj:addSp (Z++[q]) u v=if q.2=u then Z++[⟨q.1,v⟩] else Z++[q]++[⟨u,v⟩]:=by
     unfold addSp
     simp
    rw[hj] at hstep
    have hd:decide ((0:Int)<((Z++[q]).length:Int))=true:=decide_eq_true (by omega)
    rw[hd,Bool.true_and]
    refine⟨λ_=>by rw[hAl];omega,IFB.mk (λhc=>⟨by omega,by rw[hAl];omega,?_⟩) (λhc=>⟨by omega,by rw[hAl];simp only[List.length_cons,List.length_nil];omega,?_⟩)⟩
    ·have hc:q.2=u:=of_decide_eq_true hc
     rw[if_pos hc] at hstep
     exact hgo _ (by simp only[List.length_append,List.length_cons,List.length_nil] at *;omega) hstep
    ·have hc:¬q.2=u:=of_decide_eq_false hc
     rw[if_neg hc] at hstep
     exact hgo _ (by simp only[List.length_append,List.length_cons,List.length_nil] at *;omega) hstep
 ·have hb:¬((k+1:Nat):Int)<xs.length:=of_decide_eq_false hb
  rw[short_drop2 (by omega)] at i4
  rw[<-i4] at hp
  exact hp
def pwit_P (a:api_Region)(b:api_Region)(post:Bool->Prop):Prop:=∀q:Bool,(q=true↔withinP a.1 b.1)->post q
def pwit_sp:Spec:=⟨279,false,false,[.st .api_Region,.st .api_Region],.dat (.bool),λx post=>pwit_P (x.1:api_Region) (x.2.1:api_Region) (λy0=>post (y0,()))⟩
def pwit_C:CtxR:=⟨tau,[rule1 pval_sp,rule1 pcuts_sp,rule1 prow_sp,rule1 peqs_sp,rule1 prects_sp,ruleC pmerge_sp 320],lookJ [(1076842580,7,⟨[(6,.dat (.int .i64)),(5,.own 251 (.st .region_band))],[],(List.range' 7 62),[],[]⟩),(1076842580,8,⟨[(5,.own 251 (.st .region_band))],[],(List.range' 15 54++[7,8]),[6],[]⟩),(1122544855942901,1000001,⟨[(5,.dat (.sl (.st .region_Span)))],[],[6,7,8,9,10,11,12,13],[],[]⟩)]⟩
abbrev pwit_a0 (z7:List region_band):=(ix z7 (IntKind.i64.wrap ((↑z7.length:Int)-(1:Int))))
abbrev pwit_a1 (z7:List region_band)(a:api_Region)(b:api_Region)(z6:Int):=(decide ((0:Int)<(↑z7.length:Int))&&decide ((pwit_a0 z7).2=ix (cutsS (a.1.append (b.1.append []))) (IntKind.i64.wrap (z6-(1:Int)))))
abbrev pwit_a2 (z7:List region_band)(J9:List region_band->Prop)(a:api_Region)(b:api_Region)(z6:Int):=(((0:Int)<=IntKind.i64.wrap ((↑z7.length:Int)-(1:Int))/\IntKind.i64.wrap ((↑z7.length:Int)-(1:Int))<(↑z7.length:Int))/\J9 (z7.set (IntKind.i64.wrap ((↑z7.length:Int)-(1:Int))).toNat {low:=(pwit_a0 z7).1,high:=ix (cutsS (a.1.append (b.1.append []))) z6,spans:=(pwit_a0 z7).3:region_band}))
abbrev pwit_a3 (a:api_Region)(b:api_Region)(z6:Int):=(ix (cutsS (a.1.append (b.1.append []))) (IntKind.i64.wrap (z6-(1:Int))))
abbrev pwit_a4 (z7:List region_band):=(gx true (decide ((0:Int)<(↑z7.length:Int)))=true->(0:Int)<=IntKind.i64.wrap ((↑z7.length:Int)-(1:Int))/\IntKind.i64.wrap ((↑z7.length:Int)-(1:Int))<(↑z7.length:Int))
abbrev pwit_a5 (a:api_Region)(b:api_Region)(z6:Int)(y10:List region_Span):={low:=ix (cutsS (a.1.append (b.1.append []))) (IntKind.i64.wrap (z6-(1:Int))),high:=ix (cutsS (a.1.append (b.1.append []))) z6,spans:=y10:region_band}
abbrev pwit_a6 (z7:List region_band)(a:api_Region)(b:api_Region)(z6:Int):=(gx true (pwit_a1 z7 a b z6)=true->(0:Int)<=IntKind.i64.wrap ((↑z7.length:Int)-(1:Int))/\IntKind.i64.wrap ((↑z7.length:Int)-(1:Int))<(↑z7.length:Int))
def pwit_W (a:api_Region)(b:api_Region)(post:Bool->Prop):Prop:=∀(v1:Bool),(v1=true↔validP a.1)->JOIN [Ty.bool] (λ(y2:Bool)=>JOIN [(Ty.st Sn.api_Rect).sl] (λ(y3:List api_Rect)=>(gx true (v1&&y2)=true->(↑y3.length:Int)<=9223372036854775807)->post (v1&&y2&&decide ((↑y3.length:Int)=0))) λ(J4:List api_Rect->Prop)=>IFB (gx true (v1&&y2)) (((a.1.append (b.1.append [])).length<=10000/\[a.1,b.1].length<=10)/\LOOP [Ty.int IntKind.i64,(Ty.st Sn.region_band).sl] (λ(rec5:Int->List region_band->Prop) (z6:Int) (z7:List region_band)=>(↑(cutsS (a.1.append (b.1.append []))).length:Int)<=9223372036854775807->IFB (decide (z6<(↑(cutsS (a.1.append (b.1.append []))).length:Int))) (JOIN [(Ty.st Sn.region_band).sl] (λ(y8:List region_band)=>rec5 (IntKind.i64.wrap (z6+1)) y8) λ(J9:List region_band->Prop)=>((0:Int)<=IntKind.i64.wrap (z6-1)/\IntKind.i64.wrap (z6-1)<(↑(cutsS (a.1.append (b.1.append []))).length:Int))/\((0:Int)<=z6/\z6<(↑(cutsS (a.1.append (b.1.append []))).length:Int))/\((0:Int)<=IntKind.i64.wrap (z6-1)/\IntKind.i64.wrap (z6-1)<(↑(cutsS (a.1.append (b.1.append []))).length:Int))/\(JOIN [(Ty.st Sn.region_Span).sl] (λ(y10:List region_Span)=>((↑z7.length:Int)<=9223372036854775807->(pwit_a4 z7)/\(pwit_a6 z7 a b z6)/\JOIN [Ty.bool] (λ(y11:Bool)=>IFB (decide ((0:Int)<(↑z7.length:Int))&&decide ((pwit_a0 z7).2=ix (cutsS (a.1.append (b.1.append []))) (IntKind.i64.wrap (z6-1)))&&y11) (pwit_a2 z7 J9 a b z6) ((z7.length+[(pwit_a5 a b z6 y10)].length) * (40:Nat)<=140737488355328/\J9 (z7++[(pwit_a5 a b z6 y10)]))) λ(J12:Bool->Prop)=>IFB (gx true (pwit_a1 z7 a b z6)) ((pwit_a0 z7).3.length<=1000000000/\∀(v13:Bool),(v13=true↔(pwit_a0 z7).3=y10)->J12 v13) (J12 false))/\((↑z7.length:Int)<=9223372036854775807->(pwit_a4 z7)/\(pwit_a6 z7 a b z6)/\JOIN [Ty.bool] (λ(y14:Bool)=>IFB (decide ((0:Int)<(↑z7.length:Int))&&decide ((pwit_a0 z7).2=ix (cutsS (a.1.append (b.1.append []))) (IntKind.i64.wrap (z6-1)))&&y14) (pwit_a2 z7 J9 a b z6) ((z7.length+[(pwit_a5 a b z6 y10)].length) * (40:Nat)<=140737488355328/\J9 (z7++[(pwit_a5 a b z6 y10)]))) λ(J15:Bool->Prop)=>IFB (gx true (pwit_a1 z7 a b z6)) ((pwit_a0 z7).3.length<=1000000000/\∀(v16:Bool),(v16=true↔(pwit_a0 z7).3=y10)->J15 v16) (J15 false))) λ(J17:List region_Span->Prop)=>((∀(v18:api_Rect),v18∈a.1->v18.1<v18.3)/\a.1.length<=10000)/\((∀(v19:api_Rect),v19∈b.1->v19.1<v19.3)/\b.1.length<=10000)/\((rowS a.1 (pwit_a3 a b z6)).length<=10000/\(rowS b.1 (pwit_a3 a b z6)).length<=10000)/\J17 (mergeS (3:Int) (rowS a.1 (pwit_a3 a b z6)) (rowS b.1 (pwit_a3 a b z6))))/\JOIN [(Ty.st Sn.region_Span).sl] (λ(y20:List region_Span)=>(↑z7.length:Int)<=9223372036854775807->(pwit_a4 z7)/\(pwit_a6 z7 a b z6)/\JOIN [Ty.bool] (λ(y21:Bool)=>IFB (decide ((0:Int)<(↑z7.length:Int))&&decide ((pwit_a0 z7).2=ix (cutsS (a.1.append (b.1.append []))) (IntKind.i64.wrap (z6-1)))&&y21) (pwit_a2 z7 J9 a b z6) ((z7.length+[(⟨ix (cutsS (a.1.append (b.1.append []))) (IntKind.i64.wrap (z6-1)),ix (cutsS (a.1.append (b.1.append []))) z6,y20⟩:region_band)].length) * (40:Nat)<=140737488355328/\J9 (z7++[(⟨ix (cutsS (a.1.append (b.1.append []))) (IntKind.i64.wrap (z6-1)),ix (cutsS (a.1.append (b.1.append []))) z6,y20⟩:region_band)]))) λ(J22:Bool->Prop)=>IFB (gx true (pwit_a1 z7 a b z6)) ((pwit_a0 z7).3.length<=1000000000/\∀(v23:Bool),(v23=true↔(pwit_a0 z7).3=y20)->J22 v23) (J22 false)) λ(J24:List region_Span->Prop)=>((∀(v25:api_Rect),v25∈a.1->v25.1<v25.3)/\a.1.length<=10000)/\((∀(v26:api_Rect),v26∈b.1->v26.1<v26.3)/\b.1.length<=10000)/\((rowS a.1 (pwit_a3 a b z6)).length<=10000/\(rowS b.1 (pwit_a3 a b z6)).length<=10000)/\J24 (mergeS (3:Int) (rowS a.1 (pwit_a3 a b z6)) (rowS b.1 (pwit_a3 a b z6)))) (((flat z7).length<=1000000000/\z7.length<=1000000000)/\J4 (flat z7))) ((1:Int),[],PUnit.unit)) (J4 [])) λ(J27:Bool->Prop)=>IFB (gx true v1) (∀(v28:Bool),(v28=true↔validP b.1)->J27 v28) (J27 false)
theorem pwit_w (a:api_Region)(b:api_Region)(post:dens (shT pwit_sp.rs [])->Prop):pwit_W a b (λy0=>post (y0,()))=walkG (callR Tryz.prog pwit_C (drawR Tryz.prog tau) 12 0) 279 false [tv (.st .api_Region) a,tv (.st .api_Region) b] pwit_sp.rs post:=by kernel_rfl
theorem pwit_of (h:∀a b post,pwit_P a b post->pwit_W a b post):SpecOK Tryz.prog pwit_sp:=SpecOK.of_rules (C:=pwit_C) (dr:=drawR Tryz.prog tau) (n:=12) (fk:=0) (.cons (rule1_ok pval_ok) (.cons (rule1_ok pcuts_ok) (.cons (rule1_ok prow_ok) (.cons (rule1_ok peqs_ok) (.cons (rule1_ok prects_ok) (.cons (ruleC_ok pmerge_ok) .nil)))))) (drawR_ok tau) λx post hp=>HoldW.of (pwit_w x.1 x.2.1 post) (h x.1 x.2.1 (λy0=>post (y0,())) hp)
theorem pwit_ok:SpecOK Tryz.prog pwit_sp:=pwit_of λa b post hp=>by
 obtain⟨l⟩:=a
 obtain⟨m⟩:=b
 unfold pwit_P at hp
 unfold pwit_W pwit_a6 pwit_a5 pwit_a4 pwit_a3 pwit_a2 pwit_a1 pwit_a0
 dsimp only at hp ⊢
 intro v1 h1
 refine JOIN.opq λ(J:Bool->Prop) hJ=> ?_
 have main:∀y2:Bool,((v1&&y2)=true↔validP l/\validP m)->J y2:=by
  intro y2 h2
  rw[hJ]
  dsimp only
  refine JOIN.opq λ(J4:List api_Rect->Prop) hJ4=> ?_
  refine IFB.mk (λhb=> ?_) (λhb=> ?_)
  ·have hb:(v1&&y2)=true:=hb
   obtain⟨g1,g2⟩:=h2.1 hb
   have hl1:=g1.1
   have hl2:=g2.1
   have e:l.append (m.append [])=l++m:=by show l++(m++[])=l++m;rw[List.append_nil]
   rw[e]
   have hlm:(l++m).length<=240:=by rw[List.length_append];omega
   have hcl:=cutsS_len (l:=l++m)
   have hJ4:J4 (flat (buildG (λy=>mergeS 3 (rowS l y) (rowS m y)) [] (cutsS (l++m))))/\(flat (buildG (λy=>mergeS 3 (rowS l y) (rowS m y)) [] (cutsS (l++m)))).length<=268435456:=by
    rw[<-choose_build]
    have hlen:(canonF (comb (howS 3) l m)).length<=268435456:=box_len (comb_ok (howS_0 3) l m).1 λx y hc=>by
     rw[(comb_ok (howS_0 3) l m).2] at hc
     refine proper_box g1.2.1 ?_
     unfold comb howS at hc
     revert hc
     cases cov l x y<;>simp
    refine⟨?_,hlen⟩
    rw[hJ4]
    dsimp only
    refine λ_=>hp _ ?_
    rw[hb,Bool.true_and,decide_eq_true_eq]
    have hn:=not_none l m
    unfold withinP
    constructor
    ·intro h
     refine⟨g1,g2,hn.1 (List.eq_nil_of_length_eq_zero ?_)⟩
     omega
    ·intro h
     have:=congrArg List.length (hn.2 h.2.2)
     simp only[List.length_nil] at this
     omega
   refine⟨⟨by omega,by simp⟩,?_⟩
   have hmlen:∀y,(mergeS 3 (rowS l y) (rowS m y)).length<=100000:=λy=>by
    unfold mergeS spansOf
    have q1:=spansG_len (p:=λx=>howS 3 (insS (rowS l y) x) (insS (rowS m y) x)) (xs:=uniqI (edgL (rowS l y++rowS m y))) (out:=[])
    have q2:=uniqI_len (edgL (rowS l y++rowS m y))
    rw[edgL_len,List.length_append] at q2
    have q3:=rowS_len (l:=l) (y:=y)
    have q4:=rowS_len (l:=m) (y:=y)
    simp only[List.length_nil] at q1
    omega
   refine build_loop (xs:=cutsS (l++m)) (R:=λy=>mergeS 3 (rowS l y) (rowS m y)) hmlen (by omega) (λrec k acc hk hal has hrec=> ?_) (λhlen=>⟨⟨by have:=hJ4.2;omega,by omega⟩,hJ4.1⟩)
   refine JOIN.opq λ(J9:List Bd->Prop) hJ9=> ?_
   have w1:IntKind.i64.wrap (((k+1:Nat):Int)-1)=k:=by rw[wrap_in (by omega) (by omega)];omega
   rw[w1]
   have hJ9:J9 (addBd acc (ix (cutsS (l++m)) (k:Int)) (ix (cutsS (l++m)) ((k+1:Nat):Int)) (mergeS 3 (rowS l (ix (cutsS (l++m)) (k:Int))) (rowS m (ix (cutsS (l++m)) (k:Int))))):=by
    rw[hJ9]
    show rec (IntKind.i64.wrap (((k+1:Nat):Int)+1)) _
    rw[wrapS (by omega)]
    exact hrec
   have main:=bandM_ok (by omega) (λb hb=>Nat.le_trans (has b hb) (by omega)) hJ9
   have q3:=rowS_len (l:=l) (y:=ix (cutsS (l++m)) (k:Int))
   have q4:=rowS_len (l:=m) (y:=ix (cutsS (l++m)) (k:Int))
   have hD1:(∀v:api_Rect,v∈l->v.1<v.3)/\l.length<=10000:=⟨λr hr=>(g1.2.1 r hr).2.1,by omega⟩
   have hD2:(∀v:api_Rect,v∈m->v.1<v.3)/\m.length<=10000:=⟨λr hr=>(g2.2.1 r hr).2.1,by omega⟩
   refine⟨by omega,by omega,by omega,?_,?_⟩
   ·refine JOIN.opq λ(J17:List Sp->Prop) hJ17=>⟨hD1,hD2,⟨by omega,by omega⟩,?_⟩
    rw[hJ17]
    exact⟨main,main⟩
   ·refine JOIN.opq λ(J17:List Sp->Prop) hJ17=>⟨hD1,hD2,⟨by omega,by omega⟩,?_⟩
    rw[hJ17]
    exact main
  ·have hb:(v1&&y2)=false:=hb
   rw[hJ4]
   dsimp only
   rw[hb]
   refine λ_=>hp _ ?_
   constructor
   ·intro h;cases h
   ·intro h;have:=h2.2 ⟨h.1,h.2.1⟩;rw[hb] at this;cases this
 refine IFB.mk (λhb v6 h6=>main v6 ?_) (λhb=>main false ?_)
 ·have hb:v1=true:=hb
  rw[Bool.and_eq_true,h1,h6]
 ·have hb:v1=false:=hb
  rw[hb] at h1 ⊢
  constructor
  ·intro h;cases h
  ·intro h;exact (h1.2 h.1)
set_option maxRecDepth 100000
def krange_P (lo:Int)(hi:Int)(post:Int->Prop):Prop:=(-1099511627776<=lo/\lo<=1099511627776/\ -1099511627776<=hi/\hi<=1099511627776)/\∀r:Int,lo<=r->(r<=hi\/r=lo)->post r
def krange_sp:Spec:=⟨26,true,true,[.int .i64,.int .i64],.dat (.int .i64),λx post=>krange_P (x.1:Int) (x.2.1:Int) (λy0=>post (y0,()))⟩
def krange_C:CtxR:=⟨tau,[rule1 knext_sp],lookJ []⟩
def krange_W (lo:Int)(hi:Int)(post:Int->Prop):Prop:=IntKind.i64.wrap (IntKind.i64.wrap (hi-lo)+1)<=9223372036854775807/\∀(v1:Int),0<=v1->v1<IntKind.i64.wrap (IntKind.i64.wrap (hi-lo)+1)\/v1=0->post (IntKind.i64.wrap (lo+v1))
theorem krange_w (lo:Int)(hi:Int)(post:dens (shT krange_sp.rs [])->Prop):krange_W lo hi (λy0=>post (y0,()))=walkG (callR Tryz.prog krange_C (drawR Tryz.prog tau) 8 0) 26 true [tv (.int .i64) lo,tv (.int .i64) hi] krange_sp.rs post:=by kernel_rfl
theorem krange_of (h:∀lo hi post,krange_P lo hi post->krange_W lo hi post):SpecOK Tryz.prog krange_sp:=SpecOK.of_rules (C:=krange_C) (dr:=drawR Tryz.prog tau) (n:=8) (fk:=0) (.cons (rule1_ok knext_ok) .nil) (drawR_ok tau) λx post hp=>HoldW.of (krange_w x.1 x.2.1 post) (h x.1 x.2.1 (λy0=>post (y0,())) hp)
theorem krange_ok:SpecOK Tryz.prog krange_sp:=krange_of λlo hi post hp=>by
 obtain⟨⟨h1,h2,h3,h4⟩,hp⟩:=hp
 unfold krange_W
 have w1:IntKind.i64.wrap (hi-lo)=hi-lo:=wrap_in (by omega) (by omega)
 have w2:IntKind.i64.wrap (hi-lo+1)=hi-lo+1:=wrap_in (by omega) (by omega)
 rw[w1,w2]
 refine⟨by omega,λv a b=> ?_⟩
 rw[wrap_in (by omega) (by omega)]
 exact hp _ (by omega) (by omega)
def krect_P (n:Int)(post:api_Rect->Prop):Prop:=(1<=n/\n<=16384)/\∀r:api_Rect,(proper r/\r.Right<=n/\r.High<=n)->post r
def krect_sp:Spec:=⟨130,true,true,[.int .i64],.dat (.st .api_Rect),λx post=>krect_P (x.1:Int) (λy0=>post (y0,()))⟩
def krect_C:CtxR:=⟨tau,[rule1 knext_sp],lookJ []⟩
def krect_W (n:Int)(post:api_Rect->Prop):Prop:=n<=9223372036854775807/\∀(v1:Int),0<=v1->v1<n\/v1=0->n<=9223372036854775807/\∀(v2:Int),0<=v2->v2<n\/v2=0->IntKind.i64.wrap (n-v1)<=9223372036854775807/\∀(v3:Int),0<=v3->v3<IntKind.i64.wrap (n-v1)\/v3=0->IntKind.i64.wrap (n-v2)<=9223372036854775807/\∀(v4:Int),0<=v4->v4<IntKind.i64.wrap (n-v2)\/v4=0->post (⟨v1,v2,IntKind.i64.wrap (IntKind.i64.wrap (v1+1)+v3),IntKind.i64.wrap (IntKind.i64.wrap (v2+1)+v4)⟩:api_Rect)
theorem krect_w (n:Int)(post:dens (shT krect_sp.rs [])->Prop):krect_W n (λy0=>post (y0,()))=walkG (callR Tryz.prog krect_C (drawR Tryz.prog tau) 8 0) 130 true [tv (.int .i64) n] krect_sp.rs post:=by kernel_rfl
theorem krect_of (h:∀n post,krect_P n post->krect_W n post):SpecOK Tryz.prog krect_sp:=SpecOK.of_rules (C:=krect_C) (dr:=drawR Tryz.prog tau) (n:=8) (fk:=0) (.cons (rule1_ok knext_ok) .nil) (drawR_ok tau) λx post hp=>HoldW.of (krect_w x.1 post) (h x.1 (λy0=>post (y0,())) hp)
theorem valid_nil:validP []:=⟨by simp,λr h=>(by cases h),canon_nil⟩
theorem canon_one {r:Rc}(h:proper r):Canon [r]:=by
 obtain⟨p1,p2,p3,p4,p5,p6⟩:=h
 refine⟨[⟨r.Low,r.High,[⟨r.Left,r.Right⟩]⟩],⟨λb hb=> ?_,List.pairwise_singleton _ _,?_⟩,rfl⟩
 ·rw[List.mem_singleton] at hb
  subst hb
  exact⟨p5,by simp,λs hs=>by rw[List.mem_singleton] at hs;subst hs;exact p2,List.pairwise_singleton _ _⟩
 ·first|exact List.pairwise_singleton _ _|exact trivial|(intro i;simp)
theorem canon_proper {l:List Rc}(h:Canon l){n m:Int}(hn:n<=16384)(hm:m<=16384)(hb:∀x y,cov l x y=true->0<=x/\x<n/\0<=y/\y<m):∀r∈l,proper r:=λr hr=>by
 obtain⟨q1,q2,q3,q4,q5,q6⟩:=canon_box h hb r hr
 exact⟨q1,q2,by omega,q4,q5,by omega⟩
theorem ofS_valid {l:List Rc}{n:Int}(hn:n<=16384)(h:∀r∈l,proper r/\r.Right<=n/\r.High<=n):validP (ofS l).1/\∀x y,cov (ofS l).1 x y=true->x<n/\y<n:=by
 unfold ofS
 have hnil:validP ([]:List Rc)/\∀x y,cov ([]:List Rc) x y=true->x<n/\y<n:=⟨valid_nil,λx y h=>by simp[cov_nil] at h⟩
 split
 ·exact hnil
 ·split
  ·exact hnil
  ·split
   ·exact hnil
   ·rename_i h3
    have hc:=canon_cov l
    have hb:∀x y,cov (canonF (cov l)) x y=true->0<=x/\x<n/\0<=y/\y<n:=λx y hxy=>by
     rw[hc.2] at hxy
     obtain⟨r,hr,q1,q2,q3,q4⟩:=cov_iff.1 hxy
     obtain⟨⟨p1,p2,p3,p4,p5,p6⟩,p7,p8⟩:=h r hr
     omega
    exact⟨⟨by show (canonF (cov l)).length<=120;omega,canon_proper hc.1 hn hn hb,hc.1⟩,λx y hxy=>⟨(hb x y hxy).2.1,(hb x y hxy).2.2.2⟩⟩
theorem krect_ok:SpecOK Tryz.prog krect_sp:=krect_of λn post hp=>by
 obtain⟨⟨h1,h2⟩,hp⟩:=hp
 unfold krect_W
 refine⟨by omega,λv1 a1 b1=>⟨by omega,λv2 a2 b2=> ?_⟩⟩
 have w1:IntKind.i64.wrap (n-v1)=n-v1:=wrap_in (by omega) (by omega)
 have w2:IntKind.i64.wrap (n-v2)=n-v2:=wrap_in (by omega) (by omega)
 rw[w1,w2]
 refine⟨by omega,λv3 a3 b3=>⟨by omega,λv4 a4 b4=> ?_⟩⟩
 rw[wrap_in (z:=v1+1) (by omega) (by omega),wrap_in (z:=v2+1) (by omega) (by omega),wrap_in (z:=v1+1+v3) (by omega) (by omega),wrap_in (z:=v2+1+v4) (by omega) (by omega)]
 refine hp _ ⟨⟨?_,?_,?_,?_,?_,?_⟩,?_,?_⟩<;>dsimp only<;>omega
def regI (n z:Int)(l:List Rc):Prop:=0<=z/\z+(l.length:Int)<=200/\∀r∈l,proper r/\r.Right<=n/\r.High<=n
def rcombO_P (a:List (api_Rect))(b:List (api_Rect))(h:Int)(post:List (api_Rect)->Prop):Prop:=(a.length<=1000/\b.length<=1000)/\post (canonF (comb (howS h) a b))
def rcombO_sp:Spec:=⟨89,false,true,[.sl (.st .api_Rect),.sl (.st .api_Rect),.int .i64],.own 78 (.st .api_Rect),λx post=>rcombO_P (x.1:List (api_Rect)) (x.2.1:List (api_Rect)) (x.2.2.1:Int) (λy0=>post (y0,()))⟩
def rcombO_C:CtxR:=⟨tau,[rule1 rput_sp,rule1 rins_sp,rule1 rsm_sp],lookJ [(0,27,⟨[(15,.dat (.int .i64)),(14,.own 78 (.st .api_Rect)),(13,.own 78 (.st .api_Rect))],[],(List.range' 50 124++[16,17,18,19]),[],[]⟩),(0,28,⟨[(14,.own 78 (.st .api_Rect)),(13,.own 78 (.st .api_Rect))],[],(List.range' 57 117++[16,17,18,19]),[2,1],[]⟩),(0,53,⟨[(157,.dat (.int .i64))],[],(List.range' 158 12++[19]),[],[(1,78,(.st .api_Rect))]⟩),(0,35,⟨[(17,.dat (.int .i64)),(16,.own 78 (.st .api_Rect))],[],(List.range' 57 79++[18]),[],[]⟩),(0,36,⟨[(16,.own 78 (.st .api_Rect))],[],(List.range' 64 72++[18]),[3],[]⟩),(0,1000023,⟨[(16,.own 78 (.st .api_Rect))],[],(List.range' 114 22),[3],[]⟩),(0,1000019,⟨[(86,.dat .bool)],[],(List.range' 64 22),[],[]⟩),(19421,0,⟨[(0,.dat .bool)],[],[],[],[]⟩),(0,7,⟨[(24,.dat (.int .i64)),(8,.dat (.sl (.int .i64))),(7,.dat (.sl (.int .i64)))],[],(List.range' 25 25++[10,12]),[],[]⟩),(0,13,⟨[(30,.dat (.int .i64)),(8,.dat (.sl (.int .i64))),(7,.dat (.sl (.int .i64)))],[],(List.range' 31 18++[12]),[],[]⟩),(0,1000008,⟨[(8,.dat (.sl (.int .i64))),(7,.dat (.sl (.int .i64)))],[],(List.range' 34 14),[],[]⟩)]⟩
def rcombO_W (a:List (api_Rect))(b:List (api_Rect))(h:Int)(post:List (api_Rect)->Prop):Prop:=(↑[a,b].length:Int)<=9223372036854775807->LOOP [Ty.int IntKind.i64,(Ty.int IntKind.i64).sl,(Ty.int IntKind.i64).sl] (λ(rec1:Int->List Int->List Int->Prop) (z2:Int) (z3 z4:List Int)=>IFB (decide (z2<(↑[a,b].length:Int))) (((0:Int)<=z2/\z2<(↑[a,b].length:Int))/\((↑(ix [a,b] z2).length:Int)<=9223372036854775807->LOOP [Ty.int IntKind.i64,(Ty.int IntKind.i64).sl,(Ty.int IntKind.i64).sl] (λ(rec5:Int->List Int->List Int->Prop) (z6:Int) (z7 z8:List Int)=>IFB (decide (z6<(↑(ix [a,b] z2).length:Int))) (((0:Int)<=z6/\z6<(↑(ix [a,b] z2).length:Int))/\JOIN [(Ty.int IntKind.i64).sl,(Ty.int IntKind.i64).sl] (λ(y9 y10:List Int)=>rec5 (IntKind.i64.wrap (z6+1)) y9 y10) λ(J11:List Int->List Int->Prop)=>z8.length<=1000000/\(putS (ix (ix [a,b] z2) z6).1 z8).length<=1000000/\z7.length<=1000000/\(putS (ix (ix [a,b] z2) z6).2 z7).length<=1000000/\J11 (putS (ix (ix [a,b] z2) z6).4 (putS (ix (ix [a,b] z2) z6).2 z7)) (putS (ix (ix [a,b] z2) z6).3 (putS (ix (ix [a,b] z2) z6).1 z8))) (rec1 (IntKind.i64.wrap (z2+1)) z7 z8)) ((0:Int),z3,z4,PUnit.unit))) (LOOP [Ty.int IntKind.i64,(Ty.st Sn.api_Rect).sl,(Ty.st Sn.api_Rect).sl] (λ(rec12:Int->List api_Rect->List api_Rect->Prop) (z13:Int) (z14 z15:List api_Rect)=>(↑z3.length:Int)<=9223372036854775807->IFB (decide (IntKind.i64.wrap (z13+1)<(↑z3.length:Int))) (JOIN [(Ty.st Sn.api_Rect).sl,(Ty.st Sn.api_Rect).sl] (λ(y16 y17:List api_Rect)=>rec12 (IntKind.i64.wrap (z13+1)) y16 y17) λ(J18:List api_Rect->List api_Rect->Prop)=>LOOP [Ty.int IntKind.i64,(Ty.st Sn.api_Rect).sl] (λ(rec19:Int->List api_Rect->Prop) (z20:Int) (z21:List api_Rect)=>(↑z4.length:Int)<=9223372036854775807->IFB (decide (IntKind.i64.wrap (z20+1)<(↑z4.length:Int))) (JOIN [(Ty.st Sn.api_Rect).sl] (λ(y22:List api_Rect)=>rec19 (IntKind.i64.wrap (z20+1)) y22) λ(J23:List api_Rect->Prop)=>JOIN [Ty.bool] (λ(y24:Bool)=>IFB y24 (J23 z21) ((↑z21.length:Int)<=9223372036854775807->(gx true (decide ((0:Int)<(↑z21.length:Int)))=true->0<=IntKind.i64.wrap ((↑z21.length:Int)-1)/\IntKind.i64.wrap ((↑z21.length:Int)-1)<(↑z21.length:Int))/\(gx true (decide ((0:Int)<(↑z21.length:Int)))=true->0<=z20/\z20<(↑z4.length:Int))/\IFB (decide ((0:Int)<(↑z21.length:Int))&&decide ((ix z21 (IntKind.i64.wrap ((↑z21.length:Int)-1))).3=ix z4 z20)) (((0:Int)<=IntKind.i64.wrap (z20+1)/\IntKind.i64.wrap (z20+1)<(↑z4.length:Int))/\((0:Int)<=IntKind.i64.wrap ((↑z21.length:Int)-1)/\IntKind.i64.wrap ((↑z21.length:Int)-1)<(↑z21.length:Int))/\J23 (z21.set (IntKind.i64.wrap ((↑z21.length:Int)-1)).toNat (⟨(ix z21 (IntKind.i64.wrap ((↑z21.length:Int)-1))).1,(ix z21 (IntKind.i64.wrap ((↑z21.length:Int)-1))).2,ix z4 (IntKind.i64.wrap (z20+1)),(ix z21 (IntKind.i64.wrap ((↑z21.length:Int)-1))).4⟩:api_Rect))) (JOIN [(Ty.st Sn.api_Rect).sl] (λ(y25:List api_Rect)=>J23 y25) λ(J26:List api_Rect->Prop)=>((0:Int)<=z20/\z20<(↑z4.length:Int))/\((0:Int)<=z13/\z13<(↑z3.length:Int))/\((0:Int)<=IntKind.i64.wrap (z20+1)/\IntKind.i64.wrap (z20+1)<(↑z4.length:Int))/\((0:Int)<=IntKind.i64.wrap (z13+1)/\IntKind.i64.wrap (z13+1)<(↑z3.length:Int))/\(z21.length+[(⟨ix z4 z20,ix z3 z13,ix z4 (IntKind.i64.wrap (z20+1)),ix z3 (IntKind.i64.wrap (z13+1))⟩:api_Rect)].length) * (32:Nat)<=140737488355328/\J26 (z21++[(⟨ix z4 z20,ix z3 z13,ix z4 (IntKind.i64.wrap (z20+1)),ix z3 (IntKind.i64.wrap (z13+1))⟩:api_Rect)])))) λ(J27:Bool->Prop)=>((0:Int)<=z20/\z20<(↑z4.length:Int))/\((0:Int)<=z13/\z13<(↑z3.length:Int))/\((0:Int)<=z20/\z20<(↑z4.length:Int))/\((0:Int)<=z13/\z13<(↑z3.length:Int))/\a.length<=1000000/\b.length<=1000000/\JOIN [Ty.bool] (λ(y28:Bool)=>J27 !y28) λ(J29:Bool->Prop)=>IFB (decide (h=1)) (J29 (cov a (ix z4 z20) (ix z3 z13)||cov b (ix z4 z20) (ix z3 z13))) (IFB (decide (h=2)) (J29 (cov a (ix z4 z20) (ix z3 z13)&&cov b (ix z4 z20) (ix z3 z13))) (J29 (cov a (ix z4 z20) (ix z3 z13)&& !cov b (ix z4 z20) (ix z3 z13))))) ((↑z14.length:Int)<=9223372036854775807->JOIN [Ty.bool] (λ(y30:Bool)=>(gx true (decide ((0:Int)<(↑z14.length:Int))&&y30)=true->Int.NonNeg 0/\0<(↑z14.length:Int))/\(gx true (decide ((0:Int)<(↑z14.length:Int))&&y30)=true->0<=z13/\z13<(↑z3.length:Int))/\IFB (decide ((0:Int)<(↑z14.length:Int))&&y30&&decide ((ix z14 0).4=ix z3 z13)) ((↑z14.length:Int)<=9223372036854775807->LOOP [Ty.int IntKind.i64,(Ty.st Sn.api_Rect).sl] (λ(rec31:Int->List api_Rect->Prop) (z32:Int) (z33:List api_Rect)=>IFB (decide (z32<(↑z14.length:Int))) (((0:Int)<=IntKind.i64.wrap (z13+1)/\IntKind.i64.wrap (z13+1)<(↑z3.length:Int))/\((0:Int)<=z32/\z32<(↑z33.length:Int))/\rec31 (IntKind.i64.wrap (z32+1)) (z33.set z32.toNat (⟨(ix z33 z32).1,(ix z33 z32).2,(ix z33 z32).3,ix z3 (IntKind.i64.wrap (z13+1))⟩:api_Rect))) (J18 z33 z15)) ((0:Int),z14,PUnit.unit)) ((z15.length+z14.length) * (32:Nat)<=140737488355328/\J18 z21 (z15++z14))/\IFB (decide ((0:Int)<(↑z14.length:Int))&&y30&&decide ((ix z14 0).4=ix z3 z13)) ((↑z14.length:Int)<=9223372036854775807->LOOP [Ty.int IntKind.i64,(Ty.st Sn.api_Rect).sl] (λ(rec34:Int->List api_Rect->Prop) (z35:Int) (z36:List api_Rect)=>IFB (decide (z35<(↑z14.length:Int))) (((0:Int)<=IntKind.i64.wrap (z13+1)/\IntKind.i64.wrap (z13+1)<(↑z3.length:Int))/\((0:Int)<=z35/\z35<(↑z36.length:Int))/\rec34 (IntKind.i64.wrap (z35+1)) (z36.set z35.toNat (⟨(ix z36 z35).1,(ix z36 z35).2,(ix z36 z35).3,ix z3 (IntKind.i64.wrap (z13+1))⟩:api_Rect))) (J18 z36 z15)) ((0:Int),z14,PUnit.unit)) ((z15.length+z14.length) * (32:Nat)<=140737488355328/\J18 z21 (z15++z14))) λ(J37:Bool->Prop)=>IFB (gx true (decide ((0:Int)<(↑z14.length:Int)))) (z14.length<=100000000/\∀(v38:Bool),(v38=true↔List.map spanOf z14=List.map spanOf z21)->J37 v38) (J37 false))) ((0:Int),[],PUnit.unit)) ((z15.length+z14.length) * (32:Nat)<=140737488355328/\post (z15++z14))) ((0:Int),[],[],PUnit.unit))) ((0:Int),[],[],PUnit.unit)
theorem rcombO_w (a:List (api_Rect))(b:List (api_Rect))(h:Int)(post:dens (shT rcombO_sp.rs [])->Prop):rcombO_W a b h (λy0=>post (y0,()))=walkG (callR Tryz.prog rcombO_C (drawR Tryz.prog tau) 8 0) 89 false [tv (.sl (.st .api_Rect)) a,tv (.sl (.st .api_Rect)) b,tv (.int .i64) h] rcombO_sp.rs post:=by kernel_rfl
theorem rcombO_of (h:∀a b h post,rcombO_P a b h post->rcombO_W a b h post):SpecOK Tryz.prog rcombO_sp:=SpecOK.of_rules (C:=rcombO_C) (dr:=drawR Tryz.prog tau) (n:=8) (fk:=0) (.cons (rule1_ok rput_ok) (.cons (rule1_ok rins_ok) (.cons (rule1_ok rsm_ok) .nil))) (drawR_ok tau) λx post hp=>HoldW.of (rcombO_w x.1 x.2.1 x.2.2.1 post) (h x.1 x.2.1 x.2.2.1 (λy0=>post (y0,())) hp)
theorem rcombO_ok:SpecOK Tryz.prog rcombO_sp:=rcombO_of rcomb_main
def rofO_P (l:List (api_Rect))(post:List (api_Rect)->Int->Prop):Prop:=post (ofS l).1 (ofS l).2
def rofO_sp:Spec:=⟨258,false,true,[.sl (.st .api_Rect)],.tup [.agg [.own 78 (.st .api_Rect)],.dat (.int .i64)],λx post=>rofO_P (x.1:List (api_Rect)) (λy0 y1=>post (y0,y1,()))⟩
def rofO_C:CtxR:=⟨tau,[rule1 rcombO_sp],lookJ [(9192,0,⟨[(0,.tup [.agg [.own 78 (.st .api_Rect)],.dat (.int .i64)])],[],[],[1],[]⟩),(0,9,⟨[(12,.dat (.int .i64))],[],[13,14,15,5,16,17,18,20],[],[]⟩)]⟩
def rofO_W (l:List (api_Rect))(post:List (api_Rect)->Int->Prop):Prop:=(↑l.length:Int)<=9223372036854775807->IFB (decide ((120:Int)<(↑l.length:Int))) (post [] 1) ((↑l.length:Int)<=9223372036854775807->LOOP [Ty.int IntKind.i64] (λ(rec1:Int->Prop) (z2:Int)=>IFB (decide (z2<(↑l.length:Int))) (((0:Int)<=z2/\z2<(↑l.length:Int))/\IFB (!(decide ((0:Int)<=(ix l z2).1)&&decide ((ix l z2).1<(ix l z2).3)&&decide ((ix l z2).3<=16384)&&decide ((0:Int)<=(ix l z2).2)&&decide ((ix l z2).2<(ix l z2).4)&&decide ((ix l z2).4<=16384))) (post [] 2) (rec1 (IntKind.i64.wrap (z2+1)))) ((l.length<=1000/\(0:Nat)<=1000)/\JOIN [(Ty.st Sn.api_Rect).sl,Ty.int IntKind.i64] (λ(y3:List api_Rect) (y4:Int)=>post y3 y4) λ(J5:List api_Rect->Int->Prop)=>(↑(canonF λ(x y:Int)=>howS (1:Int) (cov l x y) (cov [] x y)).length:Int)<=9223372036854775807->IFB (decide ((120:Int)<(↑(canonF λ(x y:Int)=>howS (1:Int) (cov l x y) (cov [] x y)).length:Int))) (J5 [] 1) (J5 (canonF λ(x y:Int)=>howS (1:Int) (cov l x y) (cov [] x y)) 0))) ((0:Int),PUnit.unit))
theorem rofO_w (l:List (api_Rect))(post:dens (shT rofO_sp.rs [])->Prop):rofO_W l (λy0 y1=>post (y0,y1,()))=walkG (callR Tryz.prog rofO_C (drawR Tryz.prog tau) 8 0) 258 false [tv (.sl (.st .api_Rect)) l] rofO_sp.rs post:=by kernel_rfl
theorem rofO_of (h:∀l post,rofO_P l post->rofO_W l post):SpecOK Tryz.prog rofO_sp:=SpecOK.of_rules (C:=rofO_C) (dr:=drawR Tryz.prog tau) (n:=8) (fk:=0) (.cons (rule1_ok rcombO_ok) .nil) (drawR_ok tau) λx post hp=>HoldW.of (rofO_w x.1 post) (h x.1 (λy0 y1=>post (y0,y1,())) hp)
theorem rofO_ok:SpecOK Tryz.prog rofO_sp:=rofO_of rof_main
def kregionO_P (n:Int)(m:Int)(post:List (api_Rect)->Prop):Prop:=(1<=n/\n<=16384/\0<=m/\m<=100)/\∀a:List api_Rect,(validP a/\∀x y,cov a x y=true->x<n/\y<n)->post a
def kregionO_sp:Spec:=⟨168,true,true,[.int .i64,.int .i64],.agg [.own 78 (.st .api_Rect)],λx post=>kregionO_P (x.1:Int) (x.2.1:Int) (λy0=>post (y0,()))⟩
def kregionO_C:CtxR:=⟨tau,[rule1 knext_sp,rule1 krect_sp,rule1 rofO_sp],lookJ [(0,7,⟨[(8,.dat (.int .i64)),(7,.own 78 (.st .api_Rect))],[],(List.range' 15 10),[],[]⟩)]⟩
def kregionO_W (n:Int)(m:Int)(post:List (api_Rect)->Prop):Prop:=IntKind.i64.wrap (m+1)<=9223372036854775807/\∀(v1:Int),0<=v1->v1<IntKind.i64.wrap (m+1)\/v1=0->LOOP [Ty.int IntKind.i64,(Ty.st Sn.api_Rect).sl] (λ(rec2:Int->List api_Rect->Prop) (z3:Int) (z4:List api_Rect)=>IFB (decide ((0:Int)<z3)) (((1:Int)<=n/\n<=16384)/\∀(v5:api_Rect),proper v5/\v5.3<=n/\v5.4<=n->(z4.length+[{Left:=v5.1,Low:=v5.2,Right:=v5.3,High:=v5.4:api_Rect}].length) * (32:Nat)<=140737488355328/\rec2 (IntKind.i64.wrap (z3-1)) (z4++[{Left:=v5.1,Low:=v5.2,Right:=v5.3,High:=v5.4:api_Rect}])) (post (ofS z4).1)) (v1,[],PUnit.unit)
theorem kregionO_w (n:Int)(m:Int)(post:dens (shT kregionO_sp.rs [])->Prop):kregionO_W n m (λy0=>post (y0,()))=walkG (callR Tryz.prog kregionO_C (drawR Tryz.prog tau) 8 0) 168 true [tv (.int .i64) n,tv (.int .i64) m] kregionO_sp.rs post:=by kernel_rfl
theorem kregionO_of (h:∀n m post,kregionO_P n m post->kregionO_W n m post):SpecOK Tryz.prog kregionO_sp:=SpecOK.of_rules (C:=kregionO_C) (dr:=drawR Tryz.prog tau) (n:=8) (fk:=0) (.cons (rule1_ok knext_ok) (.cons (rule1_ok krect_ok) (.cons (rule1_ok rofO_ok) .nil))) (drawR_ok tau) λx post hp=>HoldW.of (kregionO_w x.1 x.2.1 post) (h x.1 x.2.1 (λy0=>post (y0,())) hp)
theorem kregionO_ok:SpecOK Tryz.prog kregionO_sp:=kregionO_of λn m post hp=>by
 obtain⟨⟨h1,h2,h3,h4⟩,hp⟩:=hp
 unfold kregionO_W
 have w1:IntKind.i64.wrap (m+1)=m+1:=wrap_in (by omega) (by omega)
 rw[w1]
 refine⟨by omega,λv a b=> ?_⟩
 refine LOOP.fuel (λu=>regI n u.1 u.2.1) (λu=>Int.toNat u.1) ⟨a,by show v+(([]:List Rc).length:Int)<=200;simp only[List.length_nil];omega,λr hr=>(by cases hr)⟩ ?_
 rintro rec ⟨(z:Int),(l:List Rc),⟨⟩⟩ ⟨i1,i2,i3⟩ hrec
 have i1:0<=z:=i1
 have i2:z+(l.length:Int)<=200:=i2
 refine IFB.mk (λhb=>⟨⟨h1,h2⟩,λr hr=>⟨by simp only[List.length_cons,List.length_nil];omega,?_⟩⟩) (λhb=> ?_)
 ·have hb:0<z:=of_decide_eq_true hb
  rw[wrap_in (by omega) (by omega)]
  refine hrec (z-1,_,()) ⟨?_,?_,?_⟩ (by show (z-1).toNat<z.toNat;omega)
  ·show 0<=z-1;omega
  ·show z-1+(List.length (l++_):Int)<=200
   simp only[List.length_append,List.length_cons,List.length_nil];omega
  ·intro q hq
   rcases List.mem_append.1 hq with hq|hq
   ·exact i3 q hq
   ·rw[List.mem_singleton] at hq
    subst hq
    exact hr
 ·exact hp (ofS l).1 (ofS_valid h2 i3)
def klandO_P (n:Int)(m:Int)(post:List (api_Rect)->Prop):Prop:=(1<=n/\n<=16384/\0<=m/\m<=100)/\∀a:List api_Rect,(validP a/\a≠[]/\∀x y,cov a x y=true->x<n/\y<n)->post a
def klandO_sp:Spec:=⟨88,true,true,[.int .i64,.int .i64],.agg [.own 78 (.st .api_Rect)],λx post=>klandO_P (x.1:Int) (x.2.1:Int) (λy0=>post (y0,()))⟩
def klandO_C:CtxR:=⟨tau,[rule1 kregionO_sp,rule1 krect_sp],lookJ [(0,8,⟨[],[(2,[.own 78 (.st .api_Rect)])],[12,13,14,15,16,17,18,19,20],[1],[]⟩)]⟩
def klandO_W (n:Int)(m:Int)(post:List (api_Rect)->Prop):Prop:=((1:Int)<=n/\n<=16384/\0<=m/\m<=100)/\∀(v1:List api_Rect),(validP v1/\∀(x y:Int),cov v1 x y=true->x<n/\y<n)->JOIN [(Ty.st Sn.api_Rect).sl] (λ(y2:List api_Rect)=>post y2) λ(J3:List api_Rect->Prop)=>(↑v1.length:Int)<=9223372036854775807->IFB (decide ((↑v1.length:Int)=0)) (((1:Int)<=n/\n<=16384)/\∀(v4:api_Rect),proper v4/\v4.3<=n/\v4.4<=n->J3 [{Left:=v4.1,Low:=v4.2,Right:=v4.3,High:=v4.4:api_Rect}]) (J3 v1)
theorem klandO_w (n:Int)(m:Int)(post:dens (shT klandO_sp.rs [])->Prop):klandO_W n m (λy0=>post (y0,()))=walkG (callR Tryz.prog klandO_C (drawR Tryz.prog tau) 8 0) 88 true [tv (.int .i64) n,tv (.int .i64) m] klandO_sp.rs post:=by kernel_rfl
theorem klandO_of (h:∀n m post,klandO_P n m post->klandO_W n m post):SpecOK Tryz.prog klandO_sp:=SpecOK.of_rules (C:=klandO_C) (dr:=drawR Tryz.prog tau) (n:=8) (fk:=0) (.cons (rule1_ok kregionO_ok) (.cons (rule1_ok krect_ok) .nil)) (drawR_ok tau) λx post hp=>HoldW.of (klandO_w x.1 x.2.1 post) (h x.1 x.2.1 (λy0=>post (y0,())) hp)
theorem klandO_ok:SpecOK Tryz.prog klandO_sp:=klandO_of λn m post hp=>by
 obtain⟨hd,hp⟩:=hp
 unfold klandO_W
 refine⟨hd,λl ha=> ?_⟩
 obtain⟨h1,h2⟩:=ha
 refine JOIN.opq λ(J:List Rc->Prop) hJ _=>IFB.mk (λhb=>⟨⟨hd.1,hd.2.1⟩,λr hr=> ?_⟩) (λhb=> ?_)
 ·rw[hJ]
  refine hp [r] ⟨⟨by simp,λq hq=> ?_,canon_one hr.1⟩,by simp,λx y hxy=> ?_⟩
  ·rw[List.mem_singleton] at hq
   subst hq
   exact hr.1
  ·obtain⟨q,hq,q1,q2,q3,q4⟩:=cov_iff.1 hxy
   rw[List.mem_singleton] at hq
   subst hq
   obtain⟨_,p7,p8⟩:=hr
   omega
 ·have hb:¬(l.length:Int)=0:=of_decide_eq_false hb
  rw[hJ]
  exact hp l ⟨h1,λe=>hb (by show (l.length:Int)=0;rw[show l=[] from e];rfl),h2⟩
end RE
end Go.Proofs.YtjcjdgmojkkioaaGreatDoor
set_option maxRecDepth 100000
set_option linter.unusedVariables false
namespace Go.Proofs.YtjcjdgmojkkioaaGreatDoor
open Go.RowKit
namespace RE
open PL
namespace PL
def boxed (p:Int)(l:List Rc):Prop:=Canon l/\∀x y,cov l x y=true->10 * p<=x/\x<10 * p+9/\0<=y/\y<9
def linesOK (a:List api_Line):Prop:=∀x∈a,∃p:Int,0<=p/\p<=2/\boxed p x.Region.Rects
end PL
theorem boxed_len {p:Int}{l:List Rc}(h:boxed p l):l.length<=81:=by
 have:=canon_len h.1 (x0:=10 * p) (x1:=10 * p+9) (y0:=0) (y1:=9) (by omega) (by omega) h.2
 have e:(9-0:Int) * (10 * p+9-10 * p)=81:=by
  rw[show 10 * p+9-10 * p=(9:Int) by omega];rfl
 rw[e] at this
 omega
theorem boxed_valid {p:Int}{l:List Rc}(h0:0<=p)(h1:p<=2)(h:boxed p l):validP l:=by
 have hl:=boxed_len h
 exact⟨by omega,canon_proper h.1 (n:=29) (m:=9) (by omega) (by omega) (λx y hxy=>by have:=h.2 x y hxy;omega),h.1⟩
theorem boxed_and {p:Int}{l:List Rc}{r:Rc}(h1:r.Left=10 * p)(h2:r.Right<=10 * p+9)(h3:0<=r.Low)(h4:r.High<=9):boxed p (canonF (comb (howS 2) l [r])):=by
 obtain⟨c1,c2⟩:=comb_ok (howS_0 2) l [r]
 refine⟨c1,λx y hxy=> ?_⟩
 rw[c2] at hxy
 have:cov [r] x y=true:=by
  unfold comb howS at hxy
  revert hxy
  cases cov l x y<;>cases cov [r] x y<;>simp
 obtain⟨q,hq,q1,q2,q3,q4⟩:=cov_iff.1 this
 rw[List.mem_singleton] at hq
 subst hq
 omega
theorem boxed_not {p:Int}{l m:List Rc}(h:boxed p l):boxed p (canonF (comb (howS 3) l m)):=by
 obtain⟨c1,c2⟩:=comb_ok (howS_0 3) l m
 refine⟨c1,λx y hxy=>h.2 x y ?_⟩
 rw[c2] at hxy
 unfold comb howS at hxy
 revert hxy
 cases cov l x y<;>simp
def regsOK (z4:List api_Region):Prop:=∀j:Nat,j<z4.length->∃r:Rc,(ix z4 (j:Int)).1=[r]/\r.Left=10 * (j:Int)/\r.Right<=10 * (j:Int)+9/\0<=r.Low/\r.High<=9
def parI (v z3:Int)(z4:List api_Region)(z5:List Int):Prop:=0<=z3/\z3+(z5.length:Int)=v/\z4.length=z5.length/\regsOK z4
def shI (n:Nat)(z:Int)(l:List Rc):Prop:=∃k:Nat,z=(k:Int)/\k<=n/\l.length=n
theorem regs_snoc {z4:List api_Region}{r:Rc}(h:regsOK z4)(h1:r.Left=10 * (z4.length:Int))(h2:r.Right<=10 * (z4.length:Int)+9)(h3:0<=r.Low)(h4:r.High<=9):regsOK (z4++[⟨[r]⟩]):=by
 intro j hj
 by_cases e:j<z4.length
 ·obtain⟨q,g⟩:=h j e
  refine⟨q,?_⟩
  have:ix (z4++[⟨[r]⟩]) (j:Int)=ix z4 (j:Int):=by
   rw[ix_lt hj,ix_lt e]
   exact List.getElem_append_left e
  rw[this];exact g
 ·have hj':j=z4.length:=by simp at hj;omega
  subst hj'
  exact⟨r,by rw[ix_app rfl],h1,h2,h3,h4⟩
end RE
end Go.Proofs.YtjcjdgmojkkioaaGreatDoor
set_option maxRecDepth 100000
set_option linter.unusedVariables false
namespace Go.Proofs.YtjcjdgmojkkioaaGreatDoor
open Go.RowKit
namespace RE
open PL
namespace PL
def apartL (a b:List Rc):Prop:=∀u v:Int,cov a u v=true->cov b u v=false
def linesD (a:List api_Line):Prop:=linesOK a/\a.Pairwise λx y=>apartL y.Region.Rects x.Region.Rects
end PL
theorem cov_not3 {l m:List Rc}{x y:Int}:cov (canonF (comb (howS 3) l m)) x y=true↔cov l x y=true/\cov m x y=false:=by
 rw[(comb_ok (howS_0 3) l m).2]
 unfold comb howS
 simp
def linDI (m z:Int)(l:List api_Line):Prop:=0<=z/\z+(l.length:Int)<=m/\linesD l
def cutD (z11:List api_Line)(p z:Int)(l:List Rc):Prop:=∃k:Nat,z=(k:Int)/\k<=z11.length/\boxed p l/\∀x∈z11.take k,apartL l x.Region.Rects
theorem cutD_step {z11:List api_Line}{q:Nat}{l:List Rc}(hq:q<z11.length)(h:∀x∈z11.take q,apartL l x.Region.Rects):∀x∈z11.take (q+1),apartL (canonF (comb (howS 3) l (ix z11 (q:Int)).Region.Rects)) x.Region.Rects:=by
 intro x hx u v hc
 obtain⟨c1,c2⟩:=cov_not3.1 hc
 rw[List.take_succ_eq_append_getElem hq] at hx
 rcases List.mem_append.1 hx with hx|hx
 ·exact h x hx u v c1
 ·rw[List.mem_singleton] at hx
  rw[ix_lt hq] at c2
  rw[hx];exact c2
def klinD_P (cs:List (api_Crop))(m:Int)(post:List (api_Line)->List (Int)->List (api_Region)->Prop):Prop:=(1<=cs.length/\cs.length<=1000/\0<=m/\m<=10)/\∀(a:List api_Line)(b:List Int)(c:List api_Region),(linesD a/\(a.length:Int)<=m)->post a b c
def klinD_sp:Spec:=⟨29,true,true,[.sl (.st .api_Crop),.int .i64],.tup [.dat (.sl (.st .api_Line)),.dat (.sl (.int .i64)),.dat (.sl (.st .api_Region))],λx post=>klinD_P (x.1:List (api_Crop)) (x.2.1:Int) (λy0 y1 y2=>post (y0,y1,y2,()))⟩
def klinD_C:CtxR:=⟨tau,[rule1 knext_sp,rule1 krange_sp,rule1 klandO_sp,rule1 rcomb_sp],lookJ [(0,21,⟨[(14,.dat (.int .i64)),(11,.own 127 (.st .api_Line))],[],[53,54,135,134,133,132,131,130,129,128,127,126,125,124,123,122,121,120,119,118,109,108,18,110,111,20,112,113,114,115,116,117,107,106,105,104,103,102,101,100,99,98,67,66,68,17,69,70,71,72,73,74,75,76,77,78,79,80,81,82,83,84,85,86,87,88,89,90,91,92,93,94,95,96,97,65,64,63,16,62,61,15,60,59,58,57,55,56],[],[]⟩),(0,22,⟨[(11,.own 127 (.st .api_Line))],[],[57,58,59,60,15,61,62,16,63,64,65,97,96,95,94,93,92,91,90,89,88,87,86,85,84,83,82,81,80,79,78,77,76,75,74,73,72,71,70,69,17,68,66,67,98,99,100,101,102,103,104,105,106,107,117,116,115,114,113,112,20,111,110,18,108,109,118,119,120,121,122,123,124,125,126,127,128,129,130,131,132,133,134,135],[2],[]⟩),(0,43,⟨[(108,.dat (.int .i64)),(18,.dat (.sl (.st .api_Rect)))],[],[109,110,111,20,112,113,114,115,116,117],[],[]⟩),(0,31,⟨[(66,.dat (.int .i64))],[],[67,68,17,69,70,71,72,73,74,75,76,77,78,79,80,81,82,83,84,85,86,87,88,89,90,91,92,93,94,95,96,97],[],[(3,78,(.st .api_Rect))]⟩),(0,11,⟨[(12,.dat (.int .i64)),(10,.own 56 (.st .api_Region)),(9,.own 3 (.int .i64))],[],[23,24,27,28,13,29,30,31,32,33,34,35,36,37,38,39,40,41,42,43,44,45,46,47,48,25,26],[],[]⟩)]⟩
abbrev klinD_a0 (z18:List api_Rect)(z17:Int)(v14:Int):=(z18.set z17.toNat {Left:=IntKind.i64.wrap ((ix z18 z17).1+IntKind.i64.wrap ((10:Int) * v14)),Low:=(ix z18 z17).2,Right:=(ix z18 z17).3,High:=(ix z18 z17).4:api_Rect})
def klinD_W (cs:List (api_Crop))(m:Int)(post:List (api_Line)->List (Int)->List (api_Region)->Prop):Prop:=(Int.NonNeg 1099511627777/\Int.NonNeg 1099511627775/\Int.NonNeg 1099511627779/\(3:Int)<=1099511627776)/\∀(v1:Int),1<=v1->v1<=3\/v1=1->LOOP [Ty.int IntKind.i64,(Ty.st Sn.api_Region).sl,(Ty.int IntKind.i64).sl] (λ(rec2:Int->List api_Region->List Int->Prop) (z3:Int) (z4:List api_Region) (z5:List Int)=>IFB (decide ((0:Int)<z3)) ((↑z5.length:Int)<=9223372036854775807->(z5.length+[IntKind.i64.wrap ((↑z5.length:Int)+1)].length) * (8:Nat)<=140737488355328/\(Int.NonNeg 1099511627778/\Int.NonNeg 1099511627774/\Int.NonNeg 1099511627785/\(9:Int)<=1099511627776)/\∀(v6:Int),2<=v6->v6<=9\/v6=2->(Int.NonNeg 1099511627778/\Int.NonNeg 1099511627774/\Int.NonNeg 1099511627785/\(9:Int)<=1099511627776)/\∀(v7:Int),2<=v7->v7<=9\/v7=2->(z4.length+[(⟨[(⟨IntKind.i64.wrap ((10:Int) * (↑z5.length:Int)),(0:Int),IntKind.i64.wrap (IntKind.i64.wrap ((10:Int) * (↑z5.length:Int))+v6),v7⟩:api_Rect)]⟩:api_Region)].length) * (24:Nat)<=140737488355328/\rec2 (IntKind.i64.wrap (z3-1)) (z4++[(⟨[(⟨IntKind.i64.wrap ((10:Int) * (↑z5.length:Int)),(0:Int),IntKind.i64.wrap (IntKind.i64.wrap ((10:Int) * (↑z5.length:Int))+v6),v7⟩:api_Rect)]⟩:api_Region)]) (z5++[IntKind.i64.wrap ((↑z5.length:Int)+1)])) (IntKind.i64.wrap (m+1)<=9223372036854775807/\∀(v8:Int),0<=v8->v8<IntKind.i64.wrap (m+1)\/v8=0->LOOP [Ty.int IntKind.i64,(Ty.st Sn.api_Line).sl] (λ(rec9:Int->List api_Line->Prop) (z10:Int) (z11:List api_Line)=>IFB (decide ((0:Int)<z10)) (JOIN [(Ty.st Sn.api_Line).sl] (λ(y12:List api_Line)=>rec9 (IntKind.i64.wrap (z10-1)) y12) λ(J13:List api_Line->Prop)=>(↑z5.length:Int)<=9223372036854775807->(↑z5.length:Int)<=9223372036854775807/\∀(v14:Int),0<=v14->v14<(↑z5.length:Int)\/v14=0->(Int.NonNeg 8/\Int.NonNeg 16375/\Int.NonNeg 2/\(2:Int)<=100)/\∀(v15:List api_Rect),(validP v15/\(v15=[]->False)/\∀(x y:Int),cov v15 x y=true->x<9/\y<9)->(↑v15.length:Int)<=9223372036854775807->LOOP [Ty.int IntKind.i64,(Ty.st Sn.api_Rect).sl] (λ(rec16:Int->List api_Rect->Prop) (z17:Int) (z18:List api_Rect)=>IFB (decide (z17<(↑v15.length:Int))) (((0:Int)<=z17/\z17<(↑z18.length:Int))/\((0:Int)<=z17/\z17<(↑z18.length:Int))/\((0:Int)<=z17/\z17<(↑z18.length:Int))/\((0:Int)<=z17/\z17<(↑(klinD_a0 z18 z17 v14).length:Int))/\rec16 (IntKind.i64.wrap (z17+1)) ((klinD_a0 z18 z17 v14).set z17.toNat (⟨(ix (klinD_a0 z18 z17 v14) z17).1,(ix (klinD_a0 z18 z17 v14) z17).2,IntKind.i64.wrap ((ix z18 z17).3+IntKind.i64.wrap ((10:Int) * v14)),(ix (klinD_a0 z18 z17 v14) z17).4⟩:api_Rect))) (((0:Int)<=v14/\v14<(↑z4.length:Int))/\(z18.length<=1000/\(ix z4 v14).1.length<=1000)/\((↑z11.length:Int)<=9223372036854775807->LOOP [Ty.int IntKind.i64,(Ty.st Sn.api_Rect).sl] (λ(rec19:Int->List api_Rect->Prop) (z20:Int) (z21:List api_Rect)=>IFB (decide (z20<(↑z11.length:Int))) (((0:Int)<=z20/\z20<(↑z11.length:Int))/\(z21.length<=1000/\(ix z11 z20).2.1.length<=1000)/\rec19 (IntKind.i64.wrap (z20+1)) (canonF λ(x y:Int)=>howS (3:Int) (cov z21 x y) (cov (ix z11 z20).2.1 x y))) ((↑z21.length:Int)<=9223372036854775807->IFB (decide ((0:Int)<(↑z21.length:Int))) ((↑cs.length:Int)<=9223372036854775807->(↑cs.length:Int)<=9223372036854775807/\∀(v22:Int),0<=v22->v22<(↑cs.length:Int)\/v22=0->Int.NonNeg 9223372036854775792/\∀(v23:Int),0<=v23->v23<15\/v23=0->(z11.length+[(⟨IntKind.i64.wrap (v14+1),(⟨z21⟩:api_Region),v22,IntKind.i64.wrap ((1:Int)+v23)⟩:api_Line)].length) * (48:Nat)<=140737488355328/\J13 (z11++[(⟨IntKind.i64.wrap (v14+1),(⟨z21⟩:api_Region),v22,IntKind.i64.wrap ((1:Int)+v23)⟩:api_Line)])) (J13 z11))) ((0:Int),canonF λ(x y:Int)=>howS (2:Int) (cov z18 x y) (cov (ix z4 v14).1 x y),PUnit.unit)))) ((0:Int),v15,PUnit.unit)) (post z11 z5 z4)) (v8,[],PUnit.unit))) (v1,[],[],PUnit.unit)
theorem klinD_w (cs:List (api_Crop))(m:Int)(post:dens (shT klinD_sp.rs [])->Prop):klinD_W cs m (λy0 y1 y2=>post (y0,y1,y2,()))=walkG (callR Tryz.prog klinD_C (drawR Tryz.prog tau) 8 0) 29 true [tv (.sl (.st .api_Crop)) cs,tv (.int .i64) m] klinD_sp.rs post:=by kernel_rfl
theorem klinD_of (h:∀(cs:List (api_Crop))(m:Int)(post:List (api_Line)->List (Int)->List (api_Region)->Prop),klinD_P cs m post->klinD_W cs m post):SpecOK Tryz.prog klinD_sp:=SpecOK.of_rules (C:=klinD_C) (dr:=drawR Tryz.prog tau) (n:=8) (fk:=0) (.cons (rule1_ok knext_ok) (.cons (rule1_ok krange_ok) (.cons (rule1_ok klandO_ok) (.cons (rule1_ok rcomb_ok) .nil)))) (drawR_ok tau) λx post hp=>HoldW.of (klinD_w x.1 x.2.1 post) (h x.1 x.2.1 (λy0 y1 y2=>post (y0,y1,y2,())) hp)
theorem klinD_ok:SpecOK Tryz.prog klinD_sp:=klinD_of λcs m post hp=>by
 obtain⟨⟨h1,h2,h3,h4⟩,hp⟩:=hp
 unfold klinD_W klinD_a0
 refine⟨⟨Int.NonNeg.mk _,Int.NonNeg.mk _,Int.NonNeg.mk _,by omega⟩,λv1 a1 b1=> ?_⟩
 refine LOOP.fuel (λu=>parI v1 u.1 u.2.1 u.2.2.1) (λu=>Int.toNat u.1) ⟨by show 0<=v1;omega,by show v1+(([]:List Int).length:Int)=v1;simp only[List.length_nil];omega,rfl,λj hj=>absurd hj (Nat.not_lt_zero j)⟩ ?_
 rintro rec ⟨(z3:Int),(z4:List api_Region),(z5:List Int),⟨⟩⟩ ⟨i1,i2,i3,i4⟩ hrec
 have i1:0<=z3:=i1
 have i2:z3+(z5.length:Int)=v1:=i2
 have i3:z4.length=z5.length:=i3
 have i4:regsOK z4:=i4
 refine IFB.mk (λhb _=> ?_) (λhb=> ?_)
 ·have hb:0<z3:=of_decide_eq_true hb
  refine⟨by simp only[List.length_cons,List.length_nil];omega,⟨Int.NonNeg.mk _,Int.NonNeg.mk _,Int.NonNeg.mk _,by omega⟩,λv6 a6 b6=>⟨⟨Int.NonNeg.mk _,Int.NonNeg.mk _,Int.NonNeg.mk _,by omega⟩,λv7 a7 b7=>⟨by simp only[List.length_cons,List.length_nil];omega,?_⟩⟩⟩
  rw[wrap_in (z:=z3-1) (by omega) (by omega),wrap_in (z:=10 * (z5.length:Int)) (by omega) (by omega),wrap_in (z:=10 * (z5.length:Int)+v6) (by omega) (by omega)]
  refine hrec (z3-1,_,_,()) ⟨?_,?_,?_,?_⟩ (by show (z3-1).toNat<z3.toNat;omega)
  ·show 0<=z3-1;omega
  ·show z3-1+(List.length (z5++[_]):Int)=v1
   simp only[List.length_append,List.length_cons,List.length_nil];omega
  ·show List.length (z4++[_])=List.length (z5++[_])
   simp only[List.length_append,List.length_cons,List.length_nil];omega
  ·refine regs_snoc i4 ?_ ?_ ?_ ?_<;>dsimp only<;>omega
 have hb:¬0<z3:=of_decide_eq_false hb
 have hz5:(z5.length:Int)=v1:=by omega
 have w1:IntKind.i64.wrap (m+1)=m+1:=wrap_in (by omega) (by omega)
 rw[w1]
 refine⟨by omega,λv8 a8 b8=> ?_⟩
 clear hrec
 refine LOOP.fuel (λu=>linDI m u.1 u.2.1) (λu=>Int.toNat u.1) ⟨a8,by show v8+(([]:List api_Line).length:Int)<=m;simp only[List.length_nil];omega,⟨λx hx=>(by cases hx),List.Pairwise.nil⟩⟩ ?_
 rintro rec9 ⟨(z10:Int),(z11:List api_Line),⟨⟩⟩ ⟨j1,j2,j3⟩ hrec9
 have j1:0<=z10:=j1
 have j2:z10+(z11.length:Int)<=m:=j2
 have j4:linesD z11:=j3
 have j3:linesOK z11:=j4.1
 refine IFB.mk (λhb2=> ?_) (λhb2=>hp _ _ _ ⟨j4,by omega⟩)
 have hb2:0<z10:=of_decide_eq_true hb2
 refine JOIN.opq λ(J:List api_Line->Prop) hJ=> ?_
 have hJ:∀l,linDI m (z10-1) l->J l:=λl hl=>by
  rw[hJ]
  show rec9 (IntKind.i64.wrap (z10-1)) l
  rw[wrap_in (by omega) (by omega)]
  exact hrec9 (z10-1,l,()) hl (by show (z10-1).toNat<z10.toNat;omega)
 clear hrec9
 refine λ_=>⟨by omega,λv14 a14 b14=>⟨⟨Int.NonNeg.mk _,Int.NonNeg.mk _,Int.NonNeg.mk _,by omega⟩,λv15 h15 _=> ?_⟩⟩
 obtain⟨p,rfl⟩:∃p:Nat,v14=(p:Int):=⟨v14.toNat,by omega⟩
 have hp4:p<z4.length:=by omega
 have h15l:=h15.1.1
 refine LOOP.fuel (λu=>shI v15.length u.1 u.2.1) (λu=>v15.length-Int.toNat u.1) ⟨0,rfl,Nat.zero_le _,rfl⟩ ?_
 rintro rec16 ⟨(z17:Int),(z18:List Rc),⟨⟩⟩ ⟨k,s1,s2,s3⟩ hrec16
 have s1:z17=(k:Int):=s1
 subst s1
 have s3:z18.length=v15.length:=s3
 refine IFB.mk (λhb3=> ?_) (λhb3=> ?_)
 ·have hb3:(k:Int)<v15.length:=of_decide_eq_true hb3
  refine⟨by omega,by omega,by omega,by rw[List.length_set];omega,?_⟩
  rw[wrapS (by omega)]
  refine hrec16 (((k+1:Nat):Int),_,()) ⟨k+1,rfl,by omega,?_⟩ (by show v15.length-((k+1:Nat):Int).toNat<v15.length-(k:Int).toNat;omega)
  exact (List.length_set ..).trans ((List.length_set ..).trans s3)
 clear hrec16
 obtain⟨r,e1,e2,e3,e4,e5⟩:=i4 p hp4
 rw[e1]
 have hbx:=boxed_and (p:=p) (l:=z18) e2 e3 e4 e5
 refine⟨by omega,⟨by omega,by simp⟩,λ_=> ?_⟩
 refine LOOP.fuel (λu=>cutD z11 p u.1 u.2.1) (λu=>z11.length-Int.toNat u.1) ⟨0,rfl,Nat.zero_le _,hbx,λx hx=>(by cases hx)⟩ ?_
 rintro rec19 ⟨(z20:Int),(z21:List Rc),⟨⟩⟩ ⟨q,t1,t2,t3,t4⟩ hrec19
 have t1:z20=(q:Int):=t1
 subst t1
 have t3:boxed p z21:=t3
 have t4:∀x∈z11.take q,apartL z21 x.Region.Rects:=t4
 have hl21:=boxed_len t3
 refine IFB.mk (λhb4=> ?_) (λhb4=> ?_)
 ·have hb4:(q:Int)<z11.length:=of_decide_eq_true hb4
  obtain⟨p',_,_,hbp⟩:=j3 _ (ix_mem (l:=z11) (i:=(q:Int)) (by omega) hb4)
  have hl2:=boxed_len hbp
  refine⟨by show 0<=(q:Int)/\(q:Int)<z11.length;omega,⟨by show z21.length<=1000;omega,Nat.le_trans hl2 (by omega)⟩,?_⟩
  rw[wrapS (by omega)]
  exact hrec19 (((q+1:Nat):Int),_,()) ⟨q+1,rfl,by omega,boxed_not t3,cutD_step (by omega) t4⟩ (by show z11.length-((q+1:Nat):Int).toNat<z11.length-(q:Int).toNat;omega)
 ·refine λ_=>IFB.mk (λhb5 _=> ?_) (λhb5=>hJ _ ⟨by omega,by omega,j4⟩)
  refine⟨by omega,λv22 a22 b22=>⟨Int.NonNeg.mk _,λv23 a23 b23=>⟨by simp only[List.length_cons,List.length_nil];omega,hJ _ ⟨by omega,by simp only[List.length_append,List.length_cons,List.length_nil];omega,⟨λx hx=> ?_,?_⟩⟩⟩⟩⟩
  ·rcases List.mem_append.1 hx with hx|hx
   ·exact j3 x hx
   ·rw[List.mem_singleton] at hx
    subst hx
    exact⟨p,by omega,by omega,t3⟩
  ·have hq:q=z11.length:=by have hb4:¬(q:Int)<z11.length:=of_decide_eq_false hb4;omega
   rw[hq,List.take_length] at t4
   rw[List.pairwise_append]
   refine⟨j4.2,List.pairwise_singleton _ _,λx hx y hy=> ?_⟩
   rw[List.mem_singleton] at hy
   subst hy
   exact t4 x hx
end RE
end Go.Proofs.YtjcjdgmojkkioaaGreatDoor
namespace Go.Proofs.YtjcjdgmojkkioaaGreatDoor
namespace RE
set_option maxRecDepth 100000
open Go.RowKit
open PL
def kcrops_P (post:List (api_Crop)->Prop):Prop:=∀l:List api_Crop,(3<=l.length/\l.length<=8)->post l
def kcrops_sp:Spec:=⟨28,true,true,[],.dat (.sl (.st .api_Crop)),λx post=>kcrops_P (λy0=>post (y0,()))⟩
def kcrops_C:CtxR:=⟨tau,[rule1 knext_sp,rule1 krange_sp],lookJ [(0,9,⟨[(13,.dat (.int .i64)),(4,.own 177 (.st .api_Crop))],[],(List.range' 14 16++[6]),[],[]⟩)]⟩
abbrev kcrops_a0 (z3:Int)(v5:Int)(v6:Int):={Name:=ix [{data:={toList:=[(98:UInt8),(97:UInt8),(114:UInt8),(108:UInt8),(101:UInt8),(121:UInt8)]:Array UInt8}:ByteArray},{data:={toList:=[(99:UInt8),(108:UInt8),(111:UInt8),(118:UInt8),(101:UInt8),(114:UInt8)]:Array UInt8}:ByteArray},{data:={toList:=[(103:UInt8),(114:UInt8),(97:UInt8),(115:UInt8),(115:UInt8)]:Array UInt8}:ByteArray},{data:={toList:=[(109:UInt8),(97:UInt8),(105:UInt8),(122:UInt8),(101:UInt8)]:Array UInt8}:ByteArray},{data:={toList:=[(111:UInt8),(97:UInt8),(116:UInt8),(115:UInt8)]:Array UInt8}:ByteArray},{data:={toList:=[(114:UInt8),(121:UInt8),(101:UInt8)]:Array UInt8}:ByteArray},{data:={toList:=[(118:UInt8),(101:UInt8),(116:UInt8),(99:UInt8),(104:UInt8)]:Array UInt8}:ByteArray},{data:={toList:=[(119:UInt8),(104:UInt8),(101:UInt8),(97:UInt8),(116:UInt8)]:Array UInt8}:ByteArray}] ((0:Int)+z3),Family:=v5,Marks:=ix [(0:Int),(0:Int),(0:Int),(2:Int),(20:Int),(8:Int),(1:Int),(31:Int)] v6:api_Crop}
def kcrops_W (post:List (api_Crop)->Prop):Prop:=(Int.NonNeg 1099511627779/\Int.NonNeg 1099511627773/\Int.NonNeg 1099511627784/\(8:Int)<=1099511627776)/\∀(v1:Int),3<=v1->v1<=8\/v1=3->(Int.NonNeg 0/\0<=v1/\v1<=8)/\((0:Int)<=0/\0<=v1->LOOP [Ty.int IntKind.i64,(Ty.st Sn.api_Crop).sl] (λ(rec2:Int->List api_Crop->Prop) (z3:Int) (z4:List api_Crop)=>IFB (decide (z3<v1-0)) ((((0:Int)<=z3/\z3<v1-0)/\(0:Int)<=0+z3/\0+z3<8)/\Int.NonNeg 9223372036854775804/\∀(v5:Int),0<=v5->v5<3\/v5=0->Int.NonNeg 9223372036854775799/\∀(v6:Int),0<=v6->v6<8\/v6=0->((0:Int)<=v6/\v6<8)/\(z4.length+[(kcrops_a0 z3 v5 v6)].length) * (32:Nat)<=140737488355328/\rec2 (IntKind.i64.wrap (z3+1)) (z4++[(kcrops_a0 z3 v5 v6)])) (post z4)) ((0:Int),[],PUnit.unit))
theorem kcrops_w (post:dens (shT kcrops_sp.rs [])->Prop):kcrops_W (λy0=>post (y0,()))=walkG (callR Tryz.prog kcrops_C (drawR Tryz.prog tau) 8 0) 28 true [] kcrops_sp.rs post:=by kernel_rfl
theorem kcrops_of (h:∀post,kcrops_P post->kcrops_W post):SpecOK Tryz.prog kcrops_sp:=SpecOK.of_rules (C:=kcrops_C) (dr:=drawR Tryz.prog tau) (n:=8) (fk:=0) (.cons (rule1_ok knext_ok) (.cons (rule1_ok krange_ok) .nil)) (drawR_ok tau) λx post hp=>HoldW.of (kcrops_w post) (h (λy0=>post (y0,())) hp)
def crI (v z:Int)(l:List api_Crop):Prop:=∃k:Nat,z=(k:Int)/\(k:Int)<=v/\l.length=k
theorem kcrops_ok:SpecOK Tryz.prog kcrops_sp:=kcrops_of λpost hp=>by
 unfold kcrops_P at hp
 unfold kcrops_W kcrops_a0
 refine⟨⟨Int.NonNeg.mk _,Int.NonNeg.mk _,Int.NonNeg.mk _,by omega⟩,λv1 a1 b1=>⟨⟨Int.NonNeg.mk _,by omega,by omega⟩,λ_=> ?_⟩⟩
 refine LOOP.fuel (λu=>crI v1 u.1 u.2.1) (λu=>v1.toNat-Int.toNat u.1) ⟨0,rfl,by omega,rfl⟩ ?_
 rintro rec ⟨(z:Int),(l:List api_Crop),⟨⟩⟩ ⟨k,i1,i2,i3⟩ hrec
 have i1:z=(k:Int):=i1
 subst i1
 have i3:l.length=k:=i3
 refine IFB.mk (λhb=> ?_) (λhb=> ?_)
 ·have hb:(k:Int)<v1-0:=of_decide_eq_true hb
  refine⟨⟨⟨by omega,hb⟩,by omega,by omega⟩,Int.NonNeg.mk _,λv5 a5 b5=>⟨Int.NonNeg.mk _,λv6 a6 b6=>⟨by omega,by simp only[List.length_cons,List.length_nil];omega,?_⟩⟩⟩
  rw[wrapS (by omega)]
  refine hrec (((k+1:Nat):Int),_,()) ⟨k+1,rfl,by omega,?_⟩ (by show v1.toNat-((k+1:Nat):Int).toNat<v1.toNat-(k:Int).toNat;omega)
  show List.length (l++[_])=k+1
  rw[List.length_append]
  simp only[List.length_cons,List.length_nil]
  omega
 ·have hb:¬(k:Int)<v1-0:=of_decide_eq_false hb
  refine hp l ⟨by omega,by omega⟩
end RE
end Go.Proofs.YtjcjdgmojkkioaaGreatDoor
set_option maxRecDepth 100000
set_option linter.unusedVariables false
namespace Go.Proofs.YtjcjdgmojkkioaaGreatDoor
open Go.RowKit
namespace RE
open PL
namespace PL
end PL
end RE
end Go.Proofs.YtjcjdgmojkkioaaGreatDoor
set_option maxRecDepth 100000
set_option linter.unusedVariables false
namespace Go.Proofs.YtjcjdgmojkkioaaGreatDoor
open Go.RowKit
namespace RE
open PL
namespace PL
def lessB (x y:api_Line):Bool:=(decide (x.1=y.1)&&decide (x.3=y.3)&&decide (IntKind.i64.wrap (↑(Nat.instAndOp.1 (x.4 % (18446744073709551616:Int)).toNat (Nat.instXorOp.1 ((18446744073709551615:Nat)) (y.4 % (18446744073709551616:Int)).toNat)):Int)=(0:Int)))
def lessL (x y:api_Line):Prop:=lessB x y=true/\withinP x.Region.1 y.Region.1
def reducesP (a b:api_Version):Prop:=∀x∈b.Lines,∃y∈a.Lines,lessL x y
end PL
end RE
end Go.Proofs.YtjcjdgmojkkioaaGreatDoor
namespace Go.Proofs.YtjcjdgmojkkioaaGreatDoor
namespace RE
set_option maxRecDepth 100000
open Go.RowKit
open PL
def pclr_P (l:List (api_Rect))(post:List (api_Rect)->Prop):Prop:=(l.length<=4000000)/\post (l)
def pclr_sp:Spec:=⟨119,false,true,[.sl (.st .api_Rect)],.dat (.sl (.st .api_Rect)),λx post=>pclr_P (x.1:List (api_Rect)) (λy0=>post (y0,()))⟩
def pclr_C:CtxR:=⟨tau,[],lookJ []⟩
def pclr_W (l:List (api_Rect))(post:List (api_Rect)->Prop):Prop:=∀(v1:Bool),(v1=true->l=[])->IFB v1 (post []) (((0:Nat)+l.length) * (32:Nat)<=140737488355328/\post ([]++l))
theorem pclr_w (l:List (api_Rect))(post:dens (shT pclr_sp.rs [])->Prop):pclr_W l (λy0=>post (y0,()))=walkG (callR Tryz.prog pclr_C (drawR Tryz.prog tau) 6 0) 119 false [tv (.sl (.st .api_Rect)) l] pclr_sp.rs post:=by kernel_rfl
theorem pclr_of (h:∀l post,pclr_P l post->pclr_W l post):SpecOK Tryz.prog pclr_sp:=SpecOK.of_rules (C:=pclr_C) (dr:=drawR Tryz.prog tau) (n:=6) (fk:=0) .nil (drawR_ok tau) λx post hp=>HoldW.of (pclr_w x.1 post) (h x.1 (λy0=>post (y0,())) hp)
theorem pclr_ok:SpecOK Tryz.prog pclr_sp:=pclr_of λl post hp=>by
 obtain⟨hl,hp⟩:=hp
 unfold pclr_W
 refine λv hv=>IFB.mk (λh=> ?_) (λ_=>⟨by omega,?_⟩)
 ·rw[hv h] at hp;exact hp
 ·rw[List.nil_append];exact hp
def pcll_P (l:List (api_Line))(post:List (api_Line)->Prop):Prop:=(l.length<=4000000)/\post (l)
def pcll_sp:Spec:=⟨118,false,true,[.sl (.st .api_Line)],.own 127 (.st .api_Line),λx post=>pcll_P (x.1:List (api_Line)) (λy0=>post (y0,()))⟩
def pcll_C:CtxR:=⟨tau,[],lookJ []⟩
def pcll_W (l:List (api_Line))(post:List (api_Line)->Prop):Prop:=∀(v1:Bool),(v1=true->l=[])->IFB v1 (post []) (((0:Nat)+l.length) * (48:Nat)<=140737488355328/\post ([]++l))
theorem pcll_w (l:List (api_Line))(post:dens (shT pcll_sp.rs [])->Prop):pcll_W l (λy0=>post (y0,()))=walkG (callR Tryz.prog pcll_C (drawR Tryz.prog tau) 6 0) 118 false [tv (.sl (.st .api_Line)) l] pcll_sp.rs post:=by kernel_rfl
theorem pcll_of (h:∀l post,pcll_P l post->pcll_W l post):SpecOK Tryz.prog pcll_sp:=SpecOK.of_rules (C:=pcll_C) (dr:=drawR Tryz.prog tau) (n:=6) (fk:=0) .nil (drawR_ok tau) λx post hp=>HoldW.of (pcll_w x.1 post) (h x.1 (λy0=>post (y0,())) hp)
theorem pcll_ok:SpecOK Tryz.prog pcll_sp:=pcll_of λl post hp=>by
 obtain⟨hl,hp⟩:=hp
 unfold pcll_W
 refine λv hv=>IFB.mk (λh=> ?_) (λ_=>⟨by omega,?_⟩)
 ·rw[hv h] at hp;exact hp
 ·rw[List.nil_append];exact hp
def pcopied_P (a:api_Version)(post:api_Version->Prop):Prop:=(a.2.length<=2000000/\∀x∈a.2,x.2.1.length<=2000000)/\post (a)
def pcopied_sp:Spec:=⟨36,false,true,[.st .api_Version],.dat (.st .api_Version),λx post=>pcopied_P (x.1:api_Version) (λy0=>post (y0,()))⟩
def pcopied_C:CtxR:=⟨tau,[rule1 pclr_sp,rule1 pcll_sp],lookJ [(0,7,⟨[(12,.dat (.int .i64))],[],(List.range' 13 15++[3,4]),[],[(2,127,(.st .api_Line))]⟩)]⟩
def pcopied_W (a:api_Version)(post:api_Version->Prop):Prop:=a.2.length<=4000000/\((↑a.2.length:Int)<=9223372036854775807->LOOP [Ty.int IntKind.i64,(Ty.st Sn.api_Line).sl] (λ(rec1:Int->List api_Line->Prop) (z2:Int) (z3:List api_Line)=>IFB (decide (z2<(↑a.2.length:Int))) (((0:Int)<=z2/\z2<(↑z3.length:Int))/\(ix z3 z2).2.1.length<=4000000/\((0:Int)<=z2/\z2<(↑z3.length:Int))/\rec1 (IntKind.i64.wrap (z2+1)) (z3.set z2.toNat {Parcel:=(ix z3 z2).1,Region:={Rects:=(ix z3 z2).2.1:api_Region},Crop:=(ix z3 z2).3,Schemes:=(ix z3 z2).4:api_Line})) (post (⟨a.1,z3⟩:api_Version))) ((0:Int),a.2,PUnit.unit))
theorem pcopied_w (a:api_Version)(post:dens (shT pcopied_sp.rs [])->Prop):pcopied_W a (λy0=>post (y0,()))=walkG (callR Tryz.prog pcopied_C (drawR Tryz.prog tau) 6 0) 36 false [tv (.st .api_Version) a] pcopied_sp.rs post:=by kernel_rfl
theorem pcopied_of (h:∀a post,pcopied_P a post->pcopied_W a post):SpecOK Tryz.prog pcopied_sp:=SpecOK.of_rules (C:=pcopied_C) (dr:=drawR Tryz.prog tau) (n:=6) (fk:=0) (.cons (rule1_ok pclr_ok) (.cons (rule1_ok pcll_ok) .nil)) (drawR_ok tau) λx post hp=>HoldW.of (pcopied_w x.1 post) (h x.1 (λy0=>post (y0,())) hp)
def sameI {α:Type}(l:List α)(z:Int)(m:List α):Prop:=∃k:Nat,z=(k:Int)/\k<=l.length/\m=l
theorem set_self {α:Type}[Inhabited α]{l:List α}{k:Nat}(h:k<l.length):l.set k (ix l (k:Int))=l:=by
 rw[ix_lt h];exact List.set_getElem_self h
theorem pcopied_ok:SpecOK Tryz.prog pcopied_sp:=pcopied_of λa post hp=>by
 obtain⟨⟨h1,h2⟩,hp⟩:=hp
 obtain⟨d,l⟩:=a
 dsimp only at h1 h2
 unfold pcopied_W
 dsimp only
 refine⟨by omega,λ_=> ?_⟩
 refine LOOP.fuel (λu=>sameI l u.1 u.2.1) (λu=>l.length-Int.toNat u.1) ⟨0,rfl,Nat.zero_le _,rfl⟩ ?_
 rintro rec ⟨(z:Int),(m:List api_Line),⟨⟩⟩ ⟨k,i1,i2,i3⟩ hrec
 have i1:z=(k:Int):=i1
 have i3:m=l:=i3
 subst i1 i3
 refine IFB.mk (λhb=> ?_) (λhb=>hp)
 have hb:(k:Int)<m.length:=of_decide_eq_true hb
 have hx:=h2 _ (ix_mem (l:=m) (i:=(k:Int)) (by omega) hb)
 dsimp only
 refine⟨by omega,by omega,by omega,?_⟩
 rw[wrapS (by omega)]
 refine hrec (((k+1:Nat):Int),_,()) ⟨k+1,rfl,by show k+1<=m.length;omega,?_⟩ (by show m.length-((k+1:Nat):Int).toNat<m.length-(k:Int).toNat;omega)
 exact set_self (by omega)
def pclv_P (l:List (api_Version))(post:List (api_Version)->Prop):Prop:=(l.length<=4000000)/\post (l)
def pclv_sp:Spec:=⟨117,false,true,[.sl (.st .api_Version)],.own 33 (.st .api_Version),λx post=>pclv_P (x.1:List (api_Version)) (λy0=>post (y0,()))⟩
def pclv_C:CtxR:=⟨tau,[],lookJ []⟩
def pclv_W (l:List (api_Version))(post:List (api_Version)->Prop):Prop:=∀(v1:Bool),(v1=true->l=[])->IFB v1 (post []) (((0:Nat)+l.length) * (32:Nat)<=140737488355328/\post ([]++l))
theorem pclv_w (l:List (api_Version))(post:dens (shT pclv_sp.rs [])->Prop):pclv_W l (λy0=>post (y0,()))=walkG (callR Tryz.prog pclv_C (drawR Tryz.prog tau) 6 0) 117 false [tv (.sl (.st .api_Version)) l] pclv_sp.rs post:=by kernel_rfl
theorem pclv_of (h:∀l post,pclv_P l post->pclv_W l post):SpecOK Tryz.prog pclv_sp:=SpecOK.of_rules (C:=pclv_C) (dr:=drawR Tryz.prog tau) (n:=6) (fk:=0) .nil (drawR_ok tau) λx post hp=>HoldW.of (pclv_w x.1 post) (h x.1 (λy0=>post (y0,())) hp)
theorem pclv_ok:SpecOK Tryz.prog pclv_sp:=pclv_of λl post hp=>by
 obtain⟨hl,hp⟩:=hp
 unfold pclv_W
 refine λv hv=>IFB.mk (λh=> ?_) (λ_=>⟨by omega,?_⟩)
 ·rw[hv h] at hp;exact hp
 ·rw[List.nil_append];exact hp
def pwholeO_P (a:api_Application)(post:Int->Int->List (api_Version)->Prop):Prop:=(a.3.length<=2000000/\∀v∈a.3,v.2.length<=2000000/\∀x∈v.2,x.2.1.length<=2000000)/\post (a.1) (a.2) (a.3)
def pwholeO_sp:Spec:=⟨35,false,true,[.st .api_Application],.agg [.dat (.int .i64),.dat (.int .i64),.own 33 (.st .api_Version)],λx post=>pwholeO_P (x.1:api_Application) (λy0 y1 y2=>post (y0,y1,y2,()))⟩
def pwholeO_C:CtxR:=⟨tau,[rule1 pcopied_sp,rule1 pclv_sp],lookJ [(0,7,⟨[(12,.dat (.int .i64))],[],(List.range' 13 11++[3,4]),[],[(2,33,(.st .api_Version))]⟩)]⟩
def pwholeO_W (a:api_Application)(post:Int->Int->List (api_Version)->Prop):Prop:=a.3.length<=4000000/\((↑a.3.length:Int)<=9223372036854775807->LOOP [Ty.int IntKind.i64,(Ty.st Sn.api_Version).sl] (λ(rec1:Int->List api_Version->Prop) (z2:Int) (z3:List api_Version)=>IFB (decide (z2<(↑a.3.length:Int))) (((0:Int)<=z2/\z2<(↑z3.length:Int))/\((ix z3 z2).2.length<=2000000/\∀(v4:api_Line),v4∈(ix z3 z2).2->v4.2.1.length<=2000000)/\((0:Int)<=z2/\z2<(↑z3.length:Int))/\rec1 (IntKind.i64.wrap (z2+1)) (z3.set z2.toNat {Day:=(ix z3 z2).1,Lines:=(ix z3 z2).2:api_Version})) (post a.1 a.2 z3)) ((0:Int),a.3,PUnit.unit))
theorem pwholeO_w (a:api_Application)(post:dens (shT pwholeO_sp.rs [])->Prop):pwholeO_W a (λy0 y1 y2=>post (y0,y1,y2,()))=walkG (callR Tryz.prog pwholeO_C (drawR Tryz.prog tau) 6 0) 35 false [tv (.st .api_Application) a] pwholeO_sp.rs post:=by kernel_rfl
theorem pwholeO_of (h:∀a post,pwholeO_P a post->pwholeO_W a post):SpecOK Tryz.prog pwholeO_sp:=SpecOK.of_rules (C:=pwholeO_C) (dr:=drawR Tryz.prog tau) (n:=6) (fk:=0) (.cons (rule1_ok pcopied_ok) (.cons (rule1_ok pclv_ok) .nil)) (drawR_ok tau) λx post hp=>HoldW.of (pwholeO_w x.1 post) (h x.1 (λy0 y1 y2=>post (y0,y1,y2,())) hp)
theorem pwholeO_ok:SpecOK Tryz.prog pwholeO_sp:=pwholeO_of λa post hp=>by
 obtain⟨⟨h1,h2⟩,hp⟩:=hp
 obtain⟨f,y,l⟩:=a
 dsimp only at h1 h2
 unfold pwholeO_W
 dsimp only
 refine⟨by omega,λ_=> ?_⟩
 refine LOOP.fuel (λu=>sameI l u.1 u.2.1) (λu=>l.length-Int.toNat u.1) ⟨0,rfl,Nat.zero_le _,rfl⟩ ?_
 rintro rec ⟨(z:Int),(m:List api_Version),⟨⟩⟩ ⟨k,i1,i2,i3⟩ hrec
 have i1:z=(k:Int):=i1
 have i3:m=l:=i3
 subst i1 i3
 refine IFB.mk (λhb=> ?_) (λhb=>hp)
 have hb:(k:Int)<m.length:=of_decide_eq_true hb
 have hx:=h2 _ (ix_mem (l:=m) (i:=(k:Int)) (by omega) hb)
 dsimp only
 refine⟨by omega,hx,by omega,?_⟩
 rw[wrapS (by omega)]
 refine hrec (((k+1:Nat):Int),_,()) ⟨k+1,rfl,by show k+1<=m.length;omega,?_⟩ (by show m.length-((k+1:Nat):Int).toNat<m.length-(k:Int).toNat;omega)
 exact set_self (by omega)
variable {P:Program}
def bare (sl:List (Nat×SV))(q:Nat)(v:Bool):List (Nat×SV)->List (Nat×SV)
 |[]=>[]
 |(k,_)::r=>match look sl k with
  | .cnd q' w' _ x=>bif Nat.beq q' q&&(w'==v) then (k,noC x)::bare sl q v r else bare sl q v r
  |_=>bare sl q v r
def mkq (q:Nat):Nat:=1000000+q
def St.lit (st:St)(q:Nat)(v:Bool):St:=⟨(q,.d (.v (.bool v)))::(bare st.sl q v st.sl++st.sl),st.ms,st.n,mkq q::st.gs,st.gd⟩
theorem bare_look {sl:List (Nat×SV)}{q:Nat}{v:Bool}{x:Nat}{s:SV}:∀{l:List (Nat×SV)},lookK (bare sl q v l) x=some s->∃g y,look sl x= .cnd q v g y/\s=noC y
 |(k,z)::r,h=>by
  unfold bare at h
  split at h
  ·rename_i q' w' g y hk
   cases hb:(Nat.beq q' q&&(w'==v)) with
   |false=>rw[hb] at h;exact bare_look h
   |true=>
    rw[hb] at h
    obtain⟨b1,b2⟩:=Bool.and_eq_true_iff.1 hb
    have b1:=beq_eq b1
    have b2:w'=v:=by simpa using b2
    subst b1 b2
    simp only[cond_true] at h
    unfold lookK at h
    cases hx:Nat.beq k x with
    |true=>
     rw[hx] at h
     have:=beq_eq hx
     subst this
     injection h with h
     exact⟨g,y,hk,h.symm⟩
    |false=>rw[hx] at h;exact bare_look h
  ·exact bare_look h
theorem gx_same (v:Bool):gx v v=true:=by cases v<;>rfl
theorem lit_look (st:St)(q:Nat)(v:Bool)(hq:look st.sl q= .d (.v (.bool v)))(x:Nat):look (st.lit q v).sl x=look st.sl x\/∃g y,look st.sl x= .cnd q v g y/\look (st.lit q v).sl x=noC y:=by
 have e:look (st.lit q v).sl x=if q=x then .d (.v (.bool v)) else look (bare st.sl q v st.sl++st.sl) x:=look_cons _ _ _ _
 rw[e]
 split
 ·rename_i h;subst h;exact .inl hq.symm
 ·rw[look_app]
  cases hk:lookK (bare st.sl q v st.sl) x with
  |none=>exact .inl rfl
  |some s=>
   obtain⟨g,y,h1,h2⟩:=bare_look hk
   exact .inr ⟨g,y,h1,h2⟩
theorem RX.lit {st:St}{a:Act}{w:World}{c:Cx}(h:RX st a w c){q:Nat}{v:Bool}(hq:look st.sl q= .d (.v (.bool v))):RX (st.lit q v) a w c:=by
 have hl:=lit_look st q v hq
 have hqq:look (st.lit q v).sl q= .d (.v (.bool v)):=by
  rcases hl q with h|⟨g,y,h,_⟩
  ·rw[h,hq]
  ·rw[hq] at h;cases h
 refine⟨h.ox,h.sz,λx u hx=> ?_,λx=> ?_,λx q' wt g y hx=> ?_⟩
 ·rcases hl x with e|⟨g,y,e,e2⟩
  ·rw[e];exact h.sl x u hx
  ·have h1:=h.sl x u hx
   rw[e] at h1
   rw[e2]
   obtain⟨h2,_⟩:=srel_cnd h1
   have:=(h.cn x q v g y e).2.2 (gx v v) (by rw[hq];rfl)
   rw[gx_same] at this
   exact noC_rel (h2 this)
 ·rcases hl x with e|⟨g,y,e,e2⟩
  ·rw[e];exact h.us x
  ·have h1:=h.us x
   rw[e] at h1
   rw[e2]
   exact noC_inU h1
 ·rcases hl x with e|⟨g',y',e,e2⟩
  ·rw[e] at hx
   obtain⟨k1,k2,k3⟩:=h.cn x q' wt g y hx
   refine⟨has_cons.2 (.inr k1),k2,λG hG=>k3 G ?_⟩
   rcases hl q' with e'|⟨g2,y2,e',e2'⟩
   ·rw[e'] at hG;exact hG
   ·rw[e2'] at hG
    rw[e']
    have:=(h.cn q' q v g2 y2 e').2.2 (gx v v) (by rw[hq];rfl)
    rw[gx_same] at this
    subst this
    cases y2 with
    |d x=>cases x with
     |v u=>cases u with
      |bool b=>simpa [guardG,noC] using hG
      |_=>simp[guardG,noC] at hG
     |_=>simp[guardG,noC] at hG
    |_=>simp[guardG,noC] at hG
  ·rw[e2] at hx;exact absurd hx noC_ne
theorem Step.lit {st:St}{a:Act}{w:World}{c:Cx}(h:RX st a w c){q:Nat}{v:Bool}(hq:look st.sl q= .d (.v (.bool v))):Step st a w c (st.lit q v) a w c:=
 ⟨h.lit hq,.refl,rfl,rfl,⟨(q,.d (.v (.bool v)))::bare st.sl q v st.sl,rfl⟩,.refl _⟩
def aopL (P:Program)(τ:TypeId->Option Ty)(cp:CP)(o:Oper)(d q:Nat)(want v:Bool)(st:St)(K:St->Prop):Prop:=
 bif gx want v then aop P τ cp o (st.lit q v) K else match τ o.type with
  |some ty=>K ((st.lit q v).setG d q want false (.d (tv ty (dflt ty))))
  |none=>K ((st.lit q v).set (some d) .un st.ms)
def aopS (P:Program)(τ:TypeId->Option Ty)(cp:CP)(o:Oper)(d q:Nat)(want:Bool)(st:St)(K:St->Prop):Prop:=
 match look st.sl q with
 | .d (.v (.bool b))=>bif dstOK st (some d)&& !(Nat.beq q d)&&Nat.blt q st.n&& !(Nat.beq d (mkq q)) then
  bif has st.gs (mkq q) then aopL P τ cp o d q want b st K else IFB b (aopL P τ cp o d q want true st K) (aopL P τ cp o d q want false st K)
  else False
 |_=>aopG P τ cp o d q want st K
theorem aopL_ok {τ:TypeId->Option Ty}{cp:CP}(hcp:CallOK P cp){o:Oper}{d q:Nat}{want v:Bool}{st:St}{K:St->Prop}(hd:o.dst=some d)(hqd:q≠d)(hq:look st.sl q= .d (.v (.bool v)))(hds:dstOK (st.lit q v) (some d)=true)(h:aopL P τ cp o d q want v st K):OpG P o (gx want v) st K:=by
 intro a w c hr KK Qx hQ
 have hs:=Step.lit hr hq
 unfold aopL at h
 cases hG:gx want v with
 |true=>
  rw[hG] at h
  rw[if_pos rfl]
  exact aop_ok hcp h a w c hs.rx KK Qx λst' a' w' c' hs' hk=>hQ _ _ _ _ (hs.trans hs') hk
 |false=>
  rw[hG] at h
  rw[if_neg (by decide),hd]
  simp only[cond_false] at h
  split at h
  ·rename_i ty hty
   have hqq:look (st.lit q v).sl q= .d (.v (.bool v)):=by
    rcases lit_look st q v hq q with h|⟨g,y,h,_⟩
    ·rw[h,hq]
    ·rw[hq] at h;cases h
   have hgG:guardG want (look (st.lit q v).sl q)=some false:=by rw[hqq,<-hG];rfl
   exact hQ _ _ _ c (hs.trans ⟨hs.rx.setG .refl hr.ox hds hqd hgG (r:= .d (tv ty (dflt ty))) (v:=undef) (λe=>by cases e) (λ_=>rfl) trivial,.refl,defers_put _ _ _,.setG⟩) h
  ·exact hQ _ _ _ c (hs.trans ⟨hs.rx.set .refl hr.ox hds (.un _) trivial,.refl,defers_put _ _ _,.set (.refl _)⟩) h
theorem aopS_ok {τ:TypeId->Option Ty}{cp:CP}(hcp:CallOK P cp){o:Oper}{d q:Nat}{want:Bool}{st:St}{K:St->Prop}(hd:o.dst=some d)(h:aopS P τ cp o d q want st K):∃G,q<st.n/\guardG want (look st.sl q)=some G/\OpG P o G st K:=by
 unfold aopS at h
 split at h
 ·rename_i b hq
  cases hb:(dstOK st (some d)&& !(Nat.beq q d)&&Nat.blt q st.n&& !(Nat.beq d (mkq q))) with
  |false=>rw[hb] at h;exact h.elim
  |true=>
   rw[hb] at h
   simp only[Bool.and_eq_true,Bool.not_eq_true'] at hb
   obtain⟨⟨⟨b1,b2⟩,b3⟩,b4⟩:=hb
   simp only[cond_true] at h
   have hds:∀v,dstOK (st.lit q v) (some d)=true:=λv=>by
    obtain⟨d1,d2⟩:=Bool.and_eq_true_iff.1 b1
    show (Nat.blt d st.n&& !(has (mkq q::st.gs) d))=true
    rw[d1,Bool.true_and]
    show (!(Nat.beq (mkq q) d||has st.gs d))=true
    have:Nat.beq (mkq q) d=false:=by
     cases hx:Nat.beq (mkq q) d with
     |false=>rfl
     |true=>have:=beq_eq hx;subst this;simp at b4
    rw[this,Bool.false_or];exact d2
   have hqd:q≠d:=λe=>by rw[e] at b2;simp at b2
   refine⟨gx want b,Nat.le_of_ble_eq_true b3,by rw[hq];rfl,?_⟩
   cases hm:has st.gs (mkq q) with
   |true=>rw[hm] at h;exact aopL_ok hcp hd hqd hq (hds b) h
   |false=>
    rw[hm] at h
    obtain⟨ht,hf⟩:=(show IFB b _ _ from h)
    cases b with
    |true=>exact aopL_ok hcp hd hqd hq (hds true) (ht rfl)
    |false=>exact aopL_ok hcp hd hqd hq (hds false) (hf rfl)
 ·exact aopG_ok hcp hd h
def aop1S (P:Program)(τ:TypeId->Option Ty)(cp:CP)(all:Array Oper)(o:Oper)(st:St)(K:St->Prop):Prop:=match o.guard with
 |none=>aop P τ cp o st K
 |some (j,want)=>match (all[j]?).bind (·.dst),o.dst with
  |some q,some d=>aopS P τ cp o d q want st K
  |_,_=>False
theorem aop1S_ok {τ:TypeId->Option Ty}{cp:CP}(hcp:CallOK P cp){all:Array Oper}{i:Nat}{o:Oper}(ho:all[i]? =some o){st:St}{K:St->Prop}(h:aop1S P τ cp all o st K){a:Act}{w:World}{c:Cx}(hr:RX st a w c){KK:Act->World->Prop}{Qx:Exit->Act->World->Prop}
 (hQ:∀st' a' w' c',Step st a w c st' a' w' c'->K st'->KK a' w'):wpOp P all Qx i KK a w:=by
 unfold aop1S at h
 split at h
 ·rename_i hg
  refine wpOp_step ho λK' hK=> ?_
  rw[if_pos (by simp[Region.wanted,hg])]
  exact aop_ok hcp h a w c hr K' Qx λst' a' w' c' hs hq=>hK _ _ (hQ _ _ _ _ hs hq)
 ·rename_i j want hg
  split at h
  ·rename_i q d hq hd
   obtain⟨G,h1,h2,h3⟩:=aopS_ok hcp hd h
   refine wpOp_step ho λK' hK=> ?_
   rw[wanted_of hg hq h1 hr h2]
   exact h3 a w c hr K' Qx λst' a' w' c' hs hq=>hK _ _ (hQ _ _ _ _ hs hq)
  ·exact h.elim
def drawS (P:Program)(τ:TypeId->Option Ty):DR:=λid cp ops st K=>
 bif P.follows .mixedOrders&&Region.noSelect ops then deval (λi=>fstep P (prOf (scanQ P st.ms st.n ops.toList 0 st.sl) i) ops) (λi o=>aop1S P τ (cp i) ops o) ops (prOf (scanQ P st.ms st.n ops.toList 0 st.sl)) ops.size (Array.replicate ops.size false) true st K else False
theorem drawS_ok (τ:TypeId->Option Ty):DrOK P (drawS P τ):=by
 intro id cp ops st K hcp h a w c hr
 unfold drawS at h
 cases hb:(P.follows .mixedOrders&&Region.noSelect ops) with
 |false=>rw[hb] at h;exact h.elim
 |true=>
  rw[hb] at h
  obtain⟨b1,b2⟩:=Bool.and_eq_true_iff.1 hb
  obtain⟨hr1,t1⟩:=hr.drew
  let Qx:Exit->Act->World->Prop:=λe a' w'=>e= .normal/\∃st' c',Step st a w c st' a' w' c'/\K st'
  refine wp_mono (Q:=Qx) ?_ (λe a' w' ⟨he,st',c',k1,k2⟩=>⟨st',c',k1,he,k2⟩)
  refine wp_region_any b1 (wpAny_of_T _ _ _ _ (deval_ok (fs:=λi=>fstep P (prOf (scanQ P st.ms st.n ops.toList 0 st.sl) i) ops) (ao:=λi o=>aop1S P τ (cp i) ops o) (prL:=prOf (scanQ P st.ms st.n ops.toList 0 st.sl)) (λh _ hT _ _ _ hr=>fstep_ok h hT hr) (λho _ _ h _ _ _ hr _ _ hQ=>aop1S_ok (hcp _) ho h hr hQ) b2 hr1 _ _ _ _ _ .start h _ _ _ hr1 (λ_=>⟨rfl,rfl,rfl⟩) .refl Qx (λch a w hh=>by cases hh.1) λst' a' w' c' hs hk=>⟨rfl,st',c',Step.trans ⟨hr1,t1,rfl,.refl _⟩ hs,hk⟩))
theorem lawG_okH {cp:CP}(hcp:CallOK P cp){f:FuncId}{ds:List D}{post:Bool->Prop}(h:HoldW (lawG cp f ds post)){w:World}{S:Cells}{us:List Value}(h1:∀b o,S b o->b<w.heap.size)(h3:us.length=ds.length)
 (h4:∀(i:Nat)(d:D)(u:Value),ds[i]? =some d->us[i]? =some u->Rd S w d u):
 Calls P f us.toArray w λe w'=>(∃b,e= .returned (.bool b)/\post b)/\Below w.heap.size w w':=lawG_ok hcp h.h h1 h3 h4
end RE
end Go.Proofs.YtjcjdgmojkkioaaGreatDoor
set_option maxRecDepth 100000
set_option linter.unusedVariables false
namespace Go.Proofs.YtjcjdgmojkkioaaGreatDoor
open Go.RowKit
namespace RE
open PL
namespace PL
def linesV (l:List api_Line):Prop:=∀x∈l,validP x.2.1
open Classical in
noncomputable def chk1 (o la e:Int) (p:Option api_Version) (v:api_Version):Int:=
 if v.Day<o\/(∃q,p=some q/\v.Day<q.Day) then 9 else if e<v.Day then 21 else if ¬linesV v.Lines then 7 else if (∃q,p=some q/\la<v.Day/\¬reducesP q v) then 22 else 0
def prevV (l:List api_Version)(k:Nat):Option api_Version:=if k=0 then none else some (ix l ((k-1:Nat):Int))
noncomputable def chkAt (o la e:Int) (l:List api_Version) (k:Nat):Int:=chk1 o la e (prevV l k) (ix l (k:Int))
def firstE (f:Nat->Int):Nat->Int
 |0=>0
 |n+1=>if firstE f n≠0 then firstE f n else f n
open Classical in
noncomputable def chkS (a:api_Application) (o la e:Int):Int:=
 if ¬(0<=o/\o<=la/\la<=e/\e<=36864) then 9 else if a.Farm<1\/60<a.Farm then 2 else if a.Year<0\/100<a.Year then 18 else if a.Versions.length<1\/40<a.Versions.length\/(∃v∈a.Versions,20<v.Lines.length) then 1 else firstE (chkAt o la e a.Versions) a.Versions.length
end PL
def pvals_P (l:List (api_Line))(post:Bool->Prop):Prop:=(l.length<=1000000000)/\∀q:Bool,(q=true↔linesV l)->post q
def pvals_sp:Spec:=⟨194,false,false,[.sl (.st .api_Line)],.dat (.bool),λx post=>pvals_P (x.1:List (api_Line)) (λy0=>post (y0,()))⟩
def pvals_C:CtxR:=⟨tau,[rule1 pval_sp],lookJ [(1066418167,0,⟨[(0,.dat (.int .i64))],[],[],[],[]⟩),(1066418167,5,⟨[(8,.dat (.int .i64))],[],[9,10,5,11,12,13,14,15,16,18],[],[]⟩)]⟩
def pvals_W (l:List (api_Line))(post:Bool->Prop):Prop:=JOIN [Ty.int IntKind.i64] (λ(y1:Int)=>post !decide ((0:Int)<=y1)) λ(J2:Int->Prop)=>(↑l.length:Int)<=9223372036854775807->LOOP [Ty.int IntKind.i64] (λ(rec3:Int->Prop) (z4:Int)=>IFB (decide (z4<(↑l.length:Int))) (((0:Int)<=z4/\z4<(↑l.length:Int))/\∀(v5:Bool),(v5=true↔validP (ix l z4).2.1)->IFB (!v5) (J2 z4) (rec3 (IntKind.i64.wrap (z4+1)))) (J2 (-1:Int))) ((0:Int),PUnit.unit)
theorem pvals_w (l:List (api_Line))(post:dens (shT pvals_sp.rs [])->Prop):pvals_W l (λy0=>post (y0,()))=walkG (callR Tryz.prog pvals_C (drawR Tryz.prog tau) 8 0) 194 false [tv (.sl (.st .api_Line)) l] pvals_sp.rs post:=by kernel_rfl
theorem pvals_of (h:∀(l:List (api_Line))(post:Bool->Prop),pvals_P l post->pvals_W l post):SpecOK Tryz.prog pvals_sp:=SpecOK.of_rules (C:=pvals_C) (dr:=drawR Tryz.prog tau) (n:=8) (fk:=0) (.cons (rule1_ok pval_ok) .nil) (drawR_ok tau) λx post hp=>HoldW.of (pvals_w x.1 post) (h x.1 (λy0=>post (y0,())) hp)
theorem pvals_ok:SpecOK Tryz.prog pvals_sp:=pvals_of λl post hp=>by
 obtain⟨hl,hp⟩:=hp
 unfold pvals_W
 have hm:decide (0<=(-1:Int))=false:=rfl
 refine JOIN.opq λ(J21:Int->Prop) hJ21=> ?_
 intro _
 refine loopCmp (n:=l.length) (by omega) (p:=λj=>validP (ix l (j:Int)).2.1) (λrec k hk hpre hrec=>⟨by omega,λv hv=>IFB.mk (λh=> ?_) (λh=>hrec (hv.1 (by simpa using h)))⟩) λhall=> ?_
 ·rw[hJ21]
  dsimp only
  rw[decide_eq_true (by omega:(0:Int)<=(k:Int))]
  refine hp _ ⟨λh=>(by cases h),λh2=> ?_⟩
  have:=hv.2 (h2 _ (ix_mem (l:=l) (i:=(k:Int)) (by omega) (by omega)))
  rw[this] at h;cases h
 ·rw[hJ21]
  dsimp only
  rw[hm]
  refine hp _ ⟨λ_ x hx=> ?_,λ_=>rfl⟩
  obtain⟨j,hj,rfl⟩:=List.getElem_of_mem hx
  have:=hall j hj
  rwa [ix_lt hj] at this
theorem red_loop {la lb:List api_Line}{J3:Bool->Prop}(hla:la.length<=1000000)(hlb:lb.length<=1000000)(hp:∀q:Bool,(q=true↔∀x∈lb,∃y∈la,lessL x y)->J3 (!q)):JOIN [Ty.int IntKind.i64] (λ(y4:Int)=>J3 !!decide ((0:Int)<=y4)) λ(J5:Int->Prop)=>(↑lb.length:Int)<=(9223372036854775807:Int)->LOOP [Ty.int IntKind.i64] (λ(rec6:Int->Prop) (z7:Int)=>IFB (decide (z7<(↑lb.length:Int))) (((0:Int)<=z7/\z7<(↑lb.length:Int))/\JOIN [Ty.int IntKind.i64] (λ(y8:Int)=>IFB (!decide ((0:Int)<=y8)) (J5 z7) (rec6 (IntKind.i64.wrap (z7+(1:Int))))) λ(J9:Int->Prop)=>(↑la.length:Int)<=(9223372036854775807:Int)->LOOP [Ty.int IntKind.i64] (λ(rec10:Int->Prop) (z11:Int)=>IFB (decide (z11<(↑la.length:Int))) (((0:Int)<=z11/\z11<(↑la.length:Int))/\JOIN [Ty.bool] (λ(y12:Bool)=>IFB (decide ((ix lb z7).1=(ix la z11).1)&&decide ((ix lb z7).3=(ix la z11).3)&&decide (IntKind.i64.wrap (↑(Nat.instAndOp.1 ((ix lb z7).4 % (18446744073709551616:Int)).toNat (Nat.instXorOp.1 ((18446744073709551615:Nat)) ((ix la z11).4 % (18446744073709551616:Int)).toNat)):Int)=(0:Int))&&y12) (J9 z11) (rec10 (IntKind.i64.wrap (z11+(1:Int))))) λ(J13:Bool->Prop)=>IFB (gx true (decide ((ix lb z7).1=(ix la z11).1)&&decide ((ix lb z7).3=(ix la z11).3)&&decide (IntKind.i64.wrap (↑(Nat.instAndOp.1 ((ix lb z7).4 % (18446744073709551616:Int)).toNat (Nat.instXorOp.1 ((18446744073709551615:Nat)) ((ix la z11).4 % (18446744073709551616:Int)).toNat)):Int)=(0:Int)))) (∀(v14:Bool),(v14=true↔withinP (ix lb z7).2.1 (ix la z11).2.1)->J13 v14) (J13 false)) (J9 (-1:Int))) ((0:Int),PUnit.unit)) (J5 (-1:Int))) ((0:Int),PUnit.unit):=by
 have hm:decide (0<=(-1:Int))=false:=rfl
 refine JOIN.opq λ(J5:Int->Prop) hJ5=> ?_
 intro _
 refine loopCmp (n:=lb.length) (by omega) (p:=λj=>∃y∈la,lessL (ix lb (j:Int)) y) (λrec k hk hpre hrec=>⟨by omega,?_⟩) λhall=> ?_
 ·refine JOIN.opq λ(J9:Int->Prop) hJ9=> ?_
  intro _
  refine loopCmp (n:=la.length) (by omega) (p:=λj=>¬lessL (ix lb (k:Int)) (ix la (j:Int))) (λrec2 m hm2 hpre2 hrec2=>⟨by omega,?_⟩) λhall2=> ?_
  ·refine JOIN.opq λ(J13:Bool->Prop) hJ13=> ?_
   have hx:ix la (m:Int)∈la:=ix_mem (by omega) (by omega)
   have hJ13:∀y:Bool,((lessB (ix lb (k:Int)) (ix la (m:Int))&&y)=true->lessL (ix lb (k:Int)) (ix la (m:Int)))->((lessB (ix lb (k:Int)) (ix la (m:Int))&&y)=false->¬lessL (ix lb (k:Int)) (ix la (m:Int)))->J13 y:=λy q1 q2=>by
    rw[hJ13]
    refine IFB.mk (λh=> ?_) (λh=>hrec2 (q2 h))
    rw[hJ9]
    dsimp only
    rw[decide_eq_true (by omega:(0:Int)<=(m:Int))]
    exact IFB.mk (λh=>(by cases h)) (λ_=>hrec ⟨_,hx,q1 h⟩)
   refine IFB.mk (λh v hv=>hJ13 v (λq=> ?_) (λq=> ?_)) (λh=>hJ13 false (λq=> ?_) (λ_ q=> ?_))
   ·rw[Bool.and_eq_true] at q
    exact⟨q.1,hv.1 q.2⟩
   ·intro hl
    have:lessB (ix lb (k:Int)) (ix la (m:Int))=true:=hl.1
    rw[this,hv.2 hl.2] at q
    cases q
   ·rw[Bool.and_false] at q;cases q
   ·have h:lessB (ix lb (k:Int)) (ix la (m:Int))=false:=h
    rw[q.1] at h;cases h
  ·rw[hJ9]
   dsimp only
   rw[hm]
   refine IFB.mk (λ_=> ?_) (λh=>(by cases h))
   rw[hJ5]
   dsimp only
   rw[decide_eq_true (by omega:(0:Int)<=(k:Int))]
   refine hp false ⟨λh=>(by cases h),λh=> ?_⟩
   obtain⟨y,hy,hl⟩:=h _ (ix_mem (l:=lb) (i:=(k:Int)) (by omega) (by omega))
   obtain⟨j,hj,rfl⟩:=List.getElem_of_mem hy
   have:=hall2 j hj
   rw[ix_lt hj] at this
   exact absurd hl this
 ·rw[hJ5]
  dsimp only
  rw[hm]
  refine hp true ⟨λ_ x hx=> ?_,λ_=>rfl⟩
  obtain⟨j,hj,rfl⟩:=List.getElem_of_mem hx
  have:=hall j hj
  rwa [ix_lt hj] at this
def pchk_P (d:application_days)(l:List (api_Version))(i:Int)(post:Int->Prop):Prop:=((0<=i/\i<l.length)/\l.length<=1000000/\∀v∈l,v.2.length<=1000000)/\post (chkAt d.1 d.2 d.3 l i.toNat)
def pchk_sp:Spec:=⟨116,false,false,[.st .application_days,.sl (.st .api_Version),.int .i64],.dat (.int .i64),λx post=>pchk_P (x.1:application_days) (x.2.1:List (api_Version)) (x.2.2.1:Int) (λy0=>post (y0,()))⟩
def pchk_C:CtxR:=⟨tau,[rule1 pvals_sp,rule1 pwit_sp],lookJ [(0,1000008,⟨[(44,.dat .bool)],[],[45,46,47,53,54,58,66,69,48,49,50,51,52,55,56,57,59,60,61,62,63,64,65,67,68],[],[]⟩),(8901023476985802,0,⟨[(0,.dat (.int .i64))],[],[],[],[]⟩),(8901023476985802,5,⟨[(8,.dat (.int .i64))],[],[9,10,5,11,12,13,14,15,16,18],[],[]⟩),(10083107538033363418895507559601263,0,⟨[(0,.dat (.int .i64))],[],[],[],[]⟩),(10083107538033363418895507559601263,5,⟨[(8,.dat (.int .i64))],[],[9,10,5,11,12,13,14,15,16,18],[],[]⟩)]⟩
abbrev pchk_a0 (l:List (api_Version))(i:Int):=(↑(ix l (IntKind.i64.wrap (i-(1:Int)))).2.length:Int)
abbrev pchk_a1 (l:List (api_Version))(i:Int)(z7:Int)(z11:Int):=(IntKind.i64.wrap (↑(Nat.instAndOp.1 ((ix (ix l i).2 z7).4 % (18446744073709551616:Int)).toNat (Nat.instXorOp.1 ((18446744073709551615:Nat)) ((ix (ix l (IntKind.i64.wrap (i-(1:Int)))).2 z11).4 % (18446744073709551616:Int)).toNat)):Int)=(0:Int))
abbrev pchk_a2 (l:List (api_Version))(i:Int)(z18:Int)(z22:Int):=(IntKind.i64.wrap (↑(Nat.instAndOp.1 ((ix (ix l i).2 z18).4 % (18446744073709551616:Int)).toNat (Nat.instXorOp.1 ((18446744073709551615:Nat)) ((ix (ix l (IntKind.i64.wrap (i-(1:Int)))).2 z22).4 % (18446744073709551616:Int)).toNat)):Int)=(0:Int))
abbrev pchk_a3 (l:List (api_Version))(i:Int)(z29:Int)(z33:Int):=(IntKind.i64.wrap (↑(Nat.instAndOp.1 ((ix (ix l i).2 z29).4 % (18446744073709551616:Int)).toNat (Nat.instXorOp.1 ((18446744073709551615:Nat)) ((ix (ix l (IntKind.i64.wrap (i-(1:Int)))).2 z33).4 % (18446744073709551616:Int)).toNat)):Int)=(0:Int))
abbrev pchk_a4 (l:List (api_Version))(i:Int)(z40:Int)(z44:Int):=(IntKind.i64.wrap (↑(Nat.instAndOp.1 ((ix (ix l i).2 z40).4 % (18446744073709551616:Int)).toNat (Nat.instXorOp.1 ((18446744073709551615:Nat)) ((ix (ix l (IntKind.i64.wrap (i-(1:Int)))).2 z44).4 % (18446744073709551616:Int)).toNat)):Int)=(0:Int))
abbrev pchk_a5 (l:List (api_Version))(i:Int)(z51:Int)(z55:Int):=(IntKind.i64.wrap (↑(Nat.instAndOp.1 ((ix (ix l i).2 z51).4 % (18446744073709551616:Int)).toNat (Nat.instXorOp.1 ((18446744073709551615:Nat)) ((ix (ix l (IntKind.i64.wrap (i-(1:Int)))).2 z55).4 % (18446744073709551616:Int)).toNat)):Int)=(0:Int))
abbrev pchk_a6 (l:List (api_Version))(i:Int)(z62:Int)(z66:Int):=(IntKind.i64.wrap (↑(Nat.instAndOp.1 ((ix (ix l i).2 z62).4 % (18446744073709551616:Int)).toNat (Nat.instXorOp.1 ((18446744073709551615:Nat)) ((ix (ix l (IntKind.i64.wrap (i-(1:Int)))).2 z66).4 % (18446744073709551616:Int)).toNat)):Int)=(0:Int))
def pchk_W (d:application_days)(l:List (api_Version))(i:Int)(post:Int->Prop):Prop:=((0:Int)<=i/\i<(↑l.length:Int))/\((gx false (decide ((ix l i).1<d.1))&&gx true (decide ((0:Int)<i)))=true->0<=IntKind.i64.wrap (i-1)/\IntKind.i64.wrap (i-1)<(↑l.length:Int))/\IFB (decide ((ix l i).1<d.1)||decide ((0:Int)<i)&&decide ((ix l i).1<(ix l (IntKind.i64.wrap (i-1))).1)) (post 9) (IFB (decide (d.3<(ix l i).1)) (post 21) ((ix l i).2.length<=1000000000/\∀(v1:Bool),(v1=true↔linesV (ix l i).2)->IFB (!v1) (post 7) (JOIN [Ty.bool] (λ(y2:Bool)=>IFB y2 (post 22) (post 0)) λ(J3:Bool->Prop)=>(gx true (decide ((0:Int)<i)&&decide (d.2<(ix l i).1))=true->0<=IntKind.i64.wrap (i-1)/\IntKind.i64.wrap (i-1)<(↑l.length:Int))/\IFB (decide ((0:Int)<i)&&decide (d.2<(ix l i).1)) ((JOIN [Ty.int IntKind.i64] (λ(y4:Int)=>J3 !!decide ((0:Int)<=y4)) λ(J5:Int->Prop)=>(↑(ix l i).2.length:Int)<=9223372036854775807->LOOP [Ty.int IntKind.i64] (λ(rec6:Int->Prop) (z7:Int)=>IFB (decide (z7<(↑(ix l i).2.length:Int))) (((0:Int)<=z7/\z7<(↑(ix l i).2.length:Int))/\JOIN [Ty.int IntKind.i64] (λ(y8:Int)=>IFB (!decide ((0:Int)<=y8)) (J5 z7) (rec6 (IntKind.i64.wrap (z7+1)))) λ(J9:Int->Prop)=>(pchk_a0 l i)<=9223372036854775807->LOOP [Ty.int IntKind.i64] (λ(rec10:Int->Prop) (z11:Int)=>IFB (decide (z11<(pchk_a0 l i))) (((0:Int)<=z11/\z11<(pchk_a0 l i))/\JOIN [Ty.bool] (λ(y12:Bool)=>IFB (decide ((ix (ix l i).2 z7).1=(ix (ix l (IntKind.i64.wrap (i-1))).2 z11).1)&&decide ((ix (ix l i).2 z7).3=(ix (ix l (IntKind.i64.wrap (i-1))).2 z11).3)&&decide (pchk_a1 l i z7 z11)&&y12) (J9 z11) (rec10 (IntKind.i64.wrap (z11+1)))) λ(J13:Bool->Prop)=>IFB (gx true (decide ((ix (ix l i).2 z7).1=(ix (ix l (IntKind.i64.wrap (i-1))).2 z11).1)&&decide ((ix (ix l i).2 z7).3=(ix (ix l (IntKind.i64.wrap (i-1))).2 z11).3)&&decide (pchk_a1 l i z7 z11))) (∀(v14:Bool),(v14=true↔withinP (ix (ix l i).2 z7).2.1 (ix (ix l (IntKind.i64.wrap (i-1))).2 z11).2.1)->J13 v14) (J13 false)) (J9 (-1:Int))) ((0:Int),PUnit.unit)) (J5 (-1:Int))) ((0:Int),PUnit.unit))/\(JOIN [Ty.int IntKind.i64] (λ(y15:Int)=>J3 !!decide ((0:Int)<=y15)) λ(J16:Int->Prop)=>(↑(ix l i).2.length:Int)<=9223372036854775807->LOOP [Ty.int IntKind.i64] (λ(rec17:Int->Prop) (z18:Int)=>IFB (decide (z18<(↑(ix l i).2.length:Int))) (((0:Int)<=z18/\z18<(↑(ix l i).2.length:Int))/\JOIN [Ty.int IntKind.i64] (λ(y19:Int)=>IFB (!decide ((0:Int)<=y19)) (J16 z18) (rec17 (IntKind.i64.wrap (z18+1)))) λ(J20:Int->Prop)=>(pchk_a0 l i)<=9223372036854775807->LOOP [Ty.int IntKind.i64] (λ(rec21:Int->Prop) (z22:Int)=>IFB (decide (z22<(pchk_a0 l i))) (((0:Int)<=z22/\z22<(pchk_a0 l i))/\JOIN [Ty.bool] (λ(y23:Bool)=>IFB (decide ((ix (ix l i).2 z18).1=(ix (ix l (IntKind.i64.wrap (i-1))).2 z22).1)&&decide ((ix (ix l i).2 z18).3=(ix (ix l (IntKind.i64.wrap (i-1))).2 z22).3)&&decide (pchk_a2 l i z18 z22)&&y23) (J20 z22) (rec21 (IntKind.i64.wrap (z22+1)))) λ(J24:Bool->Prop)=>IFB (gx true (decide ((ix (ix l i).2 z18).1=(ix (ix l (IntKind.i64.wrap (i-1))).2 z22).1)&&decide ((ix (ix l i).2 z18).3=(ix (ix l (IntKind.i64.wrap (i-1))).2 z22).3)&&decide (pchk_a2 l i z18 z22))) (∀(v25:Bool),(v25=true↔withinP (ix (ix l i).2 z18).2.1 (ix (ix l (IntKind.i64.wrap (i-1))).2 z22).2.1)->J24 v25) (J24 false)) (J20 (-1:Int))) ((0:Int),PUnit.unit)) (J16 (-1:Int))) ((0:Int),PUnit.unit))/\JOIN [Ty.int IntKind.i64] (λ(y26:Int)=>J3 !!decide ((0:Int)<=y26)) λ(J27:Int->Prop)=>(↑(ix l i).2.length:Int)<=9223372036854775807->LOOP [Ty.int IntKind.i64] (λ(rec28:Int->Prop) (z29:Int)=>IFB (decide (z29<(↑(ix l i).2.length:Int))) (((0:Int)<=z29/\z29<(↑(ix l i).2.length:Int))/\JOIN [Ty.int IntKind.i64] (λ(y30:Int)=>IFB (!decide ((0:Int)<=y30)) (J27 z29) (rec28 (IntKind.i64.wrap (z29+1)))) λ(J31:Int->Prop)=>(pchk_a0 l i)<=9223372036854775807->LOOP [Ty.int IntKind.i64] (λ(rec32:Int->Prop) (z33:Int)=>IFB (decide (z33<(pchk_a0 l i))) (((0:Int)<=z33/\z33<(pchk_a0 l i))/\JOIN [Ty.bool] (λ(y34:Bool)=>IFB (decide ((ix (ix l i).2 z29).1=(ix (ix l (IntKind.i64.wrap (i-1))).2 z33).1)&&decide ((ix (ix l i).2 z29).3=(ix (ix l (IntKind.i64.wrap (i-1))).2 z33).3)&&decide (pchk_a3 l i z29 z33)&&y34) (J31 z33) (rec32 (IntKind.i64.wrap (z33+1)))) λ(J35:Bool->Prop)=>IFB (gx true (decide ((ix (ix l i).2 z29).1=(ix (ix l (IntKind.i64.wrap (i-1))).2 z33).1)&&decide ((ix (ix l i).2 z29).3=(ix (ix l (IntKind.i64.wrap (i-1))).2 z33).3)&&decide (pchk_a3 l i z29 z33))) (∀(v36:Bool),(v36=true↔withinP (ix (ix l i).2 z29).2.1 (ix (ix l (IntKind.i64.wrap (i-1))).2 z33).2.1)->J35 v36) (J35 false)) (J31 (-1:Int))) ((0:Int),PUnit.unit)) (J27 (-1:Int))) ((0:Int),PUnit.unit)) (J3 false/\J3 false/\J3 false)/\IFB (decide ((0:Int)<i)&&decide (d.2<(ix l i).1)) (((JOIN [Ty.int IntKind.i64] (λ(y37:Int)=>J3 !!decide ((0:Int)<=y37)) λ(J38:Int->Prop)=>(↑(ix l i).2.length:Int)<=9223372036854775807->LOOP [Ty.int IntKind.i64] (λ(rec39:Int->Prop) (z40:Int)=>IFB (decide (z40<(↑(ix l i).2.length:Int))) (((0:Int)<=z40/\z40<(↑(ix l i).2.length:Int))/\JOIN [Ty.int IntKind.i64] (λ(y41:Int)=>IFB (!decide ((0:Int)<=y41)) (J38 z40) (rec39 (IntKind.i64.wrap (z40+1)))) λ(J42:Int->Prop)=>(pchk_a0 l i)<=9223372036854775807->LOOP [Ty.int IntKind.i64] (λ(rec43:Int->Prop) (z44:Int)=>IFB (decide (z44<(pchk_a0 l i))) (((0:Int)<=z44/\z44<(pchk_a0 l i))/\JOIN [Ty.bool] (λ(y45:Bool)=>IFB (decide ((ix (ix l i).2 z40).1=(ix (ix l (IntKind.i64.wrap (i-1))).2 z44).1)&&decide ((ix (ix l i).2 z40).3=(ix (ix l (IntKind.i64.wrap (i-1))).2 z44).3)&&decide (pchk_a4 l i z40 z44)&&y45) (J42 z44) (rec43 (IntKind.i64.wrap (z44+1)))) λ(J46:Bool->Prop)=>IFB (gx true (decide ((ix (ix l i).2 z40).1=(ix (ix l (IntKind.i64.wrap (i-1))).2 z44).1)&&decide ((ix (ix l i).2 z40).3=(ix (ix l (IntKind.i64.wrap (i-1))).2 z44).3)&&decide (pchk_a4 l i z40 z44))) (∀(v47:Bool),(v47=true↔withinP (ix (ix l i).2 z40).2.1 (ix (ix l (IntKind.i64.wrap (i-1))).2 z44).2.1)->J46 v47) (J46 false)) (J42 (-1:Int))) ((0:Int),PUnit.unit)) (J38 (-1:Int))) ((0:Int),PUnit.unit))/\JOIN [Ty.int IntKind.i64] (λ(y48:Int)=>J3 !!decide ((0:Int)<=y48)) λ(J49:Int->Prop)=>(↑(ix l i).2.length:Int)<=9223372036854775807->LOOP [Ty.int IntKind.i64] (λ(rec50:Int->Prop) (z51:Int)=>IFB (decide (z51<(↑(ix l i).2.length:Int))) (((0:Int)<=z51/\z51<(↑(ix l i).2.length:Int))/\JOIN [Ty.int IntKind.i64] (λ(y52:Int)=>IFB (!decide ((0:Int)<=y52)) (J49 z51) (rec50 (IntKind.i64.wrap (z51+1)))) λ(J53:Int->Prop)=>(pchk_a0 l i)<=9223372036854775807->LOOP [Ty.int IntKind.i64] (λ(rec54:Int->Prop) (z55:Int)=>IFB (decide (z55<(pchk_a0 l i))) (((0:Int)<=z55/\z55<(pchk_a0 l i))/\JOIN [Ty.bool] (λ(y56:Bool)=>IFB (decide ((ix (ix l i).2 z51).1=(ix (ix l (IntKind.i64.wrap (i-1))).2 z55).1)&&decide ((ix (ix l i).2 z51).3=(ix (ix l (IntKind.i64.wrap (i-1))).2 z55).3)&&decide (pchk_a5 l i z51 z55)&&y56) (J53 z55) (rec54 (IntKind.i64.wrap (z55+1)))) λ(J57:Bool->Prop)=>IFB (gx true (decide ((ix (ix l i).2 z51).1=(ix (ix l (IntKind.i64.wrap (i-1))).2 z55).1)&&decide ((ix (ix l i).2 z51).3=(ix (ix l (IntKind.i64.wrap (i-1))).2 z55).3)&&decide (pchk_a5 l i z51 z55))) (∀(v58:Bool),(v58=true↔withinP (ix (ix l i).2 z51).2.1 (ix (ix l (IntKind.i64.wrap (i-1))).2 z55).2.1)->J57 v58) (J57 false)) (J53 (-1:Int))) ((0:Int),PUnit.unit)) (J49 (-1:Int))) ((0:Int),PUnit.unit))/\JOIN [Ty.int IntKind.i64] (λ(y59:Int)=>J3 !!decide ((0:Int)<=y59)) λ(J60:Int->Prop)=>(↑(ix l i).2.length:Int)<=9223372036854775807->LOOP [Ty.int IntKind.i64] (λ(rec61:Int->Prop) (z62:Int)=>IFB (decide (z62<(↑(ix l i).2.length:Int))) (((0:Int)<=z62/\z62<(↑(ix l i).2.length:Int))/\JOIN [Ty.int IntKind.i64] (λ(y63:Int)=>IFB (!decide ((0:Int)<=y63)) (J60 z62) (rec61 (IntKind.i64.wrap (z62+1)))) λ(J64:Int->Prop)=>(pchk_a0 l i)<=9223372036854775807->LOOP [Ty.int IntKind.i64] (λ(rec65:Int->Prop) (z66:Int)=>IFB (decide (z66<(pchk_a0 l i))) (((0:Int)<=z66/\z66<(pchk_a0 l i))/\JOIN [Ty.bool] (λ(y67:Bool)=>IFB (decide ((ix (ix l i).2 z62).1=(ix (ix l (IntKind.i64.wrap (i-1))).2 z66).1)&&decide ((ix (ix l i).2 z62).3=(ix (ix l (IntKind.i64.wrap (i-1))).2 z66).3)&&decide (pchk_a6 l i z62 z66)&&y67) (J64 z66) (rec65 (IntKind.i64.wrap (z66+1)))) λ(J68:Bool->Prop)=>IFB (gx true (decide ((ix (ix l i).2 z62).1=(ix (ix l (IntKind.i64.wrap (i-1))).2 z66).1)&&decide ((ix (ix l i).2 z62).3=(ix (ix l (IntKind.i64.wrap (i-1))).2 z66).3)&&decide (pchk_a6 l i z62 z66))) (∀(v69:Bool),(v69=true↔withinP (ix (ix l i).2 z62).2.1 (ix (ix l (IntKind.i64.wrap (i-1))).2 z66).2.1)->J68 v69) (J68 false)) (J64 (-1:Int))) ((0:Int),PUnit.unit)) (J60 (-1:Int))) ((0:Int),PUnit.unit)) ((J3 false/\J3 false)/\J3 false))))
theorem pchk_w (d:application_days)(l:List (api_Version))(i:Int)(post:dens (shT pchk_sp.rs [])->Prop):pchk_W d l i (λy0=>post (y0,()))=walkG (callR Tryz.prog pchk_C (drawS Tryz.prog tau) 12 0) 116 false [tv (.st .application_days) d,tv (.sl (.st .api_Version)) l,tv (.int .i64) i] pchk_sp.rs post:=by kernel_rfl
theorem pchk_of (h:∀(d:application_days)(l:List (api_Version))(i:Int)(post:Int->Prop),pchk_P d l i post->pchk_W d l i post):SpecOK Tryz.prog pchk_sp:=SpecOK.of_rules (C:=pchk_C) (dr:=drawS Tryz.prog tau) (n:=12) (fk:=0) (.cons (rule1_ok pvals_ok) (.cons (rule1_ok pwit_ok) .nil)) (drawS_ok tau) λx post hp=>HoldW.of (pchk_w x.1 x.2.1 x.2.2.1 post) (h x.1 x.2.1 x.2.2.1 (λy0=>post (y0,())) hp)
theorem pchk_ok:SpecOK Tryz.prog pchk_sp:=pchk_of λd l i post hp=>by
 obtain⟨⟨⟨hi0,hi1⟩,hl,hv⟩,hp⟩:=hp
 obtain⟨k,rfl⟩:∃k:Nat,i=(k:Int):=⟨i.toNat,by omega⟩
 obtain⟨o,la,e⟩:=d
 have hk:k<l.length:=by omega
 unfold chkAt at hp
 dsimp only at hp
 rw[show (k:Int).toNat=k by omega] at hp
 unfold pchk_W pchk_a6 pchk_a5 pchk_a4 pchk_a3 pchk_a2 pchk_a1 pchk_a0
 dsimp only
 have hx:ix l (k:Int)∈l:=ix_mem (by omega) (by omega)
 have hw:0<k->IntKind.i64.wrap ((k:Int)-1)=((k-1:Nat):Int):=λh=>by rw[wrap_in (by omega) (by omega)];omega
 have hy:0<k->ix l ((k-1:Nat):Int)∈l:=λh=>ix_mem (by omega) (by omega)
 have hpv:∀{P:api_Version->Prop},(∃q,prevV l k=some q/\P q)↔0<k/\P (ix l ((k-1:Nat):Int)):=λ{P}=>by
  unfold prevV
  split
  ·rename_i h;constructor
   ·rintro ⟨q,hq,_⟩;cases hq
   ·intro h2;omega
  ·rename_i h;constructor
   ·rintro ⟨q,hq,h2⟩;injection hq with hq;subst hq;exact⟨by omega,h2⟩
   ·intro h2;exact⟨_,rfl,h2.2⟩
 unfold chk1 at hp
 simp only[hpv] at hp
 refine⟨by omega,λh=> ?_,IFB.mk (λhb=> ?_) (λhb=>IFB.mk (λhb2=> ?_) (λhb2=>⟨by have:=hv _ hx;omega,λv1 hv1=>IFB.mk (λhb3=> ?_) (λhb3=> ?_)⟩))⟩
 ·have:0<(k:Int):=by
   simp only[gx,Bool.and_eq_true,decide_eq_true_eq,cond_true] at h
   exact h.2
  rw[hw (by omega)]
  omega
 ·rw[if_pos] at hp
  ·exact hp
  ·simp only[Bool.or_eq_true,Bool.and_eq_true,decide_eq_true_eq] at hb
   rcases hb with hb|⟨hb,hb'⟩
   ·exact .inl hb
   ·have h0:0<k:=by omega
    rw[hw h0] at hb'
    exact .inr ⟨h0,hb'⟩
 all_goals
  rw[if_neg] at hp
  rotate_left
  ·rintro (h|⟨h0,h⟩)
   ·have h:(ix l (k:Int)).1<o:=h
    simp only[Bool.or_eq_false_iff,decide_eq_false_iff_not] at hb
    exact hb.1 h
   ·have h:(ix l (k:Int)).1<(ix l ((k-1:Nat):Int)).1:=h
    rw[hw h0,decide_eq_true h,decide_eq_true (by omega:(0:Int)<(k:Int))] at hb
    simp at hb
 ·rw[if_pos (of_decide_eq_true hb2)] at hp;exact hp
 all_goals rw[if_neg (of_decide_eq_false hb2)] at hp
 ·have hb3:v1=false:=by simpa using hb3
  rw[if_pos] at hp
  ·exact hp
  ·intro h;rw[hv1.2 h] at hb3;cases hb3
 ·have hb3:v1=true:=by simpa using hb3
  rw[if_neg (λh=>h (hv1.1 hb3))] at hp
  have hpv4:=hpv (P:=λq=>la<(ix l (k:Int)).1/\¬reducesP q (ix l (k:Int)))
  refine JOIN.opq λ(J3:Bool->Prop) hJ3=> ?_
  refine⟨λh=> ?_,?_⟩
  ·have:0<(k:Int):=by
    simp only[gx,Bool.and_eq_true,decide_eq_true_eq,cond_true] at h
    exact h.1
   rw[hw (by omega)]
   omega
  have h1:∀{X:Prop},(0<k->la<(ix l (k:Int)).1->X)->(decide ((0:Int)<(k:Int))&&decide (la<(ix l (k:Int)).1))=true->X:=λhX hb4=>by
   simp only[Bool.and_eq_true,decide_eq_true_eq] at hb4
   exact hX (by omega) hb4.2
  have h2:(decide ((0:Int)<(k:Int))&&decide (la<(ix l (k:Int)).1))=false->J3 false:=λhb4=>by
   rw[hJ3]
   refine IFB.mk (λh=>(by cases h)) (λ_=> ?_)
   rw[if_neg] at hp
   ·exact hp
   ·intro h
    obtain⟨h0,h1,_⟩:=hpv4.1 h
    have h1:la<(ix l (k:Int)).1:=h1
    rw[decide_eq_true h1,decide_eq_true (by omega:(0:Int)<(k:Int))] at hb4
    cases hb4
  have key:0<k->la<(ix l (k:Int)).1->∀q:Bool,(q=true↔∀x∈(ix l (k:Int)).2,∃y∈(ix l ((k-1:Nat):Int)).2,lessL x y)->J3 (!q):=λh0 hla q hq=>by
   rw[hJ3]
   dsimp only
   refine IFB.mk (λh=> ?_) (λh=> ?_)
   ·rw[if_pos] at hp
    ·exact hp
    ·refine hpv4.2 ⟨h0,hla,λhr=> ?_⟩
     rw[hq.2 hr] at h;cases h
   ·rw[if_neg] at hp
    ·exact hp
    ·intro h2
     obtain⟨_,_,hr⟩:=hpv4.1 h2
     exact hr (hq.1 (by simpa using h))
  have r:=λh0 hla=>red_loop (J3:=J3) (hv _ (hy h0)) (hv _ hx) (key h0 hla)
  refine⟨IFB.mk (h1 λh0 hla=> ?_) (λhb4=>⟨h2 hb4,h2 hb4,h2 hb4⟩),IFB.mk (h1 λh0 hla=> ?_) (λhb4=>⟨⟨h2 hb4,h2 hb4⟩,h2 hb4⟩)⟩
  all_goals
   have r:=r h0 hla
   rw[hw h0]
   first|exact⟨r,r,r⟩|exact⟨⟨r,r⟩,r⟩
end RE
end Go.Proofs.YtjcjdgmojkkioaaGreatDoor
namespace Go.Proofs.YtjcjdgmojkkioaaGreatDoor
namespace RE
set_option maxRecDepth 100000
open Go.RowKit
open PL
def pcheck_P (a:api_Application)(o:Int)(la:Int)(e:Int)(post:Int->Prop):Prop:=(True)/\post (chkS a o la e)
def pcheck_sp:Spec:=⟨34,false,false,[.st .api_Application,.int .i64,.int .i64,.int .i64],.dat (.int .i64),λx post=>pcheck_P (x.1:api_Application) (x.2.1:Int) (x.2.2.1:Int) (x.2.2.2.1:Int) (λy0=>post (y0,()))⟩
def pcheck_C:CtxR:=⟨tau,[rule1 pchk_sp],lookJ [(0,23,⟨[(57,.dat (.int .i64))],[],(List.range' 58 9++[10,11,68]),[],[]⟩),(8529253286,0,⟨[(0,.dat (.int .i64))],[],[],[],[]⟩),(8529253286,5,⟨[(8,.dat (.int .i64))],[],(List.range' 9 8++[5,18]),[],[]⟩)]⟩
def pcheck_W (a:api_Application)(o:Int)(la:Int)(e:Int)(post:Int->Prop):Prop:=IFB (!(decide ((0:Int)<=o)&&decide (o<=la)&&decide (la<=e)&&decide (e<=36864))) (post 9) (IFB (decide (a.1<1)||decide ((60:Int)<a.1)) (post 2) (IFB (decide (a.2<0)||decide ((100:Int)<a.2)) (post 18) ((↑a.3.length:Int)<=9223372036854775807->(gx false (decide ((↑a.3.length:Int)<1))=true->(↑a.3.length:Int)<=9223372036854775807)->JOIN [Ty.bool] (λ(y1:Bool)=>IFB (decide ((↑a.3.length:Int)<1)||decide ((40:Int)<(↑a.3.length:Int))||y1) (post 1) ((↑a.3.length:Int)<=9223372036854775807->LOOP [Ty.int IntKind.i64] (λ(rec2:Int->Prop) (z3:Int)=>IFB (decide (z3<(↑a.3.length:Int))) ((((0:Int)<=z3/\z3<(↑a.3.length:Int))/\a.3.length<=1000000/\∀(v4:api_Version),v4∈a.3->v4.2.length<=1000000)/\IFB (!decide (chkAt o la e a.3 z3.toNat=0)) (post (chkAt o la e a.3 z3.toNat)) (rec2 (IntKind.i64.wrap (z3+1)))) (post 0)) ((0:Int),PUnit.unit))) λ(J5:Bool->Prop)=>IFB (gx false (decide ((↑a.3.length:Int)<1)||decide ((40:Int)<(↑a.3.length:Int)))) (JOIN [Ty.int IntKind.i64] (λ(y6:Int)=>J5 (decide ((0:Int)<=y6))) λ(J7:Int->Prop)=>(↑a.3.length:Int)<=9223372036854775807->LOOP [Ty.int IntKind.i64] (λ(rec8:Int->Prop) (z9:Int)=>IFB (decide (z9<(↑a.3.length:Int))) (((0:Int)<=z9/\z9<(↑a.3.length:Int))/\((↑(ix a.3 z9).2.length:Int)<=9223372036854775807->IFB (decide ((20:Int)<(↑(ix a.3 z9).2.length:Int))) (J7 z9) (rec8 (IntKind.i64.wrap (z9+1))))) (J7 (-1:Int))) ((0:Int),PUnit.unit)) (J5 false))))
theorem pcheck_w (a:api_Application)(o:Int)(la:Int)(e:Int)(post:dens (shT pcheck_sp.rs [])->Prop):pcheck_W a o la e (λy0=>post (y0,()))=walkG (callR Tryz.prog pcheck_C (drawR Tryz.prog tau) 8 0) 34 false [tv (.st .api_Application) a,tv (.int .i64) o,tv (.int .i64) la,tv (.int .i64) e] pcheck_sp.rs post:=by kernel_rfl
theorem pcheck_of (h:∀a o la e post,pcheck_P a o la e post->pcheck_W a o la e post):SpecOK Tryz.prog pcheck_sp:=SpecOK.of_rules (C:=pcheck_C) (dr:=drawR Tryz.prog tau) (n:=8) (fk:=0) (.cons (rule1_ok pchk_ok) .nil) (drawR_ok tau) λx post hp=>HoldW.of (pcheck_w x.1 x.2.1 x.2.2.1 x.2.2.2.1 post) (h x.1 x.2.1 x.2.2.1 x.2.2.2.1 (λy0=>post (y0,())) hp)
theorem firstE_zero {f:Nat->Int}:∀{n:Nat},firstE f n=0↔∀j,j<n->f j=0
 |0=>by simp[firstE]
 |n+1=>by
  have ih:=firstE_zero (f:=f) (n:=n)
  unfold firstE
  constructor
  ·intro h j hj
   split at h
   ·exact absurd h ‹_›
   ·rename_i h0
    have h0:firstE f n=0:=by simpa using h0
    by_cases e:j=n
    ·rw[e];exact h
    ·exact ih.1 h0 j (by omega)
  ·intro h
   have h0:=ih.2 λj hj=>h j (by omega)
   rw[if_neg (by simp[h0])]
   exact h n (by omega)
theorem firstE_at {f:Nat->Int}{k:Nat}(h0:∀j,j<k->f j=0)(hk:f k≠0):∀{n:Nat},k<n->firstE f n=f k
 |0,h=>by omega
 |n+1,h=>by
  unfold firstE
  by_cases e:k=n
  ·subst e
   rw[if_neg (by simp[firstE_zero.2 h0])]
  ·rw[firstE_at h0 hk (n:=n) (by omega),if_pos hk]
theorem not4 {A B C D:Prop}[Decidable A][Decidable B][Decidable C][Decidable D]:(!(decide A&&decide B&&decide C&&decide D))=true↔¬(A/\B/\C/\D):=by
 rw[Bool.not_eq_true',<-Bool.not_eq_true]
 simp only[Bool.and_eq_true,decide_eq_true_eq,and_assoc]
theorem pcheck_ok:SpecOK Tryz.prog pcheck_sp:=pcheck_of λa o la e post hp=>by
 obtain⟨_,hp⟩:=hp
 obtain⟨f,y,l⟩:=a
 unfold chkS at hp
 unfold pcheck_W
 dsimp only at hp ⊢
 refine IFB.mk (λhb=> ?_) (λhb=>IFB.mk (λhb2=> ?_) (λhb2=>IFB.mk (λhb3=> ?_) (λhb3=> ?_)))
 ·rw[if_pos (not4.1 hb)] at hp
  exact hp
 all_goals rw[if_neg (λh=>by rw[not4.2 h] at hb;cases hb)] at hp
 ·rw[if_pos (by simpa using hb2)] at hp;exact hp
 all_goals rw[if_neg (by simpa using hb2)] at hp
 ·rw[if_pos (by simpa using hb3)] at hp;exact hp
 rw[if_neg (by simpa using hb3)] at hp
 intro hlen _
 refine JOIN.opq λ(J5:Bool->Prop) hJ5=> ?_
 have hJ:∀y:Bool,((decide ((l.length:Int)<1)||decide ((40:Int)<l.length)||y)=true↔(l.length<1\/40<l.length\/∃v∈l,20<v.2.length))->J5 y:=λy hy=>by
  rw[hJ5]
  dsimp only
  refine IFB.mk (λhb=> ?_) (λhb _=> ?_)
  ·rw[if_pos (hy.1 hb)] at hp;exact hp
  ·have hn:¬(l.length<1\/40<l.length\/∃v∈l,20<v.2.length):=λh=>by rw[hy.2 h] at hb;cases hb
   rw[if_neg hn] at hp
   have hn1:l.length<=40:=Nat.le_of_not_lt λh=>hn (.inr (.inl h))
   have hn2:∀v∈l,v.2.length<=20:=λv hv=>Nat.le_of_not_lt λh=>hn (.inr (.inr ⟨v,hv,h⟩))
   refine loopCmp (n:=l.length) (by omega) (p:=λj=>chkAt o la e l j=0) (λrec k hk hpre hrec=>⟨⟨by omega,by omega,λv hv=>by have:=hn2 v hv;omega⟩,?_⟩) λhall=> ?_
   ·rw[show (k:Int).toNat=k by omega]
    refine IFB.mk (λh=> ?_) (λh=>hrec (by simpa using h))
    have h:chkAt o la e l k≠0:=by simpa using h
    rw[firstE_at hpre h hk] at hp
    exact hp
   ·rw[firstE_zero.2 hall] at hp
    exact hp
 refine IFB.mk (λhb=> ?_) (λhb=> ?_)
 ·refine JOIN.opq λ(J7:Int->Prop) hJ7=> ?_
  intro _
  have hb:(decide ((l.length:Int)<1)||decide ((40:Int)<l.length))=false:=by simpa [gx] using hb
  have hl40:l.length<=40:=by simp only[Bool.or_eq_false_iff,decide_eq_false_iff_not] at hb;omega
  refine loopCmp (n:=l.length) (by omega) (p:=λj=>¬20<(ix l (j:Int)).2.length) (λrec k hk hpre hrec=>⟨by omega,λ_=>IFB.mk (λh=> ?_) (λh=>hrec (by have:=of_decide_eq_false h;omega))⟩) λhall=> ?_
  ·rw[hJ7]
   refine hJ _ ⟨λ_=> .inr (.inr ⟨_,ix_mem (l:=l) (i:=(k:Int)) (by omega) (by omega),by have:=of_decide_eq_true h;omega⟩),λ_=> ?_⟩
   rw[decide_eq_true (by omega:(0:Int)<=(k:Int)),Bool.or_true]
  ·rw[hJ7]
   refine hJ _ ⟨λh=> ?_,λh=> ?_⟩
   ·rw[hb] at h;cases h
   ·simp only[Bool.or_eq_false_iff,decide_eq_false_iff_not] at hb
    rcases h with h|h|⟨v,hv,h⟩
    ·omega
    ·omega
    ·obtain⟨j,hj,rfl⟩:=List.getElem_of_mem hv
     have:=hall j hj
     rw[ix_lt hj] at this
     omega
 ·have hb:(decide ((l.length:Int)<1)||decide ((40:Int)<l.length))=true:=by
   cases hq:(decide ((l.length:Int)<1)||decide ((40:Int)<l.length)) with
   |true=>rfl
   |false=>rw[hq] at hb;cases hb
  refine hJ false ⟨λ_=> ?_,λ_=> ?_⟩
  ·simp only[Bool.or_eq_true,decide_eq_true_eq] at hb
   rcases hb with hb|hb
   ·exact .inl (by omega)
   ·exact .inr (.inl (by omega))
  ·rw[hb,Bool.or_false]
end RE
end Go.Proofs.YtjcjdgmojkkioaaGreatDoor
set_option maxRecDepth 100000
set_option linter.unusedVariables false
namespace Go.Proofs.YtjcjdgmojkkioaaGreatDoor
open Go.RowKit
namespace RE
open PL
namespace PL
def moreV (a:api_Application)(v:api_Version):api_Application:=⟨a.Farm,a.Year,a.Versions++[v]⟩
open Classical in
noncomputable def amendS (a:api_Application) (v:api_Version) (o la e:Int):api_Application×Int:=
 if chkS a o la e≠0 then (a,chkS a o la e) else if chkS (moreV a v) o la e≠0 then (a,chkS (moreV a v) o la e) else (moreV a v,0)
def bigV (v:api_Version):Prop:=v.Lines.length<=2000000/\∀x∈v.Lines,x.Region.1.length<=2000000
def bigA (a:api_Application):Prop:=a.Versions.length<=1999999/\∀v∈a.Versions,bigV v
end PL
def pamend_P (a:api_Application)(v:api_Version)(o:Int)(la:Int)(e:Int)(post:api_Application->Int->Prop):Prop:=(bigA a/\bigV v)/\post ((amendS a v o la e).1) ((amendS a v o la e).2)
def pamend_sp:Spec:=⟨9,false,true,[.st .api_Application,.st .api_Version,.int .i64,.int .i64,.int .i64],.tup [.dat (.st .api_Application),.dat (.int .i64)],λx post=>pamend_P (x.1:api_Application) (x.2.1:api_Version) (x.2.2.1:Int) (x.2.2.2.1:Int) (x.2.2.2.2.1:Int) (λy0 y1=>post (y0,y1,()))⟩
def pamend_C:CtxR:=⟨tau,[rule1 pcheck_sp,rule1 pwholeO_sp,rule1 pcopied_sp],lookJ [(0,1000005,⟨[],[(4,[.dat (.int .i64),.dat (.int .i64),.own 33 (.st .api_Version)])],[27,28,29,30,31,32,33],[3],[]⟩)]⟩
def pamend_W (a:api_Application)(v:api_Version)(o:Int)(la:Int)(e:Int)(post:api_Application->Int->Prop):Prop:=True/\IFB (!decide (chkS {Farm:=a.1,Year:=a.2,Versions:=a.3:api_Application} o la e=0)) ((a.3.length<=2000000/\∀(v1:api_Version),v1∈a.3->v1.2.length<=2000000/\∀(v2:api_Line),v2∈v1.2->v2.2.1.length<=2000000)/\post {Farm:=a.1,Year:=a.2,Versions:=a.3:api_Application} (chkS {Farm:=a.1,Year:=a.2,Versions:=a.3:api_Application} o la e)) ((a.3.length<=2000000/\∀(v3:api_Version),v3∈a.3->v3.2.length<=2000000/\∀(v4:api_Line),v4∈v3.2->v4.2.1.length<=2000000)/\JOIN [Ty.int IntKind.i64,Ty.int IntKind.i64,(Ty.st Sn.api_Version).sl] (λ(y5 y6:Int) (y7:List api_Version)=>True/\IFB (!decide (chkS (⟨y5,y6,y7⟩:api_Application) o la e=0)) ((a.3.length<=2000000/\∀(v8:api_Version),v8∈a.3->v8.2.length<=2000000/\∀(v9:api_Line),v9∈v8.2->v9.2.1.length<=2000000)/\post {Farm:=a.1,Year:=a.2,Versions:=a.3:api_Application} (chkS (⟨y5,y6,y7⟩:api_Application) o la e)) (post (⟨y5,y6,y7⟩:api_Application) 0)) λ(J10:Int->Int->List api_Version->Prop)=>(v.2.length<=2000000/\∀(v11:api_Line),v11∈v.2->v11.2.1.length<=2000000)/\(a.3.length+[{Day:=v.1,Lines:=v.2:api_Version}].length) * (32:Nat)<=140737488355328/\J10 a.1 a.2 (a.3++[{Day:=v.1,Lines:=v.2:api_Version}]))
theorem pamend_w (a:api_Application)(v:api_Version)(o:Int)(la:Int)(e:Int)(post:dens (shT pamend_sp.rs [])->Prop):pamend_W a v o la e (λy0 y1=>post (y0,y1,()))=walkG (callR Tryz.prog pamend_C (drawR Tryz.prog tau) 8 0) 9 false [tv (.st .api_Application) a,tv (.st .api_Version) v,tv (.int .i64) o,tv (.int .i64) la,tv (.int .i64) e] pamend_sp.rs post:=by kernel_rfl
theorem pamend_of (h:∀(a:api_Application)(v:api_Version)(o:Int)(la:Int)(e:Int)(post:api_Application->Int->Prop),pamend_P a v o la e post->pamend_W a v o la e post):SpecOK Tryz.prog pamend_sp:=SpecOK.of_rules (C:=pamend_C) (dr:=drawR Tryz.prog tau) (n:=8) (fk:=0) (.cons (rule1_ok pcheck_ok) (.cons (rule1_ok pwholeO_ok) (.cons (rule1_ok pcopied_ok) .nil))) (drawR_ok tau) λx post hp=>HoldW.of (pamend_w x.1 x.2.1 x.2.2.1 x.2.2.2.1 x.2.2.2.2.1 post) (h x.1 x.2.1 x.2.2.1 x.2.2.2.1 x.2.2.2.2.1 (λy0 y1=>post (y0,y1,())) hp)
theorem pamend_ok:SpecOK Tryz.prog pamend_sp:=pamend_of λa v o la e post hp=>by
 obtain⟨⟨⟨ha1,ha2⟩,hv1,hv2⟩,hp⟩:=hp
 obtain⟨f,y,l⟩:=a
 obtain⟨d,m⟩:=v
 unfold amendS moreV at hp
 unfold pamend_W
 dsimp only at hp ha1 ha2 hv1 hv2 ⊢
 have hA:l.length<=2000000/\∀v∈l,v.2.length<=2000000/\∀x∈v.2,x.2.1.length<=2000000:=⟨by omega,λv hv=>ha2 v hv⟩
 refine⟨trivial,IFB.mk (λhb=>⟨hA,?_⟩) (λhb=>⟨hA,?_⟩)⟩
 ·have hb:chkS ⟨f,y,l⟩ o la e≠0:=by simpa using hb
  rw[if_pos hb] at hp
  exact hp
 ·have hb:¬(chkS ⟨f,y,l⟩ o la e≠0):=by simpa using hb
  rw[if_neg hb] at hp
  refine JOIN.opq λ(J10:Int->Int->List api_Version->Prop) hJ10=>⟨⟨hv1,hv2⟩,by simp only[List.length_cons,List.length_nil];omega,?_⟩
  rw[hJ10]
  dsimp only
  refine⟨trivial,IFB.mk (λhb=>⟨hA,?_⟩) (λhb=> ?_)⟩
  ·have hb:chkS ⟨f,y,l++[⟨d,m⟩]⟩ o la e≠0:=by simpa using hb
   rw[if_pos hb] at hp
   exact hp
  ·have hb:¬(chkS ⟨f,y,l++[⟨d,m⟩]⟩ o la e≠0):=by simpa using hb
   rw[if_neg hb] at hp
   exact hp
def pamendV_P (a:api_Application)(v:api_Version)(o:Int)(la:Int)(e:Int)(post:api_Application->Int->Prop):Prop:=(bigA a/\bigV v)/\∀(b:api_Application)(q:Int),(b,q)=amendS a v o la e->post b q
def pamendV_sp:Spec:=⟨9,false,true,[.st .api_Application,.st .api_Version,.int .i64,.int .i64,.int .i64],.tup [.dat (.st .api_Application),.dat (.int .i64)],λx post=>pamendV_P (x.1:api_Application) (x.2.1:api_Version) (x.2.2.1:Int) (x.2.2.2.1:Int) (x.2.2.2.2.1:Int) (λy0 y1=>post (y0,y1,()))⟩
theorem pamendV_ok:SpecOK Tryz.prog pamendV_sp:=λx post hp=>pamend_ok x post (by
 exact⟨hp.1,hp.2 _ _ rfl⟩)
end RE
end Go.Proofs.YtjcjdgmojkkioaaGreatDoor
namespace Go.Proofs.YtjcjdgmojkkioaaGreatDoor
open Go.RowKit Go.Shelf
set_option linter.unusedVariables false
attribute [local go_sem] Oper.semAt_some
namespace Back
theorem int_eq {a b:Int}(h:a=b):Value.int .i64 a= .int .i64 b:=by rw[h]
def elt (vs:Nat->Value)(i:Nat):Value:= .agg #[vs (i * 2),vs (i * 2+1)]
def enc (vs:Nat->Value)(i:Nat):Array Value:= #[.int .i64 (i:Int),elt vs i]
def seq (len k:Nat):List Nat:=(List.range k).map λj=>len-1-j
theorem seq_succ (len k:Nat):seq len (k+1)=seq len k++[len-1-k]:=by simp[seq,List.range_succ]
theorem seq_length (len k:Nat):(seq len k).length=k:=by simp[seq]
set_option maxRecDepth 100000 in
set_option maxHeartbeats 2000000 in
theorem back1_in (F:Fence)(n:Nat)(h7:F.fn 120)(hro:F.round=none)(hn:1<=n)(l Bs n₀ b off len cap:Nat)(vs:Nat->Value)(h1:∀j,j<2 * len->(vs j).oneCell'=true)(hreach:len<=4398046510976)(hb:b<n₀)(J Jx:List Nat->World->Prop)
 (hY:∀pre x W,J pre W->pre.length<len->YieldAt F (n-1) Tryz.prog l (enc vs x) W λe W'=>
  (e= .returned (.bool true)/\J (pre++[x]) W'/\Below n₀ W W')\/(e= .returned (.bool false)/\Jx (pre++[x]) W'))
 (W:World) (hBs:W.cell? ⟨Bs,0,none⟩=some (.slice (some ⟨b,off,none⟩) len cap)) (hBn:Bs<n₀) (hc:∀j,j<2 * len->W.cell? ⟨b,off+j,none⟩=some (vs j)) (h0:J [] W):
 CallsIn F n Tryz.prog 120 #[.func (.yield l) #[] #[],.pointer (some ⟨Bs,0,none⟩)] W λe W'=>(∃v,e= .returned v)/\
  (J (seq len len) W'\/(∃k,k<=len/\Jx (seq len k) W')):=by
 refine callsIn_of_wp Tryz.func120 rfl h7 ?_ hro
 simp only[Tryz.ntmps120,List.size_toArray,List.length_cons,List.length_nil,Nat.reduceAdd,Nat.reduceSub,Array.replicate_succ,Array.replicate_zero,List.push_toArray,List.append_toArray,List.nil_append,List.cons_append]
 gi_wp2
 gi_loopw [3] (λi wr=>∃k:Nat,k<=len/\i= .int .i64 ((len:Int)-1-k)/\J (seq len k) wr/\Below n₀ W wr)
  (λi _=>(intOf i+1).toNat)
 case atStart=>exact⟨0,Nat.zero_le _,int_eq (by omega),h0,Below.refl _ _⟩
 case round=>
  obtain⟨k,hk,rfl,hJs,hnx⟩:=hrel
  by_cases hlt:k<len
  ·have hge:(0:Int)<=(len:Int)-1-k:=by omega
   have e0:(len:Int)-1-k=((len-1-k:Nat):Int):=by omega
   obtain⟨i,hi⟩:∃i,len-1-k=i:=⟨_,rfl⟩
   rw[hi] at e0
   have hil:i<len:=by omega
   have hcx:wr.cell? ⟨b,off+i * 2,none⟩=some (vs (i * 2)):=(hnx.cell (p:=⟨b,off+i * 2,none⟩) hb).trans (hc (i * 2) (by omega))
   have hcy:wr.cell? ⟨b,off+i * 2+1,none⟩=some (vs (i * 2+1)):=(hnx.cell (p:=⟨b,off+i * 2+1,none⟩) hb).trans (by have:=hc (i * 2+1) (by omega);rwa [<-Nat.add_assoc] at this)
   have hBw:=(hnx.cell (p:=⟨Bs,0,none⟩) hBn).trans hBs
   obtain⟨fn,tmps,assign,body,hy,hR⟩:=hY _ i wr hJs (by rw[seq_length];exact hlt)
   have ho1:=h1 (i * 2) (by omega)
   have ho2:=h1 (i * 2+1) (by omega)
   rw[e0]
   clear hge e0
   unfold enc elt at hy
   gi_wp2
   refine hR.mono ?_
   rintro e W3 (⟨rfl,hJ3,hk3⟩|⟨rfl,hJx3⟩)
   ·gi_wp2
    go_roundw
    case rel=>exact⟨k+1,by omega,int_eq (by omega),by rw[seq_succ,hi];exact hJ3,hnx.trans hk3⟩
    case measure=>simp[intOf]
   ·gi_wp2
    refine bodyPost_ret (results_none rfl _ _ _) rfl ?_
    exact⟨⟨_,rfl⟩,.inr ⟨k+1,by omega,by rw[seq_succ,hi];exact hJx3⟩⟩
  ·obtain rfl:k=len:=by omega
   gi_wp2
   go_end0
   exact⟨⟨_,rfl⟩,.inl hJs⟩
set_option maxHeartbeats 1000000 in
theorem back1_nil_in (F:Fence)(n:Nat)(h7:F.fn 120)(hro:F.round=none)(l Bs:Nat)(a:Option Addr)(cap:Nat)(J:List Nat->World->Prop)(W:World)(hBs:W.cell? ⟨Bs,0,none⟩=some (.slice a 0 cap))(h0:J [] W):
 CallsIn F n Tryz.prog 120 #[.func (.yield l) #[] #[],.pointer (some ⟨Bs,0,none⟩)] W λe W'=>(∃v,e= .returned v)/\J [] W':=by
 refine callsIn_of_wp Tryz.func120 rfl h7 ?_ hro
 simp only[Tryz.ntmps120,List.size_toArray,List.length_cons,List.length_nil,Nat.reduceAdd,Nat.reduceSub,Array.replicate_succ,Array.replicate_zero,List.push_toArray,List.append_toArray,List.nil_append,List.cons_append]
 gi_wp2
 gi_loopw [3] (λi wr=>i= .int .i64 (-1)/\J [] wr) (λ_ _=>0)
 case atStart=>exact⟨rfl,h0⟩
 case round=>
  obtain⟨rfl,hJs⟩:=hrel
  gi_wp2
  go_end0
  exact⟨⟨_,rfl⟩,hJs⟩
set_option maxHeartbeats 1000000 in
theorem back_in (F:Fence)(n:Nat)(h5:F.fn 37)(hro:F.round=none)(a:Option Addr)(len cap:Nat)(w:World):
 CallsIn F n Tryz.prog 37 #[.slice a len cap] w λe w'=>e= .returned (.func (.func 120) #[] #[.pointer (some ⟨w.heap.size,0,none⟩)])/\w'=w.alloc (.cells #[.slice a len cap] 26):=by
 refine callsIn_of_wp Tryz.func37 rfl h5 ?_ hro
 simp only[Tryz.ntmps37,List.size_toArray,List.length_cons,List.length_nil,Nat.reduceAdd,Nat.reduceSub,Array.replicate_succ,Array.replicate_zero,List.push_toArray,List.append_toArray,List.nil_append,List.cons_append]
 gi_wp2
 go_ret
 exact⟨rfl,rfl⟩
def Cells2 (n₀:Nat)(W:World)(a:Option Addr)(len:Nat)(vs:Nat->Value):Prop:=
 len=0\/∃b off,a=some ⟨b,off,none⟩/\b<n₀/\∀j,j<2 * len->W.cell? ⟨b,off+j,none⟩=some (vs j)
theorem Cells2.below {n₀:Nat}{A B:World}(h:Below n₀ A B){a:Option Addr}{len:Nat}{vs:Nat->Value}:Cells2 n₀ A a len vs->Cells2 n₀ B a len vs
 | .inl e=> .inl e
 | .inr ⟨b,off,e,hb,hc⟩=> .inr ⟨b,off,e,hb,λj hj=>(h.cell (p:=⟨b,off+j,none⟩) hb).trans (hc j hj)⟩
theorem back_stops (F:Fence)(n:Nat)(h7:F.fn 120)(hro:F.round=none)(hn:1<=n)(Bs n₀:Nat)(a:Option Addr)(len cap:Nat)(vs:Nat->Value)(h1:∀j,j<2 * len->(vs j).oneCell'=true)(hreach:len<=4398046510976)(w:World)(hBs:Bs<w.heap.size)(hn₀:n₀<=w.heap.size)(hBn:Bs<n₀)
 (hc:w.cell? ⟨Bs,0,none⟩=some (.slice a len cap)) (hI:Cells2 n₀ w a len vs):
 SeqStopsK F n Tryz.prog 120 #[.pointer (some ⟨Bs,0,none⟩)] (enc vs) (Below n₀) (λys=>ys=seq len len) (λpre=>∃k,k<=len/\pre=seq len k) len w:=λl J Jx W hW _ _ hY h0=>by
 have hc':=(hW.cell (p:=⟨Bs,0,none⟩) hBs).trans hc
 rcases hI.below (hW.mono hn₀) with rfl|⟨b,off,rfl,hb,hcs⟩
 ·exact (back1_nil_in F n h7 hro l Bs a cap J W hc' h0).mono λe W' ⟨he,hj⟩=>⟨he,.inl ⟨_,rfl,hj⟩⟩
 ·refine (back1_in F n h7 hro hn l Bs n₀ b off len cap vs h1 hreach hb J Jx hY W hc' hBn hcs h0).mono ?_
  rintro e W' ⟨he,hj|⟨k,hk,hj⟩⟩
  ·exact⟨he,.inl ⟨_,rfl,hj⟩⟩
  ·exact⟨he,.inr ⟨_,⟨k,hk,rfl⟩,hj⟩⟩
end Back
end Go.Proofs.YtjcjdgmojkkioaaGreatDoor
namespace Go.Proofs.YtjcjdgmojkkioaaGreatDoor
open Go.RowKit Go.Shelf
set_option linter.unusedVariables false
set_option maxRecDepth 100000
attribute [local go_sem] Oper.semAt_some
namespace RE
open PL
namespace PL
def inS (l:List api_Version)(d:Int):Option api_Version:=l.reverse.find? λv=>decide (v.Day<=d)
def inR (l:List api_Version)(d:Int)(q:api_Version)(b:Bool):Prop:=(∃v,inS l d=some v/\q=v/\b=true)\/(inS l d=none/\q=⟨0,[]⟩/\b=false)
end PL
namespace InF
def CopR (S:Cells)(n0 B:Nat)(W:World)(d:D)(u:Value):Prop:=∃S':Cells,(∀b o,S' b o->((S b o/\b<n0)\/B<=b)/\b<W.heap.size/\(W.cell? ⟨b,o,none⟩).isSome=true)/\Rd S' W d u
theorem rd_some {S:Cells}{W:World}{d:D}{u:Value}(h:Rd S W d u):Rd (λb o=>S b o/\(W.cell? ⟨b,o,none⟩).isSome=true) W d u:=by
 induction h with
 |v x=>exact .v x
 |fn f cs us hl h ih=>exact .fn f cs us hl ih
 |agg cs us hl h1 h ih=>exact .agg cs us hl h1 ih
 |tup cs us hl h ih=>exact .tup cs us hl ih
 |sl t l ad cap b off f hc hm ha hx h ih=>
  refine .sl t l ad cap b off f hc hm ha (λi hi j hj=> ?_) ih
  obtain⟨h1,h2,h3⟩:=hx i hi j hj
  exact⟨⟨h1,by rw[h2];rfl⟩,h2,h3⟩
 |p cs b off f hx h ih=>
  refine .p cs b off f (λj hj=> ?_) ih
  obtain⟨h1,h2,h3⟩:=hx j hj
  exact⟨⟨h1,by rw[h2];rfl⟩,h2,h3⟩
theorem CopR.keep {S:Cells}{n0 B:Nat}{W W':World}{d:D}{u:Value}(h:CopR S n0 B W d u)(hs:W.heap.size<=W'.heap.size)(hk:∀b,b<W.heap.size->(b<n0\/B<=b)->(∃o,(W.cell? ⟨b,o,none⟩).isSome=true)->W'.heap[b]? =W.heap[b]?):CopR S n0 B W' d u:=by
 obtain⟨S',h1,h2⟩:=h
 have e:∀b o,S' b o->W'.cell? ⟨b,o,none⟩=W.cell? ⟨b,o,none⟩:=λb o hb=>World.cell?_of_block (hk b (h1 b o hb).2.1 ((h1 b o hb).1.imp_left And.right) ⟨o,(h1 b o hb).2.2⟩)
 exact⟨S',λb o hb=>⟨(h1 b o hb).1,Nat.lt_of_lt_of_le (h1 b o hb).2.1 hs,by rw[e b o hb];exact (h1 b o hb).2.2⟩,h2.mono (λ_ _ h=>h) e⟩
theorem CopR.le {S:Cells}{n0 B B':Nat}{W:World}{d:D}{u:Value}(h:CopR S n0 B W d u)(hb:B'<=B):CopR S n0 B' W d u:=by
 obtain⟨S',h1,h2⟩:=h
 exact⟨S',λb o hb'=>⟨(h1 b o hb').1.imp_right (Nat.le_trans hb),(h1 b o hb').2⟩,h2⟩
theorem grownBy_setCell1 (W:World)(b o:Nat)(v:Value):W.grownBy (W.setCell ⟨b,o,none⟩ v) (some b):=
 ⟨rfl,rfl,rfl,by simp,λk _ hk=>Below.heap_setCell _ _ _ k (λe=>hk (by rw[e]))⟩
theorem some_cells {W:World}{b:Nat}(h:∃o,(W.cell? ⟨b,o,none⟩).isSome=true){o:Obj}(ho:W.heap[b]? =some o):o.isCells=true:=by
 obtain⟨k,hk⟩:=h
 cases hc:o.isCells with
 |true=>rfl
 |false=>
  exfalso
  cases o<;>simp[World.cell?,ho,Obj.isCells] at hk hc
def Box2 (W:World)(B:Nat)(t:TypeId)(a b:Value):Prop:=W.heap[B]? =some (.cells #[a,b] t (0,0))
theorem Box2.lt {W:World}{B:Nat}{t:TypeId}{a b:Value}(h:Box2 W B t a b):B<W.heap.size:=(Array.getElem?_eq_some_iff.1 h).1
theorem Box2.cell0 {W:World}{B:Nat}{t:TypeId}{a b:Value}(h:Box2 W B t a b):W.cell? ⟨B,0,none⟩=some a:=by simp[World.cell?,show W.heap[B]? =_ from h]
theorem Box2.cell1 {W:World}{B:Nat}{t:TypeId}{a b:Value}(h:Box2 W B t a b):W.cell? ⟨B,1,none⟩=some b:=by simp[World.cell?,show W.heap[B]? =_ from h]
theorem Box2.frozen {W:World}{B o:Nat}{t:TypeId}{a b:Value}(h:Box2 W B t a b):W.frozen? ⟨B,o,none⟩=false:=by simp[World.frozen?,show W.heap[B]? =_ from h]
theorem Box2.kept {W W':World}{row:Option Nat}{B:Nat}{t:TypeId}{a b:Value}(h:Box2 W B t a b)(hg:W.grownBy W' row)(hne:some B≠row):Box2 W' B t a b:=(hg.block B h.lt hne).trans h
theorem Box2.new (W:World)(t:TypeId)(a b:Value):Box2 (W.alloc (.cells #[a,b] t)) W.heap.size t a b:=World.alloc_heap_new W _
theorem Box2.keep {W W':World}{B:Nat}{t:TypeId}{a b:Value}(h:Box2 W B t a b)(hk:W'.heap[B]? =W.heap[B]?):Box2 W' B t a b:=hk.trans h
theorem Box2.set0 {W:World}{B:Nat}{t:TypeId}{a b:Value}(x:Value)(h:Box2 W B t a b):Box2 (W.setCell ⟨B,0,none⟩ x) B t x b:=by
 obtain⟨hlt,hk⟩:=Array.getElem?_eq_some_iff.1 h
 show (W.heap.modify B _)[B]? =_
 rw[Array.getElem?_eq_getElem (by rw[Array.size_modify];exact hlt),Array.getElem_modify_self,hk]
 rfl
theorem Box2.set1 {W:World}{B:Nat}{t:TypeId}{a b:Value}(x:Value)(h:Box2 W B t a b):Box2 (W.setCell ⟨B,1,none⟩ x) B t a x:=by
 obtain⟨hlt,hk⟩:=Array.getElem?_eq_some_iff.1 h
 show (W.heap.modify B _)[B]? =_
 rw[Array.getElem?_eq_getElem (by rw[Array.size_modify];exact hlt),Array.getElem_modify_self,hk]
 rfl
theorem inS_some {l:List api_Version}{d:Int}{k:Nat}(hk:k<l.length)(h1:∀j,j<k->¬(ix l ((l.length-1-j:Nat):Int)).Day<=d)(h2:(ix l ((l.length-1-k:Nat):Int)).Day<=d):inS l d=some (ix l ((l.length-1-k:Nat):Int)):=by
 unfold inS
 rw[List.find?_eq_some_iff_getElem]
 refine⟨by simpa using h2,k,by simpa using hk,?_,λj hj=> ?_⟩
 ·rw[List.getElem_reverse,ix_lt (by omega)]
 ·rw[List.getElem_reverse]
  have:=h1 j hj
  rw[ix_lt (by omega)] at this
  simpa using this
theorem inS_none {l:List api_Version}{d:Int}(h1:∀j,j<l.length->¬(ix l ((l.length-1-j:Nat):Int)).Day<=d):inS l d=none:=by
 unfold inS
 rw[List.find?_eq_none]
 intro v hv
 obtain⟨j,hj,rfl⟩:=List.getElem_of_mem hv
 rw[List.getElem_reverse]
 have hj:j<l.length:=by simpa using hj
 have:=h1 j hj
 rw[ix_lt (by omega)] at this
 simpa using this
theorem Boxed.keep0 {n₀:Nat}{W W':World}{B:Nat}{t:TypeId}{v:Value}(h:Boxed W B t v)(hb:Below n₀ W W')(hk:B<n₀):Boxed W' B t v:=(hb.block B hk).trans h
theorem seq_mem {len k j:Nat}(h:j<k):len-1-j∈Back.seq len k:=by
 unfold Back.seq
 exact List.mem_map.2 ⟨j,List.mem_range.2 h,rfl⟩
theorem seq_snoc {len k i:Nat}{pre:List Nat}(h:pre++[i]=Back.seq len k):∃m,k=m+1/\pre=Back.seq len m/\i=len-1-m:=by
 match k,h with
 |0,h=>simp[Back.seq] at h
 |m+1,h=>
  rw[Back.seq_succ] at h
  obtain⟨e1,e2⟩:=List.append_inj' h rfl
  injection e2 with e2
  exact⟨m,rfl,e1,e2⟩
def IxP (S:Cells)(n0 B:Nat)(l:List api_Version)(d:Int)(c:Code)(pre:List Nat)(W:World):Prop:=
 c= .ret/\∃i pre0,pre=pre0++[i]/\(∀j∈pre0,¬(ix l ((j:Nat):Int)).Day<=d)/\(ix l ((i:Nat):Int)).Day<=d/\∃a2 n2 c2,Box2 W (n0+1+1) 33 (.int .i64 (ix l ((i:Nat):Int)).Day) (.slice a2 n2 c2)/\Boxed W (n0+1+1+1) 4 (.bool true)/\CopR S n0 B W (.sl (.st .api_Line) (ix l ((i:Nat):Int)).Lines) (.slice a2 n2 c2)
theorem grown_ne {W W':World}{row:Option Nat}(hr:∀r,row=some r->∃o:Obj,W.heap[r]? =some o/\o.isCells=false){b:Nat}{o:Obj}(ho:W.heap[b]? =some o)(hc:o.isCells=true):some b≠row:=λe=>by
 obtain⟨o',h1,h2⟩:=hr b e.symm
 rw[ho] at h1;injection h1 with h1;subst h1;rw[hc] at h2;cases h2
theorem ixP_own (S:Cells)(n0 B:Nat)(l:List api_Version)(d:Int)(c:Code):Own (IxP S n0 B l d c):=λs W W' row h hg hr=>by
 obtain⟨h1,i,pre0,h2,h3,h4,a2,n2,c2,h5,h6,h7⟩:=h
 refine⟨h1,i,pre0,h2,h3,h4,a2,n2,c2,h5.kept hg (grown_ne (W':=W') hr h5 rfl),h6.kept hg (grown_ne (W':=W') hr h6 rfl),h7.keep hg.size λb hb _ ho=>hg.block b hb λe=> ?_⟩
 obtain⟨o,k1,k2⟩:=hr b e.symm
 rw[some_cells ho k1] at k2;cases k2
set_option maxHeartbeats 4000000 in
theorem inf_any (S:Cells)(l:List api_Version)(f y d:Int)(ad:Option Addr)(cap:Nat)(w:World)(vs:Nat->Value)(h1:∀j,(vs j).oneCell'=true)(hday:∀i:Nat,vs (i * 2)= .int .i64 (ix l (i:Int)).Day)(hsl:∀i:Nat,∃a n c,vs (i * 2+1)= .slice a n c)(hreach:l.length<=4398046510976)
 (hcells:Back.Cells2 w.heap.size w ad l.length vs)
 (hcop:∀(i:Nat)(W:World),Below w.heap.size w W->Calls Tryz.prog 36 #[Back.elt vs i] W λe W'=>∃a2 n2 c2,e= .returned (.agg #[.int .i64 (ix l (i:Int)).Day,.slice a2 n2 c2])/\CopR S w.heap.size W.heap.size W' (.sl (.st .api_Line) (ix l (i:Int)).Lines) (.slice a2 n2 c2)/\Below W.heap.size W W'):
 Calls Tryz.prog 10 #[.agg #[.int .i64 f,.int .i64 y,.slice ad l.length cap],.int .i64 d] w λe w'=>∃(q:api_Version)(u:Value)(b:Bool),e= .returned (.tuple #[.agg #[.int .i64 q.Day,u],.bool b])/\inR l d q b/\CopR S w.heap.size w.heap.size w' (.sl (.st .api_Line) q.Lines) u/\Below w.heap.size w w':=by
 obtain⟨len,hlen⟩:∃len,l.length=len:=⟨_,rfl⟩
 rw[hlen] at hreach hcells ⊢
 have hlen':=Lib.hid hlen
 clear hlen
 refine (callsIn_wide (n:=6)).1 ?_
 refine callsIn_of_wp_marks Tryz.func10 rfl trivial ?_ rfl
 simp only[Tryz.ntmps10,List.size_toArray,List.length_cons,List.length_nil,Nat.reduceAdd,Nat.reduceSub,Array.replicate_succ,Array.replicate_zero,List.push_toArray,List.append_toArray,List.nil_append,List.cons_append]
 gi_wp2_with fail
 refine⟨trivial,(Back.back_in Fence.wide 5 trivial rfl _ _ _ _).mono ?_⟩
 rintro e w' ⟨rfl,rfl⟩
 gi_wp2
 have hB0:Below w.heap.size w (((((w.alloc (.cells #[.int .i64 f,.int .i64 y,.slice ad len cap] 35)).alloc (.cells #[.int .i64 d] 3)).alloc (.cells #[.int .i64 0,.slice none 0 0] 33)).alloc (.cells #[.bool false] 4)).alloc (.cells #[.slice ad len cap] 26)):=
  (((((Below.refl _ w).alloc (Nat.le_refl _) _).alloc (by simp) _).alloc (by simp;omega) _).alloc (by simp;omega) _).alloc (by simp;omega) _
 have bD:=(((Boxed.new (w.alloc (.cells #[.int .i64 f,.int .i64 y,.slice ad len cap] 35)) 3 (.int .i64 d)).alloc (.cells #[.int .i64 0,.slice none 0 0] 33)).alloc (.cells #[.bool false] 4)).alloc (.cells #[.slice ad len cap] 26)
 have bV:=((Box2.new ((w.alloc (.cells #[.int .i64 f,.int .i64 y,.slice ad len cap] 35)).alloc (.cells #[.int .i64 d] 3)) 33 (.int .i64 0) (.slice none 0 0)).kept (World.grownBy_alloc _ (.cells #[.bool false] 4) none) (by simp)).kept (World.grownBy_alloc _ (.cells #[.slice ad len cap] 26) none) (by simp)
 have bR:=(Boxed.new (((w.alloc (.cells #[.int .i64 f,.int .i64 y,.slice ad len cap] 35)).alloc (.cells #[.int .i64 d] 3)).alloc (.cells #[.int .i64 0,.slice none 0 0] 33)) 4 (.bool false)).alloc (.cells #[.slice ad len cap] 26)
 have bS:=Boxed.new ((((w.alloc (.cells #[.int .i64 f,.int .i64 y,.slice ad len cap] 35)).alloc (.cells #[.int .i64 d] 3)).alloc (.cells #[.int .i64 0,.slice none 0 0] 33)).alloc (.cells #[.bool false] 4)) 26 (.slice ad len cap)
 have hsz:(((((w.alloc (.cells #[.int .i64 f,.int .i64 y,.slice ad len cap] 35)).alloc (.cells #[.int .i64 d] 3)).alloc (.cells #[.int .i64 0,.slice none 0 0] 33)).alloc (.cells #[.bool false] 4)).alloc (.cells #[.slice ad len cap] 26)).heap.size=w.heap.size+5:=by simp
 simp only[World.size_alloc] at bD bV bR bS
 obtain⟨W0,hW0⟩:∃W0,(((((w.alloc (.cells #[.int .i64 f,.int .i64 y,.slice ad len cap] 35)).alloc (.cells #[.int .i64 d] 3)).alloc (.cells #[.int .i64 0,.slice none 0 0] 33)).alloc (.cells #[.bool false] 4)).alloc (.cells #[.slice ad len cap] 26))=W0:=⟨_,rfl⟩
 rw[hW0] at hB0 bD bV bR bS hsz ⊢
 clear hW0
 refine wpIn_rangeFunc_ownH rfl (by omega) (gf:=120) (lb:= #[.pointer (some ⟨w.heap.size+1+1+1+1,0,none⟩)]) rfl trivial (enters_of Tryz.func120 (by kernel_rfl) rfl)
  (Back.back_stops Fence.wide 5 trivial rfl (by omega) (w.heap.size+1+1+1+1) (w.heap.size+5) ad len cap vs (λj _=>h1 j) hreach W0 (by omega) (by omega) (by omega) bS.cell (by
   rcases hcells with h|⟨b,off,h2,h3,h4⟩
   ·exact .inl h
   ·exact .inr ⟨b,off,h2,by omega,λj hj=>(hB0.cell (p:=⟨b,off+j,none⟩) h3).trans (h4 j hj)⟩)) belowK_t (belowK_b (by omega)) (Below.refl _ _) (λ_=>rfl)
  (λpre W=>(∀i∈pre,¬(ix l ((i:Nat):Int)).Day<=d)/\Below (w.heap.size+5) W0 W)
  (λc pre W=>IxP S w.heap.size (w.heap.size+5) l d c pre W/\Below w.heap.size w W)
  (OwnFrom.and (ownFrom_pure _ _) (ownFrom_below (by omega) (by omega)))
  (λc=>OwnFrom.and (Own.from (ixP_own _ _ _ _ _ c) _) (ownFrom_below (Nat.le_refl _) (by omega)))
  ⟨by simp,Below.refl _ _⟩
  (λx a' W=>∃Bx,w.heap.size+5<=Bx/\Box2 W Bx 33 (vs (x * 2)) (vs (x * 2+1))/\a'={tmps:= #[.agg #[.int .i64 f,.int .i64 y,.slice ad len cap],.int .i64 d,.pointer (some ⟨w.heap.size,0,none⟩),.pointer (some ⟨w.heap.size+1,0,none⟩),.pointer (some ⟨w.heap.size+1+1,0,none⟩),.pointer (some ⟨w.heap.size+1+1+1,0,none⟩),undef,.pointer (some ⟨Bx,0,none⟩),.pointer (some ⟨w.heap.size,2,none⟩),.slice ad len cap,.func (.func 120) #[] #[.pointer (some ⟨w.heap.size+1+1+1+1,0,none⟩)],.int .i64 (x:Int),.agg #[vs (x * 2),vs (x * 2+1)],undef,undef,undef,undef,undef,undef,undef],defers:=[]})
  (λx a' _ X Y row hs hg hr=>by obtain⟨Bx,q1,q2,q3⟩:=hs;exact⟨Bx,q1,q2.kept hg (grown_ne (W':=Y) (λr e=>(hr r e).2) q2 rfl),q3⟩)
  ?assign ?body ?done ?stop
 case assign=>
  rintro lp pre x W K ⟨hp,hB⟩ hK
  obtain⟨a3,n3,c3,hs3⟩:=hsl x
  have hd3:=hday x
  have hWs:=hB.size
  clear hday hsl h1 hcop hcells bD bV bR bS hB0
  unfold Back.enc Back.elt
  gi_wp2
  exact hK _ _ ((KeepsOthers.alloc _ _).from _) ((Below.refl _ W).alloc (by omega) _) ⟨hp,hB.alloc (by omega) _⟩ ⟨W.heap.size,by omega,by rw[hd3,hs3];exact Box2.new W _ _ _,by rw[hd3,hs3]⟩
 case body=>
  rintro lp pre x a' W hl ⟨r,hr⟩ ⟨hp,hB⟩ ⟨Bx,hBx,bX,rfl⟩ hlt
  obtain⟨a3,n3,c3,hs3⟩:=hsl x
  have hd3:=hday x
  have hwW:Below w.heap.size w W:=hB0.trans (hB.mono (by omega))
  have hc3:=hcop x W hwW
  unfold Back.elt at hc3
  rw[hd3,hs3] at bX hc3
  have hWs:=hB.size
  have bDW:=Boxed.keep0 bD hB (by omega)
  have bVW:=bV.keep (hB.block _ (by omega))
  have bRW:=Boxed.keep0 bR hB (by omega)
  have c0:=bX.cell0
  have c1:=bX.cell1
  have cD:=bDW.cell
  clear hday hsl h1 hcop hcells bS hB0 bD bV bR
  have hp':=Lib.hid hp
  clear hp
  obtain⟨dx,hdx⟩:∃dx,(ix l (x:Int)).Day=dx:=⟨_,rfl⟩
  have hdx':=Lib.hid hdx
  rw[hdx] at hc3 c0 bX
  clear hdx hd3 hs3
  have hc3':=Lib.hid hc3
  clear hc3
  gi_wp2
  ·refine⟨trivial,(CallsIn.inRound lp ((callsIn_wide (n:=3)).2 hc3'.out)).mono ?_⟩
   rintro e W2 ⟨a2,n2,c2,rfl,hcr,hb2⟩
   have v2:=bVW.keep (hb2.block _ (by omega))
   have r2:=Boxed.keep0 bRW hb2 (by omega)
   have v20:=v2.cell0
   have v21:=v2.cell1
   have v2f:=λo=>v2.frozen (o:=o)
   have r20:=r2.cell
   have r2f:=r2.frozen
   clear c0 c1 cD
   gi_wp2
   have hblk:∀k,k≠w.heap.size+1+1->k≠w.heap.size+1+1+1->(((W2.setCell ⟨w.heap.size+1+1,0,none⟩ (.int .i64 dx)).setCell ⟨w.heap.size+1+1,1,none⟩ (.slice a2 n2 c2)).setCell ⟨w.heap.size+1+1+1,0,none⟩ (.bool true)).heap[k]? =W2.heap[k]? :=λk h1 h2=>by
    rw[Below.heap_setCell _ _ _ k (by simpa using h2),Below.heap_setCell _ _ _ k (by simpa using h1),Below.heap_setCell _ _ _ k (by simpa using h1)]
   have hsE:(((W2.setCell ⟨w.heap.size+1+1,0,none⟩ (.int .i64 dx)).setCell ⟨w.heap.size+1+1,1,none⟩ (.slice a2 n2 c2)).setCell ⟨w.heap.size+1+1+1,0,none⟩ (.bool true)).heap.size=W2.heap.size:=by simp
   refine⟨⟨by rw[hsE];exact hb2.size,λk o hk ho _=> ?_⟩,⟨rfl,x,pre,rfl,λj hj=>by have:=hp'.out j hj;omega,by rw[hdx'.out];omega,a2,n2,c2,?_,?_,?_⟩,?_⟩
   ·have hkl:=(Array.getElem?_eq_some_iff.1 ho).1
    rw[hblk k (by omega) (by omega),hb2.block k hkl,ho]
   ·rw[hdx'.out]
    exact ((v2.set0 (.int .i64 dx)).set1 (.slice a2 n2 c2)).keep (Below.heap_setCell _ _ _ _ (by simp))
   ·refine Boxed.set (v:= .bool false) _ ?_
    exact Boxed.kept (Boxed.kept r2 (grownBy_setCell' _ _ _) (by simp)) (grownBy_setCell1 _ _ _ _) (by simp)
   ·refine (hcr.le (by omega)).keep (by rw[hsE];exact Nat.le_refl _) λb _ hb _=>hblk b (by omega) (by omega)
   ·exact hwW.trans ((hb2.mono (by omega)).trans ((((Below.refl _ W2).setCell (p:=⟨w.heap.size+1+1,0,none⟩) (by simp;omega) _).setCell (p:=⟨w.heap.size+1+1,1,none⟩) (by simp;omega) _).setCell (p:=⟨w.heap.size+1+1+1,0,none⟩) (by simp;omega) _))
  ·refine⟨KeepsFrom.refl _ _,Below.refl _ _,λi hi=> ?_,hB⟩
   rcases List.mem_append.1 hi with hi|hi
   ·have:=hp'.out i hi;omega
   ·rw[List.mem_singleton] at hi;subst hi;rw[hdx'.out];omega
 case done=>
  rintro D xs W hD rfl ⟨hp,hB⟩ hK
  have hWs:=hB.size
  have v2:=bV.keep (hB.block _ (by omega))
  have r2:=Boxed.keep0 bR hB (by omega)
  have v20:=v2.cell0
  have v21:=v2.cell1
  have v2f:=λo=>v2.frozen (o:=o)
  have r20:=r2.cell
  have r2f:=r2.frozen
  have hp':=Lib.hid hp
  clear hday hsl h1 hcop hcells bS bD bV bR hp
  gi_wp2
  have hsE:(((W.setCell ⟨w.heap.size+1+1,0,none⟩ (.int .i64 0)).setCell ⟨w.heap.size+1+1,1,none⟩ (.slice none 0 0)).setCell ⟨w.heap.size+1+1+1,0,none⟩ (.bool false)).heap.size=W.heap.size:=by simp
  have hBE:Below w.heap.size w (((W.setCell ⟨w.heap.size+1+1,0,none⟩ (.int .i64 0)).setCell ⟨w.heap.size+1+1,1,none⟩ (.slice none 0 0)).setCell ⟨w.heap.size+1+1+1,0,none⟩ (.bool false)):=
   hB0.trans ((hB.mono (by omega)).trans ((((Below.refl _ W).setCell (p:=⟨w.heap.size+1+1,0,none⟩) (by simp;omega) _).setCell (p:=⟨w.heap.size+1+1,1,none⟩) (by simp;omega) _).setCell (p:=⟨w.heap.size+1+1+1,0,none⟩) (by simp;omega) _))
  have vE:Box2 (((W.setCell ⟨w.heap.size+1+1,0,none⟩ (.int .i64 0)).setCell ⟨w.heap.size+1+1,1,none⟩ (.slice none 0 0)).setCell ⟨w.heap.size+1+1+1,0,none⟩ (.bool false)) (w.heap.size+1+1) 33 (.int .i64 0) (.slice none 0 0):=((v2.set0 (.int .i64 0)).set1 (.slice none 0 0)).keep (Below.heap_setCell _ _ _ _ (by simp))
  have rE:Boxed (((W.setCell ⟨w.heap.size+1+1,0,none⟩ (.int .i64 0)).setCell ⟨w.heap.size+1+1,1,none⟩ (.slice none 0 0)).setCell ⟨w.heap.size+1+1+1,0,none⟩ (.bool false)) (w.heap.size+1+1+1) 4 (.bool false):=Boxed.set (v:= .bool false) _ (Boxed.kept (Boxed.kept r2 (grownBy_setCell' _ _ _) (by simp)) (grownBy_setCell1 _ _ _ _) (by simp))
  have hKE:(((W.setCell ⟨w.heap.size+1+1,0,none⟩ (.int .i64 0)).setCell ⟨w.heap.size+1+1,1,none⟩ (.slice none 0 0)).setCell ⟨w.heap.size+1+1+1,0,none⟩ (.bool false)).heap[D]? =some (.deferred (some [])):=by
   rw[Below.heap_setCell _ _ _ D (by simp;omega),Below.heap_setCell _ _ _ D (by simp;omega),Below.heap_setCell _ _ _ D (by simp;omega)];exact hK
  generalize (((W.setCell ⟨w.heap.size+1+1,0,none⟩ (.int .i64 0)).setCell ⟨w.heap.size+1+1,1,none⟩ (.slice none 0 0)).setCell ⟨w.heap.size+1+1+1,0,none⟩ (.bool false))=WE at hsE hBE vE rE hKE ⊢
  refine⟨by simp,.inl ⟨_,_,rfl,run_takeDeferred hKE,?_⟩⟩
  have v0:=(vE.kept (grownBy_putObj' WE D (.deferred none)) (by simp;omega))
  have r0:=(rE.kept (grownBy_putObj' WE D (.deferred none)) (by simp;omega))
  have v00:=v0.cell0
  have v01:=v0.cell1
  have r00:=r0.cell
  refine⟨.tuple #[.agg #[.int .i64 0,.slice none 0 0],.bool false],?_,⟨0,[]⟩,.slice none 0 0,.inl ⟨rfl,.inr ⟨?_,rfl,rfl⟩,⟨λ_ _=>False,λ_ _ h=>h.elim,Rd.nil _ _ _ (Nat.zero_le _)⟩,hBE.trans (belowK_b (w:=w) (Nat.le_refl _) _ D _ _ (by omega) hKE rfl rfl)⟩⟩
  ·simp[results,Tryz.f10,go_sem,v00,v01,r00]
  ·refine inS_none λj hj=> ?_
   rw[hlen'.out] at hj ⊢
   have:=hp'.out _ (seq_mem hj)
   omega
 case stop=>
  rintro D c pre W hD ⟨k,hk,hpre⟩ ⟨⟨rfl,i,pre0,hpre2,hp0,hdi,a2,n2,c2,v2,r2,hcr⟩,hB⟩ hK
  have v20:=v2.cell0
  have v21:=v2.cell1
  have r20:=r2.cell
  have hp0':=Lib.hid hp0
  clear hday hsl h1 hcop hcells bS hB0 bD bV bR hp0
  gi_wp2
  refine⟨by simp,.inl ⟨_,_,rfl,run_takeDeferred hK,?_⟩⟩
  have v0:=(v2.kept (grownBy_putObj' W D (.deferred none)) (by simp;omega))
  have r0:=(r2.kept (grownBy_putObj' W D (.deferred none)) (by simp;omega))
  have v00:=v0.cell0
  have v01:=v0.cell1
  have r00:=r0.cell
  rw[hpre2] at hpre
  obtain⟨m,e1,e2,e3⟩:=seq_snoc hpre
  have hin:inS l d=some (ix l (i:Int)):=by
   rw[e3,<-hlen'.out]
   refine inS_some (k:=m) (by rw[hlen'.out];omega) (λj hj=> ?_) (by rw[hlen'.out,<-e3];exact hdi)
   have:=hp0'.out (len-1-j) (by rw[e2];exact seq_mem hj)
   rw[hlen'.out];omega
  refine⟨.tuple #[.agg #[.int .i64 (ix l (i:Int)).Day,.slice a2 n2 c2],.bool true],?_,ix l (i:Int),.slice a2 n2 c2,.inr ⟨rfl,.inl ⟨_,hin,rfl,rfl⟩,?_,hB.trans (belowK_b (w:=w) (Nat.le_refl _) _ D _ _ (by omega) hK rfl rfl)⟩⟩
  ·simp[results,Tryz.f10,go_sem,v00,v01,r00]
  ·refine (hcr.le (by omega)).keep (by simp[World.putObj]) λb hb _ ho=> ?_
   refine World.putObj_heap_other λe=> ?_
   subst e
   have:=some_cells ho hK
   cases this
end InF
end RE
end Go.Proofs.YtjcjdgmojkkioaaGreatDoor
set_option linter.unusedVariables false
set_option maxRecDepth 100000
namespace Go.Proofs.YtjcjdgmojkkioaaGreatDoor
open Go.RowKit
namespace RE
open PL
namespace PL
abbrev Ln:=crosscheck_line
abbrev Fc:=crosscheck_face
noncomputable def andC (a b:List Rc):List Rc:=canonF (comb (howS 2) a b)
noncomputable def notC (a b:List Rc):List Rc:=canonF (comb (howS 3) a b)
def who (L:List Ln)(x y:Int):List api_Place:=(L.filter λl=>cov l.rects x y).map (·.place)
def optF (r:List Rc)(c:List api_Place):List Fc:=if r=[] then [] else [⟨r,c⟩]
noncomputable def face1 (x:Ln) (f:Fc):List Fc:=optF (andC f.rects x.rects) (f.claims++[x.place])++optF (notC f.rects x.rects) f.claims
noncomputable def faceStep (F:List Fc) (seen:List Rc) (x:Ln):List Fc:=F.flatMap (face1 x)++optF (notC x.rects seen) [x.place]
noncomputable def facesG:List Fc->List Rc->List Ln->List Fc
 |F,_,[]=>F
 |F,seen,x::L=>facesG (faceStep F seen x) (seen++x.rects) L
noncomputable def facesS (L:List Ln):List Fc:=facesG [] [] L
structure FacesOK (L:List Ln)(F:List Fc):Prop where
 each:∀f∈F,Canon f.rects/\f.rects≠[]/\f.claims≠[]/\∀x y,cov f.rects x y=true->who L x y=f.claims
 all:∀x y,who L x y≠[]->∃f∈F,cov f.rects x y=true
 ne:F.Pairwise λf g=>f.claims≠g.claims
end PL
theorem cov_and {a b:List Rc}{x y:Int}:cov (andC a b) x y=true↔cov a x y=true/\cov b x y=true:=by
 unfold andC
 rw[(comb_ok (howS_0 2) a b).2]
 unfold comb howS
 simp
theorem cov_not {a b:List Rc}{x y:Int}:cov (notC a b) x y=true↔cov a x y=true/\cov b x y=false:=by
 unfold notC
 rw[(comb_ok (howS_0 3) a b).2]
 unfold comb howS
 simp
theorem can_and (a b:List Rc):Canon (andC a b):=(comb_ok (howS_0 2) a b).1
theorem can_not (a b:List Rc):Canon (notC a b):=(comb_ok (howS_0 3) a b).1
theorem canon_some {l:List Rc}(h:Canon l)(hn:l≠[]):∃x y,cov l x y=true:=by
 apply Classical.byContradiction
 intro hc
 refine hn ((canon_none h).2 λx y=> ?_)
 cases e:cov l x y
 ·rfl
 ·exact absurd ⟨x,y,e⟩ hc
theorem mem_opt {r:List Rc}{c:List api_Place}{g:Fc}:g∈optF r c↔r≠[]/\g=⟨r,c⟩:=by
 unfold optF
 split<;>simp_all
theorem who_snoc {L:List Ln}{l:Ln}{x y:Int}:who (L++[l]) x y=who L x y++(if cov l.rects x y=true then [l.place] else []):=by
 unfold who
 rw[List.filter_append,List.map_append]
 congr 1
 by_cases h:cov l.rects x y=true
 ·simp[h]
 ·simp[h]
theorem who_mem {L:List Ln}{x y:Int}{p:api_Place}:p∈who L x y↔∃l∈L,cov l.rects x y=true/\l.place=p:=by
 unfold who
 simp only[List.mem_map,List.mem_filter]
 constructor
 ·rintro ⟨l,⟨h1,h2⟩,h3⟩;exact⟨l,h1,h2,h3⟩
 ·rintro ⟨l,h1,h2,h3⟩;exact⟨l,⟨h1,h2⟩,h3⟩
theorem who_nil {L:List Ln}{x y:Int}:who L x y=[]↔cov (L.flatMap (·.rects)) x y=false:=by
 constructor
 ·intro h
  cases e:cov (L.flatMap (·.rects)) x y
  ·rfl
  ·unfold cov at e
   rw[List.any_eq_true] at e
   obtain⟨r,hr,h2⟩:=e
   obtain⟨l,hl,hr⟩:=List.mem_flatMap.1 hr
   have:l.place∈who L x y:=who_mem.2 ⟨l,hl,by unfold cov;exact List.any_eq_true.2 ⟨r,hr,h2⟩,rfl⟩
   rw[h] at this;cases this
 ·intro h
  apply Classical.byContradiction
  intro hn
  obtain⟨p,hp⟩:=List.exists_mem_of_ne_nil _ hn
  obtain⟨l,hl,hc,_⟩:=who_mem.1 hp
  unfold cov at hc h
  rw[List.any_eq_true] at hc
  obtain⟨r,hr,h2⟩:=hc
  have:(L.flatMap (·.rects)).any (λr=>hit r x y)=true:=List.any_eq_true.2 ⟨r,List.mem_flatMap.2 ⟨l,hl,hr⟩,h2⟩
  rw[h] at this;cases this
theorem faces_nil:FacesOK [] []:=⟨λf hf=>(by cases hf),λx y h=>absurd rfl h,List.Pairwise.nil⟩
theorem mem_face1 {x:Ln}{f g:Fc}:g∈face1 x f↔(andC f.rects x.rects≠[]/\g=⟨andC f.rects x.rects,f.claims++[x.place]⟩)\/(notC f.rects x.rects≠[]/\g=⟨notC f.rects x.rects,f.claims⟩):=by
 unfold face1
 rw[List.mem_append,mem_opt,mem_opt]
theorem claims_sub {L:List Ln}{F:List Fc}(h:FacesOK L F){f:Fc}(hf:f∈F){p:api_Place}(hp:p∈f.claims):∃l∈L,l.place=p:=by
 obtain⟨h1,h2,_,h3⟩:=h.each f hf
 obtain⟨x,y,hc⟩:=canon_some h1 h2
 rw[<-h3 x y hc] at hp
 obtain⟨l,hl,_,e⟩:=who_mem.1 hp
 exact⟨l,hl,e⟩
theorem snoc_ne {α:Type}{l:List α}{a:α}:l++[a]≠[]:=by simp
theorem faces_step {L:List Ln}{F:List Fc}{l:Ln}(h:FacesOK L F)(hl:∀m∈L,m.place≠l.place):FacesOK (L++[l]) (faceStep F (L.flatMap (·.rects)) l):=by
 have hfresh:∀f∈F,l.place ∉ f.claims:=λf hf hp=>by
  obtain⟨m,hm,e⟩:=claims_sub h hf hp
  exact hl m hm e
 refine⟨λg hg=> ?_,λx y hw=> ?_,?_⟩
 ·unfold faceStep at hg
  rcases List.mem_append.1 hg with hg|hg
  ·obtain⟨f,hf,hg⟩:=List.mem_flatMap.1 hg
   obtain⟨f1,f2,f3,f4⟩:=h.each f hf
   rcases mem_face1.1 hg with⟨hn,rfl⟩|⟨hn,rfl⟩
   ·refine⟨can_and _ _,hn,snoc_ne,λx y hc=> ?_⟩
    obtain⟨c1,c2⟩:=cov_and.1 hc
    rw[who_snoc,if_pos c2,f4 x y c1]
   ·refine⟨can_not _ _,hn,f3,λx y hc=> ?_⟩
    obtain⟨c1,c2⟩:=cov_not.1 hc
    rw[who_snoc,if_neg (by simp[c2]),f4 x y c1,List.append_nil]
  ·obtain⟨hn,rfl⟩:=mem_opt.1 hg
   refine⟨can_not _ _,hn,by simp,λx y hc=> ?_⟩
   obtain⟨c1,c2⟩:=cov_not.1 hc
   rw[who_snoc,if_pos c1,who_nil.2 c2,List.nil_append]
 ·unfold faceStep
  rw[who_snoc] at hw
  by_cases h0:who L x y=[]
  ·have c2:=who_nil.1 h0
   rw[h0,List.nil_append] at hw
   have c1:cov l.rects x y=true:=by
    apply Classical.byContradiction
    intro hn;rw[if_neg hn] at hw;exact hw rfl
   have hc:cov (notC l.rects (L.flatMap (·.rects))) x y=true:=cov_not.2 ⟨c1,c2⟩
   refine⟨⟨notC l.rects (L.flatMap (·.rects)),[l.place]⟩,List.mem_append.2 (.inr (mem_opt.2 ⟨λe=> ?_,rfl⟩)),hc⟩
   rw[e] at hc;cases hc
  ·obtain⟨f,hf,c1⟩:=h.all x y h0
   by_cases c2:cov l.rects x y=true
   ·have hc:cov (andC f.rects l.rects) x y=true:=cov_and.2 ⟨c1,c2⟩
    refine⟨⟨andC f.rects l.rects,f.claims++[l.place]⟩,List.mem_append.2 (.inl (List.mem_flatMap.2 ⟨f,hf,mem_face1.2 (.inl ⟨λe=> ?_,rfl⟩)⟩)),hc⟩
    rw[e] at hc;cases hc
   ·have hc:cov (notC f.rects l.rects) x y=true:=cov_not.2 ⟨c1,by simpa using c2⟩
    refine⟨⟨notC f.rects l.rects,f.claims⟩,List.mem_append.2 (.inl (List.mem_flatMap.2 ⟨f,hf,mem_face1.2 (.inr ⟨λe=> ?_,rfl⟩)⟩)),hc⟩
    rw[e] at hc;cases hc
 ·unfold faceStep
  rw[List.pairwise_append]
  refine⟨?_,?_,?_⟩
  ·rw[List.pairwise_flatMap]
   refine⟨λf hf=> ?_,h.ne.imp_of_mem λ{f g} hf hg hne a ha b hb=> ?_⟩
   ·unfold face1
    rw[List.pairwise_append]
    refine⟨by unfold optF;split<;>simp,by unfold optF;split<;>simp,λa ha b hb=> ?_⟩
    obtain⟨_,rfl⟩:=mem_opt.1 ha
    obtain⟨_,rfl⟩:=mem_opt.1 hb
    simp
   ·rcases mem_face1.1 ha with⟨_,rfl⟩|⟨_,rfl⟩<;>rcases mem_face1.1 hb with⟨_,rfl⟩|⟨_,rfl⟩
    ·intro e;exact hne (List.append_inj_left' e rfl)
    ·intro e
     exact hfresh g hg (by rw[<-e];simp)
    ·intro e
     exact hfresh f hf (by rw[e];simp)
    ·exact hne
  ·unfold optF;split<;>simp
  ·intro a ha b hb
   obtain⟨f,hf,ha⟩:=List.mem_flatMap.1 ha
   obtain⟨_,rfl⟩:=mem_opt.1 hb
   obtain⟨_,_,f3,_⟩:=h.each f hf
   rcases mem_face1.1 ha with⟨_,rfl⟩|⟨_,rfl⟩
   ·intro e
    have e:f.claims++[l.place]=[]++[l.place]:=e
    exact f3 (List.append_inj_left' e rfl)
   ·intro e
    exact hfresh f hf (by rw[e];simp)
theorem facesG_ok:∀{M L:List Ln}{F:List Fc},FacesOK L F->((L++M).map (·.place)).Nodup->FacesOK (L++M) (facesG F (L.flatMap (·.rects)) M)
 |[],L,F,h,_=>by rw[List.append_nil];exact h
 |x::M,L,F,h,hn=>by
  have e:L++x::M=(L++[x])++M:=by simp
  rw[e] at hn ⊢
  have hx:∀m∈L,m.place≠x.place:=λm hm he=>by
   rw[List.map_append,List.map_append,List.nodup_append,List.nodup_append] at hn
   exact hn.1.2.2 m.place (List.mem_map.2 ⟨m,hm,rfl⟩) x.place (by simp) he
  have:=facesG_ok (M:=M) (faces_step h hx) hn
  rw[List.flatMap_append] at this
  simpa [facesG] using this
theorem faces_ok {L:List Ln}(h:(L.map (·.place)).Nodup):FacesOK L (facesS L):=facesG_ok (M:=L) faces_nil h
theorem optF_len {r:List Rc}{c:List api_Place}:(optF r c).length<=1:=by unfold optF;split<;>simp
theorem facesG_app:∀{M:List Ln}{F:List Fc}{seen:List Rc}{x:Ln},facesG F seen (M++[x])=faceStep (facesG F seen M) (seen++M.flatMap (·.rects)) x
 |[],F,seen,x=>by simp[facesG]
 |m::M,F,seen,x=>by
  show facesG _ _ (M++[x])=_
  rw[facesG_app]
  simp[facesG]
end RE
end Go.Proofs.YtjcjdgmojkkioaaGreatDoor
set_option linter.unusedVariables false
set_option maxRecDepth 100000
namespace Go.Proofs.YtjcjdgmojkkioaaGreatDoor
open Go.RowKit
namespace RE
open PL
namespace PL
abbrev Dbl:=api_Double
def befP:List api_Place->List api_Place->Bool
 |[],[]=>false
 |[],_::_=>true
 |_::_,[]=>false
 |a::s,b::t=>if a.1<b.1 then true else if b.1<a.1 then false else if a.2<b.2 then true else if b.2<a.2 then false else befP s t
def toD (f:Fc):Dbl:=⟨⟨f.rects⟩,f.claims⟩
def two (F:List Fc):List Fc:=F.filter λf=>decide (2<=f.claims.length)
def dblsP (L:List Ln)(ds:List Dbl):Prop:=ds.Perm ((two (facesS L)).map toD)/\ds.Pairwise (λa b=>befP a.Claims b.Claims=true)
def insD (d:Dbl)(l:List Dbl):List Dbl:=l.takeWhile (λa=>befP a.Claims d.Claims)++d::l.dropWhile (λa=>befP a.Claims d.Claims)
def sortD (l:List Dbl):List Dbl:=l.foldl (λo d=>insD d o) []
end PL
theorem place_ext {a b:api_Place}(h1:a.1=b.1)(h2:a.2=b.2):a=b:=by
 cases a;cases b;cases h1;cases h2;rfl
theorem bef_irr:∀a:List api_Place,befP a a=false
 |[]=>rfl
 |a::s=>by
  unfold befP
  rw[if_neg (Int.lt_irrefl _),if_neg (Int.lt_irrefl _),if_neg (Int.lt_irrefl _),if_neg (Int.lt_irrefl _)]
  exact bef_irr s
theorem bef_trans:∀{a b c:List api_Place},befP a b=true->befP b c=true->befP a c=true
 |[],[],c,h,_=>by cases h
 |[],_::_,[],_,k=>by cases k
 |[],_::_,_::_,_,_=>rfl
 |_::_,[],c,h,_=>by cases h
 |_::_,_::_,[],_,k=>by cases k
 |a::s,b::t,c::u,h,k=>by
  have ih:=bef_trans (a:=s) (b:=t) (c:=u)
  unfold befP at h k ⊢
  repeat' split at h
  all_goals first
   |(cases h;done)
   |(repeat' split at k
     all_goals first
      |(cases k;done)
      |(repeat' split
        all_goals first|rfl|(exfalso;omega)|exact ih h k))
theorem bef_tri:∀{a b:List api_Place},a≠b->befP a b=true\/befP b a=true
 |[],[],h=>absurd rfl h
 |[],_::_,_=> .inl rfl
 |_::_,[],_=> .inr rfl
 |a::s,b::t,h=>by
  have ih:=bef_tri (a:=s) (b:=t)
  unfold befP
  by_cases h1:a.1<b.1
  ·rw[if_pos h1];exact .inl rfl
  by_cases h2:b.1<a.1
  ·refine .inr ?_;rw[if_pos h2]
  by_cases h3:a.2<b.2
  ·rw[if_neg h1,if_neg h2,if_pos h3];exact .inl rfl
  by_cases h4:b.2<a.2
  ·refine .inr ?_;rw[if_neg h2,if_neg h1,if_pos h4]
  rw[if_neg h1,if_neg h2,if_neg h3,if_neg h4,if_neg h2,if_neg h1,if_neg h4,if_neg h3]
  refine ih λe=>h ?_
  rw[e,place_ext (a:=a) (b:=b) (by omega) (by omega)]
theorem bef_asymm {a b:List api_Place}(h:befP a b=true):befP b a=false:=by
 cases e:befP b a
 ·rfl
 ·have:=bef_trans h e
  rw[bef_irr] at this;cases this
theorem sorted_uniq {a b:List Dbl}(ha:a.Pairwise (λa b=>befP a.Claims b.Claims=true))(hb:b.Pairwise (λa b=>befP a.Claims b.Claims=true))(h:a.Perm b):a=b:=
 List.Perm.eq_of_pairwise (λx y _ _ h1 h2=>by rw[bef_asymm h1] at h2;cases h2) ha hb h
theorem dbls_uniq {L:List Ln}{a b:List Dbl}(ha:dblsP L a)(hb:dblsP L b):a=b:=sorted_uniq ha.2 hb.2 (ha.1.trans hb.1.symm)
theorem insD_perm {d:Dbl}{l:List Dbl}:(insD d l).Perm (d::l):=by
 unfold insD
 have:=List.perm_middle (a:=d) (l₁:=l.takeWhile (λa=>befP a.Claims d.Claims)) (l₂:=l.dropWhile (λa=>befP a.Claims d.Claims))
 rwa [List.takeWhile_append_dropWhile] at this
theorem insD_sorted {d:Dbl}:∀{l:List Dbl},l.Pairwise (λa b=>befP a.Claims b.Claims=true)->(∀a∈l,a.Claims≠d.Claims)->(insD d l).Pairwise (λa b=>befP a.Claims b.Claims=true)
 |[],_,_=>by unfold insD;simp
 |a::l,h,hn=>by
  obtain⟨h1,h2⟩:=List.pairwise_cons.1 h
  have ih:=insD_sorted (d:=d) h2 λb hb=>hn b (List.mem_cons_of_mem _ hb)
  unfold insD at ih ⊢
  rw[List.takeWhile_cons,List.dropWhile_cons]
  by_cases hb:befP a.Claims d.Claims=true
  ·rw[if_pos hb,if_pos hb,List.cons_append]
   refine List.pairwise_cons.2 ⟨λb hb2=> ?_,ih⟩
   have:=(insD_perm (d:=d) (l:=l)).mem_iff.1 hb2
   rcases List.mem_cons.1 this with rfl|hm
   ·exact hb
   ·exact h1 b hm
  ·rw[if_neg hb,if_neg hb,List.nil_append]
   refine List.pairwise_cons.2 ⟨λb hb2=> ?_,h⟩
   have hda:befP d.Claims a.Claims=true:=by
    rcases bef_tri (hn a (List.mem_cons_self ..)) with h|h
    ·exact absurd h hb
    ·exact h
   rcases List.mem_cons.1 hb2 with rfl|hm
   ·exact hda
   ·exact bef_trans hda (h1 b hm)
theorem sortG_ok:∀{l o:List Dbl},o.Pairwise (λa b=>befP a.Claims b.Claims=true)->(o++l).Pairwise (λa b=>a.Claims≠b.Claims)->(l.foldl (λo d=>insD d o) o).Perm (o++l)/\(l.foldl (λo d=>insD d o) o).Pairwise (λa b=>befP a.Claims b.Claims=true)
 |[],o,h,_=>by rw[List.append_nil];exact⟨List.Perm.refl _,h⟩
 |d::l,o,h,hn=>by
  have hd:∀a∈o,a.Claims≠d.Claims:=λa ha=>(List.pairwise_append.1 hn).2.2 a ha d (List.mem_cons_self ..)
  have p1:(insD d o).Perm (o++[d]):=insD_perm.trans (List.perm_append_singleton d o).symm
  have p2:(insD d o++l).Perm (o++d::l):=by
   have:=p1.append_right l
   simpa using this
  obtain⟨q1,q2⟩:=sortG_ok (l:=l) (insD_sorted h hd) (p2.symm.pairwise hn λ{a b} h e=>h e.symm)
  exact⟨q1.trans p2,q2⟩
theorem sortD_ok {l:List Dbl}(h:l.Pairwise (λa b=>a.Claims≠b.Claims)):(sortD l).Perm l/\(sortD l).Pairwise (λa b=>befP a.Claims b.Claims=true):=sortG_ok (o:=[]) List.Pairwise.nil h
theorem two_ne {L:List Ln}{F:List Fc}(h:FacesOK L F):((two F).map toD).Pairwise (λa b=>a.Claims≠b.Claims):=by
 rw[List.pairwise_map]
 exact (h.ne.sublist List.filter_sublist).imp λh=>h
theorem dbls_prog {L:List Ln}(h:(L.map (·.place)).Nodup){ds:List Dbl}(hp:ds.Perm ((two (facesS L)).map toD))(hs:ds.Pairwise λa b=>befP b.Claims a.Claims=false):dblsP L ds:=by
 have n:=hp.symm.pairwise (two_ne (faces_ok h)) λ{a b} h e=>h e.symm
 refine⟨hp,(List.Pairwise.and hs n).imp λ{a b} ⟨h1,h2⟩=> ?_⟩
 rcases bef_tri h2 with h|h
 ·exact h
 ·rw[h1] at h;cases h
end RE
end Go.Proofs.YtjcjdgmojkkioaaGreatDoor
set_option maxRecDepth 100000
set_option linter.unusedVariables false
namespace Go.Proofs.YtjcjdgmojkkioaaGreatDoor
open Go.RowKit
namespace RE
open PL
namespace PL
def plcN (l:List api_Version)(k:Nat):List api_Place:=(List.range k).flatMap λ(i:Nat)=>(List.range (ix l (i:Int)).Lines.length).map λ(j:Nat)=>(⟨(i:Int),(j:Int)⟩:api_Place)
def regN (l:List api_Version)(k:Nat):List api_Region:=(List.range k).flatMap λ(i:Nat)=>(ix l (i:Int)).Lines.map (·.Region)
theorem plcN_succ (l:List api_Version)(k:Nat):plcN l (k+1)=plcN l k++(List.range (ix l (k:Int)).Lines.length).map λ(j:Nat)=>(⟨(k:Int),(j:Int)⟩:api_Place):=by
 unfold plcN;rw[List.range_succ,List.flatMap_append];simp
theorem regN_succ (l:List api_Version)(k:Nat):regN l (k+1)=regN l k++(ix l (k:Int)).Lines.map (·.Region):=by
 unfold regN;rw[List.range_succ,List.flatMap_append];simp
def manyV (l:List api_Version):Prop:=l.length<=1000/\∀v∈l,v.Lines.length<=1000
end PL
end RE
end Go.Proofs.YtjcjdgmojkkioaaGreatDoor
set_option maxRecDepth 100000
set_option linter.unusedVariables false
namespace Go.Proofs.YtjcjdgmojkkioaaGreatDoor
open Go.RowKit
namespace RE
open PL
namespace PL
end PL
end RE
end Go.Proofs.YtjcjdgmojkkioaaGreatDoor
set_option maxRecDepth 100000
set_option linter.unusedVariables false
namespace Go.Proofs.YtjcjdgmojkkioaaGreatDoor
open Go.RowKit
namespace RE
open PL
namespace PL
end PL
end RE
end Go.Proofs.YtjcjdgmojkkioaaGreatDoor
set_option maxRecDepth 100000
set_option linter.unusedVariables false
namespace Go.Proofs.YtjcjdgmojkkioaaGreatDoor
open Go.RowKit
namespace RE
open PL
namespace PL
def thereP (l:List api_Version)(p:api_Place):Prop:=0<=p.1/\p.1<(l.length:Int)/\0<=p.2/\p.2<((ix l p.1).Lines.length:Int)
instance (l:List api_Version) (p:api_Place):Decidable (thereP l p):=by unfold thereP;infer_instance
open Classical in
noncomputable def beginF (l:List api_Version):Int:=if 60<(regN l l.length).length then 1 else if ∀a∈regN l l.length,validP a.1 then 0 else 7
end PL
end RE
end Go.Proofs.YtjcjdgmojkkioaaGreatDoor
set_option linter.unusedVariables false
set_option maxRecDepth 100000
namespace Go.Proofs.YtjcjdgmojkkioaaGreatDoor
open Go.RowKit
namespace RE
open PL
namespace PL
def gat (l:List api_Version)(p:api_Place):List Rc:=(ix (ix l p.1).Lines p.2).Region.Rects
def linN (l:List api_Version)(k:Nat):List Ln:=(List.range k).flatMap λ(i:Nat)=>(List.range (ix l (i:Int)).Lines.length).map λ(j:Nat)=>(⟨⟨(i:Int),(j:Int)⟩,(ix (ix l (i:Int)).Lines (j:Int)).Region.Rects⟩:Ln)
def linV (l:List api_Version):List Ln:=linN l l.length
end PL
theorem place_nat {l:List api_Version}{p:api_Place}(h:thereP l p):∃i j:Nat,p=⟨(i:Int),(j:Int)⟩/\i<l.length/\j<(ix l (i:Int)).Lines.length:=by
 obtain⟨h1,h2,h3,h4⟩:=h
 obtain⟨i,hi⟩:∃i:Nat,p.1=(i:Int):=⟨p.1.toNat,by omega⟩
 obtain⟨j,hj⟩:∃j:Nat,p.2=(j:Int):=⟨p.2.toNat,by omega⟩
 refine⟨i,j,place_ext hi hj,by omega,?_⟩
 rw[hi] at h4
 omega
theorem there_nat {l:List api_Version}{i j:Nat}:thereP l ⟨(i:Int),(j:Int)⟩↔i<l.length/\j<(ix l (i:Int)).Lines.length:=by
 unfold thereP
 constructor
 ·rintro ⟨h1,h2,h3,h4⟩
  have h2:(i:Int)<(l.length:Int):=h2
  have h4:(j:Int)<((ix l (i:Int)).Lines.length:Int):=h4
  exact⟨by omega,by omega⟩
 ·rintro ⟨h1,h2⟩
  refine⟨?_,?_,?_,?_⟩
  ·show (0:Int)<=(i:Int);omega
  ·show (i:Int)<(l.length:Int);omega
  ·show (0:Int)<=(j:Int);omega
  ·show (j:Int)<((ix l (i:Int)).Lines.length:Int);omega
theorem mem_linV {l:List api_Version}{x:Ln}:x∈linV l↔thereP l x.place/\x.rects=gat l x.place:=by
 unfold linV linN
 simp only[List.mem_flatMap,List.mem_map,List.mem_range]
 constructor
 ·rintro ⟨i,hi,j,hj,rfl⟩
  exact⟨there_nat.2 ⟨hi,hj⟩,rfl⟩
 ·rintro ⟨h,e⟩
  obtain⟨i,j,hp,hi,hj⟩:=place_nat h
  refine⟨i,hi,j,hj,?_⟩
  cases x with
  |mk p r=>
   have hp:p=⟨(i:Int),(j:Int)⟩:=hp
   subst hp
   have e:r=gat l ⟨(i:Int),(j:Int)⟩:=e
   subst e
   rfl
theorem linN_places (l:List api_Version)(k:Nat):(linN l k).map (·.place)=plcN l k:=by
 unfold linN plcN
 rw[List.map_flatMap]
 congr 1
 funext i
 rw[List.map_map]
 rfl
theorem plcN_mem {l:List api_Version}{k:Nat}{p:api_Place}:p∈plcN l k↔∃i j:Nat,p=⟨(i:Int),(j:Int)⟩/\i<k/\j<(ix l (i:Int)).Lines.length:=by
 unfold plcN
 simp only[List.mem_flatMap,List.mem_map,List.mem_range]
 constructor
 ·rintro ⟨i,hi,j,hj,rfl⟩;exact⟨i,j,rfl,hi,hj⟩
 ·rintro ⟨i,j,rfl,hi,hj⟩;exact⟨i,hi,j,hj,rfl⟩
theorem plcN_nodup (l:List api_Version):∀k,(plcN l k).Nodup
 |0=>by unfold plcN;simp
 |k+1=>by
  rw[plcN_succ,List.nodup_append]
  refine⟨plcN_nodup l k,?_,?_⟩
  ·rw[List.nodup_iff_pairwise_ne,List.pairwise_map]
   refine (List.nodup_iff_pairwise_ne.1 List.nodup_range).imp λ{a b} h e=>h ?_
   injection e with _ e
   omega
  ·intro a ha b hb e
   subst e
   obtain⟨i,j,rfl,hi,_⟩:=plcN_mem.1 ha
   obtain⟨j2,_,e⟩:=List.mem_map.1 hb
   injection e with e _
   omega
theorem linV_nodup (l:List api_Version):((linV l).map (·.place)).Nodup:=by
 unfold linV
 rw[linN_places]
 exact plcN_nodup l _
theorem dbls_each {L:List Ln}(h:(L.map (·.place)).Nodup){ds:List Dbl}(hd:dblsP L ds):∀d∈ds,Canon d.Region.Rects/\d.Region.Rects≠[]/\2<=d.Claims.length/\∀x y,cov d.Region.Rects x y=true->who L x y=d.Claims:=λd hm=>by
 obtain⟨f,hf,rfl⟩:=List.mem_map.1 (hd.1.mem_iff.1 hm)
 obtain⟨hf,h2⟩:=List.mem_filter.1 hf
 obtain⟨e1,e2,_,e4⟩:=(faces_ok h).each f hf
 exact⟨e1,e2,of_decide_eq_true h2,e4⟩
end RE
end Go.Proofs.YtjcjdgmojkkioaaGreatDoor
set_option linter.unusedVariables false
set_option maxRecDepth 100000
namespace Go.Proofs.YtjcjdgmojkkioaaGreatDoor
open Go.RowKit
namespace RE
open PL
namespace PL
def rowL (l:List api_Version)(k j:Nat):List Ln:=(List.range j).map λ(j:Nat)=>(⟨⟨(k:Int),(j:Int)⟩,(ix (ix l (k:Int)).Lines (j:Int)).Region.Rects⟩:Ln)
end PL
theorem linN_succ (l:List api_Version)(k:Nat):linN l (k+1)=linN l k++rowL l k (ix l (k:Int)).Lines.length:=by
 unfold linN rowL;rw[List.range_succ,List.flatMap_append];simp
theorem rowL_succ (l:List api_Version)(k j:Nat):rowL l k (j+1)=rowL l k j++[⟨⟨(k:Int),(j:Int)⟩,(ix (ix l (k:Int)).Lines (j:Int)).Region.Rects⟩]:=by
 unfold rowL;rw[List.range_succ,List.map_append];rfl
theorem rowL_len (l:List api_Version)(k j:Nat):(rowL l k j).length=j:=by unfold rowL;simp
theorem range_ix {α:Type}[Inhabited α](l:List α):(List.range l.length).map (λ(j:Nat)=>ix l (j:Int))=l:=by
 refine List.ext_getElem (by simp) λi h1 h2=> ?_
 rw[List.getElem_map,List.getElem_range,ix_lt h2]
theorem lin_reg (l:List api_Version)(k:Nat):(linN l k).map (λx=>(⟨x.rects⟩:api_Region))=regN l k:=by
 unfold linN regN
 rw[List.map_flatMap]
 congr 1
 funext i
 rw[List.map_map]
 have h:=congrArg (List.map λx:api_Line=>x.Region) (range_ix (ix l (i:Int)).Lines)
 rw[List.map_map] at h
 exact h
theorem lin_len (l:List api_Version)(k:Nat):(linN l k).length=(regN l k).length:=by rw[<-lin_reg,List.length_map]
theorem linN_le {l:List api_Version}{k:Nat}:∀{n:Nat},k<=n->(linN l k).length<=(linN l n).length
 |0,h=>by rw[Nat.le_zero.1 h];exact Nat.le_refl _
 |n+1,h=>by
  by_cases e:k=n+1
  ·rw[e];exact Nat.le_refl _
  ·have:=linN_le (l:=l) (k:=k) (n:=n) (by omega)
   rw[linN_succ,List.length_append]
   omega
theorem lin_valid {l:List api_Version}:(∀a∈regN l l.length,validP a.1)↔∀x∈linV l,validP x.rects:=by
 rw[<-lin_reg]
 unfold linV
 constructor
 ·intro h x hx
  exact h ⟨x.rects⟩ (List.mem_map.2 ⟨x,hx,rfl⟩)
 ·intro h a ha
  obtain⟨x,hx,rfl⟩:=List.mem_map.1 ha
  exact h x hx
theorem begin_lim {l:List api_Version}{k:Nat}(hk:k<=l.length)(h:60<(linN l k).length):beginF l=1:=by
 unfold beginF
 have:=linN_le (l:=l) hk
 rw[if_pos (by rw[<-lin_len];omega)]
theorem begin_ok {l:List api_Version}(h1:(linV l).length<=60)(h2:∀x∈linV l,validP x.rects):beginF l=0:=by
 unfold beginF
 rw[if_neg (by rw[<-lin_len];show ¬60<(linV l).length;omega),if_pos (lin_valid.2 h2)]
theorem begin_bad {l:List api_Version}(h1:(linV l).length<=60)(h2:¬∀x∈linV l,validP x.rects):beginF l=7:=by
 unfold beginF
 rw[if_neg (by rw[<-lin_len];show ¬60<(linV l).length;omega),if_neg (λh=>h2 (lin_valid.1 h))]
end RE
end Go.Proofs.YtjcjdgmojkkioaaGreatDoor
namespace Go.Proofs.YtjcjdgmojkkioaaGreatDoor
namespace RE
set_option maxRecDepth 100000
open Go.RowKit
open PL
def pmergeN_P (A:List (region_Span))(B:List (region_Span))(post:List (region_Span)->Prop):Prop:=(A.length<=20000/\B.length<=20000)/\post (mergeS 3 A B)
def pmergeN_sp:Spec:=⟨163,false,true,[.sl (.st .region_Span),.sl (.st .region_Span)],.dat (.sl (.st .region_Span)),λx post=>pmergeN_P (x.1:List (region_Span)) (x.2.1:List (region_Span)) (λy0=>post (y0,()))⟩
def pmergeN_C:CtxR:=⟨tau,[rule1 pconc_sp,rule3 ssort_sp,rule2 scompact_sp,rule1 pins_sp],lookJ [(0,23,⟨[(11,.dat (.int .i64)),(10,.own 237 (.st .region_Span))],[],(List.range' 35 52++[12,13]),[],[]⟩),(0,24,⟨[(10,.own 237 (.st .region_Span))],[],(List.range' 41 46++[12,13]),[3],[]⟩),(0,7,⟨[(19,.dat (.int .i64)),(7,.own 3 (.int .i64))],[],(List.range' 20 11++[9]),[],[]⟩)]⟩
def pmergeN_W (A:List (region_Span))(B:List (region_Span))(post:List (region_Span)->Prop):Prop:=((A.append (B.append [])).length<=100000/\[A,B].length<=10)/\((↑(A.append (B.append [])).length:Int)<=9223372036854775807->LOOP [Ty.int IntKind.i64,(Ty.int IntKind.i64).sl] (λ(rec1:Int->List Int->Prop) (z2:Int) (z3:List Int)=>IFB (decide (z2<(↑(A.append (B.append [])).length:Int))) (((0:Int)<=z2/\z2<(↑(A.append (B.append [])).length:Int))/\(z3.length+[(ix (A.append (B.append [])) z2).1,(ix (A.append (B.append [])) z2).2].length) * (8:Nat)<=140737488355328/\rec1 (IntKind.i64.wrap (z2+1)) (z3++[(ix (A.append (B.append [])) z2).1,(ix (A.append (B.append [])) z2).2])) (z3.length<=1000000/\(sortI z3).length<=1000000/\LOOP [Ty.int IntKind.i64,(Ty.st Sn.region_Span).sl] (λ(rec4:Int->List region_Span->Prop) (z5:Int) (z6:List region_Span)=>(↑(compI (sortI z3)).length:Int)<=9223372036854775807->IFB (decide (z5<(↑(compI (sortI z3)).length:Int))) (JOIN [(Ty.st Sn.region_Span).sl] (λ(y7:List region_Span)=>rec4 (IntKind.i64.wrap (z5+1)) y7) λ(J8:List region_Span->Prop)=>((0:Int)<=IntKind.i64.wrap (z5-1)/\IntKind.i64.wrap (z5-1)<(↑(compI (sortI z3)).length:Int))/\A.length<=1000000/\B.length<=1000000/\IFB (!(insS A (ix (compI (sortI z3)) (IntKind.i64.wrap (z5-1)))&& !insS B (ix (compI (sortI z3)) (IntKind.i64.wrap (z5-1))))) (J8 z6) ((↑z6.length:Int)<=9223372036854775807->(gx true (decide ((0:Int)<(↑z6.length:Int)))=true->0<=IntKind.i64.wrap ((↑z6.length:Int)-1)/\IntKind.i64.wrap ((↑z6.length:Int)-1)<(↑z6.length:Int))/\IFB (decide ((0:Int)<(↑z6.length:Int))&&decide ((ix z6 (IntKind.i64.wrap ((↑z6.length:Int)-1))).2=ix (compI (sortI z3)) (IntKind.i64.wrap (z5-1)))) (((0:Int)<=z5/\z5<(↑(compI (sortI z3)).length:Int))/\((0:Int)<=IntKind.i64.wrap ((↑z6.length:Int)-1)/\IntKind.i64.wrap ((↑z6.length:Int)-1)<(↑z6.length:Int))/\J8 (z6.set (IntKind.i64.wrap ((↑z6.length:Int)-1)).toNat (⟨(ix z6 (IntKind.i64.wrap ((↑z6.length:Int)-1))).1,ix (compI (sortI z3)) z5⟩:region_Span))) (((0:Int)<=z5/\z5<(↑(compI (sortI z3)).length:Int))/\(z6.length+[(⟨ix (compI (sortI z3)) (IntKind.i64.wrap (z5-1)),ix (compI (sortI z3)) z5⟩:region_Span)].length) * (16:Nat)<=140737488355328/\J8 (z6++[(⟨ix (compI (sortI z3)) (IntKind.i64.wrap (z5-1)),ix (compI (sortI z3)) z5⟩:region_Span)])))) (post z6)) ((1:Int),[],PUnit.unit))) ((0:Int),[],PUnit.unit))
theorem pmergeN_w (A:List (region_Span))(B:List (region_Span))(post:dens (shT pmergeN_sp.rs [])->Prop):pmergeN_W A B (λy0=>post (y0,()))=walkG (callR Tryz.prog pmergeN_C (drawR Tryz.prog tau) 10 0) 163 false [tv (.sl (.st .region_Span)) A,tv (.sl (.st .region_Span)) B,.v (clo 123)] pmergeN_sp.rs post:=by kernel_rfl
theorem pmergeN_of (h:∀A B post,pmergeN_P A B post->pmergeN_W A B post):SpecCOK Tryz.prog pmergeN_sp [clo 123]:=SpecCOK.of_rules (C:=pmergeN_C) (dr:=drawR Tryz.prog tau) (n:=10) (fk:=0) (.cons (rule1_ok pconc_ok) (.cons (rule3_ok ssort_ok) (.cons (rule2_ok scompact_ok) (.cons (rule1_ok pins_ok) .nil)))) (drawR_ok tau) λx post hp=>HoldW.of (pmergeN_w x.1 x.2.1 post) (h x.1 x.2.1 (λy0=>post (y0,())) hp)
theorem pmergeN_ok:SpecCOK Tryz.prog pmergeN_sp [clo 123]:=pmergeN_of λA B post hp=>by
 obtain⟨⟨h1,h2⟩,hp⟩:=hp
 unfold pmergeN_W
 have e:A.append (B.append [])=A++B:=by show A++(B++[])=A++B;rw[List.append_nil]
 rw[e]
 refine⟨⟨by rw[List.length_append];omega,by simp⟩,λ_=> ?_⟩
 refine edg_in (l:=A++B) (A:=[]) (K:=λz3=>z3.length<=(1000000:Nat)/\(sortI z3).length<=(1000000:Nat)/\_) (by simp only[List.length_nil,List.length_append];omega) ?_
 rw[List.nil_append]
 have hel:(edgL (A++B)).length<=80000:=by rw[edgL_len,List.length_append];omega
 have hsl:(sortI (edgL (A++B))).length=(edgL (A++B)).length:=by unfold sortI;simp
 refine⟨by omega,by omega,?_⟩
 have hxl:(uniqI (edgL (A++B))).length<=80000:=Nat.le_trans (uniqI_len _) hel
 have hxe:compI (sortI (edgL (A++B)))=uniqI (edgL (A++B)):=rfl
 rw[hxe]
 have hp:post (spansG (λx=>howS 3 (insS A x) (insS B x)) [] (uniqI (edgL (A++B)))):=hp
 generalize uniqI (edgL (A++B))=xs at hxl hp ⊢
 refine LOOP.fuel (λu=>∃(k:Nat)(acc:List Sp),u.1=((k+1:Nat):Int)/\u.2.1=acc/\k<=xs.length/\spansG (λx=>howS 3 (insS A x) (insS B x)) acc (xs.drop k)=spansG (λx=>howS 3 (insS A x) (insS B x)) [] xs/\acc.length<=k) (λu=>xs.length+1-Int.toNat u.1) ⟨0,[],rfl,rfl,Nat.zero_le _,rfl,Nat.le_refl _⟩ ?_
 rintro rec ⟨(z2:Int),(z3:List region_Span),⟨⟩⟩ ⟨k,acc,i1,i2,i3,i4,i5⟩ hrec
 have i1:z2=((k+1:Nat):Int):=i1
 have i2:z3=acc:=i2
 subst i1 i2
 have i5:z3.length<=k:=i5
 intro _
 refine IFB.mk (λhb=> ?_) (λhb=> ?_)
 ·have hb:((k+1:Nat):Int)<xs.length:=of_decide_eq_true hb
  have hb:k+1<xs.length:=by omega
  obtain⟨d1,d2⟩:=drop_two hb
  have w1:IntKind.i64.wrap (((k+1:Nat):Int)-1)=k:=by rw[wrap_in (by omega) (by omega)];omega
  refine JOIN.opq λ(J:List Sp->Prop) hJ=> ?_
  rw[w1]
  have hgo:∀acc',acc'.length<=k+1->spansG (λx=>howS 3 (insS A x) (insS B x)) acc' (xs.drop (k+1))=spansG (λx=>howS 3 (insS A x) (insS B x)) [] xs->J acc':=λacc' hle hG=>by
   rw[hJ]
   show rec (IntKind.i64.wrap (((k+1:Nat):Int)+1)) _
   rw[wrapS (by omega)]
   exact hrec (((k+2:Nat):Int),acc',()) ⟨k+1,acc',rfl,rfl,by omega,hG,hle⟩ (by show xs.length+1-((k+2:Nat):Int).toNat<xs.length+1-((k+1:Nat):Int).toNat;omega)
  have hstep:spansG (λx=>howS 3 (insS A x) (insS B x)) (if howS 3 (insS A (ix xs (k:Int))) (insS B (ix xs (k:Int)))=true then addSp z3 (ix xs (k:Int)) (ix xs ((k+1:Nat):Int)) else z3) (xs.drop (k+1))=spansG (λx=>howS 3 (insS A x) (insS B x)) [] xs:=by
   rw[<-i4,d1,d2]
   rfl
  rw[howS_3] at hstep
  generalize ix xs (k:Int)=u at hstep ⊢
  generalize ix xs ((k+1:Nat):Int)=v at hstep ⊢
  refine⟨by omega,by omega,by omega,IFB.mk (λhn=> ?_) (λhn=> ?_)⟩
  ·have hn:(insS A u&& !insS B u)=false:=by rw[Bool.not_eq_true'] at hn;exact hn
   rw[hn] at hstep
   exact hgo z3 (by omega) hstep
  ·have hn:(insS A u&& !insS B u)=true:=by
    rw[Bool.not_eq_false'] at hn;exact hn
   rw[hn,if_pos rfl] at hstep
   intro _
   rcases List.eq_nil_or_concat z3 with rfl|⟨Z,q,rfl⟩
   ·have hj:addSp [] u v=[⟨u,v⟩]:=rfl
    rw[hj] at hstep
    refine⟨λh=>(by cases h),IFB.mk (λhb=>(by cases hb)) (λ_=>⟨by omega,by simp,hgo _ (by simp) hstep⟩)⟩
   ·rw[List.concat_eq_append] at *
    have hAl:(Z++[q]).length=Z.length+1:=by simp
    have w2:IntKind.i64.wrap (((Z++[q]).length:Int)-1)=Z.length:=by
     rw[hAl,wrap_in (by omega) (by omega)]
     omega
    have hq:ix (Z++[q]) (Z.length:Int)=q:=ix_app rfl
    have hset:∀z,(Z++[q]).set (Z.length:Int).toNat z=Z++[z]:=λz=>set_app (by simp)
    rw[w2,hq,hset]
    have hj:addSp (Z++[q]) u v=if q.2=u then Z++[⟨q.1,v⟩] else Z++[q]++[⟨u,v⟩]:=by
     unfold addSp
     simp
    rw[hj] at hstep
    have hd:decide ((0:Int)<((Z++[q]).length:Int))=true:=decide_eq_true (by omega)
    rw[hd,Bool.true_and]
    refine⟨λ_=>by rw[hAl];omega,IFB.mk (λhc=>⟨by omega,by rw[hAl];omega,?_⟩) (λhc=>⟨by omega,by rw[hAl];simp only[List.length_cons,List.length_nil];omega,?_⟩)⟩
    ·have hc:q.2=u:=of_decide_eq_true hc
     rw[if_pos hc] at hstep
     exact hgo _ (by simp only[List.length_append,List.length_cons,List.length_nil] at *;omega) hstep
    ·have hc:¬q.2=u:=of_decide_eq_false hc
     rw[if_neg hc] at hstep
     exact hgo _ (by simp only[List.length_append,List.length_cons,List.length_nil] at *;omega) hstep
 ·have hb:¬((k+1:Nat):Int)<xs.length:=of_decide_eq_false hb
  rw[short_drop2 (by omega)] at i4
  rw[<-i4] at hp
  exact hp
def pmergeB_P (A:List (region_Span))(B:List (region_Span))(post:List (region_Span)->Prop):Prop:=(A.length<=20000/\B.length<=20000)/\post (mergeS 2 A B)
def pmergeB_sp:Spec:=⟨163,false,true,[.sl (.st .region_Span),.sl (.st .region_Span)],.dat (.sl (.st .region_Span)),λx post=>pmergeB_P (x.1:List (region_Span)) (x.2.1:List (region_Span)) (λy0=>post (y0,()))⟩
def pmergeB_C:CtxR:=⟨tau,[rule1 pconc_sp,rule3 ssort_sp,rule2 scompact_sp,rule1 pins_sp],lookJ [(0,23,⟨[(11,.dat (.int .i64)),(10,.own 237 (.st .region_Span))],[],(List.range' 35 52++[12,13]),[],[]⟩),(0,24,⟨[(10,.own 237 (.st .region_Span))],[],(List.range' 41 46++[12,13]),[3],[]⟩),(0,7,⟨[(19,.dat (.int .i64)),(7,.own 3 (.int .i64))],[],(List.range' 20 11++[9]),[],[]⟩)]⟩
def pmergeB_W (A:List (region_Span))(B:List (region_Span))(post:List (region_Span)->Prop):Prop:=((A.append (B.append [])).length<=100000/\[A,B].length<=10)/\((↑(A.append (B.append [])).length:Int)<=9223372036854775807->LOOP [Ty.int IntKind.i64,(Ty.int IntKind.i64).sl] (λ(rec1:Int->List Int->Prop) (z2:Int) (z3:List Int)=>IFB (decide (z2<(↑(A.append (B.append [])).length:Int))) (((0:Int)<=z2/\z2<(↑(A.append (B.append [])).length:Int))/\(z3.length+[(ix (A.append (B.append [])) z2).1,(ix (A.append (B.append [])) z2).2].length) * (8:Nat)<=140737488355328/\rec1 (IntKind.i64.wrap (z2+1)) (z3++[(ix (A.append (B.append [])) z2).1,(ix (A.append (B.append [])) z2).2])) (z3.length<=1000000/\(sortI z3).length<=1000000/\LOOP [Ty.int IntKind.i64,(Ty.st Sn.region_Span).sl] (λ(rec4:Int->List region_Span->Prop) (z5:Int) (z6:List region_Span)=>(↑(compI (sortI z3)).length:Int)<=9223372036854775807->IFB (decide (z5<(↑(compI (sortI z3)).length:Int))) (JOIN [(Ty.st Sn.region_Span).sl] (λ(y7:List region_Span)=>rec4 (IntKind.i64.wrap (z5+1)) y7) λ(J8:List region_Span->Prop)=>((0:Int)<=IntKind.i64.wrap (z5-1)/\IntKind.i64.wrap (z5-1)<(↑(compI (sortI z3)).length:Int))/\A.length<=1000000/\B.length<=1000000/\IFB (!(insS A (ix (compI (sortI z3)) (IntKind.i64.wrap (z5-1)))&&insS B (ix (compI (sortI z3)) (IntKind.i64.wrap (z5-1))))) (J8 z6) ((↑z6.length:Int)<=9223372036854775807->(gx true (decide ((0:Int)<(↑z6.length:Int)))=true->0<=IntKind.i64.wrap ((↑z6.length:Int)-1)/\IntKind.i64.wrap ((↑z6.length:Int)-1)<(↑z6.length:Int))/\IFB (decide ((0:Int)<(↑z6.length:Int))&&decide ((ix z6 (IntKind.i64.wrap ((↑z6.length:Int)-1))).2=ix (compI (sortI z3)) (IntKind.i64.wrap (z5-1)))) (((0:Int)<=z5/\z5<(↑(compI (sortI z3)).length:Int))/\((0:Int)<=IntKind.i64.wrap ((↑z6.length:Int)-1)/\IntKind.i64.wrap ((↑z6.length:Int)-1)<(↑z6.length:Int))/\J8 (z6.set (IntKind.i64.wrap ((↑z6.length:Int)-1)).toNat (⟨(ix z6 (IntKind.i64.wrap ((↑z6.length:Int)-1))).1,ix (compI (sortI z3)) z5⟩:region_Span))) (((0:Int)<=z5/\z5<(↑(compI (sortI z3)).length:Int))/\(z6.length+[(⟨ix (compI (sortI z3)) (IntKind.i64.wrap (z5-1)),ix (compI (sortI z3)) z5⟩:region_Span)].length) * (16:Nat)<=140737488355328/\J8 (z6++[(⟨ix (compI (sortI z3)) (IntKind.i64.wrap (z5-1)),ix (compI (sortI z3)) z5⟩:region_Span)])))) (post z6)) ((1:Int),[],PUnit.unit))) ((0:Int),[],PUnit.unit))
theorem pmergeB_w (A:List (region_Span))(B:List (region_Span))(post:dens (shT pmergeB_sp.rs [])->Prop):pmergeB_W A B (λy0=>post (y0,()))=walkG (callR Tryz.prog pmergeB_C (drawR Tryz.prog tau) 10 0) 163 false [tv (.sl (.st .region_Span)) A,tv (.sl (.st .region_Span)) B,.v (clo 121)] pmergeB_sp.rs post:=by kernel_rfl
theorem pmergeB_of (h:∀A B post,pmergeB_P A B post->pmergeB_W A B post):SpecCOK Tryz.prog pmergeB_sp [clo 121]:=SpecCOK.of_rules (C:=pmergeB_C) (dr:=drawR Tryz.prog tau) (n:=10) (fk:=0) (.cons (rule1_ok pconc_ok) (.cons (rule3_ok ssort_ok) (.cons (rule2_ok scompact_ok) (.cons (rule1_ok pins_ok) .nil)))) (drawR_ok tau) λx post hp=>HoldW.of (pmergeB_w x.1 x.2.1 post) (h x.1 x.2.1 (λy0=>post (y0,())) hp)
theorem howS_2' (a b:Bool):howS 2 a b=(a&&b):=by unfold howS;simp
theorem pmergeB_ok:SpecCOK Tryz.prog pmergeB_sp [clo 121]:=pmergeB_of λA B post hp=>by
 obtain⟨⟨h1,h2⟩,hp⟩:=hp
 unfold pmergeB_W
 have e:A.append (B.append [])=A++B:=by show A++(B++[])=A++B;rw[List.append_nil]
 rw[e]
 refine⟨⟨by rw[List.length_append];omega,by simp⟩,λ_=> ?_⟩
 refine edg_in (l:=A++B) (A:=[]) (K:=λz3=>z3.length<=(1000000:Nat)/\(sortI z3).length<=(1000000:Nat)/\_) (by simp only[List.length_nil,List.length_append];omega) ?_
 rw[List.nil_append]
 have hel:(edgL (A++B)).length<=80000:=by rw[edgL_len,List.length_append];omega
 have hsl:(sortI (edgL (A++B))).length=(edgL (A++B)).length:=by unfold sortI;simp
 refine⟨by omega,by omega,?_⟩
 have hxl:(uniqI (edgL (A++B))).length<=80000:=Nat.le_trans (uniqI_len _) hel
 have hxe:compI (sortI (edgL (A++B)))=uniqI (edgL (A++B)):=rfl
 rw[hxe]
 have hp:post (spansG (λx=>howS 2 (insS A x) (insS B x)) [] (uniqI (edgL (A++B)))):=hp
 generalize uniqI (edgL (A++B))=xs at hxl hp ⊢
 refine LOOP.fuel (λu=>∃(k:Nat)(acc:List Sp),u.1=((k+1:Nat):Int)/\u.2.1=acc/\k<=xs.length/\spansG (λx=>howS 2 (insS A x) (insS B x)) acc (xs.drop k)=spansG (λx=>howS 2 (insS A x) (insS B x)) [] xs/\acc.length<=k) (λu=>xs.length+1-Int.toNat u.1) ⟨0,[],rfl,rfl,Nat.zero_le _,rfl,Nat.le_refl _⟩ ?_
 rintro rec ⟨(z2:Int),(z3:List region_Span),⟨⟩⟩ ⟨k,acc,i1,i2,i3,i4,i5⟩ hrec
 have i1:z2=((k+1:Nat):Int):=i1
 have i2:z3=acc:=i2
 subst i1 i2
 have i5:z3.length<=k:=i5
 intro _
 refine IFB.mk (λhb=> ?_) (λhb=> ?_)
 ·have hb:((k+1:Nat):Int)<xs.length:=of_decide_eq_true hb
  have hb:k+1<xs.length:=by omega
  obtain⟨d1,d2⟩:=drop_two hb
  have w1:IntKind.i64.wrap (((k+1:Nat):Int)-1)=k:=by rw[wrap_in (by omega) (by omega)];omega
  refine JOIN.opq λ(J:List Sp->Prop) hJ=> ?_
  rw[w1]
  have hgo:∀acc',acc'.length<=k+1->spansG (λx=>howS 2 (insS A x) (insS B x)) acc' (xs.drop (k+1))=spansG (λx=>howS 2 (insS A x) (insS B x)) [] xs->J acc':=λacc' hle hG=>by
   rw[hJ]
   show rec (IntKind.i64.wrap (((k+1:Nat):Int)+1)) _
   rw[wrapS (by omega)]
   exact hrec (((k+2:Nat):Int),acc',()) ⟨k+1,acc',rfl,rfl,by omega,hG,hle⟩ (by show xs.length+1-((k+2:Nat):Int).toNat<xs.length+1-((k+1:Nat):Int).toNat;omega)
  have hstep:spansG (λx=>howS 2 (insS A x) (insS B x)) (if howS 2 (insS A (ix xs (k:Int))) (insS B (ix xs (k:Int)))=true then addSp z3 (ix xs (k:Int)) (ix xs ((k+1:Nat):Int)) else z3) (xs.drop (k+1))=spansG (λx=>howS 2 (insS A x) (insS B x)) [] xs:=by
   rw[<-i4,d1,d2]
   rfl
  rw[howS_2'] at hstep
  generalize ix xs (k:Int)=u at hstep ⊢
  generalize ix xs ((k+1:Nat):Int)=v at hstep ⊢
  refine⟨by omega,by omega,by omega,IFB.mk (λhn=> ?_) (λhn=> ?_)⟩
  ·have hn:(insS A u&&insS B u)=false:=by rw[Bool.not_eq_true'] at hn;exact hn
   rw[hn] at hstep
   exact hgo z3 (by omega) hstep
  ·have hn:(insS A u&&insS B u)=true:=by
    rw[Bool.not_eq_false'] at hn;exact hn
   rw[hn,if_pos rfl] at hstep
   intro _
   rcases List.eq_nil_or_concat z3 with rfl|⟨Z,q,rfl⟩
   ·have hj:addSp [] u v=[⟨u,v⟩]:=rfl
    rw[hj] at hstep
    refine⟨λh=>(by cases h),IFB.mk (λhb=>(by cases hb)) (λ_=>⟨by omega,by simp,hgo _ (by simp) hstep⟩)⟩
   ·rw[List.concat_eq_append] at *
    have hAl:(Z++[q]).length=Z.length+1:=by simp
    have w2:IntKind.i64.wrap (((Z++[q]).length:Int)-1)=Z.length:=by
     rw[hAl,wrap_in (by omega) (by omega)]
     omega
    have hq:ix (Z++[q]) (Z.length:Int)=q:=ix_app rfl
    have hset:∀z,(Z++[q]).set (Z.length:Int).toNat z=Z++[z]:=λz=>set_app (by simp)
    rw[w2,hq,hset]
    have hj:addSp (Z++[q]) u v=if q.2=u then Z++[⟨q.1,v⟩] else Z++[q]++[⟨u,v⟩]:=by
     unfold addSp
     simp
    rw[hj] at hstep
    have hd:decide ((0:Int)<((Z++[q]).length:Int))=true:=decide_eq_true (by omega)
    rw[hd,Bool.true_and]
    refine⟨λ_=>by rw[hAl];omega,IFB.mk (λhc=>⟨by omega,by rw[hAl];omega,?_⟩) (λhc=>⟨by omega,by rw[hAl];simp only[List.length_cons,List.length_nil];omega,?_⟩)⟩
    ·have hc:q.2=u:=of_decide_eq_true hc
     rw[if_pos hc] at hstep
     exact hgo _ (by simp only[List.length_append,List.length_cons,List.length_nil] at *;omega) hstep
    ·have hc:¬q.2=u:=of_decide_eq_false hc
     rw[if_neg hc] at hstep
     exact hgo _ (by simp only[List.length_append,List.length_cons,List.length_nil] at *;omega) hstep
 ·have hb:¬((k+1:Nat):Int)<xs.length:=of_decide_eq_false hb
  rw[short_drop2 (by omega)] at i4
  rw[<-i4] at hp
  exact hp
def pcutsL_P (ls:List (List (api_Rect)))(post:List (Int)->Prop):Prop:=(ls.flatten.length<=20000/\ls.length<=10)/\post (cutsS ls.flatten)
def pcutsL_sp:Spec:=⟨147,false,true,[.sl (.sl (.st .api_Rect))],.dat (.sl (.int .i64)),λx post=>pcutsL_P (x.1:List (List (api_Rect))) (λy0=>post (y0,()))⟩
def pcutsL_C:CtxR:=⟨tau,[rule3 ssort_sp,rule2 scompact_sp],lookJ [(0,7,⟨[(10,.dat (.int .i64)),(3,.own 3 (.int .i64))],[],(List.range' 11 18++[5,7]),[],[]⟩),(0,13,⟨[(16,.dat (.int .i64)),(3,.own 3 (.int .i64))],[],(List.range' 17 11++[7]),[0],[]⟩)]⟩
def pcutsL_W (ls:List (List (api_Rect)))(post:List (Int)->Prop):Prop:=(↑ls.length:Int)<=9223372036854775807->LOOP [Ty.int IntKind.i64,(Ty.int IntKind.i64).sl] (λ(rec1:Int->List Int->Prop) (z2:Int) (z3:List Int)=>IFB (decide (z2<(↑ls.length:Int))) (((0:Int)<=z2/\z2<(↑ls.length:Int))/\((↑(ix ls z2).length:Int)<=9223372036854775807->LOOP [Ty.int IntKind.i64,(Ty.int IntKind.i64).sl] (λ(rec4:Int->List Int->Prop) (z5:Int) (z6:List Int)=>IFB (decide (z5<(↑(ix ls z2).length:Int))) (((0:Int)<=z5/\z5<(↑(ix ls z2).length:Int))/\(z6.length+[(ix (ix ls z2) z5).2,(ix (ix ls z2) z5).4].length) * (8:Nat)<=140737488355328/\rec4 (IntKind.i64.wrap (z5+1)) (z6++[(ix (ix ls z2) z5).2,(ix (ix ls z2) z5).4])) (rec1 (IntKind.i64.wrap (z2+1)) z6)) ((0:Int),z3,PUnit.unit))) (z3.length<=1000000/\(sortI z3).length<=1000000/\post (compI (sortI z3)))) ((0:Int),[],PUnit.unit)
theorem pcutsL_w (ls:List (List (api_Rect)))(post:dens (shT pcutsL_sp.rs [])->Prop):pcutsL_W ls (λy0=>post (y0,()))=walkG (callR Tryz.prog pcutsL_C (drawR Tryz.prog tau) 8 0) 147 false [tv (.sl (.sl (.st .api_Rect))) ls] pcutsL_sp.rs post:=by kernel_rfl
theorem pcutsL_of (h:∀ls post,pcutsL_P ls post->pcutsL_W ls post):SpecOK Tryz.prog pcutsL_sp:=SpecOK.of_rules (C:=pcutsL_C) (dr:=drawR Tryz.prog tau) (n:=8) (fk:=0) (.cons (rule3_ok ssort_ok) (.cons (rule2_ok scompact_ok) .nil)) (drawR_ok tau) λx post hp=>HoldW.of (pcutsL_w x.1 post) (h x.1 (λy0=>post (y0,())) hp)
theorem pcutsL_ok:SpecOK Tryz.prog pcutsL_sp:=pcutsL_of λls post hp=>by
 obtain⟨⟨h1,h2⟩,hp⟩:=hp
 unfold pcutsL_W
 intro _
 refine LOOP.list ls (λk (s:List Int)=>((k:Int),s,())) (λu=>Int.toNat u.1) (λk r (s:List Int)=>s++cutL r.flatten=cutL ls.flatten) [] rfl rfl (λk s h=>by simp) ?_ ?_
 ·intro rec k x r s hd hk hkl g1 hrec
  have hx:=ix_of hk
  have hlen:s.length+(2 * x.length+2 * r.flatten.length)<=40000:=by
   have:=congrArg List.length g1
   rw[List.length_append,cutL_len,cutL_len,List.flatten_cons,List.length_append] at this
   omega
  show IFB _ _ _
  refine IFB.mk (λ_=>⟨by show 0<=(k:Int)/\(k:Int)<ls.length;omega,?_⟩) (λh=>absurd (of_decide_eq_false h) (by show ¬¬((k:Int)<ls.length);omega))
  dsimp only
  rw[hx]
  intro _
  refine cuts_in (l:=x) (A:=s) (K:=λz6=>rec (IntKind.i64.wrap ((k:Int)+1)) z6) (by omega) ?_
  rw[wrapS (by omega)]
  refine hrec _ ?_
  rw[<-g1,List.flatten_cons,cutL_app,List.append_assoc]
 ·intro rec s g1
  show IFB _ _ _
  refine IFB.mk (λh=>absurd (of_decide_eq_true h) (by show ¬((ls.length:Int)<ls.length);omega)) (λ_=> ?_)
  have g1:s=cutL ls.flatten:=by simpa [cutL] using g1
  have hlen:s.length<=40000:=by rw[g1,cutL_len];omega
  have hsl:(sortI s).length=s.length:=by unfold sortI;simp
  dsimp only
  refine⟨by omega,by omega,?_⟩
  rw[<-cuts_uniq,<-g1] at hp
  exact hp
def prowL_P (l:List (api_Rect))(y:Int)(post:List (region_Span)->Prop):Prop:=((∀r∈l,r.Left<r.Right)/\l.length<=20000)/\post (rowS l y)
def prowL_sp:Spec:=⟨149,false,true,[.sl (.st .api_Rect),.int .i64],.dat (.sl (.st .region_Span)),λx post=>prowL_P (x.1:List (api_Rect)) (x.2.1:Int) (λy0=>post (y0,()))⟩
def prowL_C:CtxR:=⟨tau,[rule3 psort_sp],lookJ [(0,23,⟨[(41,.dat (.int .i64)),(8,.own 237 (.st .region_Span))],[],(List.range' 42 37++[10,11]),[],[]⟩),(0,34,⟨[(8,.own 237 (.st .region_Span))],[],(List.range' 43 35++[10,11]),[1],[]⟩),(0,7,⟨[(14,.dat (.int .i64)),(5,.own 237 (.st .region_Span))],[],(List.range' 15 22++[7]),[],[]⟩),(0,14,⟨[(5,.own 237 (.st .region_Span))],[],(List.range' 16 20++[7]),[0],[]⟩)]⟩
def prowL_W (l:List (api_Rect))(y:Int)(post:List (region_Span)->Prop):Prop:=(↑l.length:Int)<=9223372036854775807->LOOP [Ty.int IntKind.i64,(Ty.st Sn.region_Span).sl] (λ(rec1:Int->List region_Span->Prop) (z2:Int) (z3:List region_Span)=>IFB (decide (z2<(↑l.length:Int))) (JOIN [(Ty.st Sn.region_Span).sl] (λ(y4:List region_Span)=>rec1 (IntKind.i64.wrap (z2+1)) y4) λ(J5:List region_Span->Prop)=>((0:Int)<=z2/\z2<(↑l.length:Int))/\IFB (decide ((ix l z2).2<=y)&&decide (y<(ix l z2).4)) ((z3.length+[(⟨(ix l z2).1,(ix l z2).3⟩:region_Span)].length) * (16:Nat)<=140737488355328/\J5 (z3++[(⟨(ix l z2).1,(ix l z2).3⟩:region_Span)])) (J5 z3)) (z3.length<=1000000/\∀(v6:List region_Span),v6.Perm z3->List.Pairwise (λ(s t:region_Span)=>s.1<=t.1) v6->(↑v6.length:Int)<=9223372036854775807->LOOP [Ty.int IntKind.i64,(Ty.st Sn.region_Span).sl] (λ(rec7:Int->List region_Span->Prop) (z8:Int) (z9:List region_Span)=>IFB (decide (z8<(↑v6.length:Int))) (JOIN [(Ty.st Sn.region_Span).sl] (λ(y10:List region_Span)=>rec7 (IntKind.i64.wrap (z8+1)) y10) λ(J11:List region_Span->Prop)=>((0:Int)<=z8/\z8<(↑v6.length:Int))/\((↑z9.length:Int)<=9223372036854775807->(gx true (decide ((0:Int)<(↑z9.length:Int)))=true->0<=IntKind.i64.wrap ((↑z9.length:Int)-1)/\IntKind.i64.wrap ((↑z9.length:Int)-1)<(↑z9.length:Int))/\IFB (decide ((0:Int)<(↑z9.length:Int))&&decide ((ix v6 z8).1<=(ix z9 (IntKind.i64.wrap ((↑z9.length:Int)-1))).2)) (((0:Int)<=IntKind.i64.wrap ((↑z9.length:Int)-1)/\IntKind.i64.wrap ((↑z9.length:Int)-1)<(↑z9.length:Int))/\((0:Int)<=IntKind.i64.wrap ((↑z9.length:Int)-1)/\IntKind.i64.wrap ((↑z9.length:Int)-1)<(↑z9.length:Int))/\J11 (z9.set (IntKind.i64.wrap ((↑z9.length:Int)-1)).toNat (⟨(ix z9 (IntKind.i64.wrap ((↑z9.length:Int)-1))).1,Max.max (ix z9 (IntKind.i64.wrap ((↑z9.length:Int)-1))).2 (ix v6 z8).2⟩:region_Span))) ((z9.length+[{Left:=(ix v6 z8).1,Right:=(ix v6 z8).2:region_Span}].length) * (16:Nat)<=140737488355328/\J11 (z9++[{Left:=(ix v6 z8).1,Right:=(ix v6 z8).2:region_Span}])))) (post z9)) ((0:Int),[],PUnit.unit))) ((0:Int),[],PUnit.unit)
theorem prowL_w (l:List (api_Rect))(y:Int)(post:dens (shT prowL_sp.rs [])->Prop):prowL_W l y (λy0=>post (y0,()))=walkG (callR Tryz.prog prowL_C (drawR Tryz.prog tau) 10 0) 149 false [tv (.sl (.st .api_Rect)) l,tv (.int .i64) y] prowL_sp.rs post:=by kernel_rfl
theorem prowL_of (h:∀l y post,prowL_P l y post->prowL_W l y post):SpecOK Tryz.prog prowL_sp:=SpecOK.of_rules (C:=prowL_C) (dr:=drawR Tryz.prog tau) (n:=10) (fk:=0) (.cons (rule3_ok psort_ok) .nil) (drawR_ok tau) λx post hp=>HoldW.of (prowL_w x.1 x.2.1 post) (h x.1 x.2.1 (λy0=>post (y0,())) hp)
theorem prowL_ok:SpecOK Tryz.prog prowL_sp:=prowL_of λl y post hp=>by
 obtain⟨⟨h1,h2⟩,hp⟩:=hp
 unfold prowL_W
 intro _
 refine LOOP.list l (λk (s:List Sp)=>((k:Int),s,())) (λu=>Int.toNat u.1) (λk r (s:List Sp)=>s++(onRow y r).map spanOf=(onRow y l).map spanOf/\s.length<=k) [] rfl ⟨rfl,Nat.le_refl _⟩ (λk s h=>by simp) ?_ ?_
 ·intro rec k x r s hd hk hkl ⟨g1,g2⟩ hrec
  have hx:=ix_of hk
  show IFB _ _ _
  refine IFB.mk (λ_=> ?_) (λh=>absurd (of_decide_eq_false h) (by show ¬¬((k:Int)<l.length);omega))
  refine JOIN.opq λ(J:List Sp->Prop) hJ=> ?_
  dsimp only
  rw[hx]
  refine⟨by omega,IFB.mk (λhb=> ?_) (λhb=> ?_)⟩
  ·refine⟨by simp only[List.length_cons,List.length_nil];omega,?_⟩
   rw[hJ]
   show rec (IntKind.i64.wrap ((k:Int)+1)) _
   rw[wrapS (by omega)]
   refine hrec _ ⟨?_,by simp only[List.length_append,List.length_cons,List.length_nil];omega⟩
   rw[<-g1,onRow_cons,if_pos hb]
   simp[spanOf]
  ·rw[hJ]
   show rec (IntKind.i64.wrap ((k:Int)+1)) _
   rw[wrapS (by omega)]
   refine hrec _ ⟨?_,by omega⟩
   rw[<-g1,onRow_cons,if_neg (by rw[hb];simp)]
 ·intro rec s ⟨g1,g2⟩
  show IFB _ _ _
  refine IFB.mk (λh=>absurd (of_decide_eq_true h) (by show ¬((l.length:Int)<l.length);omega)) (λ_=> ?_)
  have g1:s=(onRow y l).map spanOf:=by simpa [onRow] using g1
  have hsl:s.length<=20000:=by omega
  refine⟨by show s.length<=1000000;omega,λv hperm hsort _=> ?_⟩
  have hvl:v.length=s.length:=hperm.length_eq
  rw[<-rowS_sorted h1 (g1 ▸ hperm) hsort] at hp
  refine LOOP.list v (λk (s:List Sp)=>((k:Int),s,())) (λu=>Int.toNat u.1) (λk r (s:List Sp)=>rowG s r=rowG [] v/\s.length<=k) [] rfl ⟨rfl,Nat.le_refl _⟩ (λk s h=>by simp) ?_ ?_
  ·intro rec k x r out hd hk hkl ⟨q1,q2⟩ hrec
   have hx:=ix_of hk
   show IFB _ _ _
   refine IFB.mk (λ_=> ?_) (λh=>absurd (of_decide_eq_false h) (by show ¬¬((k:Int)<v.length);omega))
   refine JOIN.opq λ(J:List Sp->Prop) hJ=> ?_
   dsimp only
   rw[hx]
   have hgo:(joinSp out x).length<=k+1->J (joinSp out x):=λhle=>by
    rw[hJ]
    show rec (IntKind.i64.wrap ((k:Int)+1)) _
    rw[wrapS (by omega)]
    exact hrec _ ⟨q1,hle⟩
   refine⟨by omega,λ_=> ?_⟩
   rcases List.eq_nil_or_concat out with rfl|⟨A,q,rfl⟩
   ·have hj:joinSp [] x=[x]:=rfl
    rw[hj] at hgo
    refine⟨λh=> ?_,IFB.mk (λhb=> ?_) (λhb=>⟨by simp,hgo (by simp)⟩)⟩
    ·cases h
    ·cases hb
   ·rw[List.concat_eq_append] at *
    have w1:IntKind.i64.wrap (((A++[q]).length:Int)-1)=A.length:=by
     simp only[List.length_append,List.length_cons,List.length_nil]
     rw[wrap_in (by omega) (by simp only[List.length_append,List.length_cons,List.length_nil] at q2;omega)]
     omega
    have hq:ix (A++[q]) (A.length:Int)=q:=ix_app rfl
    have hset:∀z,(A++[q]).set (A.length:Int).toNat z=A++[z]:=λz=>set_app (by simp)
    rw[w1,hq,hset]
    have hAl:(A++[q]).length=A.length+1:=by simp
    have hj:joinSp (A++[q]) x=if x.Left<=q.Right then A++[⟨q.Left,max q.Right x.Right⟩] else A++[q]++[x]:=by
     unfold joinSp
     simp
    rw[hj] at hgo
    refine⟨λ_=>by omega,IFB.mk (λhb=>⟨by omega,by omega,?_⟩) (λhb=>⟨by simp only[List.length_append,List.length_cons,List.length_nil] at *;omega,?_⟩)⟩
    ·rw[Bool.and_eq_true] at hb
     have hb2:x.Left<=q.Right:=of_decide_eq_true hb.2
     rw[if_pos hb2] at hgo
     exact hgo (by simp only[List.length_append,List.length_cons,List.length_nil] at *;omega)
    ·have hb2:¬x.Left<=q.Right:=by
      intro h
      rw[Bool.and_eq_false_iff] at hb
      rcases hb with hb|hb
      ·have:=of_decide_eq_false hb;omega
      ·exact of_decide_eq_false hb h
     rw[if_neg hb2] at hgo
     exact hgo (by simp only[List.length_append,List.length_cons,List.length_nil] at *;omega)
  ·intro rec out ⟨q1,q2⟩
   show IFB _ _ _
   refine IFB.mk (λh=>absurd (of_decide_eq_true h) (by show ¬((v.length:Int)<v.length);omega)) (λ_=> ?_)
   have q1:out=rowG [] v:=q1
   show post out
   rw[q1];exact hp
def pchoN_P (A:List (api_Rect))(B:List (api_Rect))(post:List (api_Rect)->Prop):Prop:=(((∀r∈A,proper r)/\A.length<=8000)/\(∀r∈B,proper r)/\B.length<=8000)/\post (canonF (comb (howS 3) A B))
def pchoN_sp:Spec:=⟨75,false,true,[.sl (.st .api_Rect),.sl (.st .api_Rect)],.dat (.sl (.st .api_Rect)),λx post=>pchoN_P (x.1:List (api_Rect)) (x.2.1:List (api_Rect)) (λy0=>post (y0,()))⟩
def pchoN_C:CtxR:=⟨tau,[rule1 pcutsL_sp,rule1 prowL_sp,rule1 peqs_sp,rule1 prects_sp,ruleC pmergeN_sp 123],lookJ [(1027,7,⟨[(6,.dat (.int .i64)),(5,.own 251 (.st .region_band))],[],(List.range' 7 62),[],[]⟩),(1027,8,⟨[(5,.own 251 (.st .region_band))],[],(List.range' 15 54++[7,8]),[4],[]⟩),(1070592028,1000001,⟨[(5,.dat (.sl (.st .region_Span)))],[],[6,7,8,9,10,11,12,13],[],[]⟩)]⟩
abbrev pchoN_a0 (z3:List region_band):=(ix z3 (IntKind.i64.wrap ((↑z3.length:Int)-(1:Int))))
abbrev pchoN_a1 (z3:List region_band)(A:List (api_Rect))(B:List (api_Rect))(z2:Int):=(decide ((0:Int)<(↑z3.length:Int))&&decide ((pchoN_a0 z3).2=ix (cutsS (A.append (B.append []))) (IntKind.i64.wrap (z2-(1:Int)))))
abbrev pchoN_a2 (z3:List region_band)(J5:List region_band->Prop)(A:List (api_Rect))(B:List (api_Rect))(z2:Int):=(((0:Int)<=IntKind.i64.wrap ((↑z3.length:Int)-(1:Int))/\IntKind.i64.wrap ((↑z3.length:Int)-(1:Int))<(↑z3.length:Int))/\J5 (z3.set (IntKind.i64.wrap ((↑z3.length:Int)-(1:Int))).toNat {low:=(pchoN_a0 z3).1,high:=ix (cutsS (A.append (B.append []))) z2,spans:=(pchoN_a0 z3).3:region_band}))
abbrev pchoN_a3 (z3:List region_band):=(gx true (decide ((0:Int)<(↑z3.length:Int)))=true->(0:Int)<=IntKind.i64.wrap ((↑z3.length:Int)-(1:Int))/\IntKind.i64.wrap ((↑z3.length:Int)-(1:Int))<(↑z3.length:Int))
abbrev pchoN_a4 (A:List (api_Rect))(B:List (api_Rect))(z2:Int):=(ix (cutsS (A.append (B.append []))) (IntKind.i64.wrap (z2-(1:Int))))
abbrev pchoN_a5 (A:List (api_Rect))(B:List (api_Rect))(z2:Int)(y6:List region_Span):={low:=ix (cutsS (A.append (B.append []))) (IntKind.i64.wrap (z2-(1:Int))),high:=ix (cutsS (A.append (B.append []))) z2,spans:=y6:region_band}
abbrev pchoN_a6 (z3:List region_band)(A:List (api_Rect))(B:List (api_Rect))(z2:Int):=(gx true (pchoN_a1 z3 A B z2)=true->(0:Int)<=IntKind.i64.wrap ((↑z3.length:Int)-(1:Int))/\IntKind.i64.wrap ((↑z3.length:Int)-(1:Int))<(↑z3.length:Int))
def pchoN_W (A:List (api_Rect))(B:List (api_Rect))(post:List (api_Rect)->Prop):Prop:=((A.append (B.append [])).length<=20000/\[A,B].length<=10)/\LOOP [Ty.int IntKind.i64,(Ty.st Sn.region_band).sl] (λ(rec1:Int->List region_band->Prop) (z2:Int) (z3:List region_band)=>(↑(cutsS (A.append (B.append []))).length:Int)<=9223372036854775807->IFB (decide (z2<(↑(cutsS (A.append (B.append []))).length:Int))) (JOIN [(Ty.st Sn.region_band).sl] (λ(y4:List region_band)=>rec1 (IntKind.i64.wrap (z2+1)) y4) λ(J5:List region_band->Prop)=>((0:Int)<=IntKind.i64.wrap (z2-1)/\IntKind.i64.wrap (z2-1)<(↑(cutsS (A.append (B.append []))).length:Int))/\((0:Int)<=z2/\z2<(↑(cutsS (A.append (B.append []))).length:Int))/\((0:Int)<=IntKind.i64.wrap (z2-1)/\IntKind.i64.wrap (z2-1)<(↑(cutsS (A.append (B.append []))).length:Int))/\(JOIN [(Ty.st Sn.region_Span).sl] (λ(y6:List region_Span)=>((↑z3.length:Int)<=9223372036854775807->(pchoN_a3 z3)/\(pchoN_a6 z3 A B z2)/\JOIN [Ty.bool] (λ(y7:Bool)=>IFB (decide ((0:Int)<(↑z3.length:Int))&&decide ((pchoN_a0 z3).2=ix (cutsS (A.append (B.append []))) (IntKind.i64.wrap (z2-1)))&&y7) (pchoN_a2 z3 J5 A B z2) ((z3.length+[(pchoN_a5 A B z2 y6)].length) * (40:Nat)<=140737488355328/\J5 (z3++[(pchoN_a5 A B z2 y6)]))) λ(J8:Bool->Prop)=>IFB (gx true (pchoN_a1 z3 A B z2)) ((pchoN_a0 z3).3.length<=1000000000/\∀(v9:Bool),(v9=true↔(pchoN_a0 z3).3=y6)->J8 v9) (J8 false))/\((↑z3.length:Int)<=9223372036854775807->(pchoN_a3 z3)/\(pchoN_a6 z3 A B z2)/\JOIN [Ty.bool] (λ(y10:Bool)=>IFB (decide ((0:Int)<(↑z3.length:Int))&&decide ((pchoN_a0 z3).2=ix (cutsS (A.append (B.append []))) (IntKind.i64.wrap (z2-1)))&&y10) (pchoN_a2 z3 J5 A B z2) ((z3.length+[(pchoN_a5 A B z2 y6)].length) * (40:Nat)<=140737488355328/\J5 (z3++[(pchoN_a5 A B z2 y6)]))) λ(J11:Bool->Prop)=>IFB (gx true (pchoN_a1 z3 A B z2)) ((pchoN_a0 z3).3.length<=1000000000/\∀(v12:Bool),(v12=true↔(pchoN_a0 z3).3=y6)->J11 v12) (J11 false))) λ(J13:List region_Span->Prop)=>((∀(v14:api_Rect),v14∈A->v14.1<v14.3)/\A.length<=20000)/\((∀(v15:api_Rect),v15∈B->v15.1<v15.3)/\B.length<=20000)/\((rowS A (pchoN_a4 A B z2)).length<=20000/\(rowS B (pchoN_a4 A B z2)).length<=20000)/\J13 (mergeS (3:Int) (rowS A (pchoN_a4 A B z2)) (rowS B (pchoN_a4 A B z2))))/\JOIN [(Ty.st Sn.region_Span).sl] (λ(y16:List region_Span)=>(↑z3.length:Int)<=9223372036854775807->(pchoN_a3 z3)/\(pchoN_a6 z3 A B z2)/\JOIN [Ty.bool] (λ(y17:Bool)=>IFB (decide ((0:Int)<(↑z3.length:Int))&&decide ((pchoN_a0 z3).2=ix (cutsS (A.append (B.append []))) (IntKind.i64.wrap (z2-1)))&&y17) (pchoN_a2 z3 J5 A B z2) ((z3.length+[(⟨ix (cutsS (A.append (B.append []))) (IntKind.i64.wrap (z2-1)),ix (cutsS (A.append (B.append []))) z2,y16⟩:region_band)].length) * (40:Nat)<=140737488355328/\J5 (z3++[(⟨ix (cutsS (A.append (B.append []))) (IntKind.i64.wrap (z2-1)),ix (cutsS (A.append (B.append []))) z2,y16⟩:region_band)]))) λ(J18:Bool->Prop)=>IFB (gx true (pchoN_a1 z3 A B z2)) ((pchoN_a0 z3).3.length<=1000000000/\∀(v19:Bool),(v19=true↔(pchoN_a0 z3).3=y16)->J18 v19) (J18 false)) λ(J20:List region_Span->Prop)=>((∀(v21:api_Rect),v21∈A->v21.1<v21.3)/\A.length<=20000)/\((∀(v22:api_Rect),v22∈B->v22.1<v22.3)/\B.length<=20000)/\((rowS A (pchoN_a4 A B z2)).length<=20000/\(rowS B (pchoN_a4 A B z2)).length<=20000)/\J20 (mergeS (3:Int) (rowS A (pchoN_a4 A B z2)) (rowS B (pchoN_a4 A B z2)))) (((flat z3).length<=1000000000/\z3.length<=1000000000)/\post (flat z3))) ((1:Int),[],PUnit.unit)
theorem pchoN_w (A:List (api_Rect))(B:List (api_Rect))(post:dens (shT pchoN_sp.rs [])->Prop):pchoN_W A B (λy0=>post (y0,()))=walkG (callR Tryz.prog pchoN_C (drawR Tryz.prog tau) 12 0) 75 false [tv (.sl (.st .api_Rect)) A,tv (.sl (.st .api_Rect)) B,.v (clo 123)] pchoN_sp.rs post:=by kernel_rfl
theorem pchoN_of (h:∀A B post,pchoN_P A B post->pchoN_W A B post):SpecCOK Tryz.prog pchoN_sp [clo 123]:=SpecCOK.of_rules (C:=pchoN_C) (dr:=drawR Tryz.prog tau) (n:=12) (fk:=0) (.cons (rule1_ok pcutsL_ok) (.cons (rule1_ok prowL_ok) (.cons (rule1_ok peqs_ok) (.cons (rule1_ok prects_ok) (.cons (ruleC_ok pmergeN_ok) .nil))))) (drawR_ok tau) λx post hp=>HoldW.of (pchoN_w x.1 x.2.1 post) (h x.1 x.2.1 (λy0=>post (y0,())) hp)
theorem pchoN_ok:SpecCOK Tryz.prog pchoN_sp [clo 123]:=pchoN_of λl m post hp=>by
 obtain⟨⟨⟨g1,hl1⟩,g2,hl2⟩,hp⟩:=hp
 unfold pchoN_W pchoN_a6 pchoN_a5 pchoN_a4 pchoN_a3 pchoN_a2 pchoN_a1 pchoN_a0
 have e:l.append (m.append [])=l++m:=by show l++(m++[])=l++m;rw[List.append_nil]
 rw[e]
 have hlm:(l++m).length<=16000:=by rw[List.length_append];omega
 have hcl:=cutsS_len (l:=l++m)
 have hJ4:(flat (buildG (λy=>mergeS 3 (rowS l y) (rowS m y)) [] (cutsS (l++m)))).length<=268435456:=by
  rw[<-choose_build]
  exact box_len (comb_ok (howS_0 3) l m).1 λx y hc=>by
   rw[(comb_ok (howS_0 3) l m).2] at hc
   refine proper_box g1 ?_
   unfold comb howS at hc
   revert hc
   cases cov l x y<;>simp
 rw[choose_build] at hp
 refine⟨⟨by omega,by simp⟩,?_⟩
 have hmlen:∀y,(mergeS 3 (rowS l y) (rowS m y)).length<=100000:=λy=>by
  unfold mergeS spansOf
  have q1:=spansG_len (p:=λx=>howS 3 (insS (rowS l y) x) (insS (rowS m y) x)) (xs:=uniqI (edgL (rowS l y++rowS m y))) (out:=[])
  have q2:=uniqI_len (edgL (rowS l y++rowS m y))
  rw[edgL_len,List.length_append] at q2
  have q3:=rowS_len (l:=l) (y:=y)
  have q4:=rowS_len (l:=m) (y:=y)
  simp only[List.length_nil] at q1
  omega
 refine build_loop (xs:=cutsS (l++m)) (R:=λy=>mergeS 3 (rowS l y) (rowS m y)) hmlen (by omega) (λrec k acc hk hal has hrec=> ?_) (λhlen=>⟨⟨by omega,by omega⟩,hp⟩)
 refine JOIN.opq λ(J9:List Bd->Prop) hJ9=> ?_
 have w1:IntKind.i64.wrap (((k+1:Nat):Int)-1)=k:=by rw[wrap_in (by omega) (by omega)];omega
 rw[w1]
 have hJ9:J9 (addBd acc (ix (cutsS (l++m)) (k:Int)) (ix (cutsS (l++m)) ((k+1:Nat):Int)) (mergeS 3 (rowS l (ix (cutsS (l++m)) (k:Int))) (rowS m (ix (cutsS (l++m)) (k:Int))))):=by
  rw[hJ9]
  show rec (IntKind.i64.wrap (((k+1:Nat):Int)+1)) _
  rw[wrapS (by omega)]
  exact hrec
 have main:=bandM_ok (by omega) (λb hb=>Nat.le_trans (has b hb) (by omega)) hJ9
 have q3:=rowS_len (l:=l) (y:=ix (cutsS (l++m)) (k:Int))
 have q4:=rowS_len (l:=m) (y:=ix (cutsS (l++m)) (k:Int))
 have hD1:(∀v:api_Rect,v∈l->v.1<v.3)/\l.length<=20000:=⟨λr hr=>(g1 r hr).2.1,by omega⟩
 have hD2:(∀v:api_Rect,v∈m->v.1<v.3)/\m.length<=20000:=⟨λr hr=>(g2 r hr).2.1,by omega⟩
 refine⟨by omega,by omega,by omega,?_,?_⟩
 ·refine JOIN.opq λ(J17:List Sp->Prop) hJ17=>⟨hD1,hD2,⟨by omega,by omega⟩,?_⟩
  rw[hJ17]
  exact⟨main,main⟩
 ·refine JOIN.opq λ(J17:List Sp->Prop) hJ17=>⟨hD1,hD2,⟨by omega,by omega⟩,?_⟩
  rw[hJ17]
  exact main
def pchoB_P (A:List (api_Rect))(B:List (api_Rect))(post:List (api_Rect)->Prop):Prop:=(((∀r∈A,proper r)/\A.length<=8000)/\(∀r∈B,proper r)/\B.length<=8000)/\post (canonF (comb (howS 2) A B))
def pchoB_sp:Spec:=⟨75,false,true,[.sl (.st .api_Rect),.sl (.st .api_Rect)],.dat (.sl (.st .api_Rect)),λx post=>pchoB_P (x.1:List (api_Rect)) (x.2.1:List (api_Rect)) (λy0=>post (y0,()))⟩
def pchoB_C:CtxR:=⟨tau,[rule1 pcutsL_sp,rule1 prowL_sp,rule1 peqs_sp,rule1 prects_sp,ruleC pmergeB_sp 121],lookJ [(1027,7,⟨[(6,.dat (.int .i64)),(5,.own 251 (.st .region_band))],[],(List.range' 7 62),[],[]⟩),(1027,8,⟨[(5,.own 251 (.st .region_band))],[],(List.range' 15 54++[7,8]),[4],[]⟩),(1070592028,1000001,⟨[(5,.dat (.sl (.st .region_Span)))],[],[6,7,8,9,10,11,12,13],[],[]⟩)]⟩
abbrev pchoB_a0 (z3:List region_band):=(ix z3 (IntKind.i64.wrap ((↑z3.length:Int)-(1:Int))))
abbrev pchoB_a1 (z3:List region_band)(A:List (api_Rect))(B:List (api_Rect))(z2:Int):=(decide ((0:Int)<(↑z3.length:Int))&&decide ((pchoB_a0 z3).2=ix (cutsS (A.append (B.append []))) (IntKind.i64.wrap (z2-(1:Int)))))
abbrev pchoB_a2 (z3:List region_band)(J5:List region_band->Prop)(A:List (api_Rect))(B:List (api_Rect))(z2:Int):=(((0:Int)<=IntKind.i64.wrap ((↑z3.length:Int)-(1:Int))/\IntKind.i64.wrap ((↑z3.length:Int)-(1:Int))<(↑z3.length:Int))/\J5 (z3.set (IntKind.i64.wrap ((↑z3.length:Int)-(1:Int))).toNat {low:=(pchoB_a0 z3).1,high:=ix (cutsS (A.append (B.append []))) z2,spans:=(pchoB_a0 z3).3:region_band}))
abbrev pchoB_a3 (z3:List region_band):=(gx true (decide ((0:Int)<(↑z3.length:Int)))=true->(0:Int)<=IntKind.i64.wrap ((↑z3.length:Int)-(1:Int))/\IntKind.i64.wrap ((↑z3.length:Int)-(1:Int))<(↑z3.length:Int))
abbrev pchoB_a4 (A:List (api_Rect))(B:List (api_Rect))(z2:Int):=(ix (cutsS (A.append (B.append []))) (IntKind.i64.wrap (z2-(1:Int))))
abbrev pchoB_a5 (A:List (api_Rect))(B:List (api_Rect))(z2:Int)(y6:List region_Span):={low:=ix (cutsS (A.append (B.append []))) (IntKind.i64.wrap (z2-(1:Int))),high:=ix (cutsS (A.append (B.append []))) z2,spans:=y6:region_band}
abbrev pchoB_a6 (z3:List region_band)(A:List (api_Rect))(B:List (api_Rect))(z2:Int):=(gx true (pchoB_a1 z3 A B z2)=true->(0:Int)<=IntKind.i64.wrap ((↑z3.length:Int)-(1:Int))/\IntKind.i64.wrap ((↑z3.length:Int)-(1:Int))<(↑z3.length:Int))
def pchoB_W (A:List (api_Rect))(B:List (api_Rect))(post:List (api_Rect)->Prop):Prop:=((A.append (B.append [])).length<=20000/\[A,B].length<=10)/\LOOP [Ty.int IntKind.i64,(Ty.st Sn.region_band).sl] (λ(rec1:Int->List region_band->Prop) (z2:Int) (z3:List region_band)=>(↑(cutsS (A.append (B.append []))).length:Int)<=9223372036854775807->IFB (decide (z2<(↑(cutsS (A.append (B.append []))).length:Int))) (JOIN [(Ty.st Sn.region_band).sl] (λ(y4:List region_band)=>rec1 (IntKind.i64.wrap (z2+1)) y4) λ(J5:List region_band->Prop)=>((0:Int)<=IntKind.i64.wrap (z2-1)/\IntKind.i64.wrap (z2-1)<(↑(cutsS (A.append (B.append []))).length:Int))/\((0:Int)<=z2/\z2<(↑(cutsS (A.append (B.append []))).length:Int))/\((0:Int)<=IntKind.i64.wrap (z2-1)/\IntKind.i64.wrap (z2-1)<(↑(cutsS (A.append (B.append []))).length:Int))/\(JOIN [(Ty.st Sn.region_Span).sl] (λ(y6:List region_Span)=>((↑z3.length:Int)<=9223372036854775807->(pchoB_a3 z3)/\(pchoB_a6 z3 A B z2)/\JOIN [Ty.bool] (λ(y7:Bool)=>IFB (decide ((0:Int)<(↑z3.length:Int))&&decide ((pchoB_a0 z3).2=ix (cutsS (A.append (B.append []))) (IntKind.i64.wrap (z2-1)))&&y7) (pchoB_a2 z3 J5 A B z2) ((z3.length+[(pchoB_a5 A B z2 y6)].length) * (40:Nat)<=140737488355328/\J5 (z3++[(pchoB_a5 A B z2 y6)]))) λ(J8:Bool->Prop)=>IFB (gx true (pchoB_a1 z3 A B z2)) ((pchoB_a0 z3).3.length<=1000000000/\∀(v9:Bool),(v9=true↔(pchoB_a0 z3).3=y6)->J8 v9) (J8 false))/\((↑z3.length:Int)<=9223372036854775807->(pchoB_a3 z3)/\(pchoB_a6 z3 A B z2)/\JOIN [Ty.bool] (λ(y10:Bool)=>IFB (decide ((0:Int)<(↑z3.length:Int))&&decide ((pchoB_a0 z3).2=ix (cutsS (A.append (B.append []))) (IntKind.i64.wrap (z2-1)))&&y10) (pchoB_a2 z3 J5 A B z2) ((z3.length+[(pchoB_a5 A B z2 y6)].length) * (40:Nat)<=140737488355328/\J5 (z3++[(pchoB_a5 A B z2 y6)]))) λ(J11:Bool->Prop)=>IFB (gx true (pchoB_a1 z3 A B z2)) ((pchoB_a0 z3).3.length<=1000000000/\∀(v12:Bool),(v12=true↔(pchoB_a0 z3).3=y6)->J11 v12) (J11 false))) λ(J13:List region_Span->Prop)=>((∀(v14:api_Rect),v14∈A->v14.1<v14.3)/\A.length<=20000)/\((∀(v15:api_Rect),v15∈B->v15.1<v15.3)/\B.length<=20000)/\((rowS A (pchoB_a4 A B z2)).length<=20000/\(rowS B (pchoB_a4 A B z2)).length<=20000)/\J13 (mergeS (2:Int) (rowS A (pchoB_a4 A B z2)) (rowS B (pchoB_a4 A B z2))))/\JOIN [(Ty.st Sn.region_Span).sl] (λ(y16:List region_Span)=>(↑z3.length:Int)<=9223372036854775807->(pchoB_a3 z3)/\(pchoB_a6 z3 A B z2)/\JOIN [Ty.bool] (λ(y17:Bool)=>IFB (decide ((0:Int)<(↑z3.length:Int))&&decide ((pchoB_a0 z3).2=ix (cutsS (A.append (B.append []))) (IntKind.i64.wrap (z2-1)))&&y17) (pchoB_a2 z3 J5 A B z2) ((z3.length+[(⟨ix (cutsS (A.append (B.append []))) (IntKind.i64.wrap (z2-1)),ix (cutsS (A.append (B.append []))) z2,y16⟩:region_band)].length) * (40:Nat)<=140737488355328/\J5 (z3++[(⟨ix (cutsS (A.append (B.append []))) (IntKind.i64.wrap (z2-1)),ix (cutsS (A.append (B.append []))) z2,y16⟩:region_band)]))) λ(J18:Bool->Prop)=>IFB (gx true (pchoB_a1 z3 A B z2)) ((pchoB_a0 z3).3.length<=1000000000/\∀(v19:Bool),(v19=true↔(pchoB_a0 z3).3=y16)->J18 v19) (J18 false)) λ(J20:List region_Span->Prop)=>((∀(v21:api_Rect),v21∈A->v21.1<v21.3)/\A.length<=20000)/\((∀(v22:api_Rect),v22∈B->v22.1<v22.3)/\B.length<=20000)/\((rowS A (pchoB_a4 A B z2)).length<=20000/\(rowS B (pchoB_a4 A B z2)).length<=20000)/\J20 (mergeS (2:Int) (rowS A (pchoB_a4 A B z2)) (rowS B (pchoB_a4 A B z2)))) (((flat z3).length<=1000000000/\z3.length<=1000000000)/\post (flat z3))) ((1:Int),[],PUnit.unit)
theorem pchoB_w (A:List (api_Rect))(B:List (api_Rect))(post:dens (shT pchoB_sp.rs [])->Prop):pchoB_W A B (λy0=>post (y0,()))=walkG (callR Tryz.prog pchoB_C (drawR Tryz.prog tau) 12 0) 75 false [tv (.sl (.st .api_Rect)) A,tv (.sl (.st .api_Rect)) B,.v (clo 121)] pchoB_sp.rs post:=by kernel_rfl
theorem pchoB_of (h:∀A B post,pchoB_P A B post->pchoB_W A B post):SpecCOK Tryz.prog pchoB_sp [clo 121]:=SpecCOK.of_rules (C:=pchoB_C) (dr:=drawR Tryz.prog tau) (n:=12) (fk:=0) (.cons (rule1_ok pcutsL_ok) (.cons (rule1_ok prowL_ok) (.cons (rule1_ok peqs_ok) (.cons (rule1_ok prects_ok) (.cons (ruleC_ok pmergeB_ok) .nil))))) (drawR_ok tau) λx post hp=>HoldW.of (pchoB_w x.1 x.2.1 post) (h x.1 x.2.1 (λy0=>post (y0,())) hp)
theorem pchoB_ok:SpecCOK Tryz.prog pchoB_sp [clo 121]:=pchoB_of λl m post hp=>by
 obtain⟨⟨⟨g1,hl1⟩,g2,hl2⟩,hp⟩:=hp
 unfold pchoB_W pchoB_a6 pchoB_a5 pchoB_a4 pchoB_a3 pchoB_a2 pchoB_a1 pchoB_a0
 have e:l.append (m.append [])=l++m:=by show l++(m++[])=l++m;rw[List.append_nil]
 rw[e]
 have hlm:(l++m).length<=16000:=by rw[List.length_append];omega
 have hcl:=cutsS_len (l:=l++m)
 have hJ4:(flat (buildG (λy=>mergeS 2 (rowS l y) (rowS m y)) [] (cutsS (l++m)))).length<=268435456:=by
  rw[<-choose_build]
  exact box_len (comb_ok (howS_0 2) l m).1 λx y hc=>by
   rw[(comb_ok (howS_0 2) l m).2] at hc
   refine proper_box g1 ?_
   unfold comb howS at hc
   revert hc
   cases cov l x y<;>simp
 rw[choose_build] at hp
 refine⟨⟨by omega,by simp⟩,?_⟩
 have hmlen:∀y,(mergeS 2 (rowS l y) (rowS m y)).length<=100000:=λy=>by
  unfold mergeS spansOf
  have q1:=spansG_len (p:=λx=>howS 2 (insS (rowS l y) x) (insS (rowS m y) x)) (xs:=uniqI (edgL (rowS l y++rowS m y))) (out:=[])
  have q2:=uniqI_len (edgL (rowS l y++rowS m y))
  rw[edgL_len,List.length_append] at q2
  have q3:=rowS_len (l:=l) (y:=y)
  have q4:=rowS_len (l:=m) (y:=y)
  simp only[List.length_nil] at q1
  omega
 refine build_loop (xs:=cutsS (l++m)) (R:=λy=>mergeS 2 (rowS l y) (rowS m y)) hmlen (by omega) (λrec k acc hk hal has hrec=> ?_) (λhlen=>⟨⟨by omega,by omega⟩,hp⟩)
 refine JOIN.opq λ(J9:List Bd->Prop) hJ9=> ?_
 have w1:IntKind.i64.wrap (((k+1:Nat):Int)-1)=k:=by rw[wrap_in (by omega) (by omega)];omega
 rw[w1]
 have hJ9:J9 (addBd acc (ix (cutsS (l++m)) (k:Int)) (ix (cutsS (l++m)) ((k+1:Nat):Int)) (mergeS 2 (rowS l (ix (cutsS (l++m)) (k:Int))) (rowS m (ix (cutsS (l++m)) (k:Int))))):=by
  rw[hJ9]
  show rec (IntKind.i64.wrap (((k+1:Nat):Int)+1)) _
  rw[wrapS (by omega)]
  exact hrec
 have main:=bandM_ok (by omega) (λb hb=>Nat.le_trans (has b hb) (by omega)) hJ9
 have q3:=rowS_len (l:=l) (y:=ix (cutsS (l++m)) (k:Int))
 have q4:=rowS_len (l:=m) (y:=ix (cutsS (l++m)) (k:Int))
 have hD1:(∀v:api_Rect,v∈l->v.1<v.3)/\l.length<=20000:=⟨λr hr=>(g1 r hr).2.1,by omega⟩
 have hD2:(∀v:api_Rect,v∈m->v.1<v.3)/\m.length<=20000:=⟨λr hr=>(g2 r hr).2.1,by omega⟩
 refine⟨by omega,by omega,by omega,?_,?_⟩
 ·refine JOIN.opq λ(J17:List Sp->Prop) hJ17=>⟨hD1,hD2,⟨by omega,by omega⟩,?_⟩
  rw[hJ17]
  exact⟨main,main⟩
 ·refine JOIN.opq λ(J17:List Sp->Prop) hJ17=>⟨hD1,hD2,⟨by omega,by omega⟩,?_⟩
  rw[hJ17]
  exact main
end RE
end Go.Proofs.YtjcjdgmojkkioaaGreatDoor
