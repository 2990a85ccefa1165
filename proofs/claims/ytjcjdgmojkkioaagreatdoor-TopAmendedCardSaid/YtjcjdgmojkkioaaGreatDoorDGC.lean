/-
  Texts of the proof of TopAmended, part GC.
-/
import Derived.Test.YtjcjdgmojkkioaaGreatDoorDGB
import Derived.OrdersHeld
import Derived.RegionTactic
import Derived.ChangeArms
import Derived.ChangeSlices
import Derived.Test.YtjcjdgmojkkioaaGreatDoorProg
import Derived.KernelRfl
import Derived.WalkKit
import Derived.WalkSpells
import Derived.WalkLawsBesides
import Derived.BigQuiet
import Derived.Deep.QuietTactic
import Derived.Lib.Hide
import Derived.Shelf.Small.Bits
import Derived.Shelf.Strconv.Itoa0
import Derived.Shelf.Sort.Plain
import Derived.Ground.Names2Prog
import Derived.Shelf.Slices.CompactI
import Derived.Shelf.Slices.SearchI
import Derived.Shelf.Slices.Cells
import Derived.Shelf.Slices.In.SortNone
import Derived.Shelf.Slices.Empties
import Derived.Sort.OwnSortedInts
import Derived.Lib.RowBridge
import Derived.Shelf.SlSortCmp.NoneTotal
import Derived.Shelf.SlicesG.Cmp
import Derived.Shelf.Spec.SlicesGrow
import Derived.Ground.SlsfProg
import Derived.Ground.SlgcProg
import Derived.Ground.Names8Prog
set_option linter.unusedVariables false
noncomputable section
namespace Go.Proofs.YtjcjdgmojkkioaaGreatDoor
namespace RE
open Go.RowKit
variable {P:Program}
def lentS (ob:Obs)(c:Cx):Cells:=λb o=>c.S b o\/FP ob c b
theorem rows_obs (m:MS)(rows:List Row)(id:Nat)(x:Ob)(h:(m.add rows).obs id=some x):(∃j r,id=m.nx+j/\rows[j]? =some r/\x=rowOb r)\/m.obs id=some x:=by
 have h:lookO (rowsOb m.nx rows++m.ob) id=some x:=h
 rw[lookO_app'] at h
 cases hr:lookK (rowsOb m.nx rows) id with
 |some v=>
  rw[hr] at h
  obtain⟨j,r,h1,h2,h3⟩:=rowsOb_some hr
  have h:v=some x:=h
  rw[h3] at h
  injection h with h
  exact .inl ⟨j,r,h1,h2,h.symm⟩
 |none=>rw[hr] at h;exact .inr h
theorem lookK_rows:∀(rows:List Row)(k j:Nat)(r:Row),rows[j]? =some r->lookK (rowsOb k rows) (k+j)=some (some (rowOb r))
 |[],k,j,r,h=>by simp at h
 |q::rows,k,0,r,h=>by
  simp at h
  subst h
  rw[rowsOb,lookK_cons,if_pos (by simp)]
 |q::rows,k,j+1,r,h=>by
  rw[rowsOb,lookK_cons,if_neg (by simp),show k+(j+1)=k+1+j by omega]
  exact lookK_rows rows (k+1) j r (by simpa using h)
theorem call_back {m:MS}{w w':World}{c c':Cx}{rows:List Row}{S0:Cells}{T0:Option Nat}{tp al:Bool}(hox:OXM m w c)(hT:(tp=true/\al=true/\T0=c.T)\/T0=none)(hS0:al=true->∀b o,S0 b o->c.S b o)
 (hflat:al=true\/∀r∈rows,flatT r.2.1=true) (hox':OXM (MS.add ⟨[],0,tp⟩ rows) w' c') (ht:TrM ⟨[],0,tp⟩ w (cx0 S0 T0) (MS.add ⟨[],0,tp⟩ rows) w' c') (htpm:tp=true->T0=c.T):
 ∃c2,OXM (m.add rows) w' c2/\TrM m w c (m.add rows) w' c2/\(∀i,c2.H (m.nx+i)=c'.H i)/\(al=true->∀b o,c'.S b o->c2.S b o):=by
 have hnoFP:∀b,¬FP (MS.obs ⟨[],0,tp⟩) (cx0 S0 T0) b:=λb ⟨id,x,h,_⟩=>by cases h
 have hfpnew:∀j r b,rows[j]? =some r->c'.F j b->w.heap.size<=b:=λj r b hr hb=>by
  have:(MS.add ⟨[],0,tp⟩ rows).obs j=some (rowOb r):=by
   show lookO (rowsOb 0 rows++[]) j=_
   rw[lookO_app']
   have:=lookK_rows rows 0 j r hr
   rw[Nat.zero_add] at this
   rw[this];rfl
  rcases ht.fp b ⟨j,_,this,rowOb_own r,hb⟩ with e|e
  ·exact absurd e (hnoFP b)
  ·exact e
 have hrow:∀j r,rows[j]? =some r->(MS.add ⟨[],0,tp⟩ rows).obs j=some (rowOb r):=λj r hr=>by
  show lookO (rowsOb 0 rows++[]) j=_
  rw[lookO_app']
  have:=lookK_rows rows 0 j r hr
  rw[Nat.zero_add] at this
  rw[this];rfl
 have hblk:∀b,b<w.heap.size->(tp=true->c.T≠some b)->w'.heap[b]? =w.heap[b]? :=λb hb hTb=>by
  refine ht.blk b hb (hnoFP b) ?_
  show T0≠some b
  rcases hT with⟨e1,_,e2⟩|e
  ·rw[e2];exact hTb e1
  ·rw[e];exact λh=>by cases h
 have hcell:∀b o,c.S b o->w'.cell? ⟨b,o,none⟩=w.cell? ⟨b,o,none⟩:=λb o hs=>World.cell?_of_block (hblk b (hox.sb b o hs) λ_ e=>(hox.nT b e).2 o hs)
 let c2:Cx:=⟨λb o=>c.S b o\/(c'.S b o/\w.heap.size<=b),λi=>if i<m.nx then c.H i else c'.H (i-m.nx),λi=>if i<m.nx then c.F i else c'.F (i-m.nx),c.T⟩
 have h2o:∀i,i<m.nx->c2.H i=c.H i/\c2.F i=c.F i:=λi hi=>⟨if_pos hi,if_pos hi⟩
 have h2n:∀i,c2.H (m.nx+i)=c'.H i/\c2.F (m.nx+i)=c'.F i:=λi=>by
  refine⟨?_,?_⟩
  ·show (if m.nx+i<m.nx then _ else _)=_
   rw[if_neg (by omega),show m.nx+i-m.nx=i by omega]
  ·show (if m.nx+i<m.nx then _ else _)=_
   rw[if_neg (by omega),show m.nx+i-m.nx=i by omega]
 have hSal:al=true->∀b o,c'.S b o->c2.S b o:=λha b o hb=>by
  rcases ht.sN b o hb with e|e|e
  ·exact .inl (hS0 ha b o e)
  ·exact absurd e (hnoFP b)
  ·exact .inr ⟨hb,e⟩
 have hS2:∀b o,c2.S b o->c.S b o\/w.heap.size<=b:=λb o hb=>hb.imp id (·.2)
 refine⟨c2,⟨λb o hb=> ?_,λid x hx=> ?_,λid x hx hox2 b hb=> ?_,λi j x y hx ox2 hy oy2 hne b hb hb'=> ?_,λT hTs=> ?_,λhtp=> ?_,hox.tF⟩,⟨ht.os,ht.tape,ht.output,ht.sz,λ_ h=>h,λ_ h=> .inl h,λi hi=> ?_,λi hi=>h2o i hi,λ_ _ h=> .inl h,λb o hb=> ?_,λb hb hf hTb=> ?_,λb hb=> ?_⟩,λi=>(h2n i).1,hSal⟩
 ·rcases hb with hb|⟨hb,_⟩
  ·exact Nat.lt_of_lt_of_le (hox.sb b o hb) ht.sz
  ·exact hox'.sb b o hb
 ·rcases rows_obs m rows id x hx with⟨j,r,rfl,hr,rfl⟩|hx
  ·refine⟨?_,rowOb_inU r _,?_⟩
   ·show m.nx+j<m.nx+rows.length
    have:=(List.getElem?_eq_some_iff.1 hr).1;omega
   ·rw[obAt_rowOb,(h2n j).1,(h2n j).2]
    have hq:=(hox'.objs j _ (hrow j r hr)).2.2
    rw[obAt_rowOb] at hq
    rcases hflat with ha|hf
    ·unfold RwAt at hq ⊢
     cases hE:Nat.ble 1000000 r.1 with
     |false=>rw[hE] at hq;exact RowAt.keep hq (hSal ha) (λ_ _ _=>rfl) (λ_ _=>rfl)
     |true=>rw[hE] at hq;exact DpAt.keep hq (hSal ha) (λ_ _ _=>rfl) (λ_ _=>rfl)
    ·have hfr:=hf r (List.mem_of_getElem? hr)
     unfold RwAt at hq ⊢
     cases hE:Nat.ble 1000000 r.1 with
     |false=>
      rw[hE] at hq
      obtain⟨h0,h|⟨g,cap,cur,hv,hF,hg,q1,q2,q3,q4⟩⟩:=hq
      ·exact⟨h0,.inl h⟩
      ·refine⟨h0,.inr ⟨g,cap,cur,hv,hF,hg,q1,q2,q3,λi x hi jj d hd=> ?_⟩⟩
       obtain⟨u,u1,u2,u3⟩:=q4 i x hi jj d hd
       exact⟨u,u1,u2,u3.flat (flatL_get (enc_flat hfr) hd)⟩
     |true=>
      rw[hE] at hq
      obtain⟨h0,h|⟨g,cap,cur,Fi,hv,hF,hg1,hg2,hg,q1,q2,q3,q4⟩⟩:=hq
      ·exact⟨h0,.inl h⟩
      ·refine⟨h0,.inr ⟨g,cap,cur,Fi,hv,hF,hg1,hg2,hg,q1,q2,q3,λi x hi jj d hd=> ?_⟩⟩
       obtain⟨u,u1,u2,u3⟩:=q4 i x hi jj d hd
       refine⟨u,u1,u2,?_⟩
       have hfd:=flatL_get (enc_flat hfr) hd
       unfold CellD at u3 ⊢
       split at u3
       ·exact Rd.flat u3 hfd
       ·obtain⟨li,e,_⟩:=u3
        rw[e] at hfd
        cases hfd
  ·obtain⟨u1,u2,u3⟩:=hox.objs id x hx
   have hid:id<m.nx:=u1
   refine⟨?_,Ob.inU_mono (λi hi=> ?_) u2,u3.keep (U:=m.U) u2 (λ_ _ h=> .inl h) hcell (λ_ h=>h) (λi hi=>(h2o i hi).1) (h2o id hid) λho b hb=> ?_⟩
   ·show id<m.nx+rows.length;omega
   ·have hi:i<m.nx:=hi
    show i<m.nx+rows.length;omega
   ·obtain⟨p1,p2,p3⟩:=hox.fb id x hx ho b hb
    exact hblk b p1 λ_=>p3
 ·rcases rows_obs m rows id x hx with⟨j,r,rfl,hr,rfl⟩|hx
  ·rw[(h2n j).2] at hb
   have hnew:=hfpnew j r b hr hb
   obtain⟨p1,p2,p3⟩:=hox'.fb j _ (hrow j r hr) (rowOb_own r) b hb
   refine⟨p1,λk hk=> ?_,λe=> ?_⟩
   ·rcases hk with hk|⟨hk,_⟩
    ·have:=hox.sb b k hk;omega
    ·exact p2 k hk
   ·have:=(hox.nT b e).1;omega
  ·rw[(h2o id (hox.objs id x hx).1).2] at hb
   obtain⟨p1,p2,p3⟩:=hox.fb id x hx hox2 b hb
   refine⟨Nat.lt_of_lt_of_le p1 ht.sz,λk hk=> ?_,p3⟩
   rcases hS2 b k hk with e|e
   ·exact p2 k e
   ·omega
 ·rcases rows_obs m rows i x hx with⟨p,r,rfl,hr,rfl⟩|hx
  ·rw[(h2n p).2] at hb
   have hnew:=hfpnew p r b hr hb
   rcases rows_obs m rows j y hy with⟨q,r',rfl,hr',rfl⟩|hy
   ·rw[(h2n q).2] at hb'
    exact hox'.dj p q _ _ (hrow p r hr) (rowOb_own r) (hrow q r' hr') (rowOb_own r') (λe=>hne (by rw[e])) b hb hb'
   ·rw[(h2o j (hox.objs j y hy).1).2] at hb'
    have:=(hox.fb j y hy oy2 b hb').1;omega
  ·rw[(h2o i (hox.objs i x hx).1).2] at hb
   have hlt:=(hox.fb i x hx ox2 b hb).1
   rcases rows_obs m rows j y hy with⟨q,r',rfl,hr',rfl⟩|hy
   ·rw[(h2n q).2] at hb'
    have:=hfpnew q r' b hr' hb';omega
   ·rw[(h2o j (hox.objs j y hy).1).2] at hb'
    exact hox.dj i j x y hx ox2 hy oy2 hne b hb hb'
 ·obtain⟨p1,p2⟩:=hox.nT T hTs
  refine⟨Nat.lt_of_lt_of_le p1 ht.sz,λk hk=> ?_⟩
  rcases hS2 T k hk with e|e
  ·exact p2 k e
  ·omega
 ·obtain⟨T,hTs,hta⟩:=hox.tpe htp
  refine⟨T,hTs,?_⟩
  cases htt:tp with
  |true=>
   rcases hT with⟨_,ha,e2⟩|e
   ·obtain⟨T',hT',hta'⟩:=hox'.tpe htt
    have:c'.T=some T:=ht.tK T (by show T0=some T;rw[e2];exact hTs)
    rw[this] at hT'
    injection hT' with hT'
    subst hT'
    exact hta'.mono (hSal ha) (λ_ _ _=>rfl) rfl
   ·have:=htpm htt
    rw[e,hTs] at this
    cases this
  |false=>exact hta.mono (λ_ _ h=> .inl h) hcell (hblk T hta.lt λe=>by rw[htt] at e;cases e)
 ·have hi:i<m.nx:=hi
  show i<m.nx+rows.length;omega
 ·rcases hb with hb|⟨_,hb⟩
  ·exact .inl hb
  ·exact .inr (.inr hb)
 ·exact hblk b hb λ_=>hTb
 ·obtain⟨id,x,hx,ho,hb⟩:=hb
  rcases rows_obs m rows id x hx with⟨j,r,rfl,hr,rfl⟩|hx
  ·rw[(h2n j).2] at hb
   exact .inr (hfpnew j r b hr hb)
  ·rw[(h2o id (hox.objs id x hx).1).2] at hb
   exact .inl ⟨id,x,hx,ho,hb⟩
mutual
def viewOf (m:Mem):SV->Option D
 | .d x=>some x
 | .os id=>match rowOf m id with
  |some ⟨t,l⟩=>some (.sl t l)
  |none=>none
 | .sub id sz a b=>match rowOf m id with
  |some ⟨t,l⟩=>bif Nat.beq sz (size t) then some (.sl t (sub l a b)) else none
  |none=>none
 | .ns id=>match m.ob id with
  |some (.nst _ t _ _ _ l)=>some (.sl t l)
  |some (.nfr t l)=>some (.sl t l)
  |_=>none
 | .agg cs=>match viewL m cs with
  |some ds=>some (.agg ds)
  |none=>none
 | .fn f cs=>match viewL m cs with
  |some ds=>some (.fn f ds)
  |none=>none
 |_=>none
def viewL (m:Mem):List SV->Option (List D)
 |[]=>some []
 |s::r=>match viewOf m s,viewL m r with
  |some d,some ds=>some (d::ds)
  |_,_=>none
end
theorem row_view {m:Mem}{w:World}{c:Cx}(ox:OX m.ob m.U m.tp w c){id:Nat}{t:Ty}{l:List (den t)}(h:rowOf m id=some ⟨t,l⟩):Rd (lentS m.ob c) w (.sl t l) (c.H id):=by
 unfold rowOf at h
 split at h
 ·rename_i e t' l' hr
  injection h with h
  cases h
  obtain⟨h0,⟨hl,⟨ad,hv⟩,_⟩|⟨g,cap,cur,hv,hF,hg,h1,h2,h3,h4⟩⟩:=(ox.objs id _ hr).2.2
  ·subst hl
   rw[hv];exact Rd.nil _ _ _ (Nat.zero_le _)
  ·rw[hv]
   obtain⟨f,f1,f2⟩:=rowCells (w:=w) (S:=c.S) (l:=l) (g:=g) (λi x hi j d hd=>by
    obtain⟨u,u1,u2,u3⟩:=h4 i x hi j d hd
    exact⟨u,by rw[cell_row hg];exact u1,u2,u3⟩)
   exact Rd.sl t l _ cap g 0 f h1 h2 (.inr rfl) (λi hi j hj=>⟨.inr ⟨id,_,hr,rfl,(hF g).2 rfl⟩,by rw[Nat.zero_add];exact f1 i hi j hj⟩) (λi x j d hi hd=>(f2 i x j d hi hd).mono (λ_ _ h=> .inl h) (λ_ _ _=>rfl))
 ·rename_i t' l' hr
  injection h with h
  cases h
  exact ((ox.objs id _ hr).2.2.1).mono (λ_ _ h=> .inl h) (λ_ _ _=>rfl)
 ·cases h
mutual
theorem viewOf_rel {m:Mem}{c:Cx}{w:World}(ox:OX m.ob m.U m.tp w c):∀(s:SV){x:D},viewOf m s=some x->∀{u:Value},SRel c w s u->Rd (lentS m.ob c) w x u
 | .d y,x,hd,u,hr=>by
  simp only[viewOf,Option.some.injEq] at hd
  rw[<-hd];exact (srel_d hr).mono (λ_ _ h=> .inl h) (λ_ _ _=>rfl)
 | .os id,x,hd,u,hr=>by
  unfold viewOf at hd
  split at hd
  ·rename_i t l hrow
   injection hd with hd
   subst hd
   rw[srel_os hr];exact row_view ox hrow
  ·cases hd
 | .sub id sz a b,x,hd,u,hr=>by
  unfold viewOf at hd
  split at hd
  ·rename_i t l hrow
   cases hb:Nat.beq sz (size t) with
   |false=>rw[hb] at hd;cases hd
   |true=>
    rw[hb] at hd
    have hb:=beq_eq hb
    subst hb
    injection hd with hd
    subst hd
    obtain⟨ad,n,cap,hv,rfl,hab⟩:=srel_sub hr
    have hrd:=row_view ox hrow
    rw[hv] at hrd
    have hn:n=l.length:=by
     obtain⟨_,_,_,_,_,e,_⟩:=hrd.slInv
     injection e
    subst hn
    exact hrd.sub hab
  ·cases hd
 | .ns id,x,hd,u,hr=>by
  unfold viewOf at hd
  obtain⟨vs0,hH0⟩:=srel_ns hr
  have fin:∀{t:Ty}{l:List (den t)}{v:Value}{vs:List Value},c.H id= .tuple (List.toArray (v::vs))->Rd (lentS m.ob c) w (.sl t l) v->Rd (lentS m.ob c) w (.sl t l) u:=λh1 h2=>by
   rw[hH0] at h1
   injection h1 with h1
   have h1:=congrArg Array.toList h1
   simp only[List.cons.injEq] at h1
   rw[h1.1];exact h2
  split at hd
  ·rename_i e t k e' t' l hob
   injection hd with hd
   subst hd
   have hn:NstAt w c.S (c.H id) (c.F id) e t k e' t' l:=(ox.objs id _ hob).2.2
   obtain⟨v,vs,h1,h2⟩:=hn.rd (S':=lentS m.ob c) (λ_ _ h=> .inl h) λb hb o=> .inr ⟨id,_,hob,rfl,hb⟩
   exact fin h1 h2
  ·rename_i t l hob
   injection hd with hd
   subst hd
   obtain⟨v,vs,h1,h2⟩:=(ox.objs id _ hob).2.2
   exact fin h1 (h2.mono (λ_ _ h=> .inl h) (λ_ _ _=>rfl))
  ·cases hd
 | .agg cs,x,hd,u,hr=>by
  unfold viewOf at hd
  split at hd
  ·rename_i ds hl
   injection hd with hd
   subst hd
   obtain⟨us,rfl,h1,h2,h3⟩:=srel_agg hr
   obtain⟨k1,k2⟩:=viewL_rel ox cs hl
   exact Rd.agg ds us (by omega) h2 λi d u hd hu=>by
    have hil:i<cs.length:=by have:=(List.getElem?_eq_some_iff.1 hd).1;omega
    exact k2 i cs[i] d (List.getElem?_eq_getElem hil) hd (h3 i cs[i] u (List.getElem?_eq_getElem hil) hu)
  ·cases hd
 | .fn f cs,x,hd,u,hr=>by
  unfold viewOf at hd
  split at hd
  ·rename_i ds hl
   injection hd with hd
   subst hd
   obtain⟨k1,k2⟩:=viewL_rel ox cs hl
   cases hr with
   |fn _ _ us h1 h3=>
    exact Rd.fn f ds us (by omega) λi d u hd hu=>by
     have hil:i<cs.length:=by have:=(List.getElem?_eq_some_iff.1 hd).1;omega
     exact k2 i cs[i] d (List.getElem?_eq_getElem hil) hd (h3 i cs[i] u (List.getElem?_eq_getElem hil) hu)
  ·cases hd
 | .bx _ _,_,hd,_,_| .op _ _ _ _,_,hd,_,_| .tup _,_,hd,_,_| .cnd _ _ _ _,_,hd,_,_| .tp,_,hd,_,_| .un,_,hd,_,_| .np _ _ _ _,_,hd,_,_| .inn _ _,_,hd,_,_| .ip _ _ _ _ _,_,hd,_,_=>by simp[viewOf] at hd
theorem viewL_rel {m:Mem}{c:Cx}{w:World}(ox:OX m.ob m.U m.tp w c):∀(ss:List SV){ds:List D},viewL m ss=some ds->ss.length=ds.length/\∀(i:Nat)(s:SV)(d:D),ss[i]? =some s->ds[i]? =some d->∀{u:Value},SRel c w s u->Rd (lentS m.ob c) w d u
 |[],ds,hd=>by
  simp only[viewL,Option.some.injEq] at hd
  rw[<-hd]
  exact⟨rfl,λi s d h=>by simp at h⟩
 |s::r,ds,hd=>by
  unfold viewL at hd
  split at hd
  ·rename_i d ds' h1 h2
   injection hd with hd
   subst hd
   obtain⟨k1,k2⟩:=viewL_rel ox r h2
   refine⟨by simp[k1],λi s' d' hs hd u hr=> ?_⟩
   cases i with
   |zero=>simp at hs hd;subst hs hd;exact viewOf_rel ox s h1 hr
   |succ i=>simp at hs hd;exact k2 i s' d' hs hd hr
  ·cases hd
end
def tapeArg (tp mtp:Bool)(ss:List SV):Option (List SV):=match tp with
 |true=>match ss with
  | .tp::r=>bif mtp then some r else none
  |_=>none
 |false=>some ss
def byCon (s:Spec)(ss:List SV)(m:MS)(k:SV->MS->Prop):Prop:=
 match tapeArg s.tp m.tp ss with
 |none=>False
 |some ss=>bif s.al then match dataL m.mem ss with
  |some (ds,ids)=>match undoL s.ts ds with
   |some x=>bif shPure s.rs then s.pt x λy=>k (instS s.rs [] y m.nx).1 (MS.add ⟨fzU m.obs ids++m.ob,m.nx,m.tp⟩ (instS s.rs [] y 0).2.1) else False
   |none=>False
  |none=>False
  else match viewL m.mem ss with
   |some ds=>match undoL s.ts ds with
    |some x=>bif shPure s.rs&&shFlat s.rs&& !s.tp then s.pt x λy=>k (instS s.rs [] y m.nx).1 (m.add (instS s.rs [] y 0).2.1) else False
    |none=>False
   |none=>False
mutual
theorem instS_flat:∀(s:Sh)(acc:List Ty)(v:dens (shT s acc))(k:Nat),shFlat s=true->∀r∈(instS s acc v k).2.1,flatT r.2.1=true
 | .dat t,acc,v,k,_=>λr h=>by cases h
 | .own e t,acc,v,k,hf=>λr h=>by
  have h:r∈[((e,⟨t,v.1⟩):Row)]:=h
  simp at h
  subst h
  exact hf
 | .bx id off,acc,v,k,_=>λr h=>by cases h
 | .rf id,acc,v,k,_=>λr h=>by cases h
 | .tp,acc,v,k,_=>λr h=>by cases h
 | .un,acc,v,k,_=>λr h=>by cases h
 | .agg cs,acc,v,k,hf=>instL_flat cs acc v k hf
 | .tup cs,acc,v,k,hf=>instL_flat cs acc v k hf
theorem instL_flat:∀(ss:List Sh)(acc:List Ty)(v:dens (shTL ss acc))(k:Nat),shFlatL ss=true->∀r∈(instL ss acc v k).2.1,flatT r.2.1=true
 |[],acc,v,k,_=>λr h=>by cases h
 |s::ss,acc,v,k,hf=>λr h=>by
  obtain⟨p1,p2⟩:=Bool.and_eq_true_iff.1 (show (shFlat s&&shFlatL ss)=true from hf)
  have h:r∈(instS s (shTL ss acc) v k).2.1++(instL ss acc (instS s (shTL ss acc) v k).2.2 (k+(instS s (shTL ss acc) v k).2.1.length)).2.1:=h
  rcases List.mem_append.1 h with h|h
  ·exact instS_flat s (shTL ss acc) v k p1 r h
  ·exact instL_flat ss acc _ _ p2 r h
end
theorem byCon_ok {s:Spec}(hs:SpecOK P s){ss:List SV}{m:MS}{k:SV->MS->Prop}(h:byCon s ss m k){us:List Value}{w:World}{c:Cx}(hox:OXM m w c)(hl:us.length=ss.length)(hr:∀(i:Nat)(x:SV)(u:Value),ss[i]? =some x->us[i]? =some u->SRel c w x u/\x.inU m.U):
 Calls P s.f us.toArray w λe w'=>∃v r m' c',e= .returned v/\k r m'/\FrM m m'/\OXM m' w' c'/\TrM m w c m' w' c'/\SRel c' w' r v/\r.inU m'.U:=by
 unfold byCon at h
 split at h
 ·exact h.elim
 ·rename_i ss' hta
  have harg:∃(us':List Value)(T0:Option Nat),us=tpArg T0 us'/\us'.length=ss'.length/\(∀(i:Nat)(x:SV)(u:Value),ss'[i]? =some x->us'[i]? =some u->SRel c w x u/\x.inU m.U)/\((s.tp=true/\T0=c.T/\m.tp=true/\∃t,c.T=some t)\/(s.tp=false/\T0=none)):=by
   cases htp:s.tp with
   |false=>
    rw[htp] at hta
    injection hta with hta
    subst hta
    exact⟨us,none,rfl,hl,hr,.inr ⟨rfl,rfl⟩⟩
   |true=>
    rw[htp] at hta
    unfold tapeArg at hta
    split at hta
    ·split at hta
     ·rename_i r
      cases hm:m.tp with
      |false=>rw[hm] at hta;cases hta
      |true=>
       rw[hm] at hta
       injection hta with hta
       subst hta
       match us,hl,hr with
       |u::us',hl,hr=>
        obtain⟨T,hT,rfl⟩:=srel_tp (hr 0 .tp u rfl rfl).1
        exact⟨us',some T,rfl,by simpa using hl,λi x u hx hu=>hr (i+1) x u hx hu,.inl ⟨rfl,hT.symm,rfl,T,hT⟩⟩
     ·cases hta
    ·rename_i he;cases he
  obtain⟨us',T0,rfl,hl',hr',hT⟩:=harg
  have hTC:∀S:Cells,(∀b o,c.S b o->S b o)->(s.tp=true->S=c.S)->TapeC s.tp w S T0:=λS hS hSe=>by
   rcases hT with⟨e1,e2,e3,t,e4⟩|⟨e1,e2⟩
   ·rw[e1]
    obtain⟨T,h1,h2⟩:=hox.tpe e3
    refine⟨T,e2.trans h1,?_,?_⟩
    ·rw[hSe e1];exact h2
    ·rw[hSe e1];exact (hox.nT T h1).2
   ·rw[e1];exact e2
  cases hal:s.al with
  |true=>
   rw[hal] at h
   simp only[cond_true] at h
   split at h
   ·rename_i ds ids hd
    split at h
    ·rename_i x hx
     cases hp:shPure s.rs with
     |false=>rw[hp] at h;exact h.elim
     |true=>
      rw[hp] at h
      simp only[cond_true] at h
      obtain⟨c1,ox1,t1,hH1,hT1⟩:=hox.freezes ids
      have ob1:MS.obs ⟨fzU m.obs ids++m.ob,m.nx,m.tp⟩=ovr m.obs (fzU m.obs ids):=lookO_app _ _
      have ox1':OXM ⟨fzU m.obs ids++m.ob,m.nx,m.tp⟩ w c1:=by show OX (MS.obs _) _ _ _ _;rw[ob1];exact ox1
      have t1':TrM m w c ⟨fzU m.obs ids++m.ob,m.nx,m.tp⟩ w c1:=by show Tr _ _ _ _ (MS.obs ⟨_,_,_⟩) _ _ _;rw[ob1];exact t1
      obtain⟨d1,d2⟩:=dataL_rel (m:=m.mem) hox ox1 t1 hH1 ss' hd (λ_ h=>h)
      obtain⟨x1,x2⟩:=undoL_rd hx
      have hTC':TapeC s.tp w c1.S T0:=by
       rcases hT with⟨e1,e2,e3,t,e4⟩|⟨e1,e2⟩
       ·rw[e1]
        obtain⟨T,h1,h2⟩:=ox1'.tpe e3
        exact⟨T,e2.trans (by rw[<-hT1];exact h1),h2,(ox1'.nT T h1).2⟩
       ·rw[e1];exact e2
      refine (hs x _ h w c1.S T0 us' ox1.sb hTC' (by omega) (λi d u hdi hu=> ?_)).mono ?_
      ·have hi:i<ds.length:=by have:=(List.getElem?_eq_some_iff.1 hdi).1;rw[tvs_len] at this;omega
       have his:i<ss'.length:=by omega
       exact x2 i d ds[i] hdi (List.getElem?_eq_getElem hi) (d2 i ss'[i] ds[i] (List.getElem?_eq_getElem his) (List.getElem?_eq_getElem hi) (hr' i _ u (List.getElem?_eq_getElem his) hu).1)
      ·rintro e w' ⟨v,y,c',rfl,hy,oxr,tr,hsr⟩
       have hTT:(s.tp=true/\true=true/\T0=c1.T)\/T0=none:=by
        rcases hT with⟨e1,e2,_⟩|⟨_,e2⟩
        ·exact .inl ⟨e1,rfl,by rw[hT1];exact e2⟩
        ·exact .inr e2
       obtain⟨c2,b1,b2,b3,b4⟩:=call_back (al:=true) ox1' hTT (λ_ _ _ h=>h) (.inl rfl) oxr tr (λe=>by
        rcases hT with⟨_,e2,_⟩|⟨e2,_⟩
        ·rw[hT1];exact e2
        ·rw[e] at e2;cases e2)
       have hsh:=instS_shift (c:=c') (c2:=c2) (w:=w') (n:=m.nx) (al:=true) (λ_=>b4 rfl) b3 s.rs [] y 0 hp rfl hsr
       refine⟨v,_,_,c2,rfl,hy,⟨⟨_,by show rowsOb _ _++(fzU m.obs ids++m.ob)=_;rw[<-List.append_assoc]⟩,id⟩,b1,t1'.trans b2,by rw[Nat.add_zero] at hsh;exact hsh,?_⟩
       refine SV.inU_mono (λi hi=> ?_) _ (instS_inU (n:=0) s.rs [] y m.nx hp)
       show i<m.nx+_
       rw[instS_rows s.rs [] y m.nx 0] at hi
       exact hi.2
    ·exact h.elim
   ·exact h.elim
  |false=>
   rw[hal] at h
   simp only[cond_false] at h
   split at h
   ·rename_i ds hd
    split at h
    ·rename_i x hx
     cases hp:(shPure s.rs&&shFlat s.rs&& !s.tp) with
     |false=>rw[hp] at h;exact h.elim
     |true=>
      rw[hp] at h
      simp only[cond_true] at h
      simp only[Bool.and_eq_true,Bool.not_eq_true'] at hp
      obtain⟨⟨p1,p2⟩,p3⟩:=hp
      have hT0:T0=none:=by
       rcases hT with⟨e1,_⟩|⟨_,e2⟩
       ·rw[p3] at e1;cases e1
       ·exact e2
      obtain⟨d1,d2⟩:=viewL_rel (m:=m.mem) hox ss' hd
      obtain⟨x1,x2⟩:=undoL_rd hx
      refine (hs x _ h w (lentS m.obs c) T0 us' (λb o hb=> ?_) (by rw[p3];exact hT0) (by omega) (λi d u hdi hu=> ?_)).mono ?_
      ·rcases hb with hb|⟨id,y,hy,ho,hb⟩
       ·exact hox.sb b o hb
       ·exact (hox.fb id y hy ho b hb).1
      ·have hi:i<ds.length:=by have:=(List.getElem?_eq_some_iff.1 hdi).1;rw[tvs_len] at this;omega
       have his:i<ss'.length:=by omega
       exact x2 i d ds[i] hdi (List.getElem?_eq_getElem hi) (d2 i ss'[i] ds[i] (List.getElem?_eq_getElem his) (List.getElem?_eq_getElem hi) (hr' i _ u (List.getElem?_eq_getElem his) hu).1)
      ·rintro e w' ⟨v,y,c',rfl,hy,oxr,tr,hsr⟩
       obtain⟨c2,b1,b2,b3,b4⟩:=call_back (al:=false) hox (.inr hT0) (λe=>by cases e) (.inr (instS_flat s.rs [] y 0 p2)) oxr tr (λe=>by rw[p3] at e;cases e)
       have hsh:=instS_shift (c:=c') (c2:=c2) (w:=w') (n:=m.nx) (al:=false) (λe=>by cases e) b3 s.rs [] y 0 p1 (by simpa using p2) hsr
       refine⟨v,_,_,c2,rfl,hy,⟨⟨_,rfl⟩,id⟩,b1,b2,by rw[Nat.add_zero] at hsh;exact hsh,?_⟩
       refine SV.inU_mono (λi hi=> ?_) _ (instS_inU (n:=0) s.rs [] y m.nx p1)
       show i<m.nx+_
       rw[instS_rows s.rs [] y m.nx 0] at hi
       exact hi.2
    ·exact h.elim
   ·exact h.elim
def findS:List Spec->FuncId->Option Spec
 |[],_=>none
 |s::r,f=>bif Nat.beq s.f f then some s else findS r f
structure Ctx where
 τ:TypeId->Option Ty
 sp:List Spec
 jn:Nat->Nat->Option Shape
def subK (fk id i:Nat):Nat:=(fk * 1021+id) * 1021+i+1
abbrev DR:=Nat->(Nat->CP)->Array Oper->St->(St->Prop)->Prop
def callF (P:Program)(C:Ctx)(dr:DR):Nat->Nat->CP
 |0,_=>λ_ _ _ _=>False
 |n+1,fk=>λf ss m k=>match findS C.sp f with
  |some s=>byCon s ss m k
  |none=>inline P (λid ops d st K=>bif d then dr id (λi=>callF P C dr n (subK fk id i)) ops st K else aops P C.τ (λi=>callF P C dr n (subK fk id i)) ops 0 ops.toList st K) (C.jn fk) f ss m k
def DrOK (P:Program)(dr:DR):Prop:=∀id cp ops st K,(∀i,CallOK P (cp i))->dr id cp ops st K->AC P (.region id ops true) st λe st'=>e= .normal/\K st'
theorem reg_ok {τ:TypeId->Option Ty}{dr:DR}(hdr:DrOK P dr){cp:Nat->Nat->CP}(hcp:∀id i,CallOK P (cp id i)):RegOK P (λid ops d st K=>bif d then dr id (cp id) ops st K else aops P τ (cp id) ops 0 ops.toList st K):=by
 intro id ops d st K h
 cases d with
 |true=>exact hdr id (cp id) ops st K (hcp id) h
 |false=>
  have h:aops P τ (cp id) ops 0 ops.toList st K:=h
  intro a w c hr
  exact wp_region_list (aops_ok (hcp id) ops.toList 0 st K h a w c hr _ λst' a' w' c' hs hk=>⟨st',c',hs,rfl,hk⟩)
def regF (P:Program)(C:Ctx)(dr:DR)(n fk:Nat):RG:=λid ops d st K=>bif d then dr id (λi=>callF P C dr n (subK fk id i)) ops st K else aops P C.τ (λi=>callF P C dr n (subK fk id i)) ops 0 ops.toList st K
def baseOf (tp:Bool):St:=⟨[],⟨[],0,tp⟩,1,[],[]⟩
def shOf (rs:Sh):Shape:=⟨[(0,rs)],[],[],[],[]⟩
def argsOf (tp:Bool)(ds:List D):List SV:=bif tp then .tp::ds.map SV.d else ds.map SV.d
def fitR (rs:Sh)(tp:Bool)(r:SV)(m:MS)(post:dens (shT rs [])->Prop):Prop:=match (shOf rs).fit (baseOf tp) ⟨[(0,noC r)],m,1,[],[]⟩ with
 |some y=>post y
 |none=>False
def walk (P:Program)(C:Ctx)(dr:DR)(n fk:Nat)(f:FuncId)(tp:Bool)(ds:List D)(rs:Sh)(post:dens (shT rs [])->Prop):Prop:=
 inline P (regF P C dr n fk) (C.jn fk) f (argsOf tp ds) ⟨[],0,tp⟩ λr m=>fitR rs tp r m post
theorem ox_base {tp:Bool}{w:World}{S:Cells}{T:Option Nat}(h1:∀b o,S b o->b<w.heap.size)(h2:TapeC tp w S T):OXM ⟨[],0,tp⟩ w (cx0 S T):=by
 refine⟨h1,λid x hx=>(by cases hx),λid x hx=>(by cases hx),λi j x y hx=>(by cases hx),λT' hT=> ?_,λhtp=> ?_,λhtp=> ?_⟩
 ·cases tp with
  |true=>
   obtain⟨t,e,ht,hn⟩:=h2
   have hT:T=some T':=hT
   rw[e] at hT
   injection hT with hT
   subst hT
   exact⟨ht.lt,hn⟩
  |false=>
   have h2:T=none:=h2
   have hT:T=some T':=hT
   rw[h2] at hT
   cases hT
 ·cases tp with
  |true=>
   obtain⟨t,e,ht,hn⟩:=h2
   exact⟨t,e,ht⟩
  |false=>cases htp
 ·cases tp with
  |true=>cases htp
  |false=>exact h2
def walkG (cp:CP)(f:FuncId)(tp:Bool)(ds:List D)(rs:Sh)(post:dens (shT rs [])->Prop):Prop:=
 cp f (argsOf tp ds) ⟨[],0,tp⟩ λr m=>fitR rs tp r m post
theorem walkG_ok {cp:CP}(hcp:CallOK P cp){f:FuncId}{tp:Bool}{ds:List D}{rs:Sh}{post:dens (shT rs [])->Prop}(h:walkG cp f tp ds rs post)
 {w:World} {S:Cells} {T:Option Nat} {us:List Value} (h1:∀b o,S b o->b<w.heap.size) (h2:TapeC tp w S T) (h3:us.length=ds.length) (h4:∀(i:Nat)(d:D)(u:Value),ds[i]? =some d->us[i]? =some u->Rd S w d u):
 Calls P f (tpArg T us).toArray w λe w'=>∃v y c',e= .returned v/\post y/\OXM (MS.add ⟨[],0,tp⟩ (instS rs [] y 0).2.1) w' c'/\TrM ⟨[],0,tp⟩ w (cx0 S T) (MS.add ⟨[],0,tp⟩ (instS rs [] y 0).2.1) w' c'/\SRel c' w' (instS rs [] y 0).1 v:=by
 have hox:=ox_base h1 h2
 have hargs:(tpArg T us).length=(argsOf tp ds).length/\∀(i:Nat)(s:SV)(u:Value),(argsOf tp ds)[i]? =some s->(tpArg T us)[i]? =some u->SRel (cx0 S T) w s u/\s.inU (MS.U ⟨[],0,tp⟩):=by
  have hd:∀(i:Nat)(s:SV)(u:Value),(ds.map SV.d)[i]? =some s->us[i]? =some u->SRel (cx0 S T) w s u/\s.inU (MS.U ⟨[],0,tp⟩):=λi s u hs hu=>by
   rw[List.getElem?_map,Option.map_eq_some_iff] at hs
   obtain⟨d,hd,rfl⟩:=hs
   exact⟨.d _ _ (h4 i d u hd hu),trivial⟩
  cases tp with
  |true=>
   obtain⟨t,e,ht,hn⟩:=h2
   subst e
   refine⟨by simp[tpArg,argsOf,h3],λi s u hs hu=> ?_⟩
   cases i with
   |zero=>
    simp[tpArg,argsOf] at hs hu
    subst hs hu
    exact⟨.tp t rfl,trivial⟩
   |succ i=>exact hd i s u (by simpa [argsOf] using hs) (by simpa [tpArg] using hu)
  |false=>
   have h2:T=none:=h2
   subst h2
   exact⟨by simp[tpArg,argsOf,h3],hd⟩
 refine (hcp f _ _ _ h _ w _ hox hargs.1 hargs.2).mono ?_
 rintro e w' ⟨v,r,m',c',rfl,hq,hfr,hox',htr,hs,hu⟩
 unfold fitR at hq
 split at hq
 ·rename_i y hy
  have hb0:RX (baseOf tp) {tmps:= #[undef],defers:=[]} w (cx0 S T):=⟨hox,rfl,λx u _=> .un u,λx=>trivial,λx q wt g y hx=>by cases hx⟩
  have hst:Step (baseOf tp) {tmps:= #[undef],defers:=[]} w (cx0 S T) ⟨[(0,noC r)],m',1,[],[]⟩ {tmps:= #[v],defers:=[]} w' c':=by
   refine⟨⟨hox',rfl,λx u hx=> ?_,λx=> ?_,λx q wt g y hx=> ?_⟩,htr,rfl,rfl,⟨[(0,noC r)],rfl⟩,hfr⟩
   ·show SRel c' w' (look [(0,noC r)] x) u
    rw[look_cons]
    split
    ·rename_i e
     subst e
     have:v=u:=by simpa using hx
     subst this
     exact noC_rel hs
    ·exact .un u
   ·show (look [(0,noC r)] x).inU _
    rw[look_cons]
    split
    ·exact noC_inU hu
    ·trivial
   ·have hx:look [(0,noC r)] x= .cnd q wt g y:=hx
    rw[look_cons] at hx
    split at hx
    ·exact absurd hx noC_ne
    ·cases hx
  obtain⟨c2,k⟩:=Shape.fit_ok hy hb0 hst
  have e:((shOf rs).inst (baseOf tp) y).ms=MS.add ⟨[],0,tp⟩ (instS rs [] y 0).2.1:=by
   show MS.mk _ _ _=MS.mk _ _ _
   have e1:(instL (shOf rs).all [] y 0).2.1=(instS rs [] y 0).2.1:=List.append_nil _
   show MS.mk ([]++([]++(rowsOb 0 (instL (shOf rs).all [] y 0).2.1++([]++[])))) (0+(instL (shOf rs).all [] y 0).2.1.length) tp=_
   rw[e1];rfl
  refine⟨v,y,c2,rfl,hq,?_,?_,k.rx.sl 0 v rfl⟩
  ·have:=k.rx.ox;rw[e] at this;exact this
  ·have:=k.tr;rw[e] at this;exact this
 ·exact hq.elim
theorem SpecOK.of_walkG {cp:CP}(hcp:CallOK P cp){s:Spec}(h:∀x post,s.pt x post->walkG cp s.f s.tp (tvs s.ts x) s.rs post):SpecOK P s:=
 λx post hp w S T us h1 h2 h3 h4=>walkG_ok hcp (h x post hp) h1 h2 (by rw[h3,tvs_len]) h4
def lookJ:List (Nat×Nat×Shape)->Nat->Nat->Option Shape
 |[],_,_=>none
 |(a,b,s)::r,x,y=>bif Nat.beq a x&&Nat.beq b y then some s else lookJ r x y
section
variable {P:Program} {ops:Array Oper} {Q:Exit->Act->World->Prop} {md:Region.Mode} {S:Nat->World->Prop} {B:Nat->Nat->Bool}
def wpT (P:Program)(md:Region.Mode)(ops:Array Oper)(Q:Exit->Act->World->Prop)(S:Nat->World->Prop)(B:Nat->Nat->Bool):Nat->Array Bool->Act->World->Prop
 |0,L,a,w=>Region.ready md ops L=[]/\Q .normal a w
 |n+1,L,a,w=>(Region.ready md ops L=[]->Q .normal a w)/\∀i∈Region.ready md ops L,wpOp P ops Q i (λa' w'=>(∀p,B i p=true->S p w->S p w')/\wpT P md ops Q S B n (L.setIfInBounds i true) a' w') a w
theorem wpAny_of_T:∀(n:Nat)(L:Array Bool)(a:Act)(w:World),wpT P md ops Q S B n L a w->wpAny P md ops Q n L a w
 |0,_,_,_,h=>h
 |n+1,_,_,_,h=>⟨h.1,λi hi=>wpOp_mono (λa' w' h'=>wpAny_of_T n _ a' w' h'.2) (h.2 i hi)⟩
def waitsT (md:Region.Mode)(ops:Array Oper):Nat->Nat->Nat->Bool
 |0,_,_=>false
 |n+1,j,i=>match ops[j]? with
  |some o=>o.after.any λe=>Region.binds md e&&(e.on==i||waitsT md ops n e.on i)
  |none=>false
theorem waits_one {j i:Nat}{oj:Oper}(hj:ops[j]? =some oj)(h:waitsT md ops 1 j i=false):∀e∈oj.after,Region.binds md e=true->e.on≠i:=λe he hb heq=>by
 unfold waitsT at h
 rw[hj] at h
 simp only[waitsT,Bool.or_false] at h
 rw[Array.any_eq_false] at h
 obtain⟨k,hk,rfl⟩:=Array.getElem_of_mem he
 exact h k hk (by simp[hb,heq])
def Closed (md:Region.Mode)(ops:Array Oper)(L:Array Bool):Prop:=∀k ok,ops[k]? =some ok->L.getD k true=true->∀e∈ok.after,Region.binds md e=true->L.getD e.on true=true
theorem Closed.waits {L:Array Bool}(hc:Closed md ops L){i:Nat}:∀(n j:Nat),(∀oj,ops[j]? =some oj->∀e∈oj.after,Region.binds md e=true->L.getD e.on true=true)->waitsT md ops n j i=true->L.getD i true=true
 |0,j,_,h=>by cases h
 |n+1,j,hj,h=>by
  unfold waitsT at h
  split at h
  ·rename_i o ho
   rw[Array.any_eq_true] at h
   obtain⟨x,hx,hb⟩:=h
   obtain⟨b1,b2⟩:=Bool.and_eq_true_iff.1 hb
   have h1:=hj o ho _ (Array.getElem_mem hx) b1
   rcases Bool.or_eq_true_iff.1 b2 with b2|b2
   ·have e:(o.after[x]).on=i:=by simpa using b2
    rw[<-e];exact h1
   ·exact Closed.waits hc n _ (λoj hoj e he hbe=>hc _ oj hoj h1 e he hbe) b2
  ·cases h
theorem getD_true_set {L:Array Bool}{i k:Nat}(h:L.getD k true=true):(L.setIfInBounds i true).getD k true=true:=by
 by_cases e:i=k
 ·subst e
  rcases Nat.lt_or_ge i L.size with h'|h'
  ·simp[h']
  ·simp[]
 ·rw[getD_set_ne true e];exact h
theorem ready_deps {L:Array Bool}{i:Nat}(h:i∈Region.ready md ops L){oi:Oper}(ho:ops[i]? =some oi):∀e∈oi.after,Region.binds md e=true->L.getD e.on true=true:=λe he hb=>by
 obtain⟨_,o',ho',hall⟩:=mem_ready.1 h
 rw[ho] at ho'
 cases ho'
 have h1:=hall e he hb
 rcases Nat.lt_or_ge e.on L.size with h'|h'
 ·simp[h'] at h1 ⊢;exact h1
 ·simp[Array.getElem?_eq_none h']
theorem Closed.set {L:Array Bool}(hc:Closed md ops L){i:Nat}(hi:i∈Region.ready md ops L):Closed md ops (L.setIfInBounds i true):=λk ok hk hL e he hb=>by
 by_cases hki:i=k
 ·subst hki;exact getD_true_set (ready_deps hi hk e he hb)
 ·rw[getD_set_ne true hki] at hL
  exact getD_true_set (hc k ok hk hL e he hb)
theorem Closed.start:Closed md ops (Array.replicate ops.size false):=λk ok hk hL=>by
 obtain⟨h,_⟩:=Array.getElem?_eq_some_iff.1 hk
 simp[h] at hL
theorem ready_not {L:Array Bool}{i:Nat}(h:i∈Region.ready md ops L):L.getD i true=false:=(mem_ready.1 h).1
theorem wpT_first {i:Nat}{oi:Oper}{v:Value}{S':World->Prop}(hi:ops[i]? =some oi)(hsel:∀(j:Nat)(o:Oper)cs b,ops[j]? =some o->o.op≠.select cs b)
 (hQ:∀c a w,Q (.panic c) (a.put oi.dst v) w->Q (.panic c) a w):
 ∀(n:Nat)(L:Array Bool)(a:Act)(w:World),
  (∀j oj,ops[j]? =some oj->j≠i->L.getD j true=false->(∀n,waitsT md ops n j i=false)->oi.apart ops oj=true/\∀w w',S' w->(∀p,B j p=true->S p w->S p w')->S' w')->
  Closed md ops L->i∈Region.ready md ops L->YieldsIf P ops S' oi v a->S' w->
  wpT P md ops Q S B n (L.setIfInBounds i true) (a.put oi.dst v) w->wpT P md ops Q S B (n+1) L a w:=by
 intro n
 induction n with
 |zero=>
  intro L a w hfree hcl hr hy hS H
  refine⟨λh=>(by rw[h] at hr;cases hr),λj hj=> ?_⟩
  by_cases hji:j=i
  ·subst hji;exact hy.wpOp hi hS ⟨λ_ _ h=>h,H⟩
  ·have:=ready_mono hj hji
   rw[H.1] at this
   cases this
 |succ n ih=>
  intro L a w hfree hcl hr hy hS H
  refine⟨λh=>(by rw[h] at hr;cases hr),λj hj=> ?_⟩
  by_cases hji:j=i
  ·subst hji;exact hy.wpOp hi hS ⟨λ_ _ h=>h,H⟩
  ·have h1:=H.2 j (ready_mono hj hji)
   obtain⟨hjun,oj,hoj,hall⟩:=mem_ready.1 hj
   have hnot:∀n,waitsT md ops n j i=false:=λn=>by
    cases hw:waitsT md ops n j i with
    |false=>rfl
    |true=>
     have:=hcl.waits n j (λo' ho' e he hb=>ready_deps hj ho' e he hb) hw
     rw[ready_not hr] at this
     cases this
   obtain⟨hap,hst⟩:=hfree j oj hoj hji hjun hnot
   have h2:=wpOp_putIf hoj hap (λcs b=>hsel i oi cs b hi) (λcs b=>hsel j oj cs b hoj) hQ hy h1
   have hfree':∀k ok,ops[k]? =some ok->k≠i->(L.setIfInBounds j true).getD k true=false->
    (∀n,waitsT md ops n k i=false)->oi.apart ops ok=true/\∀w w',S' w->(∀p,B k p=true->S p w->S p w')->S' w':=λk ok hk hki hun hno=>by
    refine hfree k ok hk hki ?_ hno
    by_cases hjk:j=k
    ·subst hjk;exact hjun
    ·rw[getD_set_ne true hjk] at hun;exact hun
   refine wpOp_mono (λa' w' h3=>⟨h3.2.1,ih (L.setIfInBounds j true) a' w' hfree' (hcl.set hj) (ready_mono hr (Ne.symm hji)) h3.1 (hst w w' hS h3.2.1) ?_⟩) h2
   rw[Array.setIfInBounds_comm _ _ hji]
   exact h3.2.2
end
def WF (P:Program){α:Type}(s:Sem α):Prop:=∀w v w1,s.run P w= .ok v w1->w1=w/\∀w',s.run P w'= .ok v w'
theorem WF.pure {α:Type}(x:α):WF P (Pure.pure x:Sem α):=λw v w1 h=>by
 simp only[Sem.run_pure,Result.ok.injEq] at h
 obtain⟨rfl,rfl⟩:=h
 exact⟨rfl,λw'=>rfl⟩
theorem WF.halt {α:Type}(x:Halt):WF P (.halt x:Sem α):=λw v w1 h=>by simp at h
theorem WF.bind {α β:Type}{x:Sem α}{f:α->Sem β}(hx:WF P x)(hf:∀a,WF P (f a)):WF P (x>>=f):=λw v w1 h=>by
 rw[Sem.run_bind] at h
 cases hr:x.run P w with
 |ok y w2=>
  rw[hr] at h
  obtain⟨rfl,h2⟩:=hx w y w2 hr
  obtain⟨rfl,h4⟩:=hf y w2 v w1 h
  refine⟨rfl,λw'=> ?_⟩
  rw[Sem.run_bind,h2 w']
  exact h4 w'
 |halt y w2=>rw[hr] at h;cases h
theorem WF.program:WF P program:=λw v w1 h=>by
 simp only[run_program,Result.ok.injEq] at h
 obtain⟨rfl,rfl⟩:=h
 exact⟨rfl,λw'=>rfl⟩
theorem WF.never {α:Type}{x:Sem α}(h:∀w v w1,x.run P w≠.ok v w1):WF P x:=λw v w1 e=>absurd e (h w v w1)
theorem WF.stuck {α:Type}(s:String):WF P (stuck s:Sem α):= .halt _
theorem WF.unsupported {α:Type}(s:Unsupported):WF P (unsupported s:Sem α):= .halt _
theorem WF.typeInfo (t:TypeId):WF P (typeInfo t):=WF.bind .program λp=>by split<;>first|exact .pure _|exact .stuck _
theorem WF.underlying (t:TypeId):WF P (underlying t):=WF.bind .program λp=>by split<;>first|exact .pure _|exact .stuck _
theorem WF.sizeOf (t:TypeId):WF P (sizeOf t):=WF.bind (.typeInfo t) λ_=> .pure _
theorem WF.asBool (v:Value):WF P (asBool v):=by unfold Go.asBool;split<;>first|exact .pure _|exact .stuck _
theorem WF.asIntOf (v:Value):WF P (asIntOf v):=by unfold Go.asIntOf;split<;>first|exact .pure _|exact .stuck _|exact .unsupported _
theorem WF.sureAddr (v:Value):WF P (Instr.sureAddr v):=by unfold Instr.sureAddr;split<;>first|exact .pure _|exact .stuck _
theorem WF.extract (v:Value)(i:Nat):WF P (Instr.extract v i):=by unfold Instr.extract;(repeat' split)<;>first|exact .pure _|exact .stuck _
theorem boundsRun_never {α:Type}(x y:Int)(s:Bool)(c:BoundsCode):∀w (v:α)w1,(runtimePanic (.bounds x y s c):Sem α).run P w≠.ok v w1:=λw v w1=>by
 unfold runtimePanic
 simp[goPanic]
theorem boundsPanic_never {α:Type}(k:IntKind)(x y:Int)(c:BoundsCode):∀w (v:α)w1,(boundsPanic k x y c:Sem α).run P w≠.ok v w1:=λw v w1 h=>by
 unfold boundsPanic at h
 simp only[] at h
 split at h
 ·rw[Sem.run_bind] at h
  generalize ((λx=>x==1)<$>choose (.extern "runtime.boundsError.signed" 2):Sem Bool).run P w=r at h
  cases r with
  |ok b w2=>exact boundsRun_never _ _ _ _ _ _ _ h
  |halt _ _=>cases h
 ·rw[Sem.run_bind] at h
  exact boundsRun_never _ _ _ _ _ _ _ h
theorem WF.bounds {α:Type}(k:IntKind)(x y:Int)(c:BoundsCode):WF P (boundsPanic k x y c:Sem α):= .never (boundsPanic_never k x y c)
theorem run_fieldAt {s f k:Nat}(h:fldOff P s f=some k)(v:Value)(w:World):(Instr.fieldAt s v f).run P w=match v with| .pointer (some a)=> .ok (.pointer (some (a.add k))) w|_=> .halt (.stuck "an address expected (no nilCheck in front?)") w:=by
 obtain⟨fs,fd,i,hu',hf,hk,hi,hz⟩:=fldOff_spec h
 unfold Instr.fieldAt
 simp only[Sem.run_bind,run_underlying hu',Result.andThen_ok,hf]
 unfold Instr.sureAddr
 subst hk
 split<;>simp_all[fieldPlace,Go.sizeOf,Go.typeInfo]
theorem WF.fieldAt {s f k:Nat}(h:fldOff P s f=some k)(v:Value):WF P (Instr.fieldAt s v f):=by
 intro w r w1 e
 rw[run_fieldAt h] at e
 split at e
 ·injection e with e1 e2
  subst e1 e2
  exact⟨rfl,λw'=>by rw[run_fieldAt h]⟩
 ·cases e
theorem WF.indexAt (t:TypeId)(u v:Value):WF P (Instr.indexAt t u v):=by
 unfold Instr.indexAt
 refine WF.bind (.asIntOf _) λx=> ?_
 repeat' first|exact WF.pure _|exact WF.stuck _|exact WF.unsupported _|exact WF.bounds _ _ _ _|exact WF.underlying _|exact WF.sureAddr _|exact WF.sizeOf _|refine WF.bind ?_ λ_=> ?_|split|(show WF P (Bind.bind _ _))|(dsimp only)
theorem nilRun_never {α:Type}:∀w (v:α)w1,(runtimePanic .nilDeref:Sem α).run P w≠.ok v w1:=λw v w1=>by
 unfold runtimePanic
 simp[goPanic]
theorem WF.asAddr (v:Value):WF P (asAddr v):=by
 unfold Go.asAddr
 split
 ·exact .pure _
 ·exact .never nilRun_never
 ·exact .stuck _
theorem WF.sliceAt (t:TypeId)(x:Value)(lo hi:Option Value):WF P (Instr.sliceAt t x lo hi none):=by
 unfold Instr.sliceAt Instr.slice Instr.sliceBounds Instr.sliceBound
 refine WF.bind (.underlying _) λu=> ?_
 repeat' first|exact WF.pure _|exact WF.stuck _|exact WF.unsupported _|exact WF.bounds _ _ _ _|exact WF.underlying _|exact WF.sureAddr _|exact WF.sizeOf _|exact WF.asIntOf _|exact WF.asAddr _|refine WF.bind ?_ λ_=> ?_|split|(show WF P (Bind.bind _ _))|(dsimp only)
def wfree (P:Program)(o:Oper):Bool:=match o.op with
 | .move _=>true
 | .assign _=>true
 | .pick _ _ _=>true
 | .extract _ _=>true
 | .fieldAddr s _ f=>(fldOff P s f).isSome
 | .indexAddr _ _ _=>true
 | .slice _ _ _ _ none=>true
 |_=>false
def valS (s:Sem Value):Sem Next:=s>>=λx=>Pure.pure (.value x)
theorem wfree_ok {o:Oper}(h:wfree P o=true)(ev:Operand->Value):∃s,execOp ev o=valS s/\WF P s:=by
 unfold wfree at h
 split at h<;>rename_i he
 ·exact⟨Pure.pure _,by simp only[execOp,he];rfl,.pure _⟩
 ·exact⟨Pure.pure _,by simp only[execOp,he];rfl,.pure _⟩
 ·rename_i q x y
  exact⟨do Pure.pure (if <-asBool (ev q) then ev x else ev y),by simp only[execOp,he,valS];simp,WF.bind (.asBool _) λb=> .pure _⟩
 ·exact⟨_,by simp only[execOp,he];rfl,.extract _ _⟩
 ·obtain⟨k,hk⟩:=Option.isSome_iff_exists.1 h
  exact⟨_,by simp only[execOp,he];rfl,.fieldAt hk _⟩
 ·exact⟨_,by simp only[execOp,he];rfl,.indexAt _ _ _⟩
 ·exact⟨_,by simp only[execOp,he];rfl,.sliceAt _ _ _ _⟩
 ·cases h
theorem cell_block {w w':World}{a:Addr}(h:w'.heap[a.block]? =w.heap[a.block]?):w'.cell? a=w.cell? a:=by
 unfold World.cell?
 rw[h]
def CB (w w':World)(b:Nat):Prop:=∀o,w'.cell? ⟨b,o,none⟩=w.cell? ⟨b,o,none⟩
theorem pCells_blk {t:TypeId}{cs:List SV}{r:SV}(h:pCells P t cs=some r){w:World}{b o:Nat}{us:List Value}(hl:us.length=cs.length)(hc:∀j u,us[j]? =some u->w.cell? ⟨b,o+j,none⟩=some u):
 ∃v,∀w':World,CB w w' b->(Instr.loadAt t (.pointer (some ⟨b,o,none⟩))).run P w'= .ok v w':=by
 have hc':∀w':World,CB w w' b->∀j u,us[j]? =some u->w'.cell? ⟨b,o+j,none⟩=some u:=λw' hw j u hj=>by
  rw[hw (o+j)];exact hc j u hj
 unfold pCells at h
 cases ho:oneTy P t with
 |true=>
  rw[ho] at h
  simp only[cond_true] at h
  have h0:0<us.length:=by rw[hl];exact (List.getElem?_eq_some_iff.1 h).1
  exact⟨us[0],λw' hw=>run_load_one ho (by simpa using hc' w' hw 0 us[0] (List.getElem?_eq_getElem h0))⟩
 |false=>
  rw[ho] at h
  simp only[cond_false] at h
  cases hb:(rowTy P t&&hasTy P t&&Nat.ble (tsz P t) cs.length) with
  |false=>rw[hb] at h;cases h
  |true=>
   rw[hb] at h
   simp only[cond_true,Option.some.injEq] at h
   simp only[Bool.and_eq_true] at hb
   obtain⟨⟨k1,k2⟩,k3⟩:=hb
   have k3:=Nat.le_of_ble_eq_true k3
   refine⟨.agg (us.take (tsz P t)).toArray,λw' hw=>run_load_agg k1 k2 (by rw[List.length_take];omega) (λj u hj=> ?_)⟩
   rw[List.getElem?_take] at hj
   split at hj
   ·exact hc' w' hw j u hj
   ·cases hj
def okLoad (ob:Obs)(pr:List Nat):SV->Bool
 | .d (.p cs)=> !cs.isEmpty
 | .bx id _=>has pr id
 | .op id _ _ _=>match ob id with
  |some (.row _ _ _)=>has pr id
  |some (.fro t _)=>Nat.ble 1 (size t)
  |_=>false
 | .np id _ _ _=>has pr id
 | .ip id _ _ _ _=>has pr id
 |_=>false
def Keeps (c:Cx)(ob:Obs)(pr:List Nat)(b:Nat):Prop:=(∃o,c.S b o)\/∃id x,has pr id=true/\ob id=some x/\x.own=true/\c.F id b
theorem pLoad_blk {m:Mem}{t:TypeId}{s r:SV}(h:pLoad P m t s=some r){c:Cx}{w:World}{u:Value}(ox:OX m.ob m.U m.tp w c)(hs:SRel c w s u){pr:List Nat}(hk:okLoad m.ob pr s=true):
 ∃v b,Keeps c m.ob pr b/\∀w':World,CB w w' b->(Instr.loadAt t u).run P w'= .ok v w':=by
 unfold pLoad at h
 split at h
 ·rename_i cs
  have hrd:=srel_d hs
  cases hrd with
  |p _ b off f h1 h2=>
   obtain⟨v,hv⟩:=pCells_blk (w:=w) (b:=b) (o:=off) h (us:=(List.range cs.length).map f) (by simp) (λj u hj=>by
    have hjl:j<cs.length:=by have:=(List.getElem?_eq_some_iff.1 hj).1;simpa using this
    simp[hjl] at hj;subst hj;exact (h1 j hjl).2.1)
   have h0:0<cs.length:=by
    cases cs with
    |nil=>simp[okLoad] at hk
    |cons _ _=>simp
   exact⟨v,b,.inl ⟨_,(h1 0 h0).1⟩,hv⟩
 ·rename_i id off
  split at h
  ·rename_i cs hob
   obtain⟨b,hb,rfl⟩:=srel_bx hs
   obtain⟨_,hU,b',arr,t',h1,h2,h3,h4,h5,h6⟩:=ox.objs id _ hob
   rw[h1] at hb
   injection hb with hb
   injection hb with hb
   injection hb with hb
   subst hb
   obtain⟨v,hv⟩:=pCells_blk (w:=w) (b:=b') (o:=off) h (us:=arr.drop off) (by simp[h4]) (λj u hj=>by
    rw[List.getElem?_drop] at hj
    rw[cell_row h3];simpa using hj)
   exact⟨v,b',.inr ⟨id,_,hk,hob,rfl,(h2 b').2 rfl⟩,hv⟩
  ·cases h
 ·rename_i id z sz j
  split at h
  ·rename_i ty l hrow
   cases hb:(Nat.beq sz (size ty)&&Nat.ble j sz) with
   |false=>rw[hb] at h;cases h
   |true=>
    rw[hb] at h
    simp only[cond_true] at h
    obtain⟨k1,k2⟩:=Bool.and_eq_true_iff.1 hb
    have k1:=beq_eq k1
    subst k1
    obtain⟨g,n,cap,hH,rfl,hz⟩:=srel_op hs
    obtain⟨ad,cap',hv,hc,hm,hcell⟩:=rowOf_rel ox hrow
    rw[hH] at hv
    injection hv with e1 e2 e3
    subst e1 e2 e3
    obtain⟨g',hg',hcc⟩:=hcell z.toNat _ (ix_get (l:=l) (i:=z) ⟨hz.1,hz.2⟩)
    injection hg' with hg'
    injection hg' with hg'
    subst hg'
    obtain⟨us,u1,u2,u3,u4⟩:=load_cells (c:=c) (w:=w) (g:=⟨g,0,none⟩) (off:=z.toNat * size ty+j) (cs:=(enc ty (ix l z)).drop j) rfl (λj' d hd=>by
     rw[List.getElem?_drop] at hd
     have:=hcc _ d hd
     rw[<-Nat.add_assoc] at this
     rw[addr_add,Nat.zero_add];exact this)
    obtain⟨v,hv⟩:=pCells_blk (w:=w) (b:=g) (o:=z.toNat * size ty+j) h (us:=us) (by simp[u1]) (λj' u hj'=>by
     have:=u2 j' u hj'
     simpa using this)
    refine⟨v,g,?_,hv⟩
    unfold rowOf at hrow
    split at hrow
    ·rename_i e t' l' hob
     injection hrow with hrow
     cases hrow
     have hk:(match m.ob id with|some (.row _ _ _)=>has pr id|some (.fro t _)=>Nat.ble 1 (size t)|_=>false)=true:=hk
     rw[hob] at hk
     obtain⟨h0,h|⟨g2,cap2,cur,hv2,hF,_⟩⟩:=(ox.objs id _ hob).2.2
     ·obtain⟨hl,⟨ad,hv3⟩,_⟩:=h
      subst hl
      simp at hz;omega
     ·rw[hH] at hv2
      injection hv2 with e1 _ _
      injection e1 with e1
      injection e1 with e1
      subst e1
      exact .inr ⟨id,_,hk,hob,rfl,(hF g).2 rfl⟩
    ·rename_i t' l' hob
     injection hrow with hrow
     cases hrow
     have hk:(match m.ob id with|some (.row _ _ _)=>has pr id|some (.fro t _)=>Nat.ble 1 (size t)|_=>false)=true:=hk
     rw[hob] at hk
     have hsz:0<size ty:=Nat.le_of_ble_eq_true hk
     obtain⟨ad,cap2,b,off,f,e0,_,_,ha,q1,q2⟩:=((ox.objs id _ hob).2.2.1).slInv
     rw[hH] at e0
     injection e0 with e1 _ _
     rcases ha with ha|ha
     ·rw[ha] at hz;simp at hz;omega
     ·rw[ha] at e1
      injection e1 with e1
      injection e1 with e1 e2
      subst e1
      exact .inl ⟨_,(q1 0 (by obtain⟨z1,z2⟩:=hz;omega) 0 hsz).1⟩
    ·cases hrow
  ·cases h
 ·rename_i id z sz j
  split at h
  ·rename_i ty k t' l hn
   cases hb:(Nat.beq sz (size ty)&&Nat.ble j sz) with
   |false=>rw[hb] at h;cases h
   |true=>
    rw[hb] at h
    simp only[cond_true] at h
    have k1:=beq_eq (Bool.and_eq_true_iff.1 hb).1
    subst k1
    obtain⟨b,o,us,rfl,hF,u1,u2,u3,u4⟩:=np_cells ox hn hs
    obtain⟨v,hv⟩:=pCells_blk (w:=w) (b:=b) (o:=o) h (us:=us) u1 u2
    have hob:∃e f,m.ob id=some (.nst e ty k f t' l):=by
     unfold nstOf at hn
     split at hn
     ·rename_i hr;injection hn with hn;cases hn;exact⟨_,_,hr⟩
     ·cases hn
    obtain⟨e,f,hob⟩:=hob
    exact⟨v,b,.inr ⟨id,_,hk,hob,rfl,hF⟩,hv⟩
  ·cases h
 ·rename_i id i z sz j
  split at h
  ·rename_i ty k t' l hn
   cases hb:(Nat.beq sz (size t')&&Nat.ble j sz) with
   |false=>rw[hb] at h;cases h
   |true=>
    rw[hb] at h
    simp only[cond_true] at h
    have k1:=beq_eq (Bool.and_eq_true_iff.1 hb).1
    subst k1
    obtain⟨b,o,us,rfl,hF,u1,u2,u3,u4⟩:=ip_cells ox hn hs
    obtain⟨v,hv⟩:=pCells_blk (w:=w) (b:=b) (o:=o) h (us:=us) u1 u2
    have hob:∃e f,m.ob id=some (.nst e ty k f t' l):=by
     unfold nstOf at hn
     split at hn
     ·rename_i hr;injection hn with hn;cases hn;exact⟨_,_,hr⟩
     ·cases hn
    obtain⟨e,f,hob⟩:=hob
    exact⟨v,b,.inr ⟨id,_,hk,hob,rfl,hF⟩,hv⟩
  ·cases h
 ·cases h
def m0:Mem:=⟨λ_=>none,λ_=>False,false⟩
def flatS:SV->SV
 | .d x=>bif x.flat then .d x else .un
 |_=> .un
def Looks (c:Cx)(ob:Obs)(pr:List Nat)(w w':World):Prop:=∀b,Keeps c ob pr b->CB w w' b
def flK (P:Program)(m:Mem)(pr:List Nat)(ρ:Operand->SV)(o:Oper):Option (List Cnd×Bool):=
 bif wfree P o then some ([],false) else match o.op with
  | .load _ x=>bif okLoad m.ob pr (ρ x) then some ([],true) else none
  | .nilCheck x=>bif isPtr (ρ x) then some ([],false) else none
  |_=>match pop P m0 (λx=>flatS (ρ x)) o with
   |some R=>match R.r with
    | .d (.v _)=>some (R.ps,false)
    |_=>none
   |none=>none
theorem ox0 (w:World):OX m0.ob m0.U m0.tp w (cx0 (λ_ _=>False) none):=
 ⟨λ_ _ h=>h.elim,λid x hx=>(by cases hx),λid x hx=>(by cases hx),λi j x y hx=>(by cases hx),λT h=>(by cases h),λh=>(by cases h),λ_=>rfl⟩
theorem rels0 {ρ:Operand->SV}{a:Act}{w:World}{c:Cx}(hr:∀x,SRel c w (ρ x) (a.eval x))(w':World):RelsC m0 (λx=>flatS (ρ x)) a w' (cx0 (λ_ _=>False) none):=by
 refine⟨⟨ox0 w',λx=> ?_,λx=> ?_⟩,λx q1 w1 g1 y1 b hx hq=> ?_⟩
 ·have h:=hr x
  generalize ρ x=s at h
  unfold flatS
  split
  ·rename_i d
   cases hf:d.flat with
   |false=>exact .un _
   |true=>exact .d _ _ ((srel_d h).flat hf)
  ·exact .un _
 ·generalize ρ x=s
  unfold flatS
  split
  ·rename_i d
   cases d.flat<;>exact trivial
  ·exact trivial
 ·exfalso
  generalize ρ x=s at hx
  unfold flatS at hx
  split at hx
  ·rename_i d
   cases hd:d.flat with
   |false=>rw[hd] at hx;cases hx
   |true=>rw[hd] at hx;cases hx
  ·cases hx
theorem flK_ok {m:Mem}{pr:List Nat}{ρ:Operand->SV}{o:Oper}{ps:List Cnd}{lk:Bool}(h:flK P m pr ρ o=some (ps,lk)){R:PRes}(hp:popS P m ρ o=some R){a:Act}{w:World}{c:Cx}(hr:RelsC m ρ a w c)(h1:allC ps)(h2:allC R.ps):
 ∃v,SRel c w R.r v/\R.r.inU m.U/\allL R.fs/\∀w',(lk=true->Looks c m.ob pr w w')->(execOp a.eval o).run P w'= .ok (.value v) w':=by
 obtain⟨v,k1,k2,k3,k4⟩:=popS_run hp hr h2
 unfold flK at h
 cases hw:wfree P o with
 |true=>
  obtain⟨s,e1,e2⟩:=wfree_ok hw a.eval
  refine⟨v,k2,k3,k4,λw' _=> ?_⟩
  rw[e1] at k1 ⊢
  have hv:WF P (valS s):=WF.bind e2 λ_=> .pure _
  exact (hv w _ _ k1).2 w'
 |false=>
  rw[hw] at h
  simp only[cond_false] at h
  split at h
  ·rename_i t x he
   cases hk:okLoad m.ob pr (ρ x) with
   |false=>rw[hk] at h;cases h
   |true=>
    rw[hk] at h
    simp only[cond_true,Option.some.injEq,Prod.mk.injEq] at h
    obtain⟨rfl,rfl⟩:=h
    have hpl:pLoad P m t (ρ x)=some R.r:=by
     have hp:=popS_pop hp (λt x lo hi e=>by rw[he] at e;cases e)
     unfold pop at hp
     rw[he] at hp
     have hp:liftS (pLoad P m t (ρ x))=some R:=hp
     unfold liftS at hp
     split at hp
     ·rename_i r hr'
      injection hp with hp
      rw[hr',<-hp]
     ·cases hp
    obtain⟨v',b,b1,b2⟩:=pLoad_blk hpl hr.ox (hr.op x) hk
    have hrun:∀w',CB w w' b->(execOp a.eval o).run P w'= .ok (.value v') w':=λw' hw'=>by
     simp[execOp,he,b2 w' hw']
    have:v=v':=by
     have:=hrun w λ_=>rfl
     rw[k1] at this
     injection this with this
     injection this
    subst this
    exact⟨v,k2,k3,k4,λw' hl=>hrun w' (hl rfl b b1)⟩
  ·rename_i x he
   cases hk:isPtr (ρ x) with
   |false=>rw[hk] at h;cases h
   |true=>
    rw[hk] at h
    simp only[cond_true,Option.some.injEq,Prod.mk.injEq] at h
    obtain⟨rfl,rfl⟩:=h
    obtain⟨ad,had⟩:=isPtr_rel hk (hr.op x)
    have hrun:∀w',(execOp a.eval o).run P w'= .ok (.value (a.eval x)) w':=λw'=>by simp[execOp,he,had]
    have:v=a.eval x:=by
     have:=hrun w
     rw[k1] at this
     injection this with this
     injection this
    subst this
    exact⟨_,k2,k3,k4,λw' _=>hrun w'⟩
  ·split at h
   ·rename_i R' hR'
    split at h
    ·rename_i x hx
     simp only[Option.some.injEq,Prod.mk.injEq] at h
     obtain⟨rfl,rfl⟩:=h
     have key:∀w',(execOp a.eval o).run P w'= .ok (.value x) w':=λw'=>by
      obtain⟨v',q1,q2,_,_⟩:=pop_run hR' (rels0 hr.op w') h1
      rw[hx] at q2
      rw[<-srel_v q2];exact q1
     have:v=x:=by
      have:=key w
      rw[k1] at this
      injection this with this
      injection this
     subst this
     exact⟨v,k2,k3,k4,λw' _=>key w'⟩
    ·cases h
   ·cases h
def fstep (P:Program)(pr:List Nat)(all:Array Oper)(o:Oper)(st:St):Option (Bool×((St->Prop)->Prop)):=
 match o.guard with
 |none=>match popS P st.ms.mem st.ev o,flK P st.ms.mem pr st.ev o with
  |some R,some (ps,lk)=>bif dstOK st o.dst then some (lk,λK=>andL (ps.map Cnd.pr) (andL (R.ps.map Cnd.pr) (impL R.fs (K (st.set o.dst R.r st.ms))))) else none
  |_,_=>none
 |some (j,want)=>match (all[j]?).bind (·.dst),o.dst with
  |some q,some d=>match guardG want (look st.sl q) with
   |some G=>bif dstOK st (some d)&& !(Nat.beq q d)&&Nat.blt q st.n then match popS P st.ms.mem (λx=>stripS q want (st.ev x)) o,flK P st.ms.mem pr (λx=>stripS q want (st.ev x)) o with
    |some R,some (ps,lk)=>bif R.r.lowN st.ms.nx then some (lk,λK=>andL ((ps.map Cnd.pr).map (G=true->·)) (andL ((R.ps.map Cnd.pr).map (G=true->·)) (impL (R.fs.map (G=true->·)) (K (st.setG d q want G R.r))))) else none
    |_,_=>none
    else none
   |none=>none
  |_,_=>none
theorem fstep_ok {pr:List Nat}{all:Array Oper}{o:Oper}{st:St}{lk:Bool}{T:(St->Prop)->Prop}(h:fstep P pr all o st=some (lk,T)){K:St->Prop}(hT:T K){a:Act}{w:World}{c:Cx}(hr:RX st a w c):
 ∃v st',YieldsIf P all (λw'=>lk=true->Looks c st.ms.obs pr w w') o v a/\RX st' (a.put o.dst v) w c/\st'.ms=st.ms/\Fr st st'/\K st':=by
 unfold fstep at h
 split at h
 ·rename_i hg
  split at h
  ·rename_i R ps lk' hp hf
   cases hd:dstOK st o.dst with
   |false=>rw[hd] at h;cases h
   |true=>
    rw[hd] at h
    simp only[cond_true,Option.some.injEq,Prod.mk.injEq] at h
    obtain⟨rfl,rfl⟩:=h
    obtain⟨t1,hT⟩:=andL_spec hT
    obtain⟨t2,hT⟩:=andL_spec hT
    obtain⟨v,k1,k2,k3,k4⟩:=flK_ok hf hp hr.rels t1 t2
    exact⟨v,_,.inl ⟨by simp[Region.wanted,hg],k4⟩,hr.set .refl hr.ox hd k1 k2,by cases o.dst<;>rfl,.set (.refl _),impL_spec hT k3⟩
  ·cases h
 ·rename_i j want hg
  split at h
  ·rename_i q d hq hdst
   split at h
   ·rename_i G hG
    cases hb:(dstOK st (some d)&& !(Nat.beq q d)&&Nat.blt q st.n) with
    |false=>rw[hb] at h;cases h
    |true=>
     rw[hb] at h
     simp only[Bool.and_eq_true,Bool.not_eq_true'] at hb
     obtain⟨⟨b1,b2⟩,b3⟩:=hb
     have hqd:q≠d:=λe=>by rw[e] at b2;simp at b2
     have hlt:q<st.n:=Nat.le_of_ble_eq_true b3
     simp only[cond_true] at h
     split at h
     ·rename_i R ps lk' hp hf
      cases hl:R.r.lowN st.ms.nx with
      |false=>rw[hl] at h;cases h
      |true=>
       rw[hl] at h
       simp only[cond_true,Option.some.injEq,Prod.mk.injEq] at h
       obtain⟨rfl,rfl⟩:=h
       obtain⟨t1,hT⟩:=andL_spec hT
       obtain⟨t2,hT⟩:=andL_spec hT
       have hwt:Region.wanted o (yielded all a.tmps)=G:=wanted_of hg hq hlt hr hG
       rw[hdst]
       cases hGv:G with
       |true=>
        obtain⟨v,k1,k2,k3,k4⟩:=flK_ok hf hp (stripS_rel hr hlt hG hGv) (andL_map hGv t1) (andL_map hGv t2)
        refine⟨v,st.setG d q want true R.r,.inl ⟨by rw[hwt,hGv],k4⟩,hr.setG .refl hr.ox b1 hqd (by rw[hG,hGv]) (λ_=>k1) (λe=>by cases e) k2,rfl,.setG,?_⟩
        have:=impL_spec hT (allL_map λ_=>k3)
        rw[hGv] at this;exact this
       |false=>
        refine⟨undef,st.setG d q want false R.r,.inr ⟨by rw[hwt,hGv],rfl⟩,hr.setG .refl hr.ox b1 hqd (by rw[hG,hGv]) (λe=>by cases e) (λ_=>rfl) (SV.lowN_inU _ hl),rfl,.setG,?_⟩
        have:=impL_spec hT (allL_map λe=>by rw[hGv] at e;cases e)
        rw[hGv] at this;exact this
     ·cases h
   ·cases h
  ·cases h
def banL (pr:List Nat):List (Nat×Option Ob):=pr.map λi=>(i,none)
def MS.ban (pr:List Nat)(m:MS):MS:=⟨banL pr++m.ob,m.nx,m.tp⟩
def St.ban (pr:List Nat)(st:St):St:=⟨st.sl,st.ms.ban pr,st.n,st.gs,st.gd⟩
def unban (pr:List Nat)(st st1:St):Option St:=
 bif (news (st.ms.ban pr) st1.ms).all (λp=> !(has pr p.1)) then some ⟨st1.sl,⟨news (st.ms.ban pr) st1.ms++st.ms.ob,st1.ms.nx,st1.ms.tp⟩,st1.n,st1.gs,st1.gd⟩ else none
theorem lookK_ban (pr:List Nat)(x:Nat):lookK (banL pr) x=if has pr x=true then some none else none:=lookK_un (λ_=>(none:Option Ob)) pr x
theorem obs_ban (pr:List Nat)(m:MS)(x:Nat):(m.ban pr).obs x=if has pr x=true then none else m.obs x:=by
 show lookO (banL pr++m.ob) x=_
 rw[lookO_app',lookK_ban]
 split<;>rfl
theorem ban_sub (pr:List Nat)(m:MS):∀id x,(m.ban pr).obs id=some x->m.obs id=some x:=λid x h=>by
 rw[obs_ban] at h
 split at h
 ·cases h
 ·exact h
theorem RX.ban {st:St}{a:Act}{w:World}{c:Cx}(h:RX st a w c)(pr:List Nat):RX (st.ban pr) a w c:=
 ⟨OX.sub h.ox (ban_sub pr st.ms),h.sz,h.sl,h.us,h.cn⟩
theorem lookK_all {α:Type}{l:List (Nat×α)}{p:Nat->Bool}(h:l.all (λq=>p q.1)=true){x:Nat}{v:α}(hx:lookK l x=some v):p x=true:=List.all_eq_true.1 h _ (lookK_mem hx)
theorem unban_ok {pr:List Nat}{st st1 st2:St}{a a':Act}{w w':World}{c c':Cx}(hu:unban pr st st1=some st2)(hr:RX st a w c)(hs:Step (st.ban pr) a w c st1 a' w' c'):Step st a w c st2 a' w' c'/\TrM (st.ms.ban pr) w c (st2.ms.ban pr) w' c':=by
 unfold unban at hu
 cases hb:(news (st.ms.ban pr) st1.ms).all (λp=> !(has pr p.1)) with
 |false=>rw[hb] at hu;cases hu
 |true=>
  rw[hb] at hu
  simp only[cond_true,Option.some.injEq] at hu
  subst hu
  obtain⟨hn,⟨l',hl'⟩,⟨⟨l,hl⟩,htp⟩⟩:=hs.fr
  have hl:st1.ms.ob=l++(st.ms.ban pr).ob:=hl
  have hnews:news (st.ms.ban pr) st1.ms=l:=by
   unfold news
   rw[hl,List.length_append,show l.length+(st.ms.ban pr).ob.length-(st.ms.ban pr).ob.length=l.length by omega,List.take_left]
  rw[hnews] at hb ⊢
  have hno:∀x v,lookK l x=some v->has pr x=false:=λx v hx=>by
   have:=lookK_all (p:=λx=> !(has pr x)) hb hx
   simpa using this
  have e1:∀x,st1.ms.obs x=(lookK l x).getD ((st.ms.ban pr).obs x):=λx=>by
   show lookO st1.ms.ob x=_
   rw[hl]
   exact lookO_app' _ _ x
  have e2:∀x,(MS.obs ⟨l++st.ms.ob,st1.ms.nx,st1.ms.tp⟩) x=(lookK l x).getD (st.ms.obs x):=λx=>lookO_app' _ _ x
  have e3:MS.obs ⟨l++st.ms.ob,st1.ms.nx,st1.ms.tp⟩=over st1.ms.obs (st.ms.ban pr).obs st.ms.obs:=by
   funext x
   rw[e2]
   unfold over
   rw[e1,obs_ban]
   cases hk:lookK l x with
   |some v=>
    have:=hno x v hk
    simp only[Option.getD_some,this]
    cases v with
    |some y=>rfl
    |none=>
     simp only[Bool.false_eq_true,if_false]
     cases st.ms.obs x<;>rfl
   |none=>
    simp only[Option.getD_none]
    cases hp:has pr x with
    |true=>simp
    |false=>
     simp only[Bool.false_eq_true,if_false]
     cases st.ms.obs x<;>rfl
  have e4:(MS.ban pr ⟨l++st.ms.ob,st1.ms.nx,st1.ms.tp⟩).obs=st1.ms.obs:=by
   funext x
   rw[obs_ban,e2,e1,obs_ban]
   cases hk:lookK l x with
   |some v=>simp[hno x v hk]
   |none=>cases hp:has pr x<;>simp
  obtain⟨q1,q2⟩:=OX.lift hr.ox (ban_sub pr st.ms) hs.tr hs.rx.ox
  refine⟨⟨⟨?_,hs.rx.sz,hs.rx.sl,hs.rx.us,hs.rx.cn⟩,?_,hs.df,⟨hn,⟨l',hl'⟩,⟨⟨l,rfl⟩,htp⟩⟩⟩,?_⟩
  ·show OX (MS.obs _) _ _ _ _
   rw[e3];exact q1
  ·show Tr _ _ _ _ (MS.obs _) _ _ _
   rw[e3];exact q2
  ·show Tr _ _ _ _ (MS.obs _) _ _ _
   rw[e4];exact hs.tr
def aop1 (P:Program)(τ:TypeId->Option Ty)(cp:CP)(all:Array Oper)(o:Oper)(st:St)(K:St->Prop):Prop:=match o.guard with
 |none=>aop P τ cp o st K
 |some (j,want)=>match (all[j]?).bind (·.dst),o.dst with
  |some q,some d=>aopG P τ cp o d q want st K
  |_,_=>False
theorem aop1_ok {τ:TypeId->Option Ty}{cp:CP}(hcp:CallOK P cp){all:Array Oper}{i:Nat}{o:Oper}(ho:all[i]? =some o){st:St}{K:St->Prop}(h:aop1 P τ cp all o st K){a:Act}{w:World}{c:Cx}(hr:RX st a w c){KK:Act->World->Prop}{Qx:Exit->Act->World->Prop}
 (hQ:∀st' a' w' c',Step st a w c st' a' w' c'->K st'->KK a' w'):wpOp P all Qx i KK a w:=by
 unfold aop1 at h
 split at h
 ·rename_i hg
  refine wpOp_step ho λK' hK=> ?_
  rw[if_pos (by simp[Region.wanted,hg])]
  exact aop_ok hcp h a w c hr K' Qx λst' a' w' c' hs hq=>hK _ _ (hQ _ _ _ _ hs hq)
 ·rename_i j want hg
  split at h
  ·rename_i q d hq hd
   obtain⟨G,h1,h2,h3⟩:=aopG_ok hcp hd h
   refine wpOp_step ho λK' hK=> ?_
   rw[wanted_of hg hq h1 hr h2]
   exact h3 a w c hr K' Qx λst' a' w' c' hs hq=>hK _ _ (hQ _ _ _ _ hs hq)
  ·exact h.elim
def isLoad (o:Oper):Bool:=match o.op with
 | .load _ _=>true
 |_=>false
def KWd (P:Program){α:Type}(s:Sem α):Prop:=∀w v w1,s.run P w= .ok v w1->w1=w
theorem WF.kw {α:Type}{s:Sem α}(h:WF P s):KWd P s:=λw v w1 e=>(h w v w1 e).1
theorem KWd.bind {α β:Type}{x:Sem α}{f:α->Sem β}(hx:KWd P x)(hf:∀a,KWd P (f a)):KWd P (x>>=f):=λw v w1 h=>by
 rw[Sem.run_bind] at h
 cases hr:x.run P w with
 |ok y w2=>
  rw[hr] at h
  have e:=hx w y w2 hr
  subst e
  exact hf y _ v w1 h
 |halt y w2=>rw[hr] at h;cases h
theorem KWd.load (a:Addr):KWd P (load a):=λw v w1 h=>by
 simp only[Go.load,Sem.run] at h
 cases hc:w.cell? a with
 |none=>
  rw[hc] at h
  dsimp only at h
  split at h
  ·injection h with _ h;exact h.symm
  ·cases h
 |some x=>
  rw[hc] at h
  dsimp only at h
  injection h with _ h
  exact h.symm
theorem KWd.cells (a:Addr):∀(n i:Nat)(acc:Array Value),KWd P (loadCellsFrom a i n acc)
 |0,i,acc=>(WF.pure acc).kw
 |n+1,i,acc=>by
  unfold loadCellsFrom
  exact KWd.bind (.load _) λx=>KWd.cells a n (i+1) _
theorem KWd.loadAt (t:TypeId)(u:Value):KWd P (Instr.loadAt t u):=by
 unfold Instr.loadAt
 refine KWd.bind (WF.sureAddr u).kw λa=> ?_
 unfold loadVar
 refine KWd.bind ?_ λb=> ?_
 ·unfold isAgg
  refine KWd.bind (WF.underlying t).kw λd=> ?_
  repeat' first|exact (WF.pure _).kw|split
 ·split
  ·refine KWd.bind (WF.sizeOf t).kw λn=> ?_
   refine KWd.bind (KWd.cells _ _ _ _) λvs=>(WF.pure _).kw
  ·exact KWd.load _
theorem load_upon {o:Oper}(hl:isLoad o=true){all:Array Oper}{i:Nat}(ho:all[i]? =some o){Qx:Exit->Act->World->Prop}{KK:Act->World->Prop}{a:Act}{w:World}(h:wpOp P all Qx i (λa' w'=>w'=w->KK a' w') a w):wpOp P all Qx i KK a w:=by
 unfold wpOp at h ⊢
 rw[ho] at h ⊢
 dsimp only at h ⊢
 split at h
 ·rename_i hw
  rw[if_pos hw]
  refine h.imp (λh=> ?_) id
  unfold Oper.wp at h ⊢
  unfold isLoad at hl
  split at hl
  ·rename_i t x hop
   have e:execOp a.eval o=(Instr.loadAt t (a.eval x)>>=λv=>Pure.pure (.value v)):=by simp only[execOp,hop]
   rw[e] at h ⊢
   have hk:KWd P (Instr.loadAt t (a.eval x)>>=λv=>(Pure.pure (.value v):Sem Next)):=KWd.bind (.loadAt _ _) λv=>(WF.pure _).kw
   rw[Sem.run_bind] at h ⊢
   have hk2:=KWd.loadAt (P:=P) t (a.eval x) w
   cases hr:(Instr.loadAt t (a.eval x)).run P w with
   |ok v w1=>
    rw[hr] at h
    have e1:=hk2 v w1 hr
    subst e1
    exact h rfl
   |halt y w1=>
    rw[hr] at h
    cases y<;>exact h
  ·cases hl
 ·rename_i hw
  rw[if_neg hw]
  exact h rfl
def befQ (all:Array Oper)(j p:Nat):Bool:=match all[j]?,all[p]? with
 |some oj,some op=>isLoad op&& !(Nat.beq p j)&& !(waitsT .any all 6 j p)&& !(waitsT .any all 6 p j)
 |_,_=>false
theorem befQ_of {all:Array Oper}{i j:Nat}{oi oj:Oper}(hi:all[i]? =some oi)(hj:all[j]? =some oj)(hl:isLoad oi=true)(hne:j≠i)(hno:waitsT .any all 6 j i=false)(hno2:waitsT .any all 6 i j=false):befQ all j i=true:=by
 unfold befQ
 rw[hi,hj]
 simp only[hl,hno,hno2,Bool.true_and,Bool.and_eq_true,Bool.not_eq_true',Bool.not_false,and_true]
 exact beq_ne (λe=>hne e.symm)
def prB (all:Array Oper)(prL:Nat->List Nat)(j:Nat):List Nat->List Nat
 |[]=>[]
 |p::r=>bif befQ all j p then prL p++prB all prL j r else prB all prL j r
theorem has_app {l r:List Nat}{x:Nat}:has (l++r) x=(has l x||has r x):=by
 induction l with
 |nil=>rfl
 |cons y l ih=>
  show (Nat.beq y x||has (l++r) x)=((Nat.beq y x||has l x)||has r x)
  rw[ih,Bool.or_assoc]
theorem prB_of {all:Array Oper}{prL:Nat->List Nat}{j p id:Nat}(hb:befQ all j p=true)(hi:has (prL p) id=true):∀{l:List Nat},p∈l->has (prB all prL j l) id=true
 |q::l,h=>by
  unfold prB
  rcases List.mem_cons.1 h with rfl|h
  ·rw[hb,cond_true,has_app,hi];rfl
  ·have ih:=prB_of hb hi h
   cases befQ all j q with
   |true=>rw[cond_true,has_app,ih,Bool.or_true]
   |false=>exact ih
def prJ (all:Array Oper)(prL:Nat->List Nat)(j:Nat):List Nat:=prB all prL j (List.range all.size)
theorem prJ_of {all:Array Oper}{prL:Nat->List Nat}{j p id:Nat}(hb:befQ all j p=true)(hi:has (prL p) id=true):has (prJ all prL j) id=true:=by
 refine prB_of hb hi (List.mem_range.2 ?_)
 unfold befQ at hb
 split at hb
 ·rename_i op _ hp
  exact (Array.getElem?_eq_some_iff.1 hp).1
 ·cases hb
def ownAt (ob:Obs):List Nat->Bool
 |[]=>true
 |id::r=>(match ob id with
  |some x=>x.own
  |none=>false)&&ownAt ob r
theorem ownAt_spec {ob:Obs}:∀{l:List Nat},ownAt ob l=true->∀{id:Nat},has l id=true->∃x,ob id=some x/\x.own=true
 |k::r,h,id,hi=>by
  obtain⟨h1,h2⟩:=Bool.and_eq_true_iff.1 h
  rcases has_cons.1 hi with rfl|hi
  ·split at h1
   ·rename_i x hx;exact⟨x,hx,h1⟩
   ·cases h1
  ·exact ownAt_spec h2 hi
def isBx:SV->Bool
 | .bx _ _=>true
 |_=>false
def rigid (ob:Obs)(id:Nat):Bool:=match ob id with
 |some (.box cs)=>cs.all isBx
 |_=>false
def softL (ob:Obs):List Nat->List Nat
 |[]=>[]
 |id::r=>bif rigid ob id then softL ob r else id::softL ob r
theorem softL_has {ob:Obs}:∀{l:List Nat}{id:Nat},has l id=true->rigid ob id=false->has (softL ob l) id=true
 |k::r,id,h,hr=>by
  unfold softL
  rcases has_cons.1 h with rfl|h
  ·rw[hr,cond_false];exact has_cons.2 (.inl rfl)
  ·have ih:=softL_has h hr
   cases rigid ob k with
   |true=>exact ih
   |false=>exact has_cons.2 (.inr ih)
theorem rigid_cells {st st2:St}{a a1:Act}{w w1:World}{c c1:Cx}{id:Nat}(hg:rigid st.ms.obs id=true)(hr:RX st a w c)(hs:Step st a w c st2 a1 w1 c1)(he:st2.ms.obs id=st.ms.obs id){b:Nat}(hF:c.F id b):CB w w1 b:=by
 unfold rigid at hg
 split at hg
 ·rename_i cs hob
  obtain⟨hU,hiU,b0,arr,t,h1,h2,h3,h4,h5,h6⟩:=hr.ox.objs id _ hob
  obtain⟨_,_,b1,arr1,t1,g1,g2,g3,g4,g5,g6⟩:=hs.rx.ox.objs id _ (he.trans hob)
  have e:=(hs.tr.hH id hU).1
  rw[e,h1] at g1
  injection g1 with g1
  injection g1 with g1
  injection g1 with g1
  subst g1
  have hb:=(h2 b).1 hF
  subst hb
  have hl:arr1=arr:=List.ext_getElem? λj=>by
   rcases Nat.lt_or_ge j cs.length with hj|hj
   ·have hcs:=List.getElem?_eq_getElem hj
    have ha:=List.getElem?_eq_getElem (h4 ▸ hj:j<arr.length)
    have ha1:=List.getElem?_eq_getElem (g4 ▸ hj:j<arr1.length)
    have r:=h6 j _ _ hcs ha
    have r1:=g6 j _ _ hcs ha1
    have hbx:=List.all_eq_true.1 hg _ (List.getElem_mem hj)
    have hin:=inUL_get hiU hcs
    rw[ha,ha1]
    generalize cs[j]=s at r r1 hbx hin
    cases s with
    |bx k off=>
     obtain⟨p,q1,q2⟩:=srel_bx r
     obtain⟨p1,q3,q4⟩:=srel_bx r1
     have e':=(hs.tr.hH k hin).1
     rw[e',q1] at q3
     injection q3 with q3
     injection q3 with q3
     injection q3 with q3
     subst q3
     rw[q2,q4]
    |_=>cases hbx
   ·rw[List.getElem?_eq_none (by omega),List.getElem?_eq_none (by omega)]
  subst hl
  exact λo=>by rw[cell_row h3,cell_row g3]
 ·cases hg
theorem news_obs {m m':MS}(hx:FrM m m'){id:Nat}{l:List Nat}(hn:(news m m').all (λp=> !(has l p.1))=true)(hi:has l id=true):m'.obs id=m.obs id:=by
 obtain⟨⟨k,hk⟩,_⟩:=hx
 have e:news m m'=k:=by
  unfold news
  rw[hk,List.length_append,show k.length+m.ob.length-m.ob.length=k.length by omega,List.take_left]
 rw[e] at hn
 show lookO m'.ob id=lookO m.ob id
 rw[hk,lookO_app']
 cases hq:lookK k id with
 |none=>rfl
 |some v=>
  have:=lookK_all (p:=λx=> !(has l x)) hn hq
  simp[hi] at this
abbrev FS:=Oper->St->Option (Bool×((St->Prop)->Prop))
abbrev AO:=Nat->Oper->St->(St->Prop)->Prop
def prX (all:Array Oper)(prL:Nat->List Nat)(o:Oper)(j:Nat):List Nat:=bif isLoad o then [] else prJ all prL j
def pickF (fs:Nat->FS)(all:Array Oper)(L:Array Bool)(fr:Bool)(st:St):List Nat->Option (Nat×Oper×((St->Prop)->Prop))
 |[]=>none
 |i::r=>match all[i]? with
  |some o=>match (bif Region.free .any all L i then fs i o st else none) with
   |some (lk,T)=>bif !lk||(fr&&isLoad o) then some (i,o,T) else pickF fs all L fr st r
   |none=>pickF fs all L fr st r
  |none=>pickF fs all L fr st r
def conjL:List Nat->(Nat->Prop)->Prop
 |[],_=>True
 |[i],f=>f i
 |i::r,f=>f i/\conjL r f
theorem conjL_get:∀{l:List Nat}{f:Nat->Prop},conjL l f->∀i∈l,f i
 |[],_,_,i,h=>by cases h
 |[j],f,hf,i,h=>by rw[List.mem_singleton.1 h];exact hf
 |j::k::r,f,hf,i,h=>by
  rcases List.mem_cons.1 h with rfl|h
  ·exact hf.1
  ·exact conjL_get hf.2 i h
def deval (fs:Nat->FS)(ao:AO)(all:Array Oper)(prL:Nat->List Nat):Nat->Array Bool->Bool->St->(St->Prop)->Prop
 |0,L,fr,st,K=>match Region.ready .any all L with
  |[]=>K st.endR
  |_=>False
 |n+1,L,fr,st,K=>match Region.ready .any all L with
  |[]=>K st.endR
  |rs=>match pickF fs all L fr st rs with
   |some (i,o,T)=>T λst'=>deval fs ao all prL n (L.setIfInBounds i true) fr st' K
   |none=>conjL rs λi=>match all[i]? with
    |some o=>bif ownAt st.ms.obs (prX all prL o i) then ao i o (st.ban (softL st.ms.obs (prX all prL o i))) λst1=>match unban (softL st.ms.obs (prX all prL o i)) st st1 with
     |some st'=>bif (news st.ms st'.ms).all (λp=> !(has (prX all prL o i) p.1)) then deval fs ao all prL n (L.setIfInBounds i true) false st' K else False
     |none=>False
     else False
    |none=>False
theorem pickF_spec {fs:Nat->FS}{all:Array Oper}{L:Array Bool}{fr:Bool}{st:St}:∀{rs:List Nat}{i:Nat}{o:Oper}{T:(St->Prop)->Prop},pickF fs all L fr st rs=some (i,o,T)->i∈rs/\all[i]? =some o/\Region.free .any all L i=true/\∃lk,fs i o st=some (lk,T)/\(lk=true->fr=true/\isLoad o=true)
 |[],i,o,T,h=>by cases h
 |k::r,i,o,T,h=>by
  have tail:pickF fs all L fr st r=some (i,o,T)->i∈k::r/\all[i]? =some o/\Region.free .any all L i=true/\∃lk,fs i o st=some (lk,T)/\(lk=true->fr=true/\isLoad o=true):=λh=>by
   obtain⟨h1,h2⟩:=pickF_spec h
   exact⟨List.mem_cons_of_mem _ h1,h2⟩
  unfold pickF at h
  split at h
  ·rename_i o' ho
   split at h
   ·rename_i lk T' hf
    cases hb:(!lk||(fr&&isLoad o')) with
    |false=>rw[hb] at h;exact tail h
    |true=>
     rw[hb] at h
     simp only[cond_true,Option.some.injEq,Prod.mk.injEq] at h
     obtain⟨rfl,rfl,rfl⟩:=h
     cases hfr:Region.free .any all L k with
     |false=>rw[hfr] at hf;cases hf
     |true=>
      rw[hfr] at hf
      refine⟨List.mem_cons_self,ho,rfl,lk,hf,λe=> ?_⟩
      rw[e] at hb
      simpa using hb
   ·exact tail h
  ·exact tail h
theorem yields_weak {ops:Array Oper}{S S':World->Prop}{o:Oper}{v:Value}{a:Act}(h:YieldsIf P ops S o v a)(k:∀w,S' w->S w):YieldsIf P ops S' o v a:=h.imp (λ⟨h1,h2⟩=>⟨h1,λw hw=>h2 w (k w hw)⟩) id
def FSOK (P:Program)(all:Array Oper)(prL:Nat->List Nat)(fs:Nat->FS):Prop:=∀{i:Nat}{o:Oper}{st:St}{lk:Bool}{T:(St->Prop)->Prop},fs i o st=some (lk,T)->∀{K:St->Prop},T K->∀{a:Act}{w:World}{c:Cx},RX st a w c->
 ∃v st',YieldsIf P all (λw'=>lk=true->Looks c st.ms.obs (prL i) w w') o v a/\RX st' (a.put o.dst v) w c/\st'.ms=st.ms/\Fr st st'/\K st'
def AOOK (P:Program)(all:Array Oper)(ao:AO):Prop:=∀{i:Nat}{o:Oper},all[i]? =some o->∀{st:St}{K:St->Prop},ao i o st K->∀{a:Act}{w:World}{c:Cx},RX st a w c->∀{KK:Act->World->Prop}{Qx:Exit->Act->World->Prop},
 (∀st' a' w' c',Step st a w c st' a' w' c'->K st'->KK a' w')->wpOp P all Qx i KK a w
theorem deval_ok {fs:Nat->FS}{ao:AO}{all:Array Oper}{prL:Nat->List Nat}(hfs:FSOK P all prL fs)(hao:AOOK P all ao)(hns:Region.noSelect all=true){st0:St}{a0:Act}{w0:World}{c0:Cx}(h0:RX st0 a0 w0 c0):
 ∀(n:Nat)(L:Array Bool)(fr:Bool)(st:St)(K:St->Prop),Closed .any all L->deval fs ao all prL n L fr st K->∀a w c,RX st a w c->(fr=true->w=w0/\c=c0/\st.ms=st0.ms)->TrM st0.ms w0 c0 st.ms w c->
 ∀Qx:Exit->Act->World->Prop,(∀ch a w,¬Qx (.panic ch) a w)->(∀st' a' w' c',Step st a w c st' a' w' c'->K st'->Qx .normal a' w')->wpT P .any all Qx (λp w'=>Looks c0 st0.ms.obs (prL p) w0 w') (befQ all) n L a w:=by
 intro n
 induction n with
 |zero=>
  intro L fr st K hcl h a w c hr hfr hT Qx hnp hQ
  unfold deval at h
  split at h
  ·rename_i hrd;exact⟨hrd,hQ _ _ _ _ hr.endR h⟩
  ·exact h.elim
 |succ n ih=>
  intro L fr st K hcl h a w c hr hfr hT Qx hnp hQ
  unfold deval at h
  split at h
  ·rename_i hrd;exact⟨λ_=>hQ _ _ _ _ hr.endR h,λi hi=>by rw[hrd] at hi;cases hi⟩
  ·rename_i hne
   split at h
   ·rename_i i o T hp
    obtain⟨p1,p2,p3,lk,p4,p5⟩:=pickF_spec hp
    obtain⟨v,st',q1,q2,q3,q4,q5⟩:=hfs p4 h hr
    refine wpT_first (S':=λw'=>lk=true->Looks c0 st0.ms.obs (prL i) w0 w') p2 (Region.noSelect_spec hns) (λch a w hh=>absurd hh (hnp _ _ _)) n L a w (λj oj hj hji hun hno=>⟨Region.free_spec p2 p3 j oj hj hji hun (waits_one hj (hno 1)),λw1 w2 h1 h2 e=>h2 i (befQ_of p2 hj (p5 e).2 hji (hno 6) (by
     cases hw:waitsT .any all 6 i j with
     |false=>rfl
     |true=>
      have:=hcl.waits 6 i (λo' ho' e' he' hb'=>ready_deps p1 ho' e' he' hb') hw
      rw[hun] at this;cases this)) (h1 e)⟩) hcl p1 (yields_weak q1 λw' hw' e=> ?_) (λe=> ?_) ?_
    ·obtain⟨e1,e2,e3⟩:=hfr (p5 e).1
     rw[e1,e2,e3]
     exact hw' e
    ·obtain⟨e1,_⟩:=hfr (p5 e).1
     rw[e1]
     exact λb _ _=>rfl
    ·refine ih _ _ _ _ (hcl.set p1) q5 _ w c q2 (λe=> ?_) ?_ Qx hnp λst2 a2 w2 c2 hs hk=>hQ _ _ _ _ (Step.trans ⟨q2,?_,defers_put _ _ _,q4⟩ hs) hk
     ·obtain⟨e1,e2,e3⟩:=hfr e
      exact⟨e1,e2,q3.trans e3⟩
     ·rw[q3];exact hT
     ·rw[q3];exact .refl
   ·refine⟨λe=>absurd e hne,λi hi=> ?_⟩
    have h:=conjL_get h i hi
    split at h
    ·rename_i o ho
     cases hld:isLoad o with
     |true=>
      have hX:prX all prL o i=[]:=by unfold prX;rw[hld];rfl
      rw[hX] at h
      simp only[ownAt,cond_true] at h
      refine load_upon hld ho (hao ho h (hr.ban _) λst1 a1 w1 c1 hs hq hww=> ?_)
      split at hq
      ·rename_i st2 hu
       obtain⟨u1,u2⟩:=unban_ok hu hr hs
       cases hN:(news st.ms st2.ms).all (λp=> !(has [] p.1)) with
       |false=>rw[hN] at hq;exact hq.elim
       |true=>
       rw[hN] at hq
       simp only[cond_true] at hq
       refine⟨λp hp hS b hb o'=> ?_,ih _ _ _ _ (hcl.set hi) hq a1 w1 c1 u1.rx (λe=>by cases e) (hT.trans u1.tr) Qx hnp λst3 a3 w3 c3 hs3 hk3=>hQ _ _ _ _ (u1.trans hs3) hk3⟩
       rw[hww]
       exact hS b hb o'
      ·exact hq.elim
     |false=>
     have hX:prX all prL o i=prJ all prL i:=by unfold prX;rw[hld];rfl
     rw[hX] at h
     cases hB:ownAt st.ms.obs (prJ all prL i) with
     |false=>rw[hB] at h;exact h.elim
     |true=>
      rw[hB] at h
      simp only[cond_true] at h
      refine hao ho h (hr.ban _) λst1 a1 w1 c1 hs hq=> ?_
      split at hq
      ·rename_i st2 hu
       obtain⟨u1,u2⟩:=unban_ok hu hr hs
       cases hN:(news st.ms st2.ms).all (λp=> !(has (prJ all prL i) p.1)) with
       |false=>rw[hN] at hq;exact hq.elim
       |true=>
       rw[hN] at hq
       simp only[cond_true] at hq
       refine⟨λp hp hS b hb o=> ?_,ih _ _ _ _ (hcl.set hi) hq a1 w1 c1 u1.rx (λe=>by cases e) (hT.trans u1.tr) Qx hnp λst3 a3 w3 c3 hs3 hk3=>hQ _ _ _ _ (u1.trans hs3) hk3⟩
       refine Eq.trans ?_ (hS b hb o)
       have hsub:=ban_sub (softL st.ms.obs (prJ all prL i)) st.ms
       rcases hb with⟨o',hS0⟩|⟨id,x,hpi,hx,hxo,hF⟩
       ·have hcS:=hT.sS b o' hS0
        exact cell_block (a:=⟨b,o,none⟩) (u2.blk b (hr.ox.sb b o' hcS) (λ⟨j,y,hy,oy,hj⟩=>(hr.ox.fb j y (hsub j y hy) oy b hj).2.1 o' hcS) λe=>(hr.ox.nT b e).2 o' hcS)
       ·have hidU:=(h0.ox.objs id x hx).1
        have hban:=prJ_of (all:=all) (prL:=prL) hp hpi
        obtain⟨x',hx',hxo'⟩:=ownAt_spec hB hban
        have hF':c.F id b:=by rw[(hT.hH id hidU).2];exact hF
        cases hrg:rigid st.ms.obs id with
        |true=>exact rigid_cells hrg hr u1 (news_obs u1.fr.2.2 hN hban) hF' o
        |false=>
        have hban:=softL_has (ob:=st.ms.obs) hban hrg
        obtain⟨k1,k2,k3⟩:=hr.ox.fb id x' hx' hxo' b hF'
        refine cell_block (a:=⟨b,o,none⟩) (u2.blk b k1 (λ⟨j,y,hy,oy,hj⟩=> ?_) k3)
        have hne:id≠j:=λe=>by
         subst e
         have hy:(st.ms.ban (softL st.ms.obs (prJ all prL i))).obs id=some y:=hy
         rw[obs_ban,hban] at hy
         cases hy
        exact hr.ox.dj id j x' y hx' hxo' (hsub j y hy) oy hne b hF' hj
      ·exact hq.elim
    ·exact h.elim
def scanQ (P:Program)(m:MS)(n:Nat):List Oper->Nat->List (Nat×SV)->List (Nat×Nat)
 |[],_,_=>[]
 |o::r,i,sl=>
  let ρ:Operand->SV:=λx=>noC (St.ev ⟨sl,m,n,[],[]⟩ x)
  let v:=match popS P m.mem ρ o with
   |some R=>R.r
   |none=> .un
  let rest:=scanQ P m n r (i+1) (match o.dst with|some d=>(d,v)::sl|none=>sl)
  match o.op with
  | .load _ x=>match ρ x with
   | .bx id _=>(i,id)::rest
   | .op id _ _ _=>match m.obs id with
    |some (.row _ _ _)=>(i,id)::rest
    |_=>rest
   | .np id _ _ _=>(i,id)::rest
   | .ip id _ _ _ _=>(i,id)::rest
   |_=>rest
  |_=>rest
def prOf:List (Nat×Nat)->Nat->List Nat
 |[],_=>[]
 |(p,id)::r,i=>bif Nat.beq p i then id::prOf r i else prOf r i
def drawR (P:Program)(τ:TypeId->Option Ty):DR:=λid cp ops st K=>
 bif P.follows .mixedOrders&&Region.noSelect ops then deval (λi=>fstep P (prOf (scanQ P st.ms st.n ops.toList 0 st.sl) i) ops) (λi o=>aop1 P τ (cp i) ops o) ops (prOf (scanQ P st.ms st.n ops.toList 0 st.sl)) ops.size (Array.replicate ops.size false) true st K else False
theorem RX.drew {st:St}{a:Act}{w:World}{c:Cx}(h:RX st a w c):RX st a {w with drawn:=w.drawn+1} c/\TrM st.ms w c st.ms {w with drawn:=w.drawn+1} c:=by
 have t:Tr (λ_=>none) st.ms.U w c (λ_=>none) st.ms.U {w with drawn:=w.drawn+1} c:=
  ⟨rfl,rfl,rfl,Nat.le_refl _,λ_ h=>h,λ_ h=> .inl h,λ_ h=>h,λ_ _=>⟨rfl,rfl⟩,λ_ _ h=>h,λ_ _ h=> .inl h,λ_ _ _ _=>rfl,λ_ h=> .inl h⟩
 have h':OX (λ_=>none) st.ms.U st.ms.tp {w with drawn:=w.drawn+1} c:=
  ⟨h.ox.sb,λid x hx=>(by cases hx),λid x hx=>(by cases hx),λi j x y hx=>(by cases hx),h.ox.nT,λe=>by
   obtain⟨T,h1,h2⟩:=h.ox.tpe e
   exact⟨T,h1,h2.mono (λ_ _ h=>h) (λ_ _ _=>rfl) rfl⟩,h.ox.tF⟩
 obtain⟨q1,q2⟩:=OX.lift (ob:=λ_=>none) (ob':=λ_=>none) h.ox (λid x hx=>by cases hx) t h'
 have e:over (λ_=>none) (λ_=>none) st.ms.obs=st.ms.obs:=by funext x;rfl
 rw[e] at q1 q2
 exact⟨⟨q1,h.sz,λx u hu=>q2.srel h.ox (h.sl x u hu) (h.us x),h.us,h.cn⟩,q2⟩
theorem drawR_ok (τ:TypeId->Option Ty):DrOK P (drawR P τ):=by
 intro id cp ops st K hcp h a w c hr
 unfold drawR at h
 cases hb:(P.follows .mixedOrders&&Region.noSelect ops) with
 |false=>rw[hb] at h;exact h.elim
 |true=>
  rw[hb] at h
  obtain⟨b1,b2⟩:=Bool.and_eq_true_iff.1 hb
  obtain⟨hr1,t1⟩:=hr.drew
  let Qx:Exit->Act->World->Prop:=λe a' w'=>e= .normal/\∃st' c',Step st a w c st' a' w' c'/\K st'
  refine wp_mono (Q:=Qx) ?_ (λe a' w' ⟨he,st',c',k1,k2⟩=>⟨st',c',k1,he,k2⟩)
  refine wp_region_any b1 (wpAny_of_T _ _ _ _ (deval_ok (fs:=λi=>fstep P (prOf (scanQ P st.ms st.n ops.toList 0 st.sl) i) ops) (ao:=λi o=>aop1 P τ (cp i) ops o) (prL:=prOf (scanQ P st.ms st.n ops.toList 0 st.sl)) (λh _ hT _ _ _ hr=>fstep_ok h hT hr) (λho _ _ h _ _ _ hr _ _ hQ=>aop1_ok (hcp _) ho h hr hQ) b2 hr1 _ _ _ _ _ .start h _ _ _ hr1 (λ_=>⟨rfl,rfl,rfl⟩) .refl Qx (λch a w hh=>by cases hh.1) λst' a' w' c' hs hk=>⟨rfl,st',c',Step.trans ⟨hr1,t1,rfl,.refl _⟩ hs,hk⟩))
theorem nilTest_x {m:Mem}{ρ:Operand->SV}{op:BinOp}{t ty:TypeId}{x y:Operand}{pos:Bool}{p:Prop}(h:nilTest P m ρ (.binOp op t x y ty)=some (pos,p)):nilOf m (ρ x)=some p:=by
 unfold nilTest at h
 split at h
 ·rename_i t' x' v ty' e
  injection e with e1 e2 e3 e4 e5
  subst e3
  cases hb:(isNil v&&(elemOf P t').isSome) with
  |false=>rw[hb] at h;cases h
  |true=>
   rw[hb] at h
   simp only[cond_true,Option.map_eq_some_iff,Prod.mk.injEq] at h
   obtain⟨q,hq,_,rfl⟩:=h
   exact hq
 ·rename_i t' x' v ty' e
  injection e with e1 e2 e3 e4 e5
  subst e3
  cases hb:(isNil v&&(elemOf P t').isSome) with
  |false=>rw[hb] at h;cases h
  |true=>
   rw[hb] at h
   simp only[cond_true,Option.map_eq_some_iff,Prod.mk.injEq] at h
   obtain⟨q,hq,_,rfl⟩:=h
   exact hq
 ·cases h
def pickC (P:Program)(st:St)(o:Oper):Option SV:=match o.op with
 | .pick q x y=>match st.ev q with
  | .d (.v (.bool true))=>some (st.ev x)
  | .d (.v (.bool false))=>some (st.ev y)
  |_=>none
 | .binOp _ _ x _ _=>match nilTest P st.ms.mem st.ev o.op with
  |some (pos,_)=>match st.ev x with
   | .d (.sl _ (_::_))=>some (.d (.v (.bool (!pos))))
   |_=>none
  |none=>none
 |_=>none
theorem pickC_ok {st:St}{o:Oper}{r:SV}(h:pickC P st o=some r){a:Act}{w:World}{c:Cx}(hr:RX st a w c):∃v,SRel c w r v/\r.inU st.ms.U/\∀w',(execOp a.eval o).run P w'= .ok (.value v) w':=by
 unfold pickC at h
 split at h
 ·rename_i q x y he
  split at h
  ·rename_i hq
   injection h with h
   subst h
   have hv:=hr.ev q
   rw[hq] at hv
   have hv:=srel_v hv
   exact⟨_,hr.ev x,hr.evU x,λw'=>by simp[execOp,he,hv,asBool]⟩
  ·rename_i hq
   injection h with h
   subst h
   have hv:=hr.ev q
   rw[hq] at hv
   have hv:=srel_v hv
   exact⟨_,hr.ev y,hr.evU y,λw'=>by simp[execOp,he,hv,asBool]⟩
  ·cases h
 ·rename_i op t x y ty he
  split at h
  ·rename_i pos p hn
   split at h
   ·rename_i ty' z l hx
    injection h with h
    subst h
    obtain⟨b,b1,b2⟩:=nilTest_ok hn hr.ox hr.ev
    have hp:p->False:=by
     rw[he] at hn
     have:=nilTest_x hn
     rw[hx] at this
     have this:some (z::l=[])=some p:=this
     injection this with this
     rw[<-this]
     exact λe=>by cases e
    have hb:b=false:=by
     cases b with
     |false=>rfl
     |true=>exact (hp (b1 rfl)).elim
    subst hb
    refine⟨_,.d _ _ (.v _),trivial,λw'=>(b2 w').trans ?_⟩
    cases pos<;>rfl
   ·cases h
  ·cases h
 ·cases h
def unroll (f:St->(Exit->St->Prop)->Prop):Nat->St->(Exit->St->Prop)->Prop
 |0,_,_=>False
 |n+1,st,K=>f st (thenQ (λst'=>unroll f n st' K) K)
def ceval (rg:RG)(N:Nat):Code->St->(Exit->St->Prop)->Prop
 | .skip,st,K=>K .normal st
 | .label _,st,K=>K .normal st
 | .exit i,st,K=>K (.exit i) st
 | .ret,st,K=>K .ret st
 | .region id ops dr,st,K=>rg id ops dr st (K .normal)
 | .seq x y,st,K=>ceval rg N x st (thenQ (λst'=>ceval rg N y st' K) K)
 | .cond q x y,st,K=>match st.ev q with
  | .d (.v (.bool true))=>ceval rg N x st K
  | .d (.v (.bool false))=>ceval rg N y st K
  |_=>False
 | .block i x,st,K=>ceval rg N x st (blockQ i K)
 | .loop x,st,K=>unroll (ceval rg N x) N st K
 |_,_,_=>False
theorem ceval_ok {rg:RG}(hrg:RegOK P rg){N:Nat}:∀(x:Code)(st:St)(K:Exit->St->Prop),ceval rg N x st K->AC P x st K:=by
 intro x
 induction x with
 |skip=>exact λst K h a w c hr=>wp_skip ⟨st,c,.refl hr,h⟩
 |label l=>exact λst K h a w c hr=>wp_label ⟨st,c,.refl hr,h⟩
 |exit i=>exact λst K h a w c hr=>wp_exit ⟨st,c,.refl hr,h⟩
 |ret=>exact λst K h a w c hr=>wp_ret ⟨st,c,.refl hr,h⟩
 |region id ops dr=>exact λst K h=>(hrg id ops dr st _ h).mono λe st' ⟨he,hk⟩=>by subst he;exact hk
 |seq x y ihx ihy=>
  intro st K h
  refine AC.seq ((ihx st _ (show ceval rg N x st _ from h)).mono λe st' hk=> ?_)
  cases e with
  |normal=>exact ihy st' K hk
  |_=>exact hk
 |cond q x y ihx ihy=>
  intro st K h
  unfold ceval at h
  split at h
  ·rename_i hb
   intro a w c hr
   have hv:=hr.ev q
   rw[hb] at hv
   exact wp_cond_split (srel_v hv) (λ_=>ihx st K h a w c hr) (λe=>by cases e)
  ·rename_i hb
   intro a w c hr
   have hv:=hr.ev q
   rw[hb] at hv
   exact wp_cond_split (srel_v hv) (λe=>by cases e) (λ_=>ihy st K h a w c hr)
  ·exact h.elim
 |block i x ih=>exact λst K h=>AC.block (ih st _ h)
 |loop x ih=>
  intro st K h
  have h:unroll (ceval rg N x) N st K:=h
  intro a0 w0 c0 hr0
  have key:∀n st a w c,unroll (ceval rg N x) n st K->∀st0 a0 w0 c0,Step st0 a0 w0 c0 st a w c->Code.rounds P x (λe a' w'=>∃st' c',Step st0 a0 w0 c0 st' a' w' c'/\K e st') n a w:=by
   intro n
   induction n with
   |zero=>intro st a w c hu;exact hu.elim
   |succ n ihn=>
    intro st a w c hu st0 a0 w0 c0 hs
    refine wp_mono (ih st _ (show ceval rg N x st _ from hu) a w c hs.rx) ?_
    rintro e a' w' ⟨st',c',h1,h2⟩
    cases e with
    |normal=>exact ihn st' a' w' c' h2 st0 a0 w0 c0 (hs.trans h1)
    |_=>exact⟨st',c',hs.trans h1,h2⟩
  exact wp_loop_rounds N (key N st a0 w0 c0 h st a0 w0 c0 (Step.refl hr0))
 |rangeFunc f ps a b iha ihb=>exact λst K h=>h.elim
 |scope x ih=>exact λst K h=>h.elim
 |goto l=>exact λst K h=>h.elim
 |refuse y=>exact λst K h=>h.elim
def cinline (P:Program)(rg:RG)(N:Nat)(f:FuncId)(ss:List SV)(m:MS)(k:SV->MS->Prop):Prop:=
 match P.funcs[f]? with
 |some fn=>match fn.body with
  |some c=>bif Nat.ble ss.length fn.ntmps then ceval rg N c (entry ss m fn.ntmps) (retK P fn.results.toList k) else False
  |none=>False
 |none=>False
theorem cinline_ok {rg:RG}(hrg:RegOK P rg){N:Nat}:CallOK P (cinline P rg N):=by
 intro f ss m k h us w c hox hl hr
 unfold cinline at h
 split at h
 ·rename_i fn hf
  split at h
  ·rename_i body hb
   cases hn:Nat.ble ss.length fn.ntmps with
   |false=>rw[hn] at h;exact h.elim
   |true=>
    rw[hn] at h
    have hn:=Nat.le_of_ble_eq_true hn
    refine calls_of_wp hf hb (wp_mono (ceval_ok hrg body _ _ h _ w c (entry_rx hox hl hn hr)) ?_)
    rintro e a' w' ⟨st',c',hs,hq⟩
    have fin:(match resS P st' fn.results.toList with|some r=>kT k r st'.ms|none=>False)->a'.defers=[]/\∃v,(results fn a'.tmps).run P w'= .ok v w'/\∃v' r m' c',Ending.returned v= .returned v'/\k r m'/\FrM m m'/\OXM m' w' c'/\TrM m w c m' w' c'/\SRel c' w' r v'/\r.inU m'.U:=by
     intro hq
     split at hq
     ·rename_i r hres
      exact⟨hs.df,resS_fin hres hs.rx hs.tr hs.fr.2.2 hq⟩
     ·exact hq.elim
    cases e with
    |normal=>exact fin hq
    |ret=>exact fin hq
    |_=>exact hq.elim
  ·exact h.elim
 ·exact h.elim
def goneL:List (Option Nat)->List (Nat×Option Ob)
 |[]=>[]
 |some id::r=>(id,none)::goneL r
 |none::r=>goneL r
def Gone (own:List (Option Nat))(id:Nat):Prop:=∃j:Nat,own[j]? =some (some id)
theorem goneL_look:∀{own:List (Option Nat)}{id:Nat}{v:Option Ob},lookK (goneL own) id=some v->v=none/\Gone own id
 |[],id,v,h=>by simp[goneL,lookK] at h
 |some k::r,id,v,h=>by
  rw[goneL,lookK_cons] at h
  split at h
  ·rename_i e
   injection h with h
   have e:k=id:=e
   subst e
   exact⟨h.symm,0,rfl⟩
  ·obtain⟨h1,j,h2⟩:=goneL_look h
   exact⟨h1,j+1,h2⟩
 |none::r,id,v,h=>by
  obtain⟨h1,j,h2⟩:=goneL_look (own:=r) h
  exact⟨h1,j+1,h2⟩
theorem goneL_none:∀{own:List (Option Nat)}{id:Nat},lookK (goneL own) id=none->¬Gone own id
 |[],id,h,⟨j,hj⟩=>by simp at hj
 |some k::r,id,h,⟨j,hj⟩=>by
  rw[goneL,lookK_cons] at h
  split at h
  ·cases h
  ·rename_i e
   cases j with
   |zero=>simp at hj;exact e hj
   |succ j=>exact goneL_none h ⟨j,hj⟩
 |none::r,id,h,⟨j,hj⟩=>by
  cases j with
  |zero=>simp at hj
  |succ j=>exact goneL_none (own:=r) h ⟨j,hj⟩
def MS.take (m:MS)(own:List (Option Nat))(rows:List Row):MS:=⟨rowsOb m.nx rows++(goneL own++m.ob),m.nx+rows.length,m.tp⟩
theorem take_obs (m:MS)(own:List (Option Nat))(rows:List Row)(id:Nat)(x:Ob)(h:(m.take own rows).obs id=some x):(∃j r,id=m.nx+j/\rows[j]? =some r/\x=rowOb r)\/(¬Gone own id/\m.obs id=some x):=by
 have h:lookO (rowsOb m.nx rows++(goneL own++m.ob)) id=some x:=h
 rw[lookO_app'] at h
 cases hz:lookK (rowsOb m.nx rows) id with
 |some v=>
  rw[hz] at h
  obtain⟨j,r,h1,h2,h3⟩:=rowsOb_some hz
  have h:v=some x:=h
  rw[h3] at h
  injection h with h
  exact .inl ⟨j,r,h1,h2,h.symm⟩
 |none=>
  rw[hz] at h
  have h:lookO (goneL own++m.ob) id=some x:=h
  rw[lookO_app'] at h
  cases hy:lookK (goneL own) id with
  |some v=>
   rw[hy] at h
   have h:v=some x:=h
   rw[(goneL_look hy).1] at h
   cases h
  |none=>
   rw[hy] at h
   exact .inr ⟨goneL_none hy,h⟩
theorem call_back2 {m:MS}{w w':World}{c c0 c':Cx}{own:List (Option Nat)}{rows:List Row}{n:Nat}{ob0 obR:Obs}{U0 UR:Nat->Prop}(hox:OXM m w c)
 (hrow:∀id,Gone own id->∃r:Row,m.obs id=some (rowOb r)) (hfp:∀b,FP ob0 c0 b->∃id,Gone own id/\c.F id b) (hS:c0.S=c.S) (hT0:c0.T=none)
 (hox':OX obR UR false w' c') (ht:Tr ob0 U0 w c0 obR UR w' c') (hR:∀(j:Nat)(r:Row),rows[j]? =some r->obR (n+j)=some (rowOb r)):
 ∃c2,OXM (m.take own rows) w' c2/\TrM m w c (m.take own rows) w' c2/\(∀i,c2.H (m.nx+i)=c'.H (n+i))/\c2.S=c'.S:=by
 have hgF:∀id b,Gone own id->c.F id b->b<w.heap.size/\(∀k,¬c.S b k)/\c.T≠some b:=λid b hg hb=>by
  obtain⟨r,h⟩:=hrow id hg
  exact hox.fb id _ h (rowOb_own r) b hb
 have hoth:∀i y b,m.obs i=some y->y.own=true->¬Gone own i->c.F i b->¬FP ob0 c0 b:=λi y b hi oi hg hb hf=>by
  obtain⟨id,hg',hb'⟩:=hfp b hf
  obtain⟨r,h⟩:=hrow id hg'
  exact hox.dj i id y _ hi oi h (rowOb_own r) (λe=>hg (e ▸ hg')) b hb hb'
 have hblk:∀b,b<w.heap.size->¬FP ob0 c0 b->w'.heap[b]? =w.heap[b]? :=λb hb hf=>ht.blk b hb hf (by rw[hT0];exact λh=>by cases h)
 have hSnF:∀b o,c.S b o->¬FP ob0 c0 b:=λb o hs hf=>by
  obtain⟨id,hg,hb⟩:=hfp b hf
  exact (hgF id b hg hb).2.1 o hs
 have hcell:∀b o,c.S b o->w'.cell? ⟨b,o,none⟩=w.cell? ⟨b,o,none⟩:=λb o hs=>World.cell?_of_block (hblk b (hox.sb b o hs) (hSnF b o hs))
 have hsS:∀b o,c.S b o->c'.S b o:=λb o hs=>ht.sS b o (by rw[hS];exact hs)
 have hsN:∀b o,c'.S b o->c.S b o\/FP ob0 c0 b\/w.heap.size<=b:=λb o hs=>by
  have:=ht.sN b o hs
  rwa [hS] at this
 have hTn:∀T,c.T=some T->¬FP ob0 c0 T:=λT hT hf=>by
  obtain⟨id,hg,hb⟩:=hfp T hf
  exact (hgF id T hg hb).2.2 hT
 have hnew:∀j r b,rows[j]? =some r->c'.F (n+j) b->FP ob0 c0 b\/w.heap.size<=b:=λj r b hr hb=>ht.fp b ⟨n+j,_,hR j r hr,rowOb_own r,hb⟩
 let c2:Cx:=⟨c'.S,λi=>if i<m.nx then c.H i else c'.H (n+(i-m.nx)),λi=>if i<m.nx then c.F i else c'.F (n+(i-m.nx)),c.T⟩
 have h2o:∀i,i<m.nx->c2.H i=c.H i/\c2.F i=c.F i:=λi hi=>⟨if_pos hi,if_pos hi⟩
 have h2n:∀i,c2.H (m.nx+i)=c'.H (n+i)/\c2.F (m.nx+i)=c'.F (n+i):=λi=>by
  refine⟨?_,?_⟩
  ·show (if m.nx+i<m.nx then _ else _)=_
   rw[if_neg (by omega),show m.nx+i-m.nx=i by omega]
  ·show (if m.nx+i<m.nx then _ else _)=_
   rw[if_neg (by omega),show m.nx+i-m.nx=i by omega]
 refine⟨c2,⟨λb o hb=>hox'.sb b o hb,λid x hx=> ?_,λid x hx hox2 b hb=> ?_,λi j x y hx ox2 hy oy2 hne b hb hb'=> ?_,λT hTs=> ?_,λhtp=> ?_,hox.tF⟩,⟨ht.os,ht.tape,ht.output,ht.sz,λ_ h=>h,λ_ h=> .inl h,λi hi=> ?_,λi hi=>h2o i hi,hsS,λb o hb=> ?_,λb hb hf hTb=> ?_,λb hb=> ?_⟩,λi=>(h2n i).1,rfl⟩
 ·rcases take_obs m own rows id x hx with⟨j,r,rfl,hr,rfl⟩|⟨hg,hx⟩
  ·refine⟨?_,rowOb_inU r _,?_⟩
   ·show m.nx+j<m.nx+rows.length
    have:=(List.getElem?_eq_some_iff.1 hr).1;omega
   ·rw[obAt_rowOb,(h2n j).1,(h2n j).2]
    have hq:=(hox'.objs (n+j) _ (hR j r hr)).2.2
    rw[obAt_rowOb] at hq
    exact hq
  ·obtain⟨u1,u2,u3⟩:=hox.objs id x hx
   have hid:id<m.nx:=u1
   refine⟨?_,Ob.inU_mono (λi hi=> ?_) u2,u3.keep (U:=m.U) u2 hsS hcell (λ_ h=>h) (λi hi=>(h2o i hi).1) (h2o id hid) λho b hb=> ?_⟩
   ·show id<m.nx+rows.length;omega
   ·have hi:i<m.nx:=hi
    show i<m.nx+rows.length;omega
   ·exact hblk b (hox.fb id x hx ho b hb).1 (hoth id x b hx ho hg hb)
 ·rcases take_obs m own rows id x hx with⟨j,r,rfl,hr,rfl⟩|⟨hg,hx⟩
  ·rw[(h2n j).2] at hb
   obtain⟨p1,p2,p3⟩:=hox'.fb (n+j) _ (hR j r hr) (rowOb_own r) b hb
   refine⟨p1,p2,λe=> ?_⟩
   rcases hnew j r b hr hb with q|q
   ·exact hTn b e q
   ·have:=(hox.nT b e).1;omega
  ·rw[(h2o id (hox.objs id x hx).1).2] at hb
   obtain⟨p1,p2,p3⟩:=hox.fb id x hx hox2 b hb
   refine⟨Nat.lt_of_lt_of_le p1 ht.sz,λk hk=> ?_,p3⟩
   rcases hsN b k hk with e|e|e
   ·exact p2 k e
   ·exact hoth id x b hx hox2 hg hb e
   ·omega
 ·rcases take_obs m own rows i x hx with⟨p,r,rfl,hr,rfl⟩|⟨hg,hx⟩
  ·rw[(h2n p).2] at hb
   rcases take_obs m own rows j y hy with⟨q,r',rfl,hr',rfl⟩|⟨hg',hy⟩
   ·rw[(h2n q).2] at hb'
    exact hox'.dj (n+p) (n+q) _ _ (hR p r hr) (rowOb_own r) (hR q r' hr') (rowOb_own r') (λe=>hne (by omega)) b hb hb'
   ·rw[(h2o j (hox.objs j y hy).1).2] at hb'
    rcases hnew p r b hr hb with e|e
    ·exact hoth j y b hy oy2 hg' hb' e
    ·have:=(hox.fb j y hy oy2 b hb').1;omega
  ·rw[(h2o i (hox.objs i x hx).1).2] at hb
   rcases take_obs m own rows j y hy with⟨q,r',rfl,hr',rfl⟩|⟨hg',hy⟩
   ·rw[(h2n q).2] at hb'
    rcases hnew q r' b hr' hb' with e|e
    ·exact hoth i x b hx ox2 hg hb e
    ·have:=(hox.fb i x hx ox2 b hb).1;omega
   ·rw[(h2o j (hox.objs j y hy).1).2] at hb'
    exact hox.dj i j x y hx ox2 hy oy2 hne b hb hb'
 ·obtain⟨p1,p2⟩:=hox.nT T hTs
  refine⟨Nat.lt_of_lt_of_le p1 ht.sz,λk hk=> ?_⟩
  rcases hsN T k hk with e|e|e
  ·exact p2 k e
  ·exact hTn T hTs e
  ·omega
 ·obtain⟨T,hTs,hta⟩:=hox.tpe htp
  exact⟨T,hTs,hta.mono hsS hcell (hblk T hta.lt (hTn T hTs))⟩
 ·have hi:i<m.nx:=hi
  show i<m.nx+rows.length;omega
 ·rcases hsN b o hb with e|e|e
  ·exact .inl e
  ·obtain⟨id,hg,hb'⟩:=hfp b e
   obtain⟨r1,h⟩:=hrow id hg
   exact .inr (.inl ⟨id,_,h,rowOb_own r1,hb'⟩)
  ·exact .inr (.inr e)
 ·refine hblk b hb λhf'=> ?_
  obtain⟨id,hg,hb'⟩:=hfp b hf'
  obtain⟨r1,h⟩:=hrow id hg
  exact hf ⟨id,_,h,rowOb_own r1,hb'⟩
 ·obtain⟨id,x,hx,ho,hb⟩:=hb
  rcases take_obs m own rows id x hx with⟨j,r,rfl,hr,rfl⟩|⟨hg,hx⟩
  ·rw[(h2n j).2] at hb
   rcases hnew j r b hr hb with e|e
   ·obtain⟨id,hg,hb'⟩:=hfp b e
    obtain⟨r1,h⟩:=hrow id hg
    exact .inl ⟨id,_,h,rowOb_own r1,hb'⟩
   ·exact .inr e
  ·rw[(h2o id (hox.objs id x hx).1).2] at hb
   exact .inl ⟨id,x,hx,ho,hb⟩
mutual
theorem instS_move {c c2:Cx}{w:World}{n n1:Nat}{al:Bool}(hS:al=true->∀b o,c.S b o->c2.S b o)(hH:∀i,c2.H (n+i)=c.H (n1+i)):∀(s:Sh)(acc:List Ty)(v:dens (shT s acc))(k:Nat),shPure s=true->(al||shFlat s)=true->∀{u:Value},SRel c w (instS s acc v (n1+k)).1 u->SRel c2 w (instS s acc v (n+k)).1 u
 | .dat t,acc,v,k,_,hf,u,hr=>by
  refine .d _ _ ?_
  have hr:=srel_d hr
  cases al with
  |true=>exact hr.mono (hS rfl) (λ_ _ _=>rfl)
  |false=>exact hr.flat (tv_flat (show flatT t=true from by simpa [shFlat] using hf))
 | .own e t,acc,v,k,_,hf,u,hr=>by
  rw[srel_os hr,<-hH]
  exact .os _
 | .bx id off,acc,v,k,hp,_,u,hr=>by cases hp
 | .rf id,acc,v,k,hp,_,u,hr=>by cases hp
 | .tp,acc,v,k,hp,_,u,hr=>by cases hp
 | .un,acc,v,k,_,_,u,hr=> .un u
 | .agg cs,acc,v,k,hp,hf,u,hr=>by
  have hr:SRel c w (mkAgg (instL cs acc v (n1+k)).1) u:=hr
  obtain⟨us,rfl,hl,h1,h2,_⟩:∃us:List Value,u= .agg us.toArray/\us.length=(instL cs acc v (n1+k)).1.length/\(∀u∈us,u.oneCell'=true)/\(∀(i:Nat)(s:SV)(u:Value),(instL cs acc v (n1+k)).1[i]? =some s->us[i]? =some u->SRel c w s u)/\True:=by
   unfold mkAgg at hr
   split at hr
   ·rename_i ds hd
    have hd:=dOf_spec hd
    cases srel_d hr with
    |agg _ us hl h1 h2=>
     refine⟨us,rfl,by rw[hd];simp[hl],h1,λi s u hs hu=> ?_,trivial⟩
     rw[hd,List.getElem?_map,Option.map_eq_some_iff] at hs
     obtain⟨x,hx,rfl⟩:=hs
     exact .d _ _ (h2 i x u hx hu)
   ·obtain⟨us,e1,e2,e3,e4⟩:=srel_agg hr
    exact⟨us,e1,e2,e3,e4,trivial⟩
  obtain⟨k1,k2⟩:=instL_move hS hH cs acc v k hp hf
  show SRel c2 w (mkAgg (instL cs acc v (n+k)).1) _
  exact srel_mkAgg (by omega) h1 λi s u hs hu=>by
   have hi:i<(instL cs acc v (n1+k)).1.length:=by have:=(List.getElem?_eq_some_iff.1 hu).1;omega
   exact k2 i _ s (List.getElem?_eq_getElem hi) hs (h2 i _ u (List.getElem?_eq_getElem hi) hu)
 | .tup cs,acc,v,k,hp,hf,u,hr=>by
  have hr:SRel c w (.tup (instL cs acc v (n1+k)).1) u:=hr
  obtain⟨k1,k2⟩:=instL_move hS hH cs acc v k hp hf
  cases hr with
  |tup _ us hl h2=>
   show SRel c2 w (.tup (instL cs acc v (n+k)).1) _
   exact .tup _ us (by omega) λi s u hs hu=>by
    have hi:i<(instL cs acc v (n1+k)).1.length:=by have:=(List.getElem?_eq_some_iff.1 hu).1;omega
    exact k2 i _ s (List.getElem?_eq_getElem hi) hs (h2 i _ u (List.getElem?_eq_getElem hi) hu)
theorem instL_move {c c2:Cx}{w:World}{n n1:Nat}{al:Bool}(hS:al=true->∀b o,c.S b o->c2.S b o)(hH:∀i,c2.H (n+i)=c.H (n1+i)):∀(ss:List Sh)(acc:List Ty)(v:dens (shTL ss acc))(k:Nat),shPureL ss=true->(al||shFlatL ss)=true->(instL ss acc v (n1+k)).1.length=(instL ss acc v (n+k)).1.length/\∀(i:Nat)(x y:SV),(instL ss acc v (n1+k)).1[i]? =some x->(instL ss acc v (n+k)).1[i]? =some y->∀{u:Value},SRel c w x u->SRel c2 w y u
 |[],acc,v,k,_,_=>⟨rfl,λi x y h=>by simp[instL] at h⟩
 |s::ss,acc,v,k,hp,hf=>by
  obtain⟨p1,p2⟩:=Bool.and_eq_true_iff.1 (show (shPure s&&shPureL ss)=true from hp)
  have f12:(al||shFlat s)=true/\(al||shFlatL ss)=true:=by
   cases al with
   |true=>exact⟨rfl,rfl⟩
   |false=>
    have hf:(shFlat s&&shFlatL ss)=true:=by simpa [shFlatL] using hf
    obtain⟨a1,a2⟩:=Bool.and_eq_true_iff.1 hf
    exact⟨by simpa using a1,by simpa using a2⟩
  have e:=instS_rows s (shTL ss acc) v k (n+k)
  have e1:(instS s (shTL ss acc) v k).2.1=(instS s (shTL ss acc) v (n+k)).2.1:=by rw[e]
  have e2:(instS s (shTL ss acc) v k).2.2=(instS s (shTL ss acc) v (n+k)).2.2:=by rw[e]
  have e':=instS_rows s (shTL ss acc) v k (n1+k)
  have e1':(instS s (shTL ss acc) v k).2.1=(instS s (shTL ss acc) v (n1+k)).2.1:=by rw[e']
  have e2':(instS s (shTL ss acc) v k).2.2=(instS s (shTL ss acc) v (n1+k)).2.2:=by rw[e']
  obtain⟨q1,q2⟩:=instL_move hS hH ss acc (instS s (shTL ss acc) v k).2.2 (k+(instS s (shTL ss acc) v k).2.1.length) p2 f12.2
  have hA:(instL (s::ss) acc v (n1+k)).1=(instS s (shTL ss acc) v (n1+k)).1::(instL ss acc (instS s (shTL ss acc) v k).2.2 (n1+(k+(instS s (shTL ss acc) v k).2.1.length))).1:=by
   show _::(instL ss acc (instS s (shTL ss acc) v (n1+k)).2.2 (n1+k+(instS s (shTL ss acc) v (n1+k)).2.1.length)).1=_
   rw[<-e2',<-e1',Nat.add_assoc]
  have hB:(instL (s::ss) acc v (n+k)).1=(instS s (shTL ss acc) v (n+k)).1::(instL ss acc (instS s (shTL ss acc) v k).2.2 (n+(k+(instS s (shTL ss acc) v k).2.1.length))).1:=by
   show _::(instL ss acc (instS s (shTL ss acc) v (n+k)).2.2 (n+k+(instS s (shTL ss acc) v (n+k)).2.1.length)).1=_
   rw[<-e2,<-e1,Nat.add_assoc]
  rw[hA,hB]
  refine⟨by simp[q1],λi x y hx hy u hr=> ?_⟩
  cases i with
  |zero=>simp at hx hy;subst hx hy;exact instS_move hS hH s (shTL ss acc) v k p1 f12.1 hr
  |succ i=>simp at hx hy;exact q2 i x y hx hy hr
end
structure Spec2 where
 f:FuncId
 az:List Sh
 rs:Sh
 pt:dens (shTL az [])->(dens (shT rs [])->Prop)->Prop
def mem2 (az:List Sh)(x:dens (shTL az [])):MS:=⟨rowsOb 0 (instL az [] x 0).2.1,(instL az [] x 0).2.1.length,false⟩
def Spec2OK (P:Program)(s:Spec2):Prop:=∀x post,s.pt x post->∀(us:List Value)w c,OXM (mem2 s.az x) w c->us.length=(instL s.az [] x 0).1.length->
 (∀(i:Nat)(d:SV)(u:Value),(instL s.az [] x 0).1[i]? =some d->us[i]? =some u->SRel c w d u/\d.inU (mem2 s.az x).U)->
 Calls P s.f us.toArray w λe w'=>∃v y c' obR UR,e= .returned v/\post y/\OX obR UR false w' c'/\Tr (mem2 s.az x).obs (mem2 s.az x).U w c obR UR w' c'/\SRel c' w' (instS s.rs [] y (mem2 s.az x).nx).1 v/\∀(j:Nat)(r:Row),(instS s.rs [] y 0).2.1[j]? =some r->obR ((mem2 s.az x).nx+j)=some (rowOb r)
def ownIds:List (Option Nat)->List Nat
 |[]=>[]
 |some id::r=>id::ownIds r
 |none::r=>ownIds r
def distinctO:List Nat->Bool
 |[]=>true
 |x::r=> !(has r x)&&distinctO r
theorem ownIds_mem:∀{own:List (Option Nat)}{j id:Nat},own[j]? =some (some id)->has (ownIds own) id=true
 |[],j,id,h=>by simp at h
 |some k::r,0,id,h=>by
  simp at h
  subst h
  exact has_cons.2 (.inl rfl)
 |some k::r,j+1,id,h=>has_cons.2 (.inr (ownIds_mem (own:=r) (by simpa using h)))
 |none::r,0,id,h=>by simp at h
 |none::r,j+1,id,h=>ownIds_mem (own:=r) (by simpa using h)
theorem distinct_own:∀{own:List (Option Nat)},distinctO (ownIds own)=true->∀(i j id:Nat),i≠j->own[i]? =some (some id)->own[j]?≠some (some id)
 |[],_,i,j,id,_,h=>by simp at h
 |none::r,hd,i,j,id,hne,hi=>by
  cases i with
  |zero=>simp at hi
  |succ i=>cases j with
   |zero=>simp
   |succ j=>exact distinct_own (own:=r) hd i j id (by omega) (by simpa using hi)
 |some k::r,hd,i,j,id,hne,hi=>by
  obtain⟨h1,h2⟩:=Bool.and_eq_true_iff.1 hd
  have h1:has (ownIds r) k=false:=by simpa using h1
  cases i with
  |zero=>
   simp at hi
   subst hi
   cases j with
   |zero=>exact absurd rfl hne
   |succ j=>
    intro h
    have:=ownIds_mem (own:=r) (j:=j) (id:=k) (by simpa using h)
    rw[h1] at this;cases this
  |succ i=>cases j with
   |zero=>
    intro h
    simp at h
    subst h
    have:=ownIds_mem (own:=r) (j:=i) (id:=k) (by simpa using hi)
    rw[h1] at this;cases this
   |succ j=>exact distinct_own (own:=r) h2 i j id (by omega) (by simpa using hi)
def byCon2 (s:Spec2)(ss:List SV)(m:MS)(k:SV->MS->Prop):Prop:=
 match fitL m.mem 0 s.az [] ss () with
 |some g=>bif g.fz.isEmpty&&shPureL s.az&&shPure s.rs&&distinctO (ownIds g.own) then s.pt g.v λy=>k (instS s.rs [] y m.nx).1 (m.take g.own (instS s.rs [] y 0).2.1) else False
 |none=>False
theorem byCon2_ok {s:Spec2}(hs:Spec2OK P s){ss:List SV}{m:MS}{k:SV->MS->Prop}(h:byCon2 s ss m k){us:List Value}{w:World}{c:Cx}(hox:OXM m w c)(hl:us.length=ss.length)(hr:∀(i:Nat)(x:SV)(u:Value),ss[i]? =some x->us[i]? =some u->SRel c w x u/\x.inU m.U):
 Calls P s.f us.toArray w λe w'=>∃v r m' c',e= .returned v/\k r m'/\FrM m m'/\OXM m' w' c'/\TrM m w c m' w' c'/\SRel c' w' r v/\r.inU m'.U:=by
 unfold byCon2 at h
 split at h
 ·rename_i g hg
  cases hb:(g.fz.isEmpty&&shPureL s.az&&shPure s.rs&&distinctO (ownIds g.own)) with
  |false=>rw[hb] at h;exact h.elim
  |true=>
   rw[hb] at h
   simp only[cond_true] at h
   simp only[Bool.and_eq_true] at hb
   obtain⟨⟨⟨b1,b2⟩,b3⟩,b4⟩:=hb
   have b1:g.fz=[]:=by simpa using b1
   have hF:Fz m.mem c c w []:=⟨hox,by show OX (ovr _ []) _ _ _ _;rw[ovr_nil];exact hox,by show Tr _ _ _ _ (ovr _ []) _ _ _;rw[ovr_nil];exact .refl,rfl⟩
   obtain⟨_,q2,q3,q4,q5⟩:=fitL_ok hF (k0:=0) (own0:=g.own) s.az [] ss () g hg (λi hi=>by rw[b1] at hi;cases hi) 0 (Nat.le_refl _) (λj o h=>by simpa using h)
   obtain⟨cM,hcM⟩:∃cM,cM=reCx c 0 g.own:=⟨_,rfl⟩
   obtain⟨c0,hc0⟩:∃c0:Cx,c0=⟨cM.S,cM.H,cM.F,none⟩:=⟨_,rfl⟩
   rw[<-hcM] at q5
   have hcS:c0.S=c.S:=by rw[hc0,hcM];rfl
   have hcH:∀i:Nat,c0.H i=ownH c.H ((g.own[i]?).getD none):=λi=>by
    rw[hc0,hcM]
    show (if i<0 then c.H i else ownH c.H ((g.own[i-0]?).getD none))=_
    rw[if_neg (by omega),Nat.sub_zero]
   have hcF:∀i:Nat,c0.F i=ownF c.F ((g.own[i]?).getD none):=λi=>by
    rw[hc0,hcM]
    show (if i<0 then c.F i else ownF c.F ((g.own[i-0]?).getD none))=_
    rw[if_neg (by omega),Nat.sub_zero]
   have hrl:(instL s.az [] g.v 0).2.1.length=g.own.length:=q2.1
   have hob0:∀id x,(mem2 s.az g.v).obs id=some x->∃r o,(instL s.az [] g.v 0).2.1[id]? =some r/\g.own[id]? =some o/\x=rowOb r:=λid x hx=>by
    have hx:lookO (rowsOb 0 (instL s.az [] g.v 0).2.1) id=some x:=hx
    rw[<-List.append_nil (rowsOb 0 _),lookO_app'] at hx
    cases hz:lookK (rowsOb 0 (instL s.az [] g.v 0).2.1) id with
    |some v=>
     rw[hz] at hx
     obtain⟨j,r,h1,h2,h3⟩:=rowsOb_some hz
     have hx:v=some x:=hx
     rw[h3] at hx
     injection hx with hx
     rw[Nat.zero_add] at h1
     subst h1
     have hlt:=(List.getElem?_eq_some_iff.1 h2).1
     exact⟨r,_,h2,List.getElem?_eq_getElem (by omega),hx.symm⟩
    |none=>rw[hz] at hx;cases hx
   have hgone:∀id,Gone g.own id->∃r:Row,m.obs id=some (rowOb r):=λid ⟨j,hj⟩=>by
    have hlt:=(List.getElem?_eq_some_iff.1 hj).1
    have:=q2.2 j _ (instL s.az [] g.v 0).2.1[j] hj (List.getElem?_eq_getElem (by omega))
    exact⟨_,this⟩
   have hfp0:∀id x b,(mem2 s.az g.v).obs id=some x->c0.F id b->∃k,g.own[id]? =some (some k)/\c.F k b:=λid x b hx hb=>by
    obtain⟨r,o,h1,h2,h3⟩:=hob0 id x hx
    rw[hcF,h2] at hb
    cases o with
    |none=>exact hb.elim
    |some k=>exact⟨k,h2,hb⟩
   have hfp:∀b,FP (mem2 s.az g.v).obs c0 b->∃id,Gone g.own id/\c.F id b:=λb ⟨id,x,hx,ho,hb⟩=>by
    obtain⟨k,h1,h2⟩:=hfp0 id x b hx hb
    exact⟨k,⟨id,h1⟩,h2⟩
   have hox0:OXM (mem2 s.az g.v) w c0:=by
    refine⟨λb o hb=>hox.sb b o (by rw[<-hcS];exact hb),λid x hx=> ?_,λid x hx ho b hb=> ?_,λi j x y hx ox hy oy hne b hb hb'=> ?_,λT hT=> ?_,λhtp=>(by cases htp),λ_=>by rw[hc0]⟩
    ·obtain⟨r,o,h1,h2,rfl⟩:=hob0 id x hx
     refine⟨?_,rowOb_inU r _,?_⟩
     ·show id<(instL s.az [] g.v 0).2.1.length
      exact (List.getElem?_eq_some_iff.1 h1).1
     ·rw[obAt_rowOb,hcS,hcH,hcF,h2]
      have:=q2.2 id o r h2 h1
      cases o with
      |none=>
       obtain⟨e1,e2⟩:=this
       exact RwAt.nil e1 e2
      |some k=>
       have hq:=(hox.objs k _ this).2.2
       rw[obAt_rowOb] at hq
       exact hq
    ·obtain⟨k,h1,h2⟩:=hfp0 id x b hx hb
     obtain⟨r,h⟩:=hgone k ⟨id,h1⟩
     obtain⟨p1,p2,_⟩:=hox.fb k _ h (rowOb_own r) b h2
     exact⟨p1,by rw[hcS];exact p2,by rw[hc0];exact λh=>by cases h⟩
    ·obtain⟨k,h1,h2⟩:=hfp0 i x b hx hb
     obtain⟨k',h1',h2'⟩:=hfp0 j y b hy hb'
     obtain⟨r,h⟩:=hgone k ⟨i,h1⟩
     obtain⟨r',h'⟩:=hgone k' ⟨j,h1'⟩
     refine hox.dj k k' _ _ h (rowOb_own r) h' (rowOb_own r') (λe=> ?_) b h2 h2'
     subst e
     exact distinct_own b4 i j k hne h1 h1'
    ·rw[hc0] at hT;cases hT
   have hsh:=instL_shift (c:=cM) (c2:=c0) (w:=w) (n:=0) (al:=true) (λ_ b o hb=>by rw[hc0];exact hb) (λi=>by rw[hc0,Nat.zero_add]) s.az [] g.v 0 b2 rfl
   rw[Nat.zero_add] at hsh
   refine (hs g.v _ h us w c0 hox0 (by omega) (λi d u hd hu=> ?_)).mono ?_
   ·have hi:i<ss.length:=by rw[<-hl];exact (List.getElem?_eq_some_iff.1 hu).1
    have hrel:=q5 i ss[i] d (List.getElem?_eq_getElem hi) hd (hr i _ u (List.getElem?_eq_getElem hi) hu).1
    refine⟨hsh.2 i d d hd hd hrel,?_⟩
    refine SV.inU_mono (λj hj=> ?_) _ (inUL_get q3 hd)
    show j<(instL s.az [] g.v 0).2.1.length
    rcases hj with hj|hj
    ·omega
    ·omega
   ·rintro e w' ⟨v,y,c',obR,UR,rfl,hy,oxr,tr,hsr,hR⟩
    obtain⟨c2,k1,k2,k3,k4⟩:=call_back2 (own:=g.own) (rows:=(instS s.rs [] y 0).2.1) hox hgone hfp hcS (by rw[hc0]) oxr tr hR
    have e1:=instS_rows s.rs [] y (mem2 s.az g.v).nx 0
    obtain⟨cZ,hcZ⟩:∃cZ:Cx,cZ=⟨c'.S,λi=>c'.H ((mem2 s.az g.v).nx+i),c'.F,c'.T⟩:=⟨_,rfl⟩
    have hz:SRel cZ w' (instS s.rs [] y 0).1 v:=by
     have:=instS_move (c:=c') (c2:=cZ) (w:=w') (n:=0) (n1:=(mem2 s.az g.v).nx) (al:=true) (λ_ b o hb=>by rw[hcZ];exact hb) (λi=>by rw[hcZ,Nat.zero_add]) s.rs [] y 0 b3 rfl (by rw[Nat.add_zero];exact hsr)
     exact this
    have hsh2:=instS_shift (c:=cZ) (c2:=c2) (w:=w') (n:=m.nx) (al:=true) (λ_ b o hb=>by rw[k4];rw[hcZ] at hb;exact hb) (λi=>by rw[k3,hcZ]) s.rs [] y 0 b3 rfl hz
    rw[Nat.add_zero] at hsh2
    refine⟨v,_,_,c2,rfl,hy,⟨⟨rowsOb m.nx _++goneL g.own,by show rowsOb _ _++(goneL _++m.ob)=_;rw[List.append_assoc]⟩,λh=>h⟩,k1,k2,hsh2,?_⟩
    refine SV.inU_mono (λi hi=> ?_) _ (instS_inU (n:=0) s.rs [] y m.nx b3)
    show i<m.nx+_
    rw[instS_rows s.rs [] y m.nx 0] at hi
    exact hi.2
 ·exact h.elim
structure HoldW (p:Prop):Prop where
 h:p
theorem HoldW.of {W p:Prop}(e:W=p)(h:W):HoldW p:=⟨by rw[<-e];exact h⟩
def NewOK (P:Program)(fN:FuncId):Prop:=∀(l:List Int)(w:World)(S:Cells)(u:Value),(∀b o,S b o->b<w.heap.size)->Rd S w (.sl (.int .i64) l) u->
 Calls P fN #[u] w λe w'=>∃T,e= .returned (.pointer (some ⟨T,0,none⟩))/\w.heap.size<=T/\TapeS w' T S/\Below w.heap.size w w'
def intL:D->Option (List Int)
 | .sl t l=>castL (.int .i64) t l
 |_=>none
theorem intL_rd:∀{x:D}{l:List Int},intL x=some l->∀{S:Cells}{w:World}{u:Value},Rd S w x u->Rd S w (.sl (.int .i64) l) u
 | .sl t l',l,h,S,w,u,hr=>castL_rd (t:= .int .i64) (l':=l) h hr
def newC (fN:FuncId)(cp:CP):CP:=λf ss m k=>bif Nat.beq f fN then (match ss with
 |[.d x]=>match intL x with
  |some _=>bif m.tp then False else k .tp ⟨m.ob,m.nx,true⟩
  |none=>False
 |_=>False) else cp f ss m k
theorem newC_ok {fN:FuncId}(hN:NewOK P fN){cp:CP}(hcp:CallOK P cp):CallOK P (newC fN cp):=by
 intro f ss m k h us w c hox hl hr
 unfold newC at h
 cases hb:Nat.beq f fN with
 |false=>rw[hb] at h;exact hcp f ss m k h us w c hox hl hr
 |true=>
  rw[hb] at h
  simp only[cond_true] at h
  have hb:=beq_eq hb
  subst hb
  split at h
  rotate_left
  ·exact h.elim
  rename_i x
  split at h
  rotate_left
  ·exact h.elim
  rename_i l hx
  cases htp:m.tp with
  |true=>rw[htp] at h;exact h.elim
  |false=>
  rw[htp] at h
  simp only[cond_false] at h
  match us,hl with
  |[u],_=>
  have hu:=srel_d (hr 0 _ u rfl rfl).1
  have hu:Rd c.S w (.sl (.int .i64) l) u:=intL_rd hx hu
  have hTn:=hox.tF htp
  refine (hN l w c.S u hox.sb hu).mono ?_
  rintro e w' ⟨T,rfl,hT,htS,hB⟩
  let c2:Cx:=⟨c.S,c.H,c.F,some T⟩
  have hcell:∀b o,c.S b o->w'.cell? ⟨b,o,none⟩=w.cell? ⟨b,o,none⟩:=λb o hs=>World.cell?_of_block (hB.block b (hox.sb b o hs))
  refine⟨_,.tp,_,c2,rfl,h,⟨⟨[],rfl⟩,λ_=>rfl⟩,⟨λb o hs=>Nat.lt_of_lt_of_le (hox.sb b o hs) hB.size,λid y hy=> ?_,λid y hy ho b hb=> ?_,λi j y z hy oy hz oz hne b hb=>hox.dj i j y z hy oy hz oz hne b hb,λT' hT'=> ?_,λ_=>⟨T,rfl,htS⟩,λe=>(by cases e)⟩,⟨hB.os,hB.tape,hB.output,hB.size,λT' hT'=> ?_,λT' hT'=> ?_,λ_ h=>h,λ_ _=>⟨rfl,rfl⟩,λ_ _ h=>h,λ_ _ h=> .inl h,λb hb _ _=>hB.block b hb,λ_ h=> .inl h⟩,.tp T rfl,trivial⟩
  ·obtain⟨u1,u2,u3⟩:=hox.objs id y hy
   exact⟨u1,u2,u3.keep (U:=m.U) u2 (λ_ _ h=>h) hcell (λT' hT'=>by rw[hTn] at hT';cases hT') (λ_ _=>rfl) ⟨rfl,rfl⟩ λho b hb=>hB.block b (hox.fb id y hy ho b hb).1⟩
  ·obtain⟨u1,u2,u3⟩:=hox.fb id y hy ho b hb
   refine⟨Nat.lt_of_lt_of_le u1 hB.size,u2,λe=> ?_⟩
   have e:some T=some b:=e
   injection e with e
   omega
  ·have e:some T=some T':=hT'
   injection e with e
   subst e
   exact⟨htS.lt,λk hk=>by have:=hox.sb T k hk;omega⟩
  ·rw[hTn] at hT';cases hT'
  ·have e:some T=some T':=hT'
   injection e with e
   subst e
   exact .inr hT
def lawG (cp:CP)(f:FuncId)(ds:List D)(post:Bool->Prop):Prop:=cp f (ds.map SV.d) ⟨[],0,false⟩ λr _=>match r with
 | .d (.v (.bool b))=>post b
 |_=>False
theorem lawG_ok {cp:CP}(hcp:CallOK P cp){f:FuncId}{ds:List D}{post:Bool->Prop}(h:lawG cp f ds post){w:World}{S:Cells}{us:List Value}(h1:∀b o,S b o->b<w.heap.size)(h3:us.length=ds.length)
 (h4:∀(i:Nat)(d:D)(u:Value),ds[i]? =some d->us[i]? =some u->Rd S w d u):
 Calls P f us.toArray w λe w'=>(∃b,e= .returned (.bool b)/\post b)/\Below w.heap.size w w':=by
 have hox:=ox_base (tp:=false) (T:=none) h1 rfl
 refine (hcp f _ _ _ h us w (cx0 S none) hox (by simp[h3]) λi s u hs hu=> ?_).mono ?_
 ·rw[List.getElem?_map,Option.map_eq_some_iff] at hs
  obtain⟨d,hd,rfl⟩:=hs
  exact⟨.d _ _ (h4 i d u hd hu),trivial⟩
 ·rintro e w' ⟨v,r,m',c',rfl,hq,hfr,hox',htr,hs,hu⟩
  have hB:Below w.heap.size w w':=⟨htr.os,htr.tape,htr.output,htr.sz,λb hb=>htr.blk b hb (λ⟨id,x,hx,_⟩=>by cases hx) (λe=>by cases e)⟩
  refine⟨?_,hB⟩
  split at hq
  ·rename_i b
   exact⟨b,by rw[srel_v hs],hq⟩
  ·exact hq.elim
def allS (w:World):Cells:=λb _=>b<w.heap.size
inductive OkD:D->Prop
 |int (k:IntKind) (z:Int) (h:(Lit.int k z).wf=true):OkD (.v (.int k z))
 |bool (b:Bool):OkD (.v (.bool b))
 |sl (t:Ty) (l:List (den t)) (h:∀x∈l,∀c∈enc t x,OkD c):OkD (.sl t l)
def CellsAt (w:World)(ds:List D)(cs:List Value)(off:Nat):Prop:=∀(i:Nat)(c:D),ds[i]? =some c->∃u,cs[off+i]? =some u/\u.oneCell'=true/\Rd (allS w) w c u
theorem CellsAt.nil {w:World}{cs:List Value}{off:Nat}:CellsAt w [] cs off:=λi c h=>by simp at h
theorem CellsAt.append {w:World}{ds es:List D}{cs:List Value}{off:Nat}(h:CellsAt w ds cs off)(k:CellsAt w es cs (off+ds.length)):CellsAt w (ds++es) cs off:=λi c hi=>by
 by_cases hl:i<ds.length
 ·rw[List.getElem?_append_left hl] at hi;exact h i c hi
 ·rw[List.getElem?_append_right (by omega)] at hi
  obtain⟨u,h1,h2⟩:=k _ c hi
  exact⟨u,by rw[show off+ds.length+(i-ds.length)=off+i by omega] at h1;exact h1,h2⟩
theorem CellsAt.part {w:World}{ds:List D}{cs:List Value}{off n:Nat}(h:CellsAt w ds ((cs.drop off).take n) 0):CellsAt w ds cs off:=λi c hi=>by
 obtain⟨u,h1,h2⟩:=h i c hi
 rw[Nat.zero_add,List.getElem?_take] at h1
 split at h1
 ·rw[List.getElem?_drop] at h1;exact⟨u,h1,h2⟩
 ·cases h1
def Opn (P:Program)(t:TypeId)(ts:List Ty):Prop:=
 ∀{H:Type}(enc:TypeId×Value->H)(w:World)(base:Nat)(spare:Nat->Bool)(held:Bool)(fuel:Nat)(cs:List Value)(x:DataW H×List MemPlace),DataW.trod enc P w base spare held fuel t cs=some x->∃y:dens ts,(∀c∈encs ts y,OkD c)/\cs.length=ts.length/\CellsAt w (encs ts y) cs 0
theorem Opn.int {t:TypeId}{k:IntKind}(ht:P.underlying t=some (.int k)):Opn P t [.int k]:=by
 intro H enc w base spare held fuel cs x h
 obtain⟨n,rfl,_,hw⟩:=DataW.trod_int ht h
 refine⟨(n,()),λc hc=> ?_,rfl,λi c hi=> ?_⟩
 ·rw[List.mem_singleton.1 (show c∈[D.v (.int k n)] from hc)];exact .int k n hw
 ·have hi:[D.v (.int k n)][i]? =some c:=hi
  cases i with
  |zero=>simp at hi;subst hi;exact⟨_,rfl,rfl,.v _⟩
  |succ i=>simp at hi
theorem Opn.bool {t:TypeId}(ht:P.underlying t=some .bool):Opn P t [.bool]:=by
 intro H enc w base spare held fuel cs x h
 obtain⟨n,rfl,_⟩:=DataW.trod_bool ht h
 refine⟨(n,()),λc hc=> ?_,rfl,λi c hi=> ?_⟩
 ·rw[List.mem_singleton.1 (show c∈[D.v (.bool n)] from hc)];exact .bool n
 ·have hi:[D.v (.bool n)][i]? =some c:=hi
  cases i with
  |zero=>simp at hi;subst hi;exact⟨_,rfl,rfl,.v _⟩
  |succ i=>simp at hi
theorem cells_len {w:World}{base:Nat}{a:Addr}{n:Nat}{cs:List Value}(h:w.cells? base a n=some cs):cs.length=n/\∀j,j<n->w.cell? (a.add j)=cs[j]? :=by
 unfold World.cells? at h
 split at h
 ·have h1:=mapM_some_length h
  refine⟨by simpa using h1,λj hj=> ?_⟩
  have:=mapM_some_get h j j (by simp[hj])
  exact this
 ·cases h
theorem add_add (a:Addr)(i j:Nat):(a.add i).add j=a.add (i+j):=by
 unfold Addr.add
 by_cases hi:i=0
 ·subst hi;simp
 ·by_cases hj:j=0
  ·subst hj;simp
  ·rw[if_neg hi,if_neg hj,if_neg (by omega),Nat.add_assoc]
theorem addr_none {w:World}{a:Addr}{u:Value}(h:w.cell? (a.add 0)=some u):∃b o,a=⟨b,o,none⟩:=by
 obtain⟨b,o,s⟩:=a
 unfold Addr.add World.cell? at h
 rw[if_pos rfl] at h
 cases s with
 |none=>exact⟨b,o,rfl⟩
 |some k=>
  simp only[Option.isSome_some,if_true] at h
  split at h<;>cases h
theorem exists_list {T:Type}{Q:Nat->T->Prop}:∀{n:Nat},(∀i,i<n->∃y,Q i y)->∃l:List T,l.length=n/\∀i y,l[i]? =some y->Q i y
 |0,_=>⟨[],rfl,λi y h=>by simp at h⟩
 |n+1,h=>by
  obtain⟨l,h1,h2⟩:=exists_list (n:=n) λi hi=>h i (by omega)
  obtain⟨y,hy⟩:=h n (by omega)
  refine⟨l++[y],by simp[h1],λi z hz=> ?_⟩
  by_cases hi:i<n
  ·rw[List.getElem?_append_left (by omega)] at hz;exact h2 i z hz
  ·rw[List.getElem?_append_right (by omega)] at hz
   have:i=n:=by have:=(List.getElem?_eq_some_iff.1 hz).1;simp at this;omega
   subst this
   simp[h1] at hz
   subst hz;exact hy
def tyFlat:Ty->List Ty
 | .st s=>flds s
 |t=>[t]
theorem flat_den:∀(ty:Ty)(y:dens (tyFlat ty)),∃x:den ty,enc ty x=encs (tyFlat ty) y
 | .st s,y=>⟨RE.mk s y,congrArg (encs (flds s)) (un_mk s y)⟩
 | .int _,y=>⟨y.1,rfl⟩
 | .bool,y=>⟨y.1,rfl⟩
 | .str,y=>⟨y.1,rfl⟩
 | .sl _,y=>⟨y.1,rfl⟩
theorem flat_size:∀ty:Ty,size ty=(tyFlat ty).length
 | .st s=>rfl
 | .int _=>rfl
 | .bool=>rfl
 | .str=>rfl
 | .sl _=>rfl
theorem Opn.slice {t e:TypeId}{ty:Ty}(ht:P.underlying t=some (.slice e))(he:Opn P e (tyFlat ty))(hz:P.cellsOf e=(tyFlat ty).length)(h0:0<(tyFlat ty).length):Opn P t [.sl ty]:=by
 intro H enc w base spare held fuel cs x h
 rw[<-flat_size] at hz h0
 rcases DataW.trod_slice ht h with⟨rfl,_⟩|⟨a,len,cap,elems,rest,n,_,rfl,_,hb,hlc,hm,hlen,hel,_,_⟩
 ·refine⟨([],()),λc hc=> ?_,rfl,λi c hi=> ?_⟩
  ·rw[List.mem_singleton.1 (show c∈[D.sl ty []] from hc)];exact .sl ty [] (λx hx=>by cases hx)
  ·have hi:[D.sl ty []][i]? =some c:=hi
   cases i with
   |zero=>
    simp at hi;subst hi
    exact⟨_,rfl,rfl,Rd.nil _ _ _ (Nat.zero_le _)⟩
   |succ i=>simp at hi
 ·have each:∀i,i<len->∃y:den ty,(∀c∈RE.enc ty y,OkD c)/\∀j c,(RE.enc ty y)[j]? =some c->∃u,w.cell? (a.add (i * size ty+j))=some u/\u.oneCell'=true/\Rd (allS w) w c u:=λi hi=>by
   have h1:=hel i hi
   rw[List.getElem?_eq_getElem (by omega),Option.bind_eq_some_iff] at h1
   obtain⟨cs,h2,h3⟩:=h1
   obtain⟨q1,q2⟩:=cells_len h2
   obtain⟨y,y1,y2,y3⟩:=he enc w base spare held n cs _ h3
   obtain⟨x,hx⟩:=flat_den ty y
   refine⟨x,by rw[hx];exact y1,λj c hj=> ?_⟩
   have hjl:j<size ty:=by have:=(List.getElem?_eq_some_iff.1 hj).1;rw[enc_len] at this;exact this
   rw[hx] at hj
   obtain⟨u,u1,u2⟩:=y3 j c hj
   rw[Nat.zero_add] at u1
   have q:=q2 j (by rw[hz];exact hjl)
   rw[hz] at q
   refine⟨u,?_,u2⟩
   rw[<-u1,<-q]
   rw[add_add]
  obtain⟨l,l1,l2⟩:=exists_list each
  have hone:∀(i:Nat)(y:den ty)(j:Nat),l[i]? =some y->j<size ty->∃u,w.cell? (a.add (i * size ty+j))=some u/\u.oneCell'=true/\∀c,(RE.enc ty y)[j]? =some c->Rd (allS w) w c u:=λi y j hi hj=>by
   obtain⟨_,h2⟩:=l2 i y hi
   obtain⟨u,u1,u2,u3⟩:=h2 j _ (List.getElem?_eq_getElem (by rw[enc_len];exact hj))
   refine⟨u,u1,u2,λc hc=> ?_⟩
   rw[List.getElem?_eq_getElem (by rw[enc_len];exact hj)] at hc
   injection hc with hc
   rw[<-hc];exact u3
  have ha:l=[]\/∃b o,a=⟨b,o,none⟩:=by
   cases l with
   |nil=>exact .inl rfl
   |cons y r=>
    right
    obtain⟨u,hu,_⟩:=hone 0 y 0 rfl h0
    rw[Nat.zero_mul] at hu
    exact addr_none hu
  refine⟨(l,()),λc hc=> ?_,rfl,λi c hi=> ?_⟩
  ·rw[List.mem_singleton.1 (show c∈[D.sl ty l] from hc)]
   refine .sl ty l λy hy=> ?_
   obtain⟨i,hi,rfl⟩:=List.getElem_of_mem hy
   exact (l2 i _ (List.getElem?_eq_getElem hi)).1
  ·have hi:[D.sl ty l][i]? =some c:=hi
   cases i with
   |succ i=>simp at hi
   |zero=>
    simp at hi;subst hi
    refine⟨_,rfl,rfl,?_⟩
    subst l1
    rcases ha with rfl|⟨b,o,rfl⟩
    ·exact Rd.nil _ _ _ hm
    ·let f:Nat->Nat->Value:=λi j=>(w.cell? ⟨b,o+i * size ty+j,none⟩).getD undef
     have hf:∀(i:Nat)(y:den ty)(j:Nat),l[i]? =some y->j<size ty->w.cell? ⟨b,o+i * size ty+j,none⟩=some (f i j)/\(f i j).oneCell'=true/\∀c,(RE.enc ty y)[j]? =some c->Rd (allS w) w c (f i j):=λi y j hi hj=>by
      obtain⟨u,u1,u2,u3⟩:=hone i y j hi hj
      rw[addr_add,<-Nat.add_assoc] at u1
      have:f i j=u:=by simp only[f,u1];rfl
      rw[this];exact⟨u1,u2,u3⟩
     exact Rd.sl (S:=allS w) (w:=w) ty l (some ⟨b,o,none⟩) cap b o f (by omega) hm (.inr rfl) (λi hi j hj=>by
      obtain⟨q1,q2,_⟩:=hf i l[i] j (List.getElem?_eq_getElem hi) hj
      exact⟨World.block_lt_of_cell? w _ q1,q1,q2⟩) (λi y j c hi hj=>by
      exact (hf i y j hi (by have:=(List.getElem?_eq_some_iff.1 hj).1;rw[enc_len] at this;exact this)).2.2 c hj)
def dapp:(ts:List Ty)->{us:List Ty}->dens ts->dens us->dens (ts++us)
 |[],_,_,y=>y
 |_::ts,_,x,y=>(x.1,dapp ts x.2 y)
theorem encs_dapp:∀(ts:List Ty){us:List Ty}(x:dens ts)(y:dens us),encs (ts++us) (dapp ts x y)=encs ts x++encs us y
 |[],_,_,_=>rfl
 |t::ts,us,x,y=>by
  show encA t x.1::encs (ts++us) (dapp ts x.2 y)=_
  rw[encs_dapp ts];rfl
def tysEq:List Ty->List Ty->Bool
 |[],[]=>true
 |a::r,b::s=>a.beq b&&tysEq r s
 |_,_=>false
theorem tysEq_eq:∀{a b:List Ty},tysEq a b=true->a=b
 |[],[],_=>rfl
 |x::r,y::s,h=>by
  obtain⟨h1,h2⟩:=Bool.and_eq_true_iff.1 h
  rw[Ty.beq_eq h1,tysEq_eq h2]
 |[],_::_,h=>by cases h
 |_::_,[],h=>by cases h
def opnF (P:Program)(rec:TypeId->Option (List Ty)):List Field->Nat->Option (List Ty)
 |[],_=>some []
 |f::r,off=>match rec f.type with
  |some ts=>bif Nat.beq f.offset off&&Nat.beq (P.cellsOf f.type) ts.length then (match opnF P rec r (off+ts.length) with
   |some tr=>some (ts++tr)
   |none=>none) else none
  |none=>none
def opnC (P:Program)(τ:TypeId->Option Ty):Nat->TypeId->Option (List Ty)
 |0,_=>none
 |n+1,t=>match P.underlying t with
  |some (.int k)=>some [.int k]
  |some .bool=>some [.bool]
  |some (.slice e)=>match opnC P τ n e,τ e with
   |some ts,some ty=>bif tysEq ts (tyFlat ty)&&Nat.beq (P.cellsOf e) ts.length&&Nat.ble 1 ts.length then some [.sl ty] else none
   |_,_=>none
  |some (.struct fs)=>match opnF P (opnC P τ n) fs.toList 0 with
   |some ts=>bif Nat.beq (P.cellsOf t) ts.length then some ts else none
   |none=>none
  |_=>none
theorem opnF_ok {rec:TypeId->Option (List Ty)}(hrec:∀t ts,rec t=some ts->Opn P t ts){H:Type}{enc:TypeId×Value->H}{w:World}{base:Nat}{spare:Nat->Bool}{held:Bool}{n:Nat}{cs:List Value}:
 ∀{fl:List Field}{off:Nat}{ts:List Ty},opnF P rec fl off=some ts->(∀f∈fl,∃x,DataW.trod enc P w base spare held n f.type ((cs.drop f.offset).take (P.cellsOf f.type))=some x)->∃y:dens ts,(∀c∈encs ts y,OkD c)/\CellsAt w (encs ts y) cs off
 |[],off,ts,h,_=>by
  injection h with h
  subst h
  exact⟨(),(λc hc=>by cases hc),CellsAt.nil⟩
 |f::r,off,ts,h,hx=>by
  unfold opnF at h
  split at h
  ·rename_i t1 h1
   cases hb:(Nat.beq f.offset off&&Nat.beq (P.cellsOf f.type) t1.length) with
   |false=>rw[hb] at h;cases h
   |true=>
    rw[hb] at h
    simp only[cond_true] at h
    split at h
    ·rename_i tr h2
     injection h with h
     subst h
     obtain⟨b1,b2⟩:=Bool.and_eq_true_iff.1 hb
     have b1:=beq_eq b1
     subst b1
     obtain⟨x,hx1⟩:=hx f (by simp)
     obtain⟨y1,y2,y3,y4⟩:=hrec _ _ h1 enc w base spare held n _ _ hx1
     obtain⟨z1,z2,z3⟩:=opnF_ok hrec h2 (λg hg=>hx g (by simp[hg]))
     refine⟨dapp t1 y1 z1,λc hc=> ?_,?_⟩
     ·rw[encs_dapp] at hc
      rcases List.mem_append.1 hc with hc|hc
      ·exact y2 c hc
      ·exact z2 c hc
     ·rw[encs_dapp]
      exact CellsAt.append (CellsAt.part y4) (by rw[encs_len];exact z3)
    ·cases h
  ·cases h
theorem opnC_ok {τ:TypeId->Option Ty}:∀{n:Nat}{t:TypeId}{ts:List Ty},opnC P τ n t=some ts->Opn P t ts
 |0,t,ts,h=>by cases h
 |n+1,t,ts,h=>by
  unfold opnC at h
  split at h
  ·rename_i k hk
   injection h with h;subst h
   exact Opn.int hk
  ·rename_i hk
   injection h with h;subst h
   exact Opn.bool hk
  ·rename_i e hk
   split at h
   ·rename_i us ty h1 h2
    cases hb:(tysEq us (tyFlat ty)&&Nat.beq (P.cellsOf e) us.length&&Nat.ble 1 us.length) with
    |false=>rw[hb] at h;cases h
    |true=>
     rw[hb] at h
     simp only[cond_true,Option.some.injEq] at h
     subst h
     simp only[Bool.and_eq_true] at hb
     obtain⟨⟨b1,b2⟩,b3⟩:=hb
     have b1:=tysEq_eq b1
     subst b1
     exact Opn.slice hk (opnC_ok h1) (beq_eq b2) (Nat.le_of_ble_eq_true b3)
   ·cases h
  ·rename_i fs hk
   split at h
   ·rename_i us h1
    cases hb:Nat.beq (P.cellsOf t) us.length with
    |false=>rw[hb] at h;cases h
    |true=>
     rw[hb] at h
     simp only[cond_true,Option.some.injEq] at h
     subst h
     intro enc w base spare held fuel cs x hx
     obtain⟨xs,m,rfl,_,hl,hxs,hf⟩:=DataW.trod_struct hk hx
     obtain⟨y,y1,y2⟩:=opnF_ok (λt ts h=>opnC_ok (n:=n) h) (cs:=cs) (enc:=enc) (w:=w) (base:=base) (spare:=spare) (held:=held) (n:=m) h1 (λf hf'=>by
      obtain⟨i,hi,rfl⟩:=List.getElem_of_mem hf'
      have hi':i<fs.size:=by simpa using hi
      have:=hf i fs[i] (Array.getElem?_eq_getElem hi')
      refine⟨xs[i]'(by omega),?_⟩
      rw[<-List.getElem?_eq_getElem (by omega:i<xs.length),<-this]
      simp)
     exact⟨y,y1,by rw[hl];exact beq_eq hb,y2⟩
   ·cases h
  ·cases h
def RdL (S:Cells)(w:World):List D->List Value->Prop
 |[],[]=>True
 |d::ds,u::us=>Rd S w d u/\RdL S w ds us
 |_,_=>False
theorem RdL.get {S:Cells}{w:World}:∀{ds:List D}{us:List Value},RdL S w ds us->∀(i:Nat)(d:D)(u:Value),ds[i]? =some d->us[i]? =some u->Rd S w d u
 |[],[],_,i,d,u,hd,_=>by simp at hd
 |d::ds,u::us,h,i,d',u',hd,hu=>by
  cases i with
  |zero=>simp at hd hu;subst hd hu;exact h.1
  |succ i=>exact RdL.get h.2 i d' u' (by simpa using hd) (by simpa using hu)
 |[],_::_,h,_,_,_,_,_=>h.elim
 |_::_,[],h,_,_,_,_,_=>h.elim
theorem rd_one {t:TypeId}{ty:Ty}(ho:Opn P t [ty]){H:Type}{enc:TypeId×Value->H}{w:World}{base:Nat}{spare:Nat->Bool}{held:Bool}{v:Value}(hv:v.cells.toList=[v]){d:DataW H}{ps:List MemPlace}(h:DataW.Trod enc P w base spare held t v d ps):
 ∃x:den ty,OkD (encA ty x)/\Rd (allS w) w (encA ty x) v:=by
 obtain⟨fuel,h⟩:=h
 obtain⟨l,h1,_,h3⟩:=ho enc w base spare held fuel _ _ h
 obtain⟨u,u1,_,u3⟩:=h3 0 _ rfl
 have:u=v:=by rw[hv] at u1;simpa using u1.symm
 subst this
 exact⟨l.1,h1 _ (List.mem_singleton.2 rfl),u3⟩
structure Rule where
 f:FuncId
 cp:List SV->MS->(SV->MS->Prop)->Prop
def RuleOK (P:Program)(r:Rule):Prop:=∀ss m k,r.cp ss m k->∀(us:List Value)w c,OXM m w c->us.length=ss.length->(∀(i:Nat)(s:SV)(u:Value),ss[i]? =some s->us[i]? =some u->SRel c w s u/\s.inU m.U)->
 Calls P r.f us.toArray w λe w'=>∃v s m' c',e= .returned v/\k s m'/\FrM m m'/\OXM m' w' c'/\TrM m w c m' w' c'/\SRel c' w' s v/\s.inU m'.U
inductive RulesOK (P:Program):List Rule->Prop
 |nil:RulesOK P []
 |cons {r:Rule} {l:List Rule} (h:RuleOK P r) (t:RulesOK P l):RulesOK P (r::l)
def findR:List Rule->FuncId->Option Rule
 |[],_=>none
 |r::l,f=>bif Nat.beq r.f f then some r else findR l f
theorem findR_ok:∀{l:List Rule},RulesOK P l->∀{f:FuncId}{r:Rule},findR l f=some r->RuleOK P r/\r.f=f
 |[],_,f,r,h=>by cases h
 |q::l,.cons hq ht,f,r,h=>by
  unfold findR at h
  cases hb:Nat.beq q.f f with
  |false=>rw[hb] at h;exact findR_ok ht h
  |true=>
   rw[hb] at h
   injection h with h
   subst h
   exact⟨hq,beq_eq hb⟩
def rule1 (s:Spec):Rule:=⟨s.f,byCon s⟩
theorem rule1_ok {s:Spec}(h:SpecOK P s):RuleOK P (rule1 s):=λss m k hk us w c hox hl hr=>byCon_ok h hk hox hl hr
def rule2 (s:Spec2):Rule:=⟨s.f,byCon2 s⟩
theorem rule2_ok {s:Spec2}(h:Spec2OK P s):RuleOK P (rule2 s):=λss m k hk us w c hox hl hr=>byCon2_ok h hk hox hl hr
def ruleN (fN:FuncId):Rule:=⟨fN,λss m k=>newC fN (λ_ _ _ _=>False) fN ss m k⟩
theorem ruleN_ok {fN:FuncId}(h:NewOK P fN):RuleOK P (ruleN fN):=λss m k hk us w c hox hl hr=>
 newC_ok h (cp:=λ_ _ _ _=>False) (λ_ _ _ _ h=>h.elim) fN ss m k hk us w c hox hl hr
structure Spec3 where
 f:FuncId
 t:Ty
 cl:Option FuncId
 pt:List (den t)->(List (den t)->Prop)->Prop
def clV:Option FuncId->List Value
 |none=>[]
 |some g=>[.func (.func g) #[] #[]]
def Spec3OK (P:Program)(s:Spec3):Prop:=∀l post,s.pt l post->∀w (S:Cells)(v:Value)(F:Nat->Prop)(e:TypeId),RowAt w S v F e s.t l->(∀b o,S b o->b<w.heap.size)->(∀b,F b->b<w.heap.size/\∀k,¬S b k)->
 Calls P s.f (v::clV s.cl).toArray w λe' w'=>∃r l',e'= .returned r/\post l'/\RowAt w' S v F e s.t l'/\w'.os=w.os/\w'.tape=w.tape/\w'.output=w.output/\w.heap.size<=w'.heap.size/\∀b,b<w.heap.size->¬F b->w'.heap[b]? =w.heap[b]?
def isCl (g:FuncId):SV->Bool
 | .d (.v (.func (.func f) a b))=>Nat.beq f g&&Nat.beq a.size 0&&Nat.beq b.size 0
 |_=>false
def clOK:Option FuncId->List SV->Bool
 |none,[]=>true
 |some g,[x]=>isCl g x
 |_,_=>false
theorem isCl_rel {g:FuncId}{x:SV}(h:isCl g x=true){c:Cx}{w:World}{u:Value}(hr:SRel c w x u):u= .func (.func g) #[] #[]:=by
 unfold isCl at h
 split at h
 ·rename_i f a b
  simp only[Bool.and_eq_true] at h
  obtain⟨⟨h1,h2⟩,h3⟩:=h
  rw[srel_v hr,beq_eq h1]
  have h2:a.size=0:=beq_eq h2
  have h3:b.size=0:=beq_eq h3
  rw[Array.eq_empty_of_size_eq_zero h2,Array.eq_empty_of_size_eq_zero h3]
 ·cases h
theorem clOK_rel {cl:Option FuncId}{r:List SV}(h:clOK cl r=true){c:Cx}{w:World}{us:List Value}(hl:us.length=r.length)(hr:∀(i:Nat)(s:SV)(u:Value),r[i]? =some s->us[i]? =some u->SRel c w s u):us=clV cl:=by
 unfold clOK at h
 split at h
 ·match us,hl with
  |[],_=>rfl
 ·rename_i g x
  match us,hl with
  |[u],_=>
   rw[isCl_rel h (hr 0 x u rfl rfl)];rfl
 ·cases h
def byCon3 (s:Spec3)(ss:List SV)(m:MS)(k:SV->MS->Prop):Prop:=match ss with
 | .os id::r=>match m.obs id with
  |some (.row e t l)=>match castL s.t t l with
   |some l1=>bif clOK s.cl r then s.pt l1 λl'=>k .un ⟨(id,some (.row e s.t l'))::m.ob,m.nx,m.tp⟩ else False
   |none=>False
  |_=>False
 |_=>False
theorem byCon3_ok {s:Spec3}(hs:Spec3OK P s){ss:List SV}{m:MS}{k:SV->MS->Prop}(h:byCon3 s ss m k){us:List Value}{w:World}{c:Cx}(hox:OXM m w c)(hl:us.length=ss.length)(hr:∀(i:Nat)(x:SV)(u:Value),ss[i]? =some x->us[i]? =some u->SRel c w x u/\x.inU m.U):
 Calls P s.f us.toArray w λe w'=>∃v r m' c',e= .returned v/\k r m'/\FrM m m'/\OXM m' w' c'/\TrM m w c m' w' c'/\SRel c' w' r v/\r.inU m'.U:=by
 unfold byCon3 at h
 split at h
 rotate_left
 ·exact h.elim
 rename_i id r
 split at h
 rotate_left
 ·exact h.elim
 rename_i e t l hob
 split at h
 rotate_left
 ·exact h.elim
 rename_i l1 hc
 obtain⟨e1,e2⟩:=castL_eq hc
 subst e1
 have e2:=eq_of_heq e2
 subst e2
 cases hb:clOK s.cl r with
 |false=>rw[hb] at h;exact h.elim
 |true=>
 rw[hb] at h
 simp only[cond_true] at h
 match us,hl with
 |u::us',hl=>
 have hu:=srel_os (hr 0 (.os id) u rfl rfl).1
 have hus:us'=clV s.cl:=clOK_rel hb (by simpa using hl) λi x v hx hv=>(hr (i+1) x v (by simpa using hx) (by simpa using hv)).1
 subst hu hus
 obtain⟨hidU,_,hrow⟩:=hox.objs id _ hob
 have hfb:=hox.fb id _ hob rfl
 refine (hs _ _ h w c.S (c.H id) (c.F id) e hrow hox.sb λb hb=>⟨(hfb b hb).1,(hfb b hb).2.1⟩).mono ?_
 rintro e' w' ⟨rv,l',rfl,hp,hrow',g1,g2,g3,g4,g5⟩
 have hcell:∀b o,c.S b o->w'.cell? ⟨b,o,none⟩=w.cell? ⟨b,o,none⟩:=λb o hS=>World.cell?_of_block (g5 b (hox.sb b o hS) λhF=>(hfb b hF).2.1 o hS)
 have hobs:∀x y,(MS.obs ⟨(id,some (.row e s.t l'))::m.ob,m.nx,m.tp⟩) x=some y->(x=id/\y= .row e s.t l')\/(x≠id/\m.obs x=some y):=λx y hx=>by
  have hx:lookO ((id,some (.row e s.t l'))::m.ob) x=some y:=hx
  rw[lookO_cons] at hx
  by_cases e:x=id
  ·subst e
   rw[put_same] at hx
   injection hx with hx
   exact .inl ⟨rfl,hx.symm⟩
  ·rw[put_ne _ _ e] at hx
   exact .inr ⟨e,hx⟩
 refine⟨_,.un,_,c,rfl,hp,⟨⟨[(id,some (.row e s.t l'))],rfl⟩,λh=>h⟩,⟨λb o hb=>Nat.lt_of_lt_of_le (hox.sb b o hb) g4,λx y hx=> ?_,λx y hx ho b hb=> ?_,λi j x y hx ox hy oy hne b hb hb'=> ?_,λT hT=> ?_,λe=> ?_,hox.tF⟩,⟨g1,g2,g3,g4,λ_ h=>h,λ_ h=> .inl h,λ_ h=>h,λ_ _=>⟨rfl,rfl⟩,λ_ _ h=>h,λ_ _ h=> .inl h,λb hb hf hT=>g5 b hb λhF=>hf ⟨id,_,hob,rfl,hF⟩,λb hb=> ?_⟩,.un _,trivial⟩
 ·rcases hobs x y hx with⟨rfl,rfl⟩|⟨hne,hx⟩
  ·exact⟨hidU,trivial,hrow'⟩
  ·obtain⟨u1,u2,u3⟩:=hox.objs x y hx
   exact⟨u1,u2,u3.keep (U:=m.U) u2 (λ_ _ h=>h) hcell (λ_ h=>h) (λ_ _=>rfl) ⟨rfl,rfl⟩ λho b hb=>g5 b (hox.fb x y hx ho b hb).1 λhF=>hox.dj x id y _ hx ho hob rfl hne b hb hF⟩
 ·rcases hobs x y hx with⟨rfl,rfl⟩|⟨hne,hx⟩
  ·obtain⟨u1,u2,u3⟩:=hfb b hb
   exact⟨Nat.lt_of_lt_of_le u1 g4,u2,u3⟩
  ·obtain⟨u1,u2,u3⟩:=hox.fb x y hx ho b hb
   exact⟨Nat.lt_of_lt_of_le u1 g4,u2,u3⟩
 ·have src:∀i x,(MS.obs ⟨(id,some (.row e s.t l'))::m.ob,m.nx,m.tp⟩) i=some x->x.own=true->∃x',m.obs i=some x'/\x'.own=true:=λi x hx ox=>by
   rcases hobs i x hx with⟨rfl,rfl⟩|⟨hne,hx⟩
   ·exact⟨_,hob,rfl⟩
   ·exact⟨x,hx,ox⟩
  obtain⟨x',hx',ox'⟩:=src i x hx ox
  obtain⟨y',hy',oy'⟩:=src j y hy oy
  exact hox.dj i j x' y' hx' ox' hy' oy' hne b hb hb'
 ·obtain⟨t1,t2⟩:=hox.nT T hT
  exact⟨Nat.lt_of_lt_of_le t1 g4,t2⟩
 ·obtain⟨T,hT,ht⟩:=hox.tpe e
  exact⟨T,hT,ht.mono (λ_ _ h=>h) hcell (g5 T ht.lt λhF=>(hfb T hF).2.2 hT)⟩
 ·obtain⟨x,y,hx,ho,hb⟩:=hb
  rcases hobs x y hx with⟨rfl,rfl⟩|⟨hne,hx⟩
  ·exact .inl ⟨x,_,hob,rfl,hb⟩
  ·exact .inl ⟨x,y,hx,ho,hb⟩
def rule3 (s:Spec3):Rule:=⟨s.f,byCon3 s⟩
theorem rule3_ok {s:Spec3}(h:Spec3OK P s):RuleOK P (rule3 s):=λss m k hk us w c hox hl hr=>byCon3_ok h hk hox hl hr
structure CtxR where
 τ:TypeId->Option Ty
 rs:List Rule
 jn:Nat->Nat->Option Shape
def callR (P:Program)(C:CtxR)(dr:DR):Nat->Nat->CP
 |0,_=>λ_ _ _ _=>False
 |n+1,fk=>λf ss m k=>match findR C.rs f with
  |some r=>r.cp ss m k
  |none=>inline P (λid ops d st K=>bif d then dr id (λi=>callR P C dr n (subK fk id i)) ops st K else aops P C.τ (λi=>callR P C dr n (subK fk id i)) ops 0 ops.toList st K) (C.jn fk) f ss m k
theorem callR_ok {C:CtxR}{dr:DR}(hR:RulesOK P C.rs)(hdr:DrOK P dr):∀(n fk:Nat),CallOK P (callR P C dr n fk)
 |0,fk=>λf ss m k h=>h.elim
 |n+1,fk=>by
  intro f ss m k h us w c hox hl hr
  unfold callR at h
  split at h
  ·rename_i r hr'
   obtain⟨h1,h2⟩:=findR_ok hR hr'
   subst h2
   exact h1 _ _ _ h us w c hox hl hr
  ·exact inline_ok (reg_ok hdr λid i=>callR_ok hR hdr n (subK fk id i)) f ss m k h us w c hox hl hr
theorem SpecOK.of_rules {C:CtxR}{dr:DR}(hR:RulesOK P C.rs)(hdr:DrOK P dr){n fk:Nat}{s:Spec}(h:∀x post,s.pt x post->HoldW (walkG (callR P C dr n fk) s.f s.tp (tvs s.ts x) s.rs post)):SpecOK P s:=
 SpecOK.of_walkG (callR_ok hR hdr n fk) λx post hp=>(h x post hp).h
end RE
end Go.Proofs.YtjcjdgmojkkioaaGreatDoor
set_option maxRecDepth 20000
namespace Go.Proofs.YtjcjdgmojkkioaaGreatDoor
open Go.RowKit
namespace RE
namespace PL
end PL
open PL
theorem LOOP.list {ts:List Ty}{F:Cur ts->Cur ts}{v:dens ts}{α σ:Type}(l:List α)(st:Nat->σ->dens ts)(idx:dens ts->Nat)(G:Nat->List α->σ->Prop)(s0:σ)(h0:v=st 0 s0)(hG:G 0 l s0)
 (hidx:∀k s,k<=l.length->idx (st k s)=k)
 (hs:∀(rec:Cur ts)(k:Nat)(x:α)(r:List α)(s:σ),l.drop k=x::r->l[k]? =some x->k<l.length->G k (x::r) s->(∀s',G (k+1) r s'->app ts rec (st (k+1) s'))->app ts (F rec) (st k s))
 (he:∀(rec:Cur ts)(s:σ),G l.length [] s->app ts (F rec) (st l.length s)):LOOP ts F v:=by
 refine⟨λu=>∃k s,k<=l.length/\u=st k s/\G k (l.drop k) s,λu=>l.length-idx u,⟨0,s0,Nat.zero_le _,h0,hG⟩,?_⟩
 rintro x ⟨k,s,hk,rfl,hg⟩
 by_cases hlt:k<l.length
 ·have hd:l.drop k=l[k]::l.drop (k+1):=List.drop_eq_getElem_cons hlt
  refine hs _ k l[k] (l.drop (k+1)) s hd (List.getElem?_eq_getElem hlt) hlt (hd ▸ hg) λs' hg'=> ?_
  rw[app_lam]
  refine⟨⟨k+1,s',hlt,rfl,hg'⟩,?_⟩
  show l.length-idx (st (k+1) s')<l.length-idx (st k s)
  rw[hidx k s hk,hidx (k+1) s' hlt]
  omega
 ·have hk':k=l.length:=by omega
  subst hk'
  rw[List.drop_length] at hg
  exact he _ s hg
theorem LOOP.fuel {ts:List Ty}{F:Cur ts->Cur ts}{v:dens ts}(I:dens ts->Prop)(μ:dens ts->Nat)(h0:I v)
 (hs:∀(rec:Cur ts)x,I x->(∀y,I y->μ y<μ x->app ts rec y)->app ts (F rec) x):LOOP ts F v:=
 ⟨I,μ,h0,λx hx=>hs _ x hx λy hy hm=>by rw[app_lam];exact⟨hy,hm⟩⟩
theorem ix_of {α:Type}[Inhabited α]{l:List α}{k:Nat}{x:α}(h:l[k]? =some x):ix l (k:Int)=x:=by
 unfold ix
 rw[Int.toNat_natCast,List.getD_eq_getElem?_getD,h];rfl
theorem wrap_in {z:Int}(h1: -9223372036854775808<=z)(h2:z<=9223372036854775807):IntKind.i64.wrap z=z:=w64_eq h1 h2
theorem gx_t (b:Bool):gx true b=b:=rfl
theorem gx_f (b:Bool):gx false b= !b:=rfl
end RE
end Go.Proofs.YtjcjdgmojkkioaaGreatDoor
set_option maxRecDepth 100000
set_option linter.unusedVariables false
namespace Go.Proofs.YtjcjdgmojkkioaaGreatDoor
open Go.RowKit
namespace RE
open PL
namespace Keep
theorem ret_int {k:IntKind}{a b:Int}(h:a=b):Ending.returned (.int k a)= .returned (.int k b):=by rw[h]
def md (k n:Int):Int:=if n<1 then 0 else k % n
theorem md_bd (k n:Int):0<=md k n/\(md k n<n\/md k n=0):=by
 unfold md
 split
 ·omega
 ·have h1:=Int.emod_nonneg k (show n≠0 by omega)
  have h2:=Int.emod_lt_of_pos k (show 0<n by omega)
  omega
theorem tmod_cases (k n:Int)(hn:1<=n):(0<=k.tmod n/\k.tmod n<n/\k % n=k.tmod n)\/(k.tmod n<0/\ -n<k.tmod n/\k % n=k.tmod n+n):=by
 have h1:=Int.mul_tdiv_add_tmod k n
 have hd:k % n=(k.tmod n) % n:=by
  conv=>lhs;rw[<-h1]
  rw[Int.add_comm,Int.add_mul_emod_self_left]
 have ha: -n<k.tmod n/\k.tmod n<n:=by
  exact⟨Int.lt_tmod_of_pos k (by omega),Int.tmod_lt_of_pos k (by omega)⟩
 rw[hd]
 rcases Int.le_total 0 (k.tmod n) with h|h
 ·left;exact⟨h,ha.2,Int.emod_eq_of_lt h ha.2⟩
 ·by_cases h0:k.tmod n=0
  ·left;rw[h0];simp;omega
  ·right
   refine⟨by omega,ha.1,?_⟩
   have:(k.tmod n+n) % n=k.tmod n % n:=by simp
   rw[<-this]
   exact Int.emod_eq_of_lt (by omega) (by omega)
theorem mod_any (k n:Int)(h3:n<=9223372036854775807)(w:World):
 Calls Tryz.prog 127 #[.int .i64 k,.int .i64 n] w λe w'=>e= .returned (.int .i64 (md k n))/\w=w':=by
 unfold md
 by_cases hn:n<1
 ·rw[if_pos hn]
  go_enter Tryz.func127,Tryz.ntmps127
  go_wp2
  go_ret
  exact⟨rfl,rfl⟩
 ·rw[if_neg hn]
  rcases tmod_cases k n (by omega) with⟨a,b,c⟩|⟨a,b,c⟩
  all_goals
   have c':=Lib.hid c
   clear c
   go_enter Tryz.func127,Tryz.ntmps127
   go_wp2
   go_ret
   exact⟨ret_int c'.out.symm,rfl⟩
def NextPost (bt:Nat)(S:Cells)(n:Int)(w:World)(e:Ending)(w':World):Prop:=
 ∃r:Int,e= .returned (.int .i64 r)/\0<=r/\(r<n\/r=0)/\TapeS w' bt S/\w.grownBy w' (some bt)
theorem grownBy_refl (w:World)(row:Option Nat):w.grownBy w row:=⟨rfl,rfl,rfl,Nat.le_refl _,λ_ _ _=>rfl⟩
theorem grownBy_trans {a b c:World}{row:Option Nat}(h:a.grownBy b row)(k:b.grownBy c row):a.grownBy c row:=
 ⟨k.os.trans h.os,k.tape.trans h.tape,k.output.trans h.output,Nat.le_trans h.size k.size,λi hi hr=>(k.block i (Nat.lt_of_lt_of_le hi h.size) hr).trans (h.block i hi hr)⟩
theorem grownBy_setCell (w:World)(bt o:Nat)(v:Value):w.grownBy (w.setCell ⟨bt,o,none⟩ v) (some bt):=
 ⟨rfl,rfl,rfl,by simp[World.setCell],λk _ hr=>Below.heap_setCell _ _ _ _ (by intro e;exact hr (by rw[e]))⟩
theorem only_drewN {a w:World}{row:Option Nat}(h:a.grownBy w row)(n:Nat):a.grownBy (w.drewN n) row:=⟨h.os,h.tape,h.output,h.size,h.block⟩
theorem quiet_left {P:Program}{f:FuncId}{args:Array Value}{w:World}{n:Nat}{v:Value}
 (h:Calls P f args (w.drewN n) λe w'=>e= .returned v/\w.drewN n=w'):Calls P f args (w.drewN n) λe w''=>e= .returned v/\∃m,w''=w.drewN m:=
 h.mono λ_ _ ⟨he,hm⟩=>⟨he,n,hm.symm⟩
set_option maxHeartbeats 400000 in
theorem next_any (bt:Nat)(n:Int)(h3:n<=9223372036854775807)(w:World)(S:Cells)(hS:∀k,¬S bt k)(h:TapeS w bt S):
 Calls Tryz.prog 46 #[.pointer (some ⟨bt,0,none⟩),.int .i64 n] w (NextPost bt S n w):=by
 obtain⟨a,len,cap,at_,ty,hb,hat,hlen,hv⟩:=h
 have c0:w.cell? ⟨bt,0,none⟩=some (.slice a len cap):=by simp[World.cell?,hb]
 have c1:w.cell? ⟨bt,1,none⟩=some (.int .i64 (at_:Nat)):=by simp[World.cell?,hb]
 have f1:w.frozen? ⟨bt,1,none⟩=false:=by simp[World.frozen?,hb]
 have hT:TapeS w bt S:=⟨a,len,cap,at_,ty,hb,hat,hlen,hv⟩
 have hfin:∀n',NextPost bt S n w (.returned (.int .i64 0)) (w.drewN n'):=λn'=>
  ⟨0,rfl,by omega,by omega,hT,only_drewN (grownBy_refl w _) n'⟩
 have hmd:∀(z:Int)(W:World),TapeS W bt S->w.grownBy W (some bt)->NextPost bt S n w (.returned (.int .i64 (md z n))) W:=λz W h1 h2=>
  ⟨md z n,rfl,(md_bd z n).1,(md_bd z n).2,h1,h2⟩
 by_cases hlt:at_<len
 ·have hv2:=hv
  obtain⟨bl,off,rfl,hc⟩:=hv (by omega)
  have hne:bl≠bt:=λe=>hS _ (e ▸ (hc at_ hlt).1)
  obtain⟨hsz,z,hz⟩:=hc at_ hlt
  have hno:¬len<=at_:=by omega
  have hT2:∀nq n':Nat,TapeS (((w.drewN nq).setCell ⟨bt,1,none⟩ (.int .i64 ((at_:Int)+1))).drewN n') bt S:=by
   intro nq n'
   refine⟨_,len,cap,at_+1,ty,?_,by omega,hlen,λhl=>⟨bl,off,rfl,λi hi=>⟨(hc i hi).1,?_⟩⟩⟩
   rotate_left
   ·obtain⟨z',hz'⟩:=(hc i hi).2
    refine⟨z',?_⟩
    show ((w.drewN nq).setCell ⟨bt,1,none⟩ (.int .i64 ((at_:Int)+1))).cell? _=_
    rw[World.cell?_of_block (w:=w.drewN nq) (Below.heap_setCell _ _ _ _ hne)];exact hz'
   show ((w.drewN nq).setCell ⟨bt,1,none⟩ (.int .i64 ((at_:Int)+1))).heap[bt]? =_
   have hb':(w.drewN nq).heap[bt]? =some (.cells #[.slice (some ⟨bl,off,none⟩) len cap,.int .i64 (at_:Nat)] ty (0,0)):=hb
   simp only[World.setCell,Array.getElem?_modify,if_true,hb']
   simp
  have hG:∀nq n':Nat,w.grownBy (((w.drewN nq).setCell ⟨bt,1,none⟩ (.int .i64 ((at_:Int)+1))).drewN n') (some bt):=λnq n'=>
   only_drewN (grownBy_trans (only_drewN (grownBy_refl w _) nq) (grownBy_setCell _ bt 1 _)) n'
  have hW0:∀nq:Nat,((w.drewN nq).setCell ⟨bt,1,none⟩ (.int .i64 ((at_:Int)+1))).cell? ⟨bt,0,none⟩=some (.slice (some ⟨bl,off,none⟩) len cap):=λnq=>by
   rw[World.cell?_setCell_other _ _ _ _ (by simp)];exact c0
  have hW1:∀nq:Nat,((w.drewN nq).setCell ⟨bt,1,none⟩ (.int .i64 ((at_:Int)+1))).cell? ⟨bt,1,none⟩=some (.int .i64 ((at_:Int)+1)):=λnq=>
   World.cell?_setCell_same (u:= .int .i64 (at_:Nat)) _ _ _ c1
  have hWz:∀nq:Nat,((w.drewN nq).setCell ⟨bt,1,none⟩ (.int .i64 ((at_:Int)+1))).cell? ⟨bl,off+at_,none⟩=some (.int .i64 z):=λnq=>by
   rw[World.cell?_of_block (w:=w.drewN nq) (Below.heap_setCell _ _ _ _ hne)];exact hz
  clear hb hc hfin hz hv hv2
  have hmd':=Lib.hid hmd
  have hT2':=Lib.hid hT2
  have hG':=Lib.hid hG
  have hW0':=Lib.hid hW0
  have hW1':=Lib.hid hW1
  have hWz':=Lib.hid hWz
  clear hmd hT2 hG hW0 hW1 hWz
  go_enter Tryz.func46,Tryz.ntmps46
  go_wp2
  go_quiet (fail)
  rename_i nq
  go_wp2
  have k0:=hW0'.out nq
  have k1:=hW1'.out nq
  have kz:=hWz'.out nq
  obtain⟨W,hW⟩:∃W,W=((w.drewN nq).setCell ⟨bt,1,none⟩ (.int .i64 ((at_:Int)+1))):=⟨_,rfl⟩
  rw[<-hW] at k0 k1 kz ⊢
  have hW2:=Lib.hid hW
  clear hW c0 c1 f1
  have ks:IntKind.i64.wrap ((at_:Int)+1-1)=at_:=by rw[IntWalk.i64_in _ (by omega)];omega
  go_quiet ((go_at_call 127;exact quiet_left (mod_any _ _ (by omega) _)))
  go_wp2
  go_ret
  rw[hW2.out]
  exact hmd'.out z _ (hT2'.out _ _) (hG'.out _ _)
 ·have hno:len<=at_:=by omega
  clear hb hat hlen hmd hv
  go_enter Tryz.func46,Tryz.ntmps46
  go_wp2
  go_quiet (fail)
  go_wp2
  go_ret
  exact hfin _
end Keep
def knext_P (n:Int)(post:Int->Prop):Prop:=n<=9223372036854775807/\∀r:Int,0<=r->(r<n\/r=0)->post r
def knext_sp:Spec:=⟨46,true,true,[.int .i64],.dat (.int .i64),λx post=>knext_P (x.1:Int) (λy0=>post (y0,()))⟩
theorem knext_ok:SpecOK Tryz.prog knext_sp:=by
 intro x post hp w S T us hS hT hl hr
 obtain⟨n,⟨⟩⟩:=x
 obtain⟨hn,hp⟩:=hp
 obtain⟨t,rfl,hT,hSt⟩:=hT
 match us,hl with
 |[u],_=>
  have h0:=hr 0 _ _ rfl rfl
  have hu:u= .int .i64 n:=by
   have h0:Rd S w (.v (.int .i64 n)) u:=h0
   cases h0;rfl
  subst hu
  refine (Keep.next_any t n hn w S hSt hT).mono ?_
  rintro e w' ⟨r,rfl,h1,h2,h3,h4⟩
  refine⟨_,(r,()),cx0 S (some t),rfl,hp r h1 h2,?_,?_,?_⟩
  ·refine⟨λb o h=>Nat.lt_of_lt_of_le (hS b o h) h4.size,λid x hx=>(by cases hx),λid x hx=>(by cases hx),λi j x y hx=>(by cases hx),λT hT'=> ?_,λ_=>⟨t,rfl,h3⟩,λh=>(by cases h)⟩
   cases hT'
   exact⟨h3.lt,hSt⟩
  ·refine⟨h4.os,h4.tape,h4.output,h4.size,λ_ h=>h,λ_ h=> .inl h,λ_ h=>h,λ_ _=>⟨rfl,rfl⟩,λ_ _ h=>h,λ_ _ h=> .inl h,λb hb _ ht=>h4.block b hb (λe=>ht e.symm),λ_ h=> .inl h⟩
  ·exact .d _ _ (.v _)
end RE
end Go.Proofs.YtjcjdgmojkkioaaGreatDoor
set_option linter.unusedVariables false
set_option maxRecDepth 100000
namespace Go.Proofs.YtjcjdgmojkkioaaGreatDoor
open Go.RowKit
namespace RE
namespace PL
abbrev Sp:=region_Span
def inSp (l:List Sp)(x:Int):Prop:=∃s∈l,s.1<=x/\x<s.2
def SpOK (l:List Sp):Prop:=(∀s∈l,s.1<s.2)/\l.Pairwise (λs t=>s.2<t.1)
abbrev Bd:=region_band
def inBd (l:List Bd)(x y:Int):Prop:=∃b∈l,b.low<=y/\y<b.high/\inSp b.spans x
structure BdOK (l:List Bd):Prop where
 each:∀b∈l,b.low<b.high/\b.spans≠[]/\SpOK b.spans
 srt:l.Pairwise (λb c=>b.high<=c.low)
 ne:l.Pairwise (λb c=>b.high=c.low->b.spans≠c.spans)
end PL
open PL
theorem PL.SpOK.cons {s:Sp}{r:List Sp}(h:SpOK (s::r)):s.1<s.2/\(∀t∈r,s.2<t.1)/\SpOK r:=by
 obtain⟨h1,h2⟩:=h
 rw[List.pairwise_cons] at h2
 exact⟨h1 s (by simp),h2.1,λt ht=>h1 t (by simp[ht]),h2.2⟩
theorem PL.SpOK.nil:SpOK []:=⟨λs h=>(by cases h),List.Pairwise.nil⟩
theorem PL.SpOK.mk {s:Sp}{r:List Sp}(h1:s.1<s.2)(h2:∀t∈r,s.2<t.1)(h3:SpOK r):SpOK (s::r):=
 ⟨λt ht=>(List.mem_cons.1 ht).elim (λe=>e ▸ h1) (h3.1 t),List.pairwise_cons.2 ⟨h2,h3.2⟩⟩
theorem inSp_cons {s:Sp}{r:List Sp}{x:Int}:inSp (s::r) x↔(s.1<=x/\x<s.2)\/inSp r x:=by
 unfold inSp
 constructor
 ·rintro ⟨t,ht,h⟩
  rcases List.mem_cons.1 ht with rfl|ht
  ·exact .inl h
  ·exact .inr ⟨t,ht,h⟩
 ·rintro (h|⟨t,ht,h⟩)
  ·exact⟨s,by simp,h⟩
  ·exact⟨t,by simp[ht],h⟩
theorem inSp_nil {x:Int}:¬inSp [] x:=λ⟨s,h,_⟩=>by cases h
theorem inSp_app {a b:List Sp}{x:Int}:inSp (a++b) x↔inSp a x\/inSp b x:=by
 unfold inSp
 constructor
 ·rintro ⟨t,ht,h⟩
  rcases List.mem_append.1 ht with ht|ht
  ·exact .inl ⟨t,ht,h⟩
  ·exact .inr ⟨t,ht,h⟩
 ·rintro (⟨t,ht,h⟩|⟨t,ht,h⟩)
  ·exact⟨t,by simp[ht],h⟩
  ·exact⟨t,by simp[ht],h⟩
theorem sp_uniq:∀{a b:List Sp},SpOK a->SpOK b->(∀x,inSp a x↔inSp b x)->a=b
 |[],[],_,_,_=>rfl
 |[],t::q,_,hb,h=>by
  have hb:=hb.cons
  exact absurd ((h t.1).2 (inSp_cons.2 (.inl ⟨Int.le_refl _,hb.1⟩))) inSp_nil
 |s::r,[],ha,_,h=>by
  have ha:=ha.cons
  exact absurd ((h s.1).1 (inSp_cons.2 (.inl ⟨Int.le_refl _,ha.1⟩))) inSp_nil
 |s::r,t::q,ha,hb,h=>by
  obtain⟨a1,a2,a3⟩:=ha.cons
  obtain⟨b1,b2,b3⟩:=hb.cons
  have lowA:∀x,inSp r x->s.2<x:=λx ⟨u,hu,h1,h2⟩=>by have:=a2 u hu;omega
  have lowB:∀x,inSp q x->t.2<x:=λx ⟨u,hu,h1,h2⟩=>by have:=b2 u hu;omega
  have e1:s.1=t.1:=by
   have h1:=inSp_cons.1 ((h s.1).1 (inSp_cons.2 (.inl ⟨Int.le_refl _,a1⟩)))
   have h2:=inSp_cons.1 ((h t.1).2 (inSp_cons.2 (.inl ⟨Int.le_refl _,b1⟩)))
   rcases h1 with h1|h1
   ·rcases h2 with h2|h2
    ·omega
    ·have:=lowA _ h2;omega
   ·have:=lowB _ h1
    rcases h2 with h2|h2
    ·omega
    ·have:=lowA _ h2;omega
  have e2:s.2=t.2:=by
   rcases Int.lt_trichotomy s.2 t.2 with hlt|he|hlt
   ·have h1:=inSp_cons.1 ((h s.2).2 (inSp_cons.2 (.inl ⟨by omega,hlt⟩)))
    rcases h1 with h1|h1
    ·omega
    ·have:=lowA _ h1;omega
   ·exact he
   ·have h1:=inSp_cons.1 ((h t.2).1 (inSp_cons.2 (.inl ⟨by omega,hlt⟩)))
    rcases h1 with h1|h1
    ·omega
    ·have:=lowB _ h1;omega
  have hs:s=t:=by cases s;cases t;simp_all
  subst hs
  congr 1
  refine sp_uniq a3 b3 λx=> ?_
  constructor
  ·intro hx
   have:=lowA x hx
   rcases inSp_cons.1 ((h x).1 (inSp_cons.2 (.inr hx))) with h1|h1
   ·omega
   ·exact h1
  ·intro hx
   have:=lowB x hx
   rcases inSp_cons.1 ((h x).2 (inSp_cons.2 (.inr hx))) with h1|h1
   ·omega
   ·exact h1
theorem sp_some {a:List Sp}(h:SpOK a)(h2:a≠[]):∃x,inSp a x:=by
 cases a with
 |nil=>exact absurd rfl h2
 |cons s r=>exact⟨s.1,inSp_cons.2 (.inl ⟨Int.le_refl _,h.cons.1⟩)⟩
theorem inBd_cons {b:Bd}{r:List Bd}{x y:Int}:inBd (b::r) x y↔(b.low<=y/\y<b.high/\inSp b.spans x)\/inBd r x y:=by
 unfold inBd
 constructor
 ·rintro ⟨t,ht,h⟩
  rcases List.mem_cons.1 ht with rfl|ht
  ·exact .inl h
  ·exact .inr ⟨t,ht,h⟩
 ·rintro (h|⟨t,ht,h⟩)
  ·exact⟨b,by simp,h⟩
  ·exact⟨t,by simp[ht],h⟩
theorem inBd_nil {x y:Int}:¬inBd [] x y:=λ⟨s,h,_⟩=>by cases h
theorem PL.BdOK.cons {b:Bd}{r:List Bd}(h:BdOK (b::r)):(b.low<b.high/\b.spans≠[]/\SpOK b.spans)/\(∀c∈r,b.high<=c.low)/\BdOK r/\(∀c∈r,b.high=c.low->b.spans≠c.spans):=by
 obtain⟨h1,h2,h3⟩:=h
 rw[List.pairwise_cons] at h2 h3
 exact⟨h1 b (by simp),h2.1,⟨λc hc=>h1 c (by simp[hc]),h2.2,h3.2⟩,h3.1⟩
theorem bd_low {r:List Bd}{m x y:Int}(h:∀c∈r,m<=c.low)(hx:inBd r x y):m<=y:=by
 obtain⟨b,hb,h1,_⟩:=hx
 have:=h b hb;omega
theorem bd_at {c:Bd}{q:List Bd}(h:BdOK (c::q)){m x y:Int}(hm:∀d∈c::q,m<=d.low)(hx:inBd (c::q) x m):c.low=m/\inSp c.spans x:=by
 obtain⟨h1,h2,h3,_⟩:=h.cons
 rcases inBd_cons.1 hx with⟨e1,e2,e3⟩|hx
 ·have:=hm c (by simp)
  exact⟨by omega,e3⟩
 ·obtain⟨u,hu,k1,k2,k3⟩:=hx
  have:=h2 u hu
  have:=hm c (by simp)
  omega
theorem bd_uniq:∀{a b:List Bd},BdOK a->BdOK b->(∀x y,inBd a x y↔inBd b x y)->a=b
 |[],[],_,_,_=>rfl
 |[],c::q,_,hb,h=>by
  obtain⟨⟨h1,h2,h3⟩,_⟩:=hb.cons
  obtain⟨x,hx⟩:=sp_some h3 h2
  exact absurd ((h x c.low).2 (inBd_cons.2 (.inl ⟨Int.le_refl _,h1,hx⟩))) inBd_nil
 |b::r,[],ha,_,h=>by
  obtain⟨⟨h1,h2,h3⟩,_⟩:=ha.cons
  obtain⟨x,hx⟩:=sp_some h3 h2
  exact absurd ((h x b.low).1 (inBd_cons.2 (.inl ⟨Int.le_refl _,h1,hx⟩))) inBd_nil
 |b::r,c::q,ha,hb,h=>by
  obtain⟨⟨a1,a2,a3⟩,a4,a5,a6⟩:=ha.cons
  obtain⟨⟨b1,b2,b3⟩,b4,b5,b6⟩:=hb.cons
  have allA:∀d∈b::r,b.low<=d.low:=λd hd=>by
   rcases List.mem_cons.1 hd with rfl|hd
   ·exact Int.le_refl _
   ·have:=a4 d hd;omega
  have allB:∀d∈c::q,c.low<=d.low:=λd hd=>by
   rcases List.mem_cons.1 hd with rfl|hd
   ·exact Int.le_refl _
   ·have:=b4 d hd;omega
  obtain⟨xa,hxa⟩:=sp_some a3 a2
  obtain⟨xb,hxb⟩:=sp_some b3 b2
  have e1:b.low=c.low:=by
   have h1:=bd_low allB ((h xa b.low).1 (inBd_cons.2 (.inl ⟨Int.le_refl _,a1,hxa⟩)))
   have h2:=bd_low allA ((h xb c.low).2 (inBd_cons.2 (.inl ⟨Int.le_refl _,b1,hxb⟩)))
   omega
  have rowA:∀x y,b.low<=y->y<b.high->(inBd (b::r) x y↔inSp b.spans x):=λx y h1 h2=>by
   rw[inBd_cons]
   constructor
   ·rintro (h|h)
    ·exact h.2.2
    ·have:=bd_low a4 h;omega
   ·exact λh=> .inl ⟨h1,h2,h⟩
  have rowB:∀x y,c.low<=y->y<c.high->(inBd (c::q) x y↔inSp c.spans x):=λx y h1 h2=>by
   rw[inBd_cons]
   constructor
   ·rintro (h|h)
    ·exact h.2.2
    ·have:=bd_low b4 h;omega
   ·exact λh=> .inl ⟨h1,h2,h⟩
  have e2:b.spans=c.spans:=sp_uniq a3 b3 λx=>by
   rw[<-rowA x b.low (Int.le_refl _) a1,h,e1,rowB x c.low (Int.le_refl _) b1]
  have e3:b.high=c.high:=by
   rcases Int.lt_trichotomy b.high c.high with hlt|he|hlt
   ·exfalso
    have h1:∀x,inBd r x b.high↔inSp c.spans x:=λx=>by
     rw[<-rowB x b.high (by omega) hlt,<-h,inBd_cons]
     constructor
     ·exact λh=> .inr h
     ·rintro (h|h)
      ·omega
      ·exact h
    cases r with
    |nil=>exact absurd ((h1 xb).2 hxb) inBd_nil
    |cons d t=>
     obtain⟨k1,_⟩:=bd_at (y:=0) a5 a4 ((h1 xb).2 hxb)
     refine a6 d (by simp) k1.symm ?_
     rw[e2]
     obtain⟨⟨d1,d2,d3⟩,_⟩:=a5.cons
     refine sp_uniq b3 d3 λx=> ?_
     rw[<-h1 x]
     constructor
     ·exact λhx=>(bd_at (y:=0) a5 a4 hx).2
     ·exact λhx=>inBd_cons.2 (.inl ⟨by omega,by omega,hx⟩)
   ·exact he
   ·exfalso
    have h1:∀x,inBd q x c.high↔inSp b.spans x:=λx=>by
     rw[<-rowA x c.high (by omega) hlt,h,inBd_cons]
     constructor
     ·exact λh=> .inr h
     ·rintro (h|h)
      ·omega
      ·exact h
    cases q with
    |nil=>exact absurd ((h1 xa).2 hxa) inBd_nil
    |cons d t=>
     obtain⟨k1,_⟩:=bd_at (y:=0) b5 b4 ((h1 xa).2 hxa)
     refine b6 d (by simp) k1.symm ?_
     rw[<-e2]
     obtain⟨⟨d1,d2,d3⟩,_⟩:=b5.cons
     refine sp_uniq a3 d3 λx=> ?_
     rw[<-h1 x]
     constructor
     ·exact λhx=>(bd_at (y:=0) b5 b4 hx).2
     ·exact λhx=>inBd_cons.2 (.inl ⟨by omega,by omega,hx⟩)
  have hbc:b=c:=by cases b;cases c;simp_all
  subst hbc
  congr 1
  refine bd_uniq a5 b5 λx y=> ?_
  constructor
  ·intro hx
   have:=bd_low a4 hx
   rcases inBd_cons.1 ((h x y).1 (inBd_cons.2 (.inr hx))) with h1|h1
   ·omega
   ·exact h1
  ·intro hx
   have:=bd_low b4 hx
   rcases inBd_cons.1 ((h x y).2 (inBd_cons.2 (.inr hx))) with h1|h1
   ·omega
   ·exact h1
namespace PL
def addSp (out:List Sp)(u v:Int):List Sp:=match out.getLast? with
 |some s=>if s.2=u then out.dropLast++[⟨s.1,v⟩] else out++[⟨u,v⟩]
 |none=>[⟨u,v⟩]
def spansG (p:Int->Bool):List Sp->List Int->List Sp
 |out,u::v::r=>spansG p (if p u=true then addSp out u v else out) (v::r)
 |out,_=>out
def spansOf (p:Int->Bool)(xs:List Int):List Sp:=spansG p [] xs
def inEdges (p:Int->Bool):List Int->Int->Prop
 |u::v::r,x=>(u<=x/\x<v/\p u=true)\/inEdges p (v::r) x
 |_,_=>False
end PL
theorem addSp_ok {out:List Sp}{u v:Int}(h:SpOK out)(huv:u<v)(hl:∀s∈out,s.2<=u):SpOK (addSp out u v)/\(∀s∈addSp out u v,s.2<=v)/\∀x,inSp (addSp out u v) x↔inSp out x\/(u<=x/\x<v):=by
 unfold addSp
 rcases List.eq_nil_or_concat out with rfl|⟨A,s,rfl⟩
 ·refine⟨SpOK.mk huv (λt ht=>by cases ht) SpOK.nil,λs hs=> ?_,λx=> ?_⟩
  ·simp at hs;subst hs;exact Int.le_refl _
  ·simp[inSp_cons,inSp_nil]
 ·simp only[List.concat_eq_append] at *
  simp only[List.getLast?_append,List.getLast?_singleton,Option.some_or]
  obtain⟨h1,h2⟩:=h
  rw[List.pairwise_append] at h2
  obtain⟨p1,_,p3⟩:=h2
  have hs:=h1 s (by simp)
  have hsl:=hl s (by simp)
  split
  ·rename_i e
   rw[List.dropLast_concat]
   refine⟨⟨λt ht=> ?_,?_⟩,λt ht=> ?_,λx=> ?_⟩
   ·rcases List.mem_append.1 ht with ht|ht
    ·exact h1 t (by simp[ht])
    ·rw[List.mem_singleton.1 ht];show s.1<v;omega
   ·rw[List.pairwise_append]
    refine⟨p1,List.pairwise_singleton _ _,λa ha b hb=> ?_⟩
    rw[List.mem_singleton.1 hb]
    exact p3 a ha s (by simp)
   ·rcases List.mem_append.1 ht with ht|ht
    ·have:=hl t (by simp[ht]);omega
    ·rw[List.mem_singleton.1 ht];exact Int.le_refl _
   ·rw[inSp_app,inSp_app,inSp_cons,inSp_cons]
    simp only[inSp_nil,or_false]
    constructor
    ·rintro (h|h)
     ·exact .inl (.inl h)
     ·by_cases hx:x<u
      ·exact .inl (.inr ⟨h.1,by omega⟩)
      ·exact .inr ⟨by omega,h.2⟩
    ·rintro ((h|h)|h)
     ·exact .inl h
     ·exact .inr ⟨h.1,by show x<v;omega⟩
     ·exact .inr ⟨by show s.1<=x;omega,h.2⟩
  ·rename_i e
   refine⟨⟨λt ht=> ?_,?_⟩,λt ht=> ?_,λx=> ?_⟩
   ·rcases List.mem_append.1 ht with ht|ht
    ·exact h1 t ht
    ·rw[List.mem_singleton.1 ht];exact huv
   ·rw[List.pairwise_append]
    refine⟨List.pairwise_append.2 ⟨p1,List.pairwise_singleton _ _,p3⟩,List.pairwise_singleton _ _,λa ha b hb=> ?_⟩
    rw[List.mem_singleton.1 hb]
    show a.2<u
    rcases List.mem_append.1 ha with ha|ha
    ·have:=p3 a ha s (by simp);have:=hl s (by simp);omega
    ·rw[List.mem_singleton.1 ha];omega
   ·rcases List.mem_append.1 ht with ht|ht
    ·have:=hl t ht;omega
    ·rw[List.mem_singleton.1 ht];exact Int.le_refl _
   ·rw[inSp_app,inSp_cons]
    simp only[inSp_nil,or_false]
theorem spansG_ok {p:Int->Bool}:∀{xs:List Int}{out:List Sp},xs.Pairwise (·<·)->SpOK out->(∀u r,xs=u::r->∀s∈out,s.2<=u)->SpOK (spansG p out xs)/\∀x,inSp (spansG p out xs) x↔inSp out x\/inEdges p xs x
 |[],out,_,h,_=>⟨h,λx=>by simp[spansG,inEdges]⟩
 |[u],out,_,h,_=>⟨h,λx=>by simp[spansG,inEdges]⟩
 |u::v::r,out,hx,h,hl=>by
  rw[List.pairwise_cons] at hx
  have huv:=hx.1 v (by simp)
  have hlu:=hl u (v::r) rfl
  unfold spansG
  by_cases hp:p u=true
  ·rw[if_pos hp]
   obtain⟨q1,q2,q3⟩:=addSp_ok h huv hlu
   obtain⟨i1,i2⟩:=spansG_ok (p:=p) hx.2 q1 (λu' r' e s hs=>by injection e with e;subst e;exact q2 s hs)
   refine⟨i1,λx=> ?_⟩
   rw[i2,q3]
   show _↔_\/(_\/_)
   simp only[hp,and_true]
   rw[or_assoc]
  ·rw[if_neg hp]
   obtain⟨i1,i2⟩:=spansG_ok (p:=p) hx.2 h (λu' r' e s hs=>by injection e with e;subst e;have:=hlu s hs;omega)
   refine⟨i1,λx=> ?_⟩
   rw[i2]
   show _↔_\/(_\/_)
   simp[hp]
theorem spansOf_ok {p:Int->Bool}{xs:List Int}(h:xs.Pairwise (·<·)):SpOK (spansOf p xs)/\∀x,inSp (spansOf p xs) x↔inEdges p xs x:=by
 obtain⟨h1,h2⟩:=spansG_ok (p:=p) h SpOK.nil (λ_ _ _ s hs=>by cases hs)
 exact⟨h1,λx=>by unfold spansOf;rw[h2];simp[inSp_nil]⟩
theorem edges_set {f:Int->Bool}:∀{xs:List Int},xs.Pairwise (·<·)->(∀x,f x=true->∃u∈xs,u<=x)->(∀x,f x=true->∃v∈xs,x<v)->(∀u x,u∈xs->u<=x->(∀v∈xs,v<=x->v<=u)->f x=f u)->∀x,inEdges f xs x↔f x=true
 |[],_,h1,_,_,x=>by
  constructor
  ·exact λh=>h.elim
  ·intro h;obtain⟨u,hu,_⟩:=h1 x h;cases hu
 |[u],_,h1,h2,_,x=>by
  constructor
  ·exact λh=>h.elim
  ·intro h
   obtain⟨a,ha,h3⟩:=h1 x h
   obtain⟨b,hb,h4⟩:=h2 x h
   rw[List.mem_singleton.1 ha] at h3
   rw[List.mem_singleton.1 hb] at h4
   omega
 |u::v::r,hx,h1,h2,h3,x=>by
  have hx':=hx
  rw[List.pairwise_cons] at hx
  have huv:=hx.1 v (by simp)
  have hvr:∀w∈v::r,v<=w:=λw hw=>by
   rcases List.mem_cons.1 hw with rfl|hw
   ·exact Int.le_refl _
   ·have:=(List.pairwise_cons.1 hx.2).1 w hw;omega
  have ih:=edges_set (f:=λz=>f z&&decide (v<=z)) (xs:=v::r) hx.2 (λz hz=>by
   obtain⟨_,hz2⟩:=Bool.and_eq_true_iff.1 hz
   exact⟨v,by simp,of_decide_eq_true hz2⟩) (λz hz=>by
   obtain⟨hz1,hz2⟩:=Bool.and_eq_true_iff.1 hz
   have hz2:=of_decide_eq_true hz2
   obtain⟨w,hw,h4⟩:=h2 z hz1
   rcases List.mem_cons.1 hw with rfl|hw
   ·omega
   ·exact⟨w,hw,h4⟩) (λa z ha haz hmax=>by
   have hva:=hvr a ha
   have:f z=f a:=h3 a z (by simp[ha]) haz (λw hw hwz=>by
    rcases List.mem_cons.1 hw with rfl|hw
    ·omega
    ·exact hmax w hw hwz)
   show (f z&&decide (v<=z))=(f a&&decide (v<=a))
   rw[this,decide_eq_true (by omega:v<=z),decide_eq_true hva]) x
  have hcongr:inEdges f (v::r) x↔inEdges (λz=>f z&&decide (v<=z)) (v::r) x:=by
   have:∀{l:List Int},(∀w∈l,v<=w)->(inEdges f l x↔inEdges (λz=>f z&&decide (v<=z)) l x):=by
    intro l
    induction l with
    |nil=>intro _;exact Iff.rfl
    |cons a l ih=>
     intro hl
     cases l with
     |nil=>exact Iff.rfl
     |cons b l=>
      have ha:=hl a (by simp)
      have i2:=ih (λw hw=>hl w (by simp[hw]))
      show (_\/_)↔(_\/_)
      rw[i2]
      simp[ha]
   exact this hvr
  show ((u<=x/\x<v/\f u=true)\/inEdges f (v::r) x)↔_
  rw[hcongr,ih]
  have hpart:u<=x->x<v->f x=f u:=λh4 h5=>h3 u x (by simp) h4 λw hw hwx=>by
   rcases List.mem_cons.1 hw with rfl|hw
   ·exact Int.le_refl _
   ·have:=hvr w hw;omega
  constructor
  ·rintro (⟨h4,h5,h6⟩|h4)
   ·rw[hpart h4 h5];exact h6
   ·exact (Bool.and_eq_true_iff.1 h4).1
  ·intro hf
   by_cases hvx:v<=x
   ·exact .inr (Bool.and_eq_true_iff.2 ⟨hf,decide_eq_true hvx⟩)
   ·obtain⟨a,ha,h4⟩:=h1 x hf
    have hux:u<=x:=by
     rcases List.mem_cons.1 ha with rfl|ha
     ·exact h4
     ·have:=hvr a ha;omega
    exact .inl ⟨hux,by omega,by rw[<-hpart hux (by omega)];exact hf⟩
end RE
end Go.Proofs.YtjcjdgmojkkioaaGreatDoor
set_option linter.unusedVariables false
set_option maxRecDepth 100000
namespace Go.Proofs.YtjcjdgmojkkioaaGreatDoor
open Go.RowKit
namespace RE
open PL
namespace PL
def addBd (out:List Bd)(u v:Int)(ss:List Sp):List Bd:=match out.getLast? with
 |some b=>if b.high=u/\b.spans=ss then out.dropLast++[⟨b.low,v,b.spans⟩] else out++[⟨u,v,ss⟩]
 |none=>[⟨u,v,ss⟩]
def buildG (R:Int->List Sp):List Bd->List Int->List Bd
 |out,u::v::r=>buildG R (addBd out u v (R u)) (v::r)
 |out,_=>out
def full (l:List Bd):List Bd:=l.filter λb=> !b.spans.isEmpty
structure BdW (l:List Bd):Prop where
 each:∀b∈l,b.low<b.high/\SpOK b.spans
 srt:l.Pairwise (λb c=>b.high<=c.low)
 ne:l.Pairwise (λb c=>b.high=c.low->b.spans≠c.spans)
end PL
theorem PL.BdW.ok {l:List Bd}(h:BdW l):BdOK (full l):=by
 refine⟨λb hb=> ?_,h.srt.filter _,h.ne.filter _⟩
 obtain⟨h1,h2⟩:=List.mem_filter.1 hb
 obtain⟨h3,h4⟩:=h.each b h1
 exact⟨h3,by simpa using h2,h4⟩
theorem full_in {l:List Bd}{x y:Int}:inBd (full l) x y↔inBd l x y:=by
 unfold inBd full
 constructor
 ·rintro ⟨b,hb,h⟩
  exact⟨b,(List.mem_filter.1 hb).1,h⟩
 ·rintro ⟨b,hb,h1,h2,s,hs,h3⟩
  refine⟨b,List.mem_filter.2 ⟨hb,?_⟩,h1,h2,s,hs,h3⟩
  cases hsp:b.spans with
  |nil=>rw[hsp] at hs;cases hs
  |cons _ _=>rfl
theorem inBd_app {a b:List Bd}{x y:Int}:inBd (a++b) x y↔inBd a x y\/inBd b x y:=by
 unfold inBd
 constructor
 ·rintro ⟨t,ht,h⟩
  rcases List.mem_append.1 ht with ht|ht
  ·exact .inl ⟨t,ht,h⟩
  ·exact .inr ⟨t,ht,h⟩
 ·rintro (⟨t,ht,h⟩|⟨t,ht,h⟩)
  ·exact⟨t,by simp[ht],h⟩
  ·exact⟨t,by simp[ht],h⟩
theorem addBd_ok {out:List Bd}{u v:Int}{ss:List Sp}(h:BdW out)(huv:u<v)(hs:SpOK ss)(hl:∀b∈out,b.high<=u):BdW (addBd out u v ss)/\(∀b∈addBd out u v ss,b.high<=v)/\∀x y,inBd (addBd out u v ss) x y↔inBd out x y\/(u<=y/\y<v/\inSp ss x):=by
 unfold addBd
 rcases List.eq_nil_or_concat out with rfl|⟨A,b,rfl⟩
 ·refine⟨⟨λc hc=> ?_,List.pairwise_singleton _ _,List.pairwise_singleton _ _⟩,λc hc=> ?_,λx y=> ?_⟩
  ·rw[List.mem_singleton.1 hc];exact⟨huv,hs⟩
  ·rw[List.mem_singleton.1 hc];exact Int.le_refl _
  ·simp[inBd_cons,inBd_nil]
 ·simp only[List.concat_eq_append] at *
  simp only[List.getLast?_append,List.getLast?_singleton,Option.some_or]
  obtain⟨h1,h2,h3⟩:=h
  rw[List.pairwise_append] at h2 h3
  obtain⟨p1,_,p3⟩:=h2
  obtain⟨q1,_,q3⟩:=h3
  obtain⟨hb1,hb2⟩:=h1 b (by simp)
  have hbl:=hl b (by simp)
  split
  ·rename_i e
   obtain⟨e1,e2⟩:=e
   rw[List.dropLast_concat]
   refine⟨⟨λc hc=> ?_,?_,?_⟩,λc hc=> ?_,λx y=> ?_⟩
   ·rcases List.mem_append.1 hc with hc|hc
    ·exact h1 c (by simp[hc])
    ·rw[List.mem_singleton.1 hc];exact⟨by show b.low<v;omega,hb2⟩
   ·rw[List.pairwise_append]
    refine⟨p1,List.pairwise_singleton _ _,λa ha c hc=> ?_⟩
    rw[List.mem_singleton.1 hc]
    exact p3 a ha b (by simp)
   ·rw[List.pairwise_append]
    refine⟨q1,List.pairwise_singleton _ _,λa ha c hc=> ?_⟩
    rw[List.mem_singleton.1 hc]
    exact q3 a ha b (by simp)
   ·rcases List.mem_append.1 hc with hc|hc
    ·have:=hl c (by simp[hc]);omega
    ·rw[List.mem_singleton.1 hc];exact Int.le_refl _
   ·rw[inBd_app,inBd_app,inBd_cons,inBd_cons]
    simp only[inBd_nil,or_false]
    rw[<-e2]
    constructor
    ·rintro (h|⟨h4,h5,h6⟩)
     ·exact .inl (.inl h)
     ·by_cases hy:y<u
      ·exact .inl (.inr ⟨h4,by omega,h6⟩)
      ·exact .inr ⟨by omega,h5,h6⟩
    ·rintro ((h|⟨h4,h5,h6⟩)|⟨h4,h5,h6⟩)
     ·exact .inl h
     ·exact .inr ⟨h4,by show y<v;omega,h6⟩
     ·exact .inr ⟨by show b.low<=y;omega,h5,h6⟩
  ·rename_i e
   refine⟨⟨λc hc=> ?_,?_,?_⟩,λc hc=> ?_,λx y=> ?_⟩
   ·rcases List.mem_append.1 hc with hc|hc
    ·exact h1 c hc
    ·rw[List.mem_singleton.1 hc];exact⟨huv,hs⟩
   ·rw[List.pairwise_append]
    refine⟨List.pairwise_append.2 ⟨p1,List.pairwise_singleton _ _,p3⟩,List.pairwise_singleton _ _,λa ha c hc=> ?_⟩
    rw[List.mem_singleton.1 hc]
    exact hl a ha
   ·rw[List.pairwise_append]
    refine⟨List.pairwise_append.2 ⟨q1,List.pairwise_singleton _ _,q3⟩,List.pairwise_singleton _ _,λa ha c hc=> ?_⟩
    rw[List.mem_singleton.1 hc]
    intro k1 k2
    rcases List.mem_append.1 ha with ha|ha
    ·have:=p3 a ha b (by simp)
     have k1:a.high=u:=k1
     omega
    ·rw[List.mem_singleton.1 ha] at k1 k2
     exact e ⟨k1,k2⟩
   ·rcases List.mem_append.1 hc with hc|hc
    ·have:=hl c hc;omega
    ·rw[List.mem_singleton.1 hc];exact Int.le_refl _
   ·rw[inBd_app,inBd_cons]
    simp only[inBd_nil,or_false]
theorem inEdges_congr {p q:Int->Bool}:∀{xs:List Int}{x:Int},(∀u∈xs,p u=q u)->(inEdges p xs x↔inEdges q xs x)
 |[],x,_=>Iff.rfl
 |[u],x,_=>Iff.rfl
 |u::v::r,x,h=>by
  have ih:=inEdges_congr (p:=p) (q:=q) (xs:=v::r) (x:=x) (λw hw=>h w (by simp[hw]))
  show (_\/_)↔(_\/_)
  rw[ih,h u (by simp)]
open Classical in
theorem buildG_ok {R:Int->List Sp}:∀{xs:List Int}{out:List Bd},xs.Pairwise (·<·)->(∀u∈xs,SpOK (R u))->BdW out->(∀u r,xs=u::r->∀b∈out,b.high<=u)->BdW (buildG R out xs)/\∀x y,inBd (buildG R out xs) x y↔inBd out x y\/inEdges (λu=>decide (inSp (R u) x)) xs y
 |[],out,_,_,h,_=>⟨h,λx y=>by simp[buildG,inEdges]⟩
 |[u],out,_,_,h,_=>⟨h,λx y=>by simp[buildG,inEdges]⟩
 |u::v::r,out,hx,hR,h,hl=>by
  rw[List.pairwise_cons] at hx
  have huv:=hx.1 v (by simp)
  obtain⟨q1,q2,q3⟩:=addBd_ok h huv (hR u (by simp)) (hl u (v::r) rfl)
  obtain⟨i1,i2⟩:=buildG_ok (R:=R) hx.2 (λw hw=>hR w (by simp[hw])) q1 (λu' r' e b hb=>by injection e with e;subst e;exact q2 b hb)
  refine⟨i1,λx y=> ?_⟩
  show inBd (buildG R (addBd out u v (R u)) (v::r)) x y↔_
  rw[i2,q3]
  show _↔_\/(_\/_)
  rw[or_assoc]
  simp only[decide_eq_true_eq]
theorem BdW.nil:BdW []:=⟨λb h=>(by cases h),List.Pairwise.nil,List.Pairwise.nil⟩
theorem build_ok {R:Int->List Sp}{F:Int->Int->Bool}{xs:List Int}(hx:xs.Pairwise (·<·))(hR:∀u∈xs,SpOK (R u)/\∀x,inSp (R u) x↔F x u=true)(h1:∀x y,F x y=true->∃u∈xs,u<=y)(h2:∀x y,F x y=true->∃v∈xs,y<v)
 (h3:∀x u y,u∈xs->u<=y->(∀v∈xs,v<=y->v<=u)->F x y=F x u):BdOK (full (buildG R [] xs))/\∀x y,inBd (full (buildG R [] xs)) x y↔F x y=true:=by
 obtain⟨q1,q2⟩:=buildG_ok hx (λu hu=>(hR u hu).1) BdW.nil (λ_ _ _ b hb=>by cases hb)
 refine⟨q1.ok,λx y=> ?_⟩
 rw[full_in,q2]
 have e:=edges_set (f:=λy=>F x y) hx (h1 x) (h2 x) (λu y hu huy hm=>h3 x u y hu huy hm) y
 rw[<-e,inEdges_congr (q:=λy=>F x y) (λu hu=>by
  have:=(hR u hu).2 x
  cases hF:F x u with
  |true=>rw[hF] at this;simp[this]
  |false=>rw[hF] at this;simp[this])]
 simp[inBd_nil]
end RE
end Go.Proofs.YtjcjdgmojkkioaaGreatDoor
set_option linter.unusedVariables false
set_option maxRecDepth 100000
namespace Go.Proofs.YtjcjdgmojkkioaaGreatDoor
open Go.RowKit
namespace RE
open PL
namespace PL
abbrev Rc:=api_Rect
def hit (r:Rc)(x y:Int):Bool:=decide (r.Left<=x)&&decide (x<r.Right)&&decide (r.Low<=y)&&decide (y<r.High)
def cov (l:List Rc)(x y:Int):Bool:=l.any λr=>hit r x y
def flat1 (b:Bd):List Rc:=b.spans.map λs=>⟨s.1,b.low,s.2,b.high⟩
def flat (l:List Bd):List Rc:=l.flatMap flat1
def Canon (l:List Rc):Prop:=∃bs,BdOK bs/\l=flat bs
open Classical in
noncomputable def canonF (f:Int->Int->Bool):List Rc:=if h:∃l,Canon l/\∀x y,cov l x y=f x y then Classical.choose h else []
def proper (r:Rc):Prop:=0<=r.Left/\r.Left<r.Right/\r.Right<=16384/\0<=r.Low/\r.Low<r.High/\r.High<=16384
def validP (l:List Rc):Prop:=l.length<=120/\(∀r∈l,proper r)/\Canon l
end PL
theorem hit_iff {r:Rc}{x y:Int}:hit r x y=true↔r.Left<=x/\x<r.Right/\r.Low<=y/\y<r.High:=by
 unfold hit;simp[and_assoc]
theorem cov_iff {l:List Rc}{x y:Int}:cov l x y=true↔∃r∈l,r.Left<=x/\x<r.Right/\r.Low<=y/\y<r.High:=by
 unfold cov
 rw[List.any_eq_true]
 simp only[hit_iff]
theorem cov_flat {bs:List Bd}{x y:Int}:cov (flat bs) x y=true↔inBd bs x y:=by
 rw[cov_iff]
 unfold flat inBd inSp
 constructor
 ·rintro ⟨r,hr,h1,h2,h3,h4⟩
  obtain⟨b,hb,hr⟩:=List.mem_flatMap.1 hr
  obtain⟨s,hs,rfl⟩:=List.mem_map.1 hr
  exact⟨b,hb,h3,h4,s,hs,h1,h2⟩
 ·rintro ⟨b,hb,h3,h4,s,hs,h1,h2⟩
  exact⟨⟨s.1,b.low,s.2,b.high⟩,List.mem_flatMap.2 ⟨b,hb,List.mem_map.2 ⟨s,hs,rfl⟩⟩,h1,h2,h3,h4⟩
theorem bool_iff {a b:Bool}(h:a=true↔b=true):a=b:=by
 cases a<;>cases b<;>simp_all
theorem canon_uniq {a b:List Rc}(ha:Canon a)(hb:Canon b)(h:∀x y,cov a x y=cov b x y):a=b:=by
 obtain⟨qs,h1,rfl⟩:=ha
 obtain⟨bs,h2,rfl⟩:=hb
 rw[bd_uniq h1 h2 λx y=>by rw[<-cov_flat,<-cov_flat,h]]
theorem canonF_eq {f:Int->Int->Bool}{l:List Rc}(h1:Canon l)(h2:∀x y,cov l x y=f x y):canonF f=l:=by
 have h:∃l,Canon l/\∀x y,cov l x y=f x y:=⟨l,h1,h2⟩
 unfold canonF
 rw[dif_pos h]
 obtain⟨h3,h4⟩:=Classical.choose_spec h
 exact canon_uniq h3 h1 λx y=>by rw[h4,h2]
theorem canon_self {l:List Rc}(h:Canon l):canonF (cov l)=l:=canonF_eq h λ_ _=>rfl
theorem canon_nil:Canon []:=⟨[],⟨λb h=>(by cases h),List.Pairwise.nil,List.Pairwise.nil⟩,rfl⟩
theorem canon_none {l:List Rc}(h:Canon l):l=[]↔∀x y,cov l x y=false:=by
 constructor
 ·rintro rfl x y;rfl
 ·intro h2;exact canon_uniq h canon_nil λx y=>by rw[h2];rfl
theorem flat_full {bs:List Bd}:flat (full bs)=flat bs:=by
 induction bs with
 |nil=>rfl
 |cons b r ih=>
  show flat (List.filter _ (b::r))=_
  rw[List.filter_cons]
  split
  ·show flat1 b++flat (full r)=flat1 b++flat r
   rw[ih]
  ·rename_i h
   have hb:b.spans=[]:=by simpa using h
   show flat (full r)=flat1 b++flat r
   rw[ih]
   unfold flat1
   rw[hb];rfl
theorem build_canon {R:Int->List Sp}{F:Int->Int->Bool}{xs:List Int}(hx:xs.Pairwise (·<·))(hR:∀u∈xs,SpOK (R u)/\∀x,inSp (R u) x↔F x u=true)(h1:∀x y,F x y=true->∃u∈xs,u<=y)(h2:∀x y,F x y=true->∃v∈xs,y<v)
 (h3:∀x u y,u∈xs->u<=y->(∀v∈xs,v<=y->v<=u)->F x y=F x u):Canon (flat (buildG R [] xs))/\(∀x y,cov (flat (buildG R [] xs)) x y=F x y)/\canonF F=flat (buildG R [] xs):=by
 obtain⟨q1,q2⟩:=build_ok hx hR h1 h2 h3
 rw[<-flat_full]
 have hc:Canon (flat (full (buildG R [] xs))):=⟨_,q1,rfl⟩
 have hcov:∀x y,cov (flat (full (buildG R [] xs))) x y=F x y:=λx y=>bool_iff (by rw[cov_flat,q2])
 exact⟨hc,hcov,canonF_eq hc hcov⟩
namespace PL
def putS (n:Int):List Int->List Int
 |[]=>[n]
 |x::r=>if x<n then x::putS n r else if x=n then x::r else n::x::r
def edgesS:List Rc->List Int
 |l=>l.foldl (λa r=>putS r.Right (putS r.Left a)) []
def cutsS:List Rc->List Int
 |l=>l.foldl (λa r=>putS r.High (putS r.Low a)) []
end PL
theorem putS_mem {n x:Int}:∀{l:List Int},x∈putS n l↔x=n\/x∈l
 |[]=>by simp[putS]
 |y::r=>by
  have ih:=putS_mem (n:=n) (x:=x) (l:=r)
  unfold putS
  split
  ·simp only[List.mem_cons,ih]
   constructor
   ·rintro (h|h|h)<;>simp[h]
   ·rintro (h|h|h)<;>simp[h]
  ·split
   ·rename_i e
    simp only[List.mem_cons]
    constructor
    ·exact λh=> .inr h
    ·rintro (h|h)
     ·exact .inl (h.trans e.symm)
     ·exact h
   ·simp only[List.mem_cons]
theorem putS_inc {n:Int}:∀{l:List Int},l.Pairwise (·<·)->(putS n l).Pairwise (·<·)
 |[],_=>List.pairwise_singleton _ _
 |y::r,h=>by
  have h':=h
  rw[List.pairwise_cons] at h
  unfold putS
  split
  ·rw[List.pairwise_cons]
   refine⟨λa ha=> ?_,putS_inc h.2⟩
   rcases putS_mem.1 ha with rfl|ha
   ·assumption
   ·exact h.1 a ha
  ·split
   ·exact h'
   ·rename_i h1 h2
    rw[List.pairwise_cons]
    refine⟨λa ha=> ?_,h'⟩
    rcases List.mem_cons.1 ha with rfl|ha
    ·omega
    ·have:=h.1 a ha;omega
theorem inc_uniq:∀{a b:List Int},a.Pairwise (·<·)->b.Pairwise (·<·)->(∀x,x∈a↔x∈b)->a=b
 |[],[],_,_,_=>rfl
 |[],y::q,_,_,h=>by have:=(h y).2 (by simp);cases this
 |x::r,[],_,_,h=>by have:=(h x).1 (by simp);cases this
 |x::r,y::q,ha,hb,h=>by
  rw[List.pairwise_cons] at ha hb
  have e:x=y:=by
   have h1:=(h x).1 (by simp)
   have h2:=(h y).2 (by simp)
   rcases List.mem_cons.1 h1 with h1|h1
   ·exact h1
   ·rcases List.mem_cons.1 h2 with h2|h2
    ·exact h2.symm
    ·have:=hb.1 x h1
     have:=ha.1 y h2
     omega
  subst e
  congr 1
  refine inc_uniq ha.2 hb.2 λz=> ?_
  constructor
  ·intro hz
   have:=ha.1 z hz
   rcases List.mem_cons.1 ((h z).1 (by simp[hz])) with h1|h1
   ·omega
   ·exact h1
  ·intro hz
   have:=hb.1 z hz
   rcases List.mem_cons.1 ((h z).2 (by simp[hz])) with h1|h1
   ·omega
   ·exact h1
theorem fold_edges {f g:Rc->Int}:∀{l:List Rc}{a:List Int},a.Pairwise (·<·)->(l.foldl (λa r=>putS (g r) (putS (f r) a)) a).Pairwise (·<·)/\∀x,x∈l.foldl (λa r=>putS (g r) (putS (f r) a)) a↔x∈a\/∃r∈l,x=f r\/x=g r
 |[],a,h=>⟨h,λx=>by simp⟩
 |r::l,a,h=>by
  obtain⟨h1,h2⟩:=fold_edges (f:=f) (g:=g) (l:=l) (putS_inc (n:=g r) (putS_inc (n:=f r) h))
  refine⟨h1,λx=> ?_⟩
  show x∈l.foldl _ _↔_
  rw[h2,putS_mem,putS_mem]
  constructor
  ·rintro ((h|h|h)|⟨q,hq,h⟩)
   ·exact .inr ⟨r,by simp,.inr h⟩
   ·exact .inr ⟨r,by simp,.inl h⟩
   ·exact .inl h
   ·exact .inr ⟨q,by simp[hq],h⟩
  ·rintro (h|⟨q,hq,h⟩)
   ·exact .inl (.inr (.inr h))
   ·rcases List.mem_cons.1 hq with rfl|hq
    ·rcases h with h|h
     ·exact .inl (.inr (.inl h))
     ·exact .inl (.inl h)
    ·exact .inr ⟨q,hq,h⟩
theorem cutsS_ok {l:List Rc}:(cutsS l).Pairwise (·<·)/\∀x,x∈cutsS l↔∃r∈l,x=r.Low\/x=r.High:=by
 obtain⟨h1,h2⟩:=fold_edges (f:=λr=>r.Low) (g:=λr=>r.High) (l:=l) List.Pairwise.nil
 exact⟨h1,λx=>by show x∈l.foldl _ _↔_;rw[h2];simp⟩
theorem edgesS_ok {l:List Rc}:(edgesS l).Pairwise (·<·)/\∀x,x∈edgesS l↔∃r∈l,x=r.Left\/x=r.Right:=by
 obtain⟨h1,h2⟩:=fold_edges (f:=λr=>r.Left) (g:=λr=>r.Right) (l:=l) List.Pairwise.nil
 exact⟨h1,λx=>by show x∈l.foldl _ _↔_;rw[h2];simp⟩
def comb (in_:Bool->Bool->Bool)(a b:List Rc):Int->Int->Bool:=λx y=>in_ (cov a x y) (cov b x y)
theorem cov_rows {l:List Rc}{x u y:Int}(huy:u<=y)(hm:∀r∈l,(r.Low<=y->r.Low<=u)/\(r.High<=y->r.High<=u)):cov l x y=cov l x u:=by
 refine bool_iff ?_
 rw[cov_iff,cov_iff]
 constructor
 ·rintro ⟨r,hr,h1,h2,h3,h4⟩
  exact⟨r,hr,h1,h2,(hm r hr).1 h3,by omega⟩
 ·rintro ⟨r,hr,h1,h2,h3,h4⟩
  refine⟨r,hr,h1,h2,by omega,?_⟩
  rcases Int.lt_or_le y r.High with h|h
  ·exact h
  ·have:=(hm r hr).2 h;omega
theorem cov_cols {l:List Rc}{x u y:Int}(huy:u<=x)(hm:∀r∈l,(r.Left<=x->r.Left<=u)/\(r.Right<=x->r.Right<=u)):cov l x y=cov l u y:=by
 refine bool_iff ?_
 rw[cov_iff,cov_iff]
 constructor
 ·rintro ⟨r,hr,h1,h2,h3,h4⟩
  exact⟨r,hr,(hm r hr).1 h1,by omega,h3,h4⟩
 ·rintro ⟨r,hr,h1,h2,h3,h4⟩
  refine⟨r,hr,by omega,?_,h3,h4⟩
  rcases Int.lt_or_le x r.Right with h|h
  ·exact h
  ·have:=(hm r hr).2 h;omega
theorem comb_cov {in_:Bool->Bool->Bool}(h0:in_ false false=false){a b:List Rc}{x y:Int}(h:comb in_ a b x y=true):cov (a++b) x y=true:=by
 have e:cov (a++b) x y=(cov a x y||cov b x y):=by unfold cov;rw[List.any_append]
 rw[e]
 unfold comb at h
 cases h1:cov a x y
 ·cases h2:cov b x y
  ·rw[h1,h2,h0] at h;cases h
  ·rfl
 ·rfl
theorem comb_build {in_:Bool->Bool->Bool}(h0:in_ false false=false){a b:List Rc}{R:Int->List Sp}(hR:∀u∈cutsS (a++b),SpOK (R u)/\∀x,inSp (R u) x↔comb in_ a b x u=true):
 Canon (flat (buildG R [] (cutsS (a++b))))/\(∀x y,cov (flat (buildG R [] (cutsS (a++b)))) x y=comb in_ a b x y)/\canonF (comb in_ a b)=flat (buildG R [] (cutsS (a++b))):=by
 obtain⟨c1,c2⟩:=cutsS_ok (l:=a++b)
 refine build_canon c1 hR (λx y h=> ?_) (λx y h=> ?_) λx u y hu huy hm=> ?_
 ·obtain⟨r,hr,_,_,h3,h4⟩:=cov_iff.1 (comb_cov h0 h)
  exact⟨r.Low,(c2 _).2 ⟨r,hr,.inl rfl⟩,h3⟩
 ·obtain⟨r,hr,_,_,h3,h4⟩:=cov_iff.1 (comb_cov h0 h)
  exact⟨r.High,(c2 _).2 ⟨r,hr,.inr rfl⟩,h4⟩
 ·have hm':∀r∈a++b,(r.Low<=y->r.Low<=u)/\(r.High<=y->r.High<=u):=λr hr=>⟨hm _ ((c2 _).2 ⟨r,hr,.inl rfl⟩),hm _ ((c2 _).2 ⟨r,hr,.inr rfl⟩)⟩
  unfold comb
  rw[cov_rows huy (λr hr=>hm' r (by simp[hr])),cov_rows huy (λr hr=>hm' r (by simp[hr]))]
theorem comb_row {in_:Bool->Bool->Bool}(h0:in_ false false=false){a b:List Rc}{y:Int}:SpOK (spansOf (λx=>comb in_ a b x y) (edgesS (a++b)))/\∀x,inSp (spansOf (λx=>comb in_ a b x y) (edgesS (a++b))) x↔comb in_ a b x y=true:=by
 obtain⟨c1,c2⟩:=edgesS_ok (l:=a++b)
 obtain⟨h1,h2⟩:=spansOf_ok (p:=λx=>comb in_ a b x y) c1
 refine⟨h1,λx=> ?_⟩
 rw[h2]
 refine edges_set (f:=λx=>comb in_ a b x y) c1 (λx h=> ?_) (λx h=> ?_) (λu x hu hux hm=> ?_) x
 ·obtain⟨r,hr,h3,h4,_⟩:=cov_iff.1 (comb_cov h0 h)
  exact⟨r.Left,(c2 _).2 ⟨r,hr,.inl rfl⟩,h3⟩
 ·obtain⟨r,hr,h3,h4,_⟩:=cov_iff.1 (comb_cov h0 h)
  exact⟨r.Right,(c2 _).2 ⟨r,hr,.inr rfl⟩,h4⟩
 ·have hm':∀r∈a++b,(r.Left<=x->r.Left<=u)/\(r.Right<=x->r.Right<=u):=λr hr=>⟨hm _ ((c2 _).2 ⟨r,hr,.inl rfl⟩),hm _ ((c2 _).2 ⟨r,hr,.inr rfl⟩)⟩
  show comb in_ a b x y=comb in_ a b u y
  unfold comb
  rw[cov_cols hux (λr hr=>hm' r (by simp[hr])),cov_cols hux (λr hr=>hm' r (by simp[hr]))]
theorem comb_ok {in_:Bool->Bool->Bool}(h0:in_ false false=false)(a b:List Rc):Canon (canonF (comb in_ a b))/\∀x y,cov (canonF (comb in_ a b)) x y=comb in_ a b x y:=by
 obtain⟨h1,h2,h3⟩:=comb_build h0 (a:=a) (b:=b) (R:=λy=>spansOf (λx=>comb in_ a b x y) (edgesS (a++b))) (λu _=>comb_row h0)
 rw[h3]
 exact⟨h1,h2⟩
theorem canon_box {l:List Rc}(h:Canon l){x0 x1 y0 y1:Int}(hb:∀x y,cov l x y=true->x0<=x/\x<x1/\y0<=y/\y<y1):∀r∈l,x0<=r.Left/\r.Left<r.Right/\r.Right<=x1/\y0<=r.Low/\r.Low<r.High/\r.High<=y1:=by
 intro r hr
 obtain⟨bs,h1,rfl⟩:=h
 obtain⟨b,hbm,hrm⟩:=List.mem_flatMap.1 hr
 obtain⟨s,hs,rfl⟩:=List.mem_map.1 hrm
 obtain⟨k1,k2,k3⟩:=h1.each b hbm
 have k4:=k3.1 s hs
 have p1:=hb s.1 b.low (cov_flat.2 ⟨b,hbm,Int.le_refl _,k1,s,hs,Int.le_refl _,k4⟩)
 have p2:=hb (s.2-1) (b.high-1) (cov_flat.2 ⟨b,hbm,by omega,by omega,s,hs,by omega,by omega⟩)
 dsimp only
 omega
end RE
end Go.Proofs.YtjcjdgmojkkioaaGreatDoor
set_option linter.unusedVariables false
set_option maxRecDepth 100000
namespace Go.Proofs.YtjcjdgmojkkioaaGreatDoor
open Go.RowKit
namespace RE
open PL
namespace PL
def joinSp (out:List Sp)(s:Sp):List Sp:=match out.getLast? with
 |some q=>if s.Left<=q.Right then out.dropLast++[⟨q.Left,max q.Right s.Right⟩] else out++[s]
 |none=>[s]
def rowG (out:List Sp)(l:List Sp):List Sp:=l.foldl joinSp out
noncomputable def rowS (l:List Rc) (y:Int):List Sp:=spansOf (λx=>cov l x y) (edgesS l)
def spanOf (r:Rc):Sp:=⟨r.Left,r.Right⟩
def onRow (y:Int)(l:List Rc):List Rc:=l.filter λr=>decide (r.Low<=y)&&decide (y<r.High)
end PL
theorem joinSp_ok {out:List Sp}{s:Sp}(h:SpOK out)(hs:s.1<s.2)(hl:∀q∈out,q.1<=s.1):SpOK (joinSp out s)/\(∀q∈joinSp out s,q.1<=s.1)/\∀x,inSp (joinSp out s) x↔inSp out x\/(s.1<=x/\x<s.2):=by
 unfold joinSp
 rcases List.eq_nil_or_concat out with rfl|⟨A,q,rfl⟩
 ·refine⟨SpOK.mk hs (λt ht=>by cases ht) SpOK.nil,λt ht=> ?_,λx=> ?_⟩
  ·simp at ht;subst ht;exact Int.le_refl _
  ·simp[inSp_cons,inSp_nil]
 ·simp only[List.concat_eq_append] at *
  simp only[List.getLast?_append,List.getLast?_singleton,Option.some_or]
  obtain⟨h1,h2⟩:=h
  rw[List.pairwise_append] at h2
  obtain⟨p1,_,p3⟩:=h2
  have hq:=h1 q (by simp)
  have hql:=hl q (by simp)
  split
  ·rename_i e
   rw[List.dropLast_concat]
   have hm1:q.2<=max q.2 s.2:=Int.le_max_left _ _
   have hm2:s.2<=max q.2 s.2:=Int.le_max_right _ _
   have hm3:max q.2 s.2=q.2\/max q.2 s.2=s.2:=by omega
   refine⟨⟨λt ht=> ?_,?_⟩,λt ht=> ?_,λx=> ?_⟩
   ·rcases List.mem_append.1 ht with ht|ht
    ·exact h1 t (by simp[ht])
    ·rw[List.mem_singleton.1 ht];show q.1<max q.2 s.2;omega
   ·rw[List.pairwise_append]
    refine⟨p1,List.pairwise_singleton _ _,λa ha b hb=> ?_⟩
    rw[List.mem_singleton.1 hb]
    exact p3 a ha q (by simp)
   ·rcases List.mem_append.1 ht with ht|ht
    ·exact hl t (by simp[ht])
    ·rw[List.mem_singleton.1 ht];exact hql
   ·rw[inSp_app,inSp_app,inSp_cons,inSp_cons]
    simp only[inSp_nil,or_false]
    constructor
    ·rintro (h|⟨h3,h4⟩)
     ·exact .inl (.inl h)
     ·have h4:x<max q.2 s.2:=h4
      have h3:q.1<=x:=h3
      by_cases hx:x<q.2
      ·exact .inl (.inr ⟨h3,hx⟩)
      ·exact .inr ⟨by omega,by omega⟩
    ·rintro ((h|⟨h3,h4⟩)|⟨h3,h4⟩)
     ·exact .inl h
     ·exact .inr ⟨h3,by show x<max q.2 s.2;omega⟩
     ·exact .inr ⟨by show q.1<=x;omega,by show x<max q.2 s.2;omega⟩
  ·rename_i e
   refine⟨⟨λt ht=> ?_,?_⟩,λt ht=> ?_,λx=> ?_⟩
   ·rcases List.mem_append.1 ht with ht|ht
    ·exact h1 t ht
    ·rw[List.mem_singleton.1 ht];exact hs
   ·rw[List.pairwise_append]
    refine⟨List.pairwise_append.2 ⟨p1,List.pairwise_singleton _ _,p3⟩,List.pairwise_singleton _ _,λa ha b hb=> ?_⟩
    rw[List.mem_singleton.1 hb]
    rcases List.mem_append.1 ha with ha|ha
    ·have:=p3 a ha q (by simp);have:=h1 q (by simp);omega
    ·rw[List.mem_singleton.1 ha];omega
   ·rcases List.mem_append.1 ht with ht|ht
    ·exact hl t ht
    ·rw[List.mem_singleton.1 ht];exact Int.le_refl _
   ·rw[inSp_app,inSp_cons]
    simp only[inSp_nil,or_false]
theorem rowG_ok:∀{l out:List Sp},SpOK out->(∀s∈l,s.1<s.2)->l.Pairwise (λs t=>s.1<=t.1)->(∀q∈out,∀s∈l,q.1<=s.1)->SpOK (rowG out l)/\∀x,inSp (rowG out l) x↔inSp out x\/inSp l x
 |[],out,h,_,_,_=>⟨h,λx=>by simp[rowG,inSp_nil]⟩
 |s::r,out,h,h1,h2,h3=>by
  rw[List.pairwise_cons] at h2
  obtain⟨q1,q2,q3⟩:=joinSp_ok h (h1 s (by simp)) (λq hq=>h3 q hq s (by simp))
  obtain⟨i1,i2⟩:=rowG_ok (l:=r) q1 (λt ht=>h1 t (by simp[ht])) h2.2 (λq hq t ht=>by have:=q2 q hq;have:=h2.1 t ht;omega)
  refine⟨i1,λx=> ?_⟩
  show inSp (rowG (joinSp out s) r) x↔_
  rw[i2,q3,inSp_cons,or_assoc]
theorem cov_onRow {l:List Rc}{x y:Int}:inSp ((onRow y l).map spanOf) x↔cov l x y=true:=by
 rw[cov_iff]
 unfold inSp onRow
 constructor
 ·rintro ⟨s,hs,h1,h2⟩
  obtain⟨r,hr,rfl⟩:=List.mem_map.1 hs
  obtain⟨h3,h4⟩:=List.mem_filter.1 hr
  have h4:r.Low<=y/\y<r.High:=by simpa using h4
  exact⟨r,h3,h1,h2,h4.1,h4.2⟩
 ·rintro ⟨r,hr,h1,h2,h3,h4⟩
  exact⟨spanOf r,List.mem_map.2 ⟨r,List.mem_filter.2 ⟨hr,by simp[h3,h4]⟩,rfl⟩,h1,h2⟩
theorem cov_nil (x y:Int):cov [] x y=false:=rfl
theorem rowS_ok {l:List Rc}{y:Int}:SpOK (rowS l y)/\∀x,inSp (rowS l y) x↔cov l x y=true:=by
 have:=comb_row (in_:=λa _=>a) rfl (a:=l) (b:=[]) (y:=y)
 rw[List.append_nil] at this
 exact this
theorem rowS_eq {l:List Rc}{y:Int}{r:List Sp}(h1:SpOK r)(h2:∀x,inSp r x↔cov l x y=true):r=rowS l y:=
 sp_uniq h1 rowS_ok.1 λx=>by rw[h2,rowS_ok.2]
theorem rowS_sorted {l:List Rc}{y:Int}{ss:List Sp}(hp:∀r∈l,r.Left<r.Right)(h1:ss.Perm ((onRow y l).map spanOf))(h2:ss.Pairwise (λs t=>s.1<=t.1)):rowG [] ss=rowS l y:=by
 obtain⟨q1,q2⟩:=rowG_ok (l:=ss) SpOK.nil (λs hs=>by
  obtain⟨r,hr,rfl⟩:=List.mem_map.1 (h1.mem_iff.1 hs)
  exact hp r (List.mem_filter.1 hr).1) h2 (λq hq=>by cases hq)
 refine rowS_eq q1 λx=> ?_
 rw[q2,<-cov_onRow (l:=l) (y:=y)]
 unfold inSp
 constructor
 ·rintro (⟨s,hs,_⟩|⟨s,hs,h⟩)
  ·cases hs
  ·exact⟨s,h1.mem_iff.1 hs,h⟩
 ·rintro ⟨s,hs,h⟩
  exact .inr ⟨s,h1.mem_iff.2 hs,h⟩
theorem spans_len:∀{l:List Sp}{x0 x1:Int},SpOK l->x0<=x1->(∀s∈l,x0<=s.1/\s.2<=x1)->(l.length:Int)<=x1-x0
 |[],x0,x1,_,h,_=>by simp;omega
 |s::r,x0,x1,h,h0,hb=>by
  obtain⟨a1,a2,a3⟩:=h.cons
  have hs:=hb s (by simp)
  have:=spans_len (l:=r) (x0:=s.2) (x1:=x1) a3 (by omega) (λt ht=>⟨by have:=a2 t ht;omega,(hb t (by simp[ht])).2⟩)
  simp;omega
theorem flat_len:∀{bs:List Bd}{x0 x1 y0 y1:Int},BdOK bs->x0<=x1->y0<=y1->(∀b∈bs,y0<=b.low/\b.high<=y1/\∀s∈b.spans,x0<=s.1/\s.2<=x1)->((flat bs).length:Int)<=(y1-y0) * (x1-x0)
 |[],x0,x1,y0,y1,_,hx,hy,_=>by
  have:=Int.mul_nonneg (show 0<=y1-y0 by omega) (show 0<=x1-x0 by omega)
  simpa [flat] using this
 |b::r,x0,x1,y0,y1,h,hx,hy,hb=>by
  obtain⟨⟨a1,a2,a3⟩,a4,a5,_⟩:=h.cons
  obtain⟨b1,b2,b3⟩:=hb b (by simp)
  have h1:=spans_len a3 hx b3
  have h2:=flat_len (bs:=r) (x0:=x0) (x1:=x1) (y0:=b.high) (y1:=y1) a5 hx b2 (λc hc=>⟨a4 c hc,(hb c (by simp[hc])).2⟩)
  have e:(flat (b::r)).length=b.spans.length+(flat r).length:=by
   show (flat1 b++flat r).length=_
   unfold flat1
   simp
  rw[e]
  have h3:(y1-b.high) * (x1-x0)+(x1-x0)<=(y1-y0) * (x1-x0):=by
   have h4:(y1-b.high+1) * (x1-x0)<=(y1-y0) * (x1-x0):=Int.mul_le_mul_of_nonneg_right (by omega) (by omega)
   rw[Int.add_mul,Int.one_mul] at h4
   exact h4
  push_cast
  omega
theorem canon_len {l:List Rc}(h:Canon l){x0 x1 y0 y1:Int}(hx:x0<=x1)(hy:y0<=y1)(hb:∀x y,cov l x y=true->x0<=x/\x<x1/\y0<=y/\y<y1):(l.length:Int)<=(y1-y0) * (x1-x0):=by
 have hbox:=canon_box h hb
 obtain⟨bs,h1,rfl⟩:=h
 refine flat_len h1 hx hy λb hbm=> ?_
 have hin:∀s∈b.spans,(⟨s.1,b.low,s.2,b.high⟩:Rc)∈flat bs:=λs hs=>List.mem_flatMap.2 ⟨b,hbm,List.mem_map.2 ⟨s,hs,rfl⟩⟩
 obtain⟨k1,k2,k3⟩:=h1.each b hbm
 obtain⟨x,s,hs,_⟩:=sp_some k3 k2
 have:=hbox _ (hin s hs)
 dsimp only at this
 refine⟨by omega,by omega,λt ht=> ?_⟩
 have:=hbox _ (hin t ht)
 dsimp only at this
 omega
end RE
end Go.Proofs.YtjcjdgmojkkioaaGreatDoor
namespace Go.Proofs.YtjcjdgmojkkioaaGreatDoor
namespace RE
set_option maxRecDepth 100000
open Go.RowKit
open PL
theorem JOIN.opq {ts:List Ty}{J:Cur ts}{B:Cur ts->Prop}(h:∀J',J'=J->B J'):JOIN ts J B:=JOIN.mk (h J rfl)
theorem sub_front {α:Type}{l:List α}{k:Nat}:sub l 0 (k:Int)=l.take k:=by
 unfold sub;simp
theorem sub_back {α:Type}{l:List α}{k:Nat}:sub l (k:Int) (l.length:Int)=l.drop k:=by
 unfold sub
 rw[List.take_of_length_le (by simp)]
 simp
theorem ix_lt {α:Type}[Inhabited α]{l:List α}{k:Nat}(h:k<l.length):ix l (k:Int)=l[k]:=ix_of (List.getElem?_eq_getElem h)
theorem ix_mem {α:Type}[Inhabited α]{l:List α}{i:Int}(h1:0<=i)(h2:i<l.length):ix l i∈l:=List.mem_of_getElem? (ix_get (l:=l) (i:=i) ⟨h1,h2⟩)
theorem wrapS {k:Nat}(h:k<=1000000000):IntKind.i64.wrap ((k:Int)+1)=((k+1:Nat):Int):=by
 rw[wrap_in (by omega) (by omega)];rfl
theorem ix_app {α:Type}[Inhabited α]{A B:List α}{x:α}{k:Int}(hk:k=A.length):ix (A++x::B) k=x:=by
 subst hk
 exact ix_of (by simp)
theorem set_app {α:Type}{A B:List α}{x y:α}{k:Nat}(hk:k=A.length):(A++x::B).set k y=A++y::B:=by
 subst hk;simp
theorem map_step {α:Type}{l:List α}{f:α->α}{k:Nat}{x:α}(hk:l[k]? =some x):((l.take k).map f++l.drop k).set k (f x)=(l.take (k+1)).map f++l.drop (k+1):=by
 have hlt:=(List.getElem?_eq_some_iff.1 hk).1
 have hx:=(List.getElem?_eq_some_iff.1 hk).2
 have hd:l.drop k=x::l.drop (k+1):=by rw[<-hx];exact List.drop_eq_getElem_cons hlt
 have ht:l.take (k+1)=l.take k++[x]:=by rw[<-hx];simp
 rw[hd,set_app (by simp;omega),ht];simp
theorem map_at {α:Type}[Inhabited α]{l:List α}{f:α->α}{k:Nat}{x:α}(hk:l[k]? =some x):ix ((l.take k).map f++l.drop k) (k:Int)=x:=by
 have hlt:=(List.getElem?_eq_some_iff.1 hk).1
 have hx:=(List.getElem?_eq_some_iff.1 hk).2
 have hd:l.drop k=x::l.drop (k+1):=by rw[<-hx];exact List.drop_eq_getElem_cons hlt
 rw[hd];exact ix_app (by simp;omega)
theorem map_len {α:Type}{l:List α}{f:α->α}{k:Nat}:((l.take k).map f++l.drop k).length=l.length:=by
 simp;omega
theorem drop_two {α:Type}[Inhabited α]{l:List α}{k:Nat}(h:k+1<l.length):l.drop k=ix l (k:Int)::ix l ((k+1:Nat):Int)::l.drop (k+2)/\l.drop (k+1)=ix l ((k+1:Nat):Int)::l.drop (k+2):=by
 have h2:l.drop (k+1)=ix l ((k+1:Nat):Int)::l.drop (k+2):=by rw[ix_lt h];exact List.drop_eq_getElem_cons h
 refine⟨?_,h2⟩
 rw[<-h2,ix_lt (by omega:k<l.length)]
 exact List.drop_eq_getElem_cons (by omega)
theorem map_eq_iff {α β:Type}[Inhabited α]{f:α->β}{a b:List α}(h:a.length=b.length):a.map f=b.map f↔∀j:Nat,j<a.length->f (ix a (j:Int))=f (ix b (j:Int)):=by
 constructor
 ·intro e j hj
  rw[ix_lt hj,ix_lt (by omega)]
  have:=congrArg (λl=>l[j]?) e
  simpa [hj,(by omega:j<b.length)] using this
 ·intro hh
  refine List.ext_getElem (by simpa using h) λj h1 h2=> ?_
  have h1:j<a.length:=by simpa using h1
  have:=hh j h1
  rw[ix_lt h1,ix_lt (by omega)] at this
  simpa using this
theorem list_eq_iff {α:Type}[Inhabited α]{a b:List α}(h:a.length=b.length):a=b↔∀j:Nat,j<a.length->ix a (j:Int)=ix b (j:Int):=by
 have:=map_eq_iff (f:=id) h
 simpa using this
theorem loopCmp {n:Nat}(hn:n<=1000000000){B:(Int->Prop)->Int->Prop}{K:Prop}{p:Nat->Prop}(hB:∀(rec:Int->Prop)(k:Nat),k<n->(∀j,j<k->p j)->(p k->rec (IntKind.i64.wrap ((k:Int)+1)))->B rec (k:Int))(hK:(∀j,j<n->p j)->K):
 LOOP [Ty.int IntKind.i64] (λ(rec:Int->Prop) (z:Int)=>IFB (decide (z<(n:Int))) (B rec z) K) ((0:Int),PUnit.unit):=by
 refine LOOP.fuel (λu=>∃k:Nat,u.1=(k:Int)/\k<=n/\∀j,j<k->p j) (λu=>n-Int.toNat u.1) ⟨0,rfl,Nat.zero_le _,λj hj=>by omega⟩ ?_
 rintro rec ⟨(z:Int),⟨⟩⟩ ⟨k,hz,hk,hp⟩ hrec
 have hz:z=(k:Int):=hz
 subst hz
 refine IFB.mk (λhb=> ?_) (λhb=>hK λj hj=>hp j (by have:=of_decide_eq_false hb;omega))
 have hb:(k:Int)<n:=of_decide_eq_true hb
 refine hB rec k (by omega) hp λhpk=> ?_
 rw[wrapS (by omega)]
 refine hrec (((k+1:Nat):Int),()) ⟨k+1,rfl,by omega,λj hj=> ?_⟩ (by show n-((k+1:Nat):Int).toNat<n-(k:Int).toNat;omega)
 by_cases h:j=k
 ·rw[h];exact hpk
 ·exact hp j (by omega)
def rput_P (l:List (Int))(n:Int)(post:List (Int)->Prop):Prop:=(l.length<=1000000)/\post (putS n l)
def rput_sp:Spec:=⟨169,false,true,[.sl (.int .i64),.int .i64],.dat (.sl (.int .i64)),λx post=>rput_P (x.1:List (Int)) (x.2.1:Int) (λy0=>post (y0,()))⟩
def rput_C:CtxR:=⟨tau,[],lookJ [(0,1000006,⟨[(4,.own 3 (.int .i64))],[],(List.range' 33 12),[],[]⟩),(0,5,⟨[(5,.dat (.int .i64))],[],(List.range' 6 14),[],[]⟩)]⟩
def rput_W (l:List (Int))(n:Int)(post:List (Int)->Prop):Prop:=LOOP [Ty.int IntKind.i64] (λ(rec1:Int->Prop) (z2:Int)=>(↑l.length:Int)<=9223372036854775807->(gx true (decide (z2<(↑l.length:Int)))=true->0<=z2/\z2<(↑l.length:Int))/\IFB (decide (z2<(↑l.length:Int))&&decide (ix l z2<n)) (rec1 (IntKind.i64.wrap (z2+1))) ((↑l.length:Int)<=9223372036854775807->(gx true (decide (z2<(↑l.length:Int)))=true->0<=z2/\z2<(↑l.length:Int))/\IFB (decide (z2<(↑l.length:Int))&&decide (ix l z2=n)) (post l) (JOIN [(Ty.int IntKind.i64).sl] (λ(y3:List Int)=>post y3) λ(J4:List Int->Prop)=>(Int.NonNeg 0/\0<=z2/\z2<=(↑l.length:Int))/\((0:Int)<=z2/\z2<=(↑l.length:Int)/\(↑l.length:Int)<=(↑l.length:Int))/\((((0:Nat)+(sub l (0:Int) z2).length) * (8:Nat)<=140737488355328/\(([]++sub l (0:Int) z2).length+[n].length) * (8:Nat)<=140737488355328/\(([]++sub l (0:Int) z2++[n]).length+(sub l z2 (↑l.length:Int)).length) * (8:Nat)<=140737488355328/\J4 ([]++sub l (0:Int) z2++[n]++sub l z2 (↑l.length:Int)))/\((0:Nat)+(sub l (0:Int) z2).length) * (8:Nat)<=140737488355328/\(([]++sub l (0:Int) z2).length+[n].length) * (8:Nat)<=140737488355328/\(([]++sub l (0:Int) z2++[n]).length+(sub l z2 (↑l.length:Int)).length) * (8:Nat)<=140737488355328/\J4 ([]++sub l (0:Int) z2++[n]++sub l z2 (↑l.length:Int)))/\((0:Nat)+(sub l (0:Int) z2).length) * (8:Nat)<=140737488355328/\(([]++sub l (0:Int) z2).length+[n].length) * (8:Nat)<=140737488355328/\(([]++sub l (0:Int) z2++[n]).length+(sub l z2 (↑l.length:Int)).length) * (8:Nat)<=140737488355328/\J4 ([]++sub l (0:Int) z2++[n]++sub l z2 (↑l.length:Int))))) ((0:Int),PUnit.unit)
theorem rput_w (l:List (Int))(n:Int)(post:dens (shT rput_sp.rs [])->Prop):rput_W l n (λy0=>post (y0,()))=walkG (callR Tryz.prog rput_C (drawR Tryz.prog tau) 8 0) 169 false [tv (.sl (.int .i64)) l,tv (.int .i64) n] rput_sp.rs post:=by kernel_rfl
theorem rput_of (h:∀l n post,rput_P l n post->rput_W l n post):SpecOK Tryz.prog rput_sp:=SpecOK.of_rules (C:=rput_C) (dr:=drawR Tryz.prog tau) (n:=8) (fk:=0) .nil (drawR_ok tau) λx post hp=>HoldW.of (rput_w x.1 x.2.1 post) (h x.1 x.2.1 (λy0=>post (y0,())) hp)
theorem rput_ok:SpecOK Tryz.prog rput_sp:=rput_of λl n post hp=>by
 obtain⟨hl,hp⟩:=hp
 unfold rput_W
 refine LOOP.fuel (λu=>∃k:Nat,u.1=(k:Int)/\k<=l.length/\putS n l=l.take k++putS n (l.drop k)) (λu=>l.length-Int.toNat u.1) ⟨0,rfl,Nat.zero_le _,rfl⟩ ?_
 rintro rec ⟨(z:Int),⟨⟩⟩ ⟨k,hz,hk,he⟩ hrec
 have hz:z=(k:Int):=hz
 subst hz
 rw[he] at hp
 intro _
 show _/\IFB _ _ _
 rw[sub_front,sub_back]
 by_cases hlt:k<l.length
 ·have hd:l.drop k=l[k]::l.drop (k+1):=List.drop_eq_getElem_cons hlt
  have hx:=ix_lt hlt
  rw[hx,wrapS (by omega)]
  rw[hd] at hp he
  have ht:l.take k++(l[k]::l.drop (k+1))=l:=by rw[<-hd,List.take_append_drop]
  refine⟨λ_=>by omega,IFB.mk (λhb=> ?_) (λhb _=>⟨λ_=>by omega,IFB.mk (λhb2=> ?_) (λhb2=> ?_)⟩)⟩
  ·have hb:l[k]<n:=by simpa [hlt] using hb
   refine hrec (((k+1:Nat):Int),()) ⟨k+1,rfl,hlt,?_⟩ (by show l.length-((k+1:Nat):Int).toNat<l.length-(k:Int).toNat;omega)
   rw[he]
   simp only[putS,if_pos hb]
   have ht2:l.take (k+1)=l.take k++[l[k]]:=by simp
   rw[ht2,List.append_assoc];rfl
  ·have hb:¬l[k]<n:=by simpa [hlt] using hb
   have hb2:l[k]=n:=by simpa [hlt] using hb2
   simp only[putS,if_neg hb,if_pos hb2,ht] at hp
   exact hp
  ·have hb:¬l[k]<n:=by simpa [hlt] using hb
   have hb2:¬l[k]=n:=by simpa [hlt] using hb2
   simp only[putS,if_neg hb,if_neg hb2] at hp
   refine JOIN.opq λ(J:List Int->Prop) hJ=> ?_
   have hJ:J ([]++l.take k++[n]++l.drop k):=by
    rw[hJ,hd]
    simpa using hp
   have h1:(l.take k).length<=1000000:=by simp;omega
   have h2:(l.drop k).length<=1000000:=by simp;omega
   refine⟨⟨Int.NonNeg.mk _,by omega,by omega⟩,⟨by omega,by omega,by omega⟩,⟨?_,?_⟩,?_⟩
   all_goals
    refine⟨by omega,?_,?_,hJ⟩
    ·simp only[List.nil_append,List.length_singleton];omega
    ·simp only[List.nil_append,List.length_append,List.length_singleton];omega
 ·have hk2:k=l.length:=by omega
  subst hk2
  refine⟨λh=>absurd (of_decide_eq_true (show decide ((l.length:Int)<l.length)=true from h)) (by omega),IFB.mk (λhb=>by simp at hb) (λ_ _=>⟨λh=>absurd (of_decide_eq_true (show decide ((l.length:Int)<l.length)=true from h)) (by omega),IFB.mk (λhb=>by simp at hb) (λ_=> ?_)⟩)⟩
  rw[List.drop_length] at hp
  refine JOIN.opq λ(J:List Int->Prop) hJ=> ?_
  have hJ:J ([]++l.take l.length++[n]++l.drop l.length):=by
   rw[hJ]
   simpa [putS] using hp
  have h1:(l.take l.length).length<=1000000:=by simp;omega
  have h2:(l.drop l.length).length<=1000000:=by simp
  refine⟨⟨Int.NonNeg.mk _,by omega,by omega⟩,⟨by omega,by omega,by omega⟩,⟨?_,?_⟩,?_⟩
  all_goals
   refine⟨by omega,?_,?_,hJ⟩
   ·simp only[List.nil_append,List.length_singleton];omega
   ·simp only[List.nil_append,List.length_append,List.length_singleton];omega
def rins_P (l:List (api_Rect))(x:Int)(y:Int)(post:Bool->Prop):Prop:=(l.length<=1000000)/\post (cov l x y)
def rins_sp:Spec:=⟨171,false,false,[.sl (.st .api_Rect),.int .i64,.int .i64],.dat (.bool),λx post=>rins_P (x.1:List (api_Rect)) (x.2.1:Int) (x.2.2.1:Int) (λy0=>post (y0,()))⟩
def rins_C:CtxR:=⟨tau,[],lookJ [(0,5,⟨[(11,.dat (.int .i64))],[],(List.range' 12 26++[8]),[],[]⟩)]⟩
def rins_W (l:List (api_Rect))(x:Int)(y:Int)(post:Bool->Prop):Prop:=(↑l.length:Int)<=9223372036854775807->LOOP [Ty.int IntKind.i64] (λ(rec1:Int->Prop) (z2:Int)=>IFB (decide (z2<(↑l.length:Int))) (((0:Int)<=z2/\z2<(↑l.length:Int))/\IFB (decide ((ix l z2).1<=x)&&decide (x<(ix l z2).3)&&decide ((ix l z2).2<=y)&&decide (y<(ix l z2).4)) (post true) (rec1 (IntKind.i64.wrap (z2+1)))) (post false)) ((0:Int),PUnit.unit)
theorem rins_w (l:List (api_Rect))(x:Int)(y:Int)(post:dens (shT rins_sp.rs [])->Prop):rins_W l x y (λy0=>post (y0,()))=walkG (callR Tryz.prog rins_C (drawR Tryz.prog tau) 8 0) 171 false [tv (.sl (.st .api_Rect)) l,tv (.int .i64) x,tv (.int .i64) y] rins_sp.rs post:=by kernel_rfl
theorem rins_of (h:∀l x y post,rins_P l x y post->rins_W l x y post):SpecOK Tryz.prog rins_sp:=SpecOK.of_rules (C:=rins_C) (dr:=drawR Tryz.prog tau) (n:=8) (fk:=0) .nil (drawR_ok tau) λx post hp=>HoldW.of (rins_w x.1 x.2.1 x.2.2.1 post) (h x.1 x.2.1 x.2.2.1 (λy0=>post (y0,())) hp)
theorem rins_ok:SpecOK Tryz.prog rins_sp:=rins_of λl x y post hp=>by
 obtain⟨hl,hp⟩:=hp
 unfold rins_W
 intro _
 refine loopCmp (n:=l.length) (by omega) (p:=λj=>hit (ix l (j:Int)) x y=false) (λrec k hk hpre hrec=>⟨by omega,IFB.mk (λhb=> ?_) (λhb=>hrec ?_)⟩) λhall=> ?_
 ·have:cov l x y=true:=by
   unfold cov
   rw[List.any_eq_true]
   exact⟨_,ix_mem (l:=l) (i:=(k:Int)) (by omega) (by omega),by unfold hit;simp only[Bool.and_eq_true] at hb ⊢;exact⟨⟨⟨hb.1.1.1,hb.1.1.2⟩,hb.1.2⟩,hb.2⟩⟩
  rw[this] at hp
  exact hp
 ·exact hb
 ·have:cov l x y=false:=by
   unfold cov
   rw[List.any_eq_false]
   intro r hr
   obtain⟨j,hj,rfl⟩:=List.getElem_of_mem hr
   have:=hall j hj
   rw[ix_lt hj] at this
   simp[this]
  rw[this] at hp
  exact hp
def rsm_P (a:List (api_Rect))(b:List (api_Rect))(post:Bool->Prop):Prop:=(a.length<=100000000)/\∀q:Bool,(q=true↔a.map spanOf=b.map spanOf)->post q
def rsm_sp:Spec:=⟨172,false,false,[.sl (.st .api_Rect),.sl (.st .api_Rect)],.dat (.bool),λx post=>rsm_P (x.1:List (api_Rect)) (x.2.1:List (api_Rect)) (λy0=>post (y0,()))⟩
def rsm_C:CtxR:=⟨tau,[],lookJ [(0,9,⟨[(13,.dat (.int .i64))],[],(List.range' 14 27++[5]),[],[]⟩)]⟩
def rsm_W (a:List (api_Rect))(b:List (api_Rect))(post:Bool->Prop):Prop:=(↑a.length:Int)<=9223372036854775807->(↑b.length:Int)<=9223372036854775807->IFB (!decide ((↑a.length:Int)=(↑b.length:Int))) (post false) ((↑a.length:Int)<=9223372036854775807->LOOP [Ty.int IntKind.i64] (λ(rec1:Int->Prop) (z2:Int)=>IFB (decide (z2<(↑a.length:Int))) (((0:Int)<=z2/\z2<(↑a.length:Int))/\((0:Int)<=z2/\z2<(↑b.length:Int))/\((gx false !decide ((ix a z2).1=(ix b z2).1))=true->0<=z2/\z2<(↑a.length:Int))/\((gx false !decide ((ix a z2).1=(ix b z2).1))=true->0<=z2/\z2<(↑b.length:Int))/\IFB (!decide ((ix a z2).1=(ix b z2).1)|| !decide ((ix a z2).3=(ix b z2).3)) (post false) (rec1 (IntKind.i64.wrap (z2+1)))) (post true)) ((0:Int),PUnit.unit))
theorem rsm_w (a:List (api_Rect))(b:List (api_Rect))(post:dens (shT rsm_sp.rs [])->Prop):rsm_W a b (λy0=>post (y0,()))=walkG (callR Tryz.prog rsm_C (drawR Tryz.prog tau) 8 0) 172 false [tv (.sl (.st .api_Rect)) a,tv (.sl (.st .api_Rect)) b] rsm_sp.rs post:=by kernel_rfl
theorem rsm_of (h:∀a b post,rsm_P a b post->rsm_W a b post):SpecOK Tryz.prog rsm_sp:=SpecOK.of_rules (C:=rsm_C) (dr:=drawR Tryz.prog tau) (n:=8) (fk:=0) .nil (drawR_ok tau) λx post hp=>HoldW.of (rsm_w x.1 x.2.1 post) (h x.1 x.2.1 (λy0=>post (y0,())) hp)
theorem rsm_ok:SpecOK Tryz.prog rsm_sp:=rsm_of λa b post hp=>by
 obtain⟨hl,hp⟩:=hp
 unfold rsm_W
 intro _ _
 refine IFB.mk (λhb=>hp _ ?_) (λhb _=> ?_)
 ·have hb:¬(a.length:Int)=b.length:=by simpa using hb
  constructor
  ·intro h;cases h
  ·intro h;have:=congrArg List.length h;simp at this;omega
 ·have hb:(a.length:Int)=b.length:=by simpa using hb
  have hab:a.length=b.length:=by omega
  have hiff:=map_eq_iff (f:=spanOf) hab
  refine loopCmp (n:=a.length) (by omega) (p:=λj=>spanOf (ix a (j:Int))=spanOf (ix b (j:Int))) (λrec k hk hpre hrec=>⟨by omega,by omega,λ_=>by omega,λ_=>by omega,IFB.mk (λhb=>hp _ ?_) (λhb=>hrec ?_)⟩) λhall=>hp _ ?_
  ·constructor
   ·intro h;cases h
   ·intro h
    have:=hiff.1 h k hk
    unfold spanOf at this
    injection this with h1 h2
    simp[h1,h2] at hb
  ·simp at hb
   unfold spanOf
   rw[hb.1,hb.2]
  ·exact⟨λ_=>hiff.2 hall,λ_=>rfl⟩
def rrec_P (a:List (api_Rect))(b:List (api_Rect))(post:Bool->Prop):Prop:=(a.length<=1000000000)/\∀q:Bool,(q=true↔a=b)->post q
def rrec_sp:Spec:=⟨126,false,false,[.sl (.st .api_Rect),.sl (.st .api_Rect)],.dat (.bool),λx post=>rrec_P (x.1:List (api_Rect)) (x.2.1:List (api_Rect)) (λy0=>post (y0,()))⟩
def rrec_C:CtxR:=⟨tau,[],lookJ [(0,9,⟨[(13,.dat (.int .i64))],[],(List.range' 14 12++[5]),[],[]⟩)]⟩
def rrec_W (a:List (api_Rect))(b:List (api_Rect))(post:Bool->Prop):Prop:=(↑a.length:Int)<=9223372036854775807->(↑b.length:Int)<=9223372036854775807->IFB (!decide ((↑a.length:Int)=(↑b.length:Int))) (post false) ((↑a.length:Int)<=9223372036854775807->LOOP [Ty.int IntKind.i64] (λ(rec1:Int->Prop) (z2:Int)=>IFB (decide (z2<(↑a.length:Int))) (((0:Int)<=z2/\z2<(↑a.length:Int))/\((0:Int)<=z2/\z2<(↑b.length:Int))/\IFB (!(decide ((ix a z2).1=(ix b z2).1)&&(decide ((ix a z2).2=(ix b z2).2)&&(decide ((ix a z2).3=(ix b z2).3)&&(decide ((ix a z2).4=(ix b z2).4)&&true))))) (post false) (rec1 (IntKind.i64.wrap (z2+1)))) (post true)) ((0:Int),PUnit.unit))
theorem rrec_w (a:List (api_Rect))(b:List (api_Rect))(post:dens (shT rrec_sp.rs [])->Prop):rrec_W a b (λy0=>post (y0,()))=walkG (callR Tryz.prog rrec_C (drawR Tryz.prog tau) 8 0) 126 false [tv (.sl (.st .api_Rect)) a,tv (.sl (.st .api_Rect)) b] rrec_sp.rs post:=by kernel_rfl
theorem rrec_of (h:∀a b post,rrec_P a b post->rrec_W a b post):SpecOK Tryz.prog rrec_sp:=SpecOK.of_rules (C:=rrec_C) (dr:=drawR Tryz.prog tau) (n:=8) (fk:=0) .nil (drawR_ok tau) λx post hp=>HoldW.of (rrec_w x.1 x.2.1 post) (h x.1 x.2.1 (λy0=>post (y0,())) hp)
theorem rrec_ok:SpecOK Tryz.prog rrec_sp:=rrec_of λa b post hp=>by
 obtain⟨hl,hp⟩:=hp
 unfold rrec_W
 intro _ _
 refine IFB.mk (λhb=>hp _ ?_) (λhb _=> ?_)
 ·have hb:¬(a.length:Int)=b.length:=by simpa using hb
  constructor
  ·intro h;cases h
  ·intro h;rw[h] at hb;exact absurd rfl hb
 ·have hb:(a.length:Int)=b.length:=by simpa using hb
  have hab:a.length=b.length:=by omega
  have hiff:=list_eq_iff hab
  refine loopCmp (n:=a.length) (by omega) (p:=λj=>ix a (j:Int)=ix b (j:Int)) (λrec k hk hpre hrec=>⟨by omega,by omega,IFB.mk (λhb=>hp _ ?_) (λhb=>hrec ?_)⟩) λhall=>hp _ ?_
  ·constructor
   ·intro h;cases h
   ·intro h
    rw[hiff.1 h k hk] at hb
    simp at hb
  ·generalize ix a (k:Int)=u at hb ⊢
   generalize ix b (k:Int)=v at hb ⊢
   cases u
   cases v
   simp at hb
   simp[hb]
  ·exact⟨λ_=>hiff.2 hall,λ_=>rfl⟩
end RE
end Go.Proofs.YtjcjdgmojkkioaaGreatDoor
set_option linter.unusedVariables false
set_option maxRecDepth 100000
namespace Go.Proofs.YtjcjdgmojkkioaaGreatDoor
open Go.RowKit
namespace RE
open PL
namespace PL
def howS (h:Int):Bool->Bool->Bool:=λx y=>if h=1 then x||y else if h=2 then x&&y else x&& !y
def mkR (u v:Int)(s:Sp):Rc:=⟨s.1,u,s.2,v⟩
def lastR (acc:List Bd):List Rc:=match acc.getLast? with
 |none=>[]
 |some b=>flat1 b
end PL
theorem howS_0 (h:Int):howS h false false=false:=by unfold howS;simp
theorem flat1_mk {b:Bd}:flat1 b=b.spans.map (mkR b.low b.high):=rfl
theorem flat_app {a b:List Bd}:flat (a++b)=flat a++flat b:=by unfold flat;simp
theorem flat_last {acc:List Bd}:flat acc.dropLast++lastR acc=flat acc:=by
 rcases List.eq_nil_or_concat acc with rfl|⟨A,b,rfl⟩
 ·rfl
 ·simp only[List.concat_eq_append]
  rw[List.dropLast_concat,flat_app]
  unfold lastR
  simp[flat]
theorem addSp_len {out:List Sp}{u v:Int}:(addSp out u v).length<=out.length+1:=by
 unfold addSp
 rcases List.eq_nil_or_concat out with rfl|⟨A,s,rfl⟩
 ·simp
 ·simp only[List.concat_eq_append,List.getLast?_append,List.getLast?_singleton,Option.some_or]
  split
  ·rw[List.dropLast_concat];simp
  ·simp
theorem spansG_len {p:Int->Bool}:∀{xs:List Int}{out:List Sp},(spansG p out xs).length<=out.length+xs.length
 |[],out=>by simp[spansG]
 |[u],out=>by simp[spansG]
 |u::v::r,out=>by
  have ih:=spansG_len (p:=p) (xs:=v::r) (out:=if p u=true then addSp out u v else out)
  unfold spansG
  have:=addSp_len (out:=out) (u:=u) (v:=v)
  simp only[List.length_cons] at ih ⊢
  split at ih
  ·rename_i h;rw[if_pos h];omega
  ·rename_i h;rw[if_neg h];omega
theorem addSp_map {sp:List Sp}{u v x x':Int}:(sp=[]/\(addSp sp x x').map (mkR u v)=[mkR u v ⟨x,x'⟩])\/∃A s,sp=A++[s]/\(s.2=x/\(addSp sp x x').map (mkR u v)=(sp.map (mkR u v)).set A.length {mkR u v s with Right:=x'}\/s.2≠x/\(addSp sp x x').map (mkR u v)=sp.map (mkR u v)++[mkR u v ⟨x,x'⟩]):=by
 unfold addSp
 rcases List.eq_nil_or_concat sp with rfl|⟨A,s,rfl⟩
 ·exact .inl ⟨rfl,rfl⟩
 ·right
  refine⟨A,s,by simp,?_⟩
  simp only[List.concat_eq_append,List.getLast?_append,List.getLast?_singleton,Option.some_or]
  by_cases h:s.2=x
  ·left
   refine⟨h,?_⟩
   rw[if_pos h,List.dropLast_concat,List.map_append,List.map_append]
   simp[mkR]
  ·right
   refine⟨h,?_⟩
   rw[if_neg h]
   simp
theorem addBd_ref {acc:List Bd}{u v:Int}{ss:List Sp}:((lastR acc≠[]/\(lastR acc).map spanOf=ss/\(ix (lastR acc) 0).High=u)/\flat (addBd acc u v ss).dropLast=flat acc.dropLast/\lastR (addBd acc u v ss)=(lastR acc).map (λr=>{r with High:=v}))\/
 (¬(lastR acc≠[]/\(lastR acc).map spanOf=ss/\(ix (lastR acc) 0).High=u)/\flat (addBd acc u v ss).dropLast=flat acc.dropLast++lastR acc/\lastR (addBd acc u v ss)=ss.map (mkR u v)):=by
 rcases List.eq_nil_or_concat acc with rfl|⟨A,b,rfl⟩
 ·right
  exact⟨λh=>h.1 rfl,rfl,rfl⟩
 ·simp only[List.concat_eq_append]
  have hl:lastR (A++[b])=flat1 b:=by unfold lastR;simp
  have hm:(flat1 b).map spanOf=b.spans:=by
   unfold flat1
   rw[List.map_map]
   have:(spanOf∘λs:Sp=>(⟨s.1,b.low,s.2,b.high⟩:Rc))=id:=by funext s;rfl
   rw[this,List.map_id]
  have hne:flat1 b≠[]↔b.spans≠[]:=by unfold flat1;simp
  have hhigh:flat1 b≠[]->(ix (flat1 b) 0).High=b.high:=λh=>by
   unfold flat1 at h ⊢
   cases hsp:b.spans with
   |nil=>rw[hsp] at h;exact absurd rfl h
   |cons s r=>rfl
  rw[hl,hm]
  unfold addBd
  simp only[List.getLast?_append,List.getLast?_singleton,Option.some_or]
  by_cases hc:b.high=u/\b.spans=ss
  ·rw[if_pos hc,List.dropLast_concat,List.dropLast_concat]
   have hl2:lastR (A++[⟨b.low,v,b.spans⟩])=flat1 ⟨b.low,v,b.spans⟩:=by unfold lastR;simp
   rw[hl2]
   by_cases hs:b.spans=[]
   ·right
    refine⟨λh=>(hne.1 h.1) hs,?_,?_⟩
    ·unfold flat1;rw[hs];simp
    ·rw[<-hc.2,hs];unfold flat1;simp
   ·left
    refine⟨⟨hne.2 hs,hc.2,by rw[hhigh (hne.2 hs)];exact hc.1⟩,rfl,?_⟩
    unfold flat1
    rw[List.map_map]
    rfl
  ·right
   rw[if_neg hc]
   have hl2:lastR (A++[b]++[⟨u,v,ss⟩])=flat1 ⟨u,v,ss⟩:=by unfold lastR;simp
   rw[hl2,List.dropLast_concat,List.dropLast_concat]
   refine⟨λh=>hc ⟨by rw[<-hhigh h.1];exact h.2.2,h.2.1⟩,?_,rfl⟩
   rw[flat_app]
   simp[flat]
end RE
end Go.Proofs.YtjcjdgmojkkioaaGreatDoor
namespace Go.Proofs.YtjcjdgmojkkioaaGreatDoor
namespace RE
set_option maxRecDepth 100000
open Go.RowKit
open PL
def rcomb_P (a:List (api_Rect))(b:List (api_Rect))(h:Int)(post:List (api_Rect)->Prop):Prop:=(a.length<=1000/\b.length<=1000)/\post (canonF (comb (howS h) a b))
def rcomb_sp:Spec:=⟨89,false,true,[.sl (.st .api_Rect),.sl (.st .api_Rect),.int .i64],.dat (.sl (.st .api_Rect)),λx post=>rcomb_P (x.1:List (api_Rect)) (x.2.1:List (api_Rect)) (x.2.2.1:Int) (λy0=>post (y0,()))⟩
def rcomb_C:CtxR:=⟨tau,[rule1 rput_sp,rule1 rins_sp,rule1 rsm_sp],lookJ [(0,27,⟨[(15,.dat (.int .i64)),(14,.own 78 (.st .api_Rect)),(13,.own 78 (.st .api_Rect))],[],(List.range' 50 124++[16,17,18,19]),[],[]⟩),(0,28,⟨[(14,.own 78 (.st .api_Rect)),(13,.own 78 (.st .api_Rect))],[],(List.range' 57 117++[16,17,18,19]),[2,1],[]⟩),(0,53,⟨[(157,.dat (.int .i64))],[],(List.range' 158 12++[19]),[],[(1,78,(.st .api_Rect))]⟩),(0,35,⟨[(17,.dat (.int .i64)),(16,.own 78 (.st .api_Rect))],[],(List.range' 57 79++[18]),[],[]⟩),(0,36,⟨[(16,.own 78 (.st .api_Rect))],[],(List.range' 64 72++[18]),[3],[]⟩),(0,1000023,⟨[(16,.own 78 (.st .api_Rect))],[],(List.range' 114 22),[3],[]⟩),(0,1000019,⟨[(86,.dat .bool)],[],(List.range' 64 22),[],[]⟩),(19421,0,⟨[(0,.dat .bool)],[],[],[],[]⟩),(0,7,⟨[(24,.dat (.int .i64)),(8,.dat (.sl (.int .i64))),(7,.dat (.sl (.int .i64)))],[],(List.range' 25 25++[10,12]),[],[]⟩),(0,13,⟨[(30,.dat (.int .i64)),(8,.dat (.sl (.int .i64))),(7,.dat (.sl (.int .i64)))],[],(List.range' 31 18++[12]),[],[]⟩),(0,1000008,⟨[(8,.dat (.sl (.int .i64))),(7,.dat (.sl (.int .i64)))],[],(List.range' 34 14),[],[]⟩)]⟩
def rcomb_W (a:List (api_Rect))(b:List (api_Rect))(h:Int)(post:List (api_Rect)->Prop):Prop:=(↑[a,b].length:Int)<=9223372036854775807->LOOP [Ty.int IntKind.i64,(Ty.int IntKind.i64).sl,(Ty.int IntKind.i64).sl] (λ(rec1:Int->List Int->List Int->Prop) (z2:Int) (z3 z4:List Int)=>IFB (decide (z2<(↑[a,b].length:Int))) (((0:Int)<=z2/\z2<(↑[a,b].length:Int))/\((↑(ix [a,b] z2).length:Int)<=9223372036854775807->LOOP [Ty.int IntKind.i64,(Ty.int IntKind.i64).sl,(Ty.int IntKind.i64).sl] (λ(rec5:Int->List Int->List Int->Prop) (z6:Int) (z7 z8:List Int)=>IFB (decide (z6<(↑(ix [a,b] z2).length:Int))) (((0:Int)<=z6/\z6<(↑(ix [a,b] z2).length:Int))/\JOIN [(Ty.int IntKind.i64).sl,(Ty.int IntKind.i64).sl] (λ(y9 y10:List Int)=>rec5 (IntKind.i64.wrap (z6+1)) y9 y10) λ(J11:List Int->List Int->Prop)=>z8.length<=1000000/\(putS (ix (ix [a,b] z2) z6).1 z8).length<=1000000/\z7.length<=1000000/\(putS (ix (ix [a,b] z2) z6).2 z7).length<=1000000/\J11 (putS (ix (ix [a,b] z2) z6).4 (putS (ix (ix [a,b] z2) z6).2 z7)) (putS (ix (ix [a,b] z2) z6).3 (putS (ix (ix [a,b] z2) z6).1 z8))) (rec1 (IntKind.i64.wrap (z2+1)) z7 z8)) ((0:Int),z3,z4,PUnit.unit))) (LOOP [Ty.int IntKind.i64,(Ty.st Sn.api_Rect).sl,(Ty.st Sn.api_Rect).sl] (λ(rec12:Int->List api_Rect->List api_Rect->Prop) (z13:Int) (z14 z15:List api_Rect)=>(↑z3.length:Int)<=9223372036854775807->IFB (decide (IntKind.i64.wrap (z13+1)<(↑z3.length:Int))) (JOIN [(Ty.st Sn.api_Rect).sl,(Ty.st Sn.api_Rect).sl] (λ(y16 y17:List api_Rect)=>rec12 (IntKind.i64.wrap (z13+1)) y16 y17) λ(J18:List api_Rect->List api_Rect->Prop)=>LOOP [Ty.int IntKind.i64,(Ty.st Sn.api_Rect).sl] (λ(rec19:Int->List api_Rect->Prop) (z20:Int) (z21:List api_Rect)=>(↑z4.length:Int)<=9223372036854775807->IFB (decide (IntKind.i64.wrap (z20+1)<(↑z4.length:Int))) (JOIN [(Ty.st Sn.api_Rect).sl] (λ(y22:List api_Rect)=>rec19 (IntKind.i64.wrap (z20+1)) y22) λ(J23:List api_Rect->Prop)=>JOIN [Ty.bool] (λ(y24:Bool)=>IFB y24 (J23 z21) ((↑z21.length:Int)<=9223372036854775807->(gx true (decide ((0:Int)<(↑z21.length:Int)))=true->0<=IntKind.i64.wrap ((↑z21.length:Int)-1)/\IntKind.i64.wrap ((↑z21.length:Int)-1)<(↑z21.length:Int))/\(gx true (decide ((0:Int)<(↑z21.length:Int)))=true->0<=z20/\z20<(↑z4.length:Int))/\IFB (decide ((0:Int)<(↑z21.length:Int))&&decide ((ix z21 (IntKind.i64.wrap ((↑z21.length:Int)-1))).3=ix z4 z20)) (((0:Int)<=IntKind.i64.wrap (z20+1)/\IntKind.i64.wrap (z20+1)<(↑z4.length:Int))/\((0:Int)<=IntKind.i64.wrap ((↑z21.length:Int)-1)/\IntKind.i64.wrap ((↑z21.length:Int)-1)<(↑z21.length:Int))/\J23 (z21.set (IntKind.i64.wrap ((↑z21.length:Int)-1)).toNat (⟨(ix z21 (IntKind.i64.wrap ((↑z21.length:Int)-1))).1,(ix z21 (IntKind.i64.wrap ((↑z21.length:Int)-1))).2,ix z4 (IntKind.i64.wrap (z20+1)),(ix z21 (IntKind.i64.wrap ((↑z21.length:Int)-1))).4⟩:api_Rect))) (JOIN [(Ty.st Sn.api_Rect).sl] (λ(y25:List api_Rect)=>J23 y25) λ(J26:List api_Rect->Prop)=>((0:Int)<=z20/\z20<(↑z4.length:Int))/\((0:Int)<=z13/\z13<(↑z3.length:Int))/\((0:Int)<=IntKind.i64.wrap (z20+1)/\IntKind.i64.wrap (z20+1)<(↑z4.length:Int))/\((0:Int)<=IntKind.i64.wrap (z13+1)/\IntKind.i64.wrap (z13+1)<(↑z3.length:Int))/\(z21.length+[(⟨ix z4 z20,ix z3 z13,ix z4 (IntKind.i64.wrap (z20+1)),ix z3 (IntKind.i64.wrap (z13+1))⟩:api_Rect)].length) * (32:Nat)<=140737488355328/\J26 (z21++[(⟨ix z4 z20,ix z3 z13,ix z4 (IntKind.i64.wrap (z20+1)),ix z3 (IntKind.i64.wrap (z13+1))⟩:api_Rect)])))) λ(J27:Bool->Prop)=>((0:Int)<=z20/\z20<(↑z4.length:Int))/\((0:Int)<=z13/\z13<(↑z3.length:Int))/\((0:Int)<=z20/\z20<(↑z4.length:Int))/\((0:Int)<=z13/\z13<(↑z3.length:Int))/\a.length<=1000000/\b.length<=1000000/\JOIN [Ty.bool] (λ(y28:Bool)=>J27 !y28) λ(J29:Bool->Prop)=>IFB (decide (h=1)) (J29 (cov a (ix z4 z20) (ix z3 z13)||cov b (ix z4 z20) (ix z3 z13))) (IFB (decide (h=2)) (J29 (cov a (ix z4 z20) (ix z3 z13)&&cov b (ix z4 z20) (ix z3 z13))) (J29 (cov a (ix z4 z20) (ix z3 z13)&& !cov b (ix z4 z20) (ix z3 z13))))) ((↑z14.length:Int)<=9223372036854775807->JOIN [Ty.bool] (λ(y30:Bool)=>(gx true (decide ((0:Int)<(↑z14.length:Int))&&y30)=true->Int.NonNeg 0/\0<(↑z14.length:Int))/\(gx true (decide ((0:Int)<(↑z14.length:Int))&&y30)=true->0<=z13/\z13<(↑z3.length:Int))/\IFB (decide ((0:Int)<(↑z14.length:Int))&&y30&&decide ((ix z14 0).4=ix z3 z13)) ((↑z14.length:Int)<=9223372036854775807->LOOP [Ty.int IntKind.i64,(Ty.st Sn.api_Rect).sl] (λ(rec31:Int->List api_Rect->Prop) (z32:Int) (z33:List api_Rect)=>IFB (decide (z32<(↑z14.length:Int))) (((0:Int)<=IntKind.i64.wrap (z13+1)/\IntKind.i64.wrap (z13+1)<(↑z3.length:Int))/\((0:Int)<=z32/\z32<(↑z33.length:Int))/\rec31 (IntKind.i64.wrap (z32+1)) (z33.set z32.toNat (⟨(ix z33 z32).1,(ix z33 z32).2,(ix z33 z32).3,ix z3 (IntKind.i64.wrap (z13+1))⟩:api_Rect))) (J18 z33 z15)) ((0:Int),z14,PUnit.unit)) ((z15.length+z14.length) * (32:Nat)<=140737488355328/\J18 z21 (z15++z14))/\IFB (decide ((0:Int)<(↑z14.length:Int))&&y30&&decide ((ix z14 0).4=ix z3 z13)) ((↑z14.length:Int)<=9223372036854775807->LOOP [Ty.int IntKind.i64,(Ty.st Sn.api_Rect).sl] (λ(rec34:Int->List api_Rect->Prop) (z35:Int) (z36:List api_Rect)=>IFB (decide (z35<(↑z14.length:Int))) (((0:Int)<=IntKind.i64.wrap (z13+1)/\IntKind.i64.wrap (z13+1)<(↑z3.length:Int))/\((0:Int)<=z35/\z35<(↑z36.length:Int))/\rec34 (IntKind.i64.wrap (z35+1)) (z36.set z35.toNat (⟨(ix z36 z35).1,(ix z36 z35).2,(ix z36 z35).3,ix z3 (IntKind.i64.wrap (z13+1))⟩:api_Rect))) (J18 z36 z15)) ((0:Int),z14,PUnit.unit)) ((z15.length+z14.length) * (32:Nat)<=140737488355328/\J18 z21 (z15++z14))) λ(J37:Bool->Prop)=>IFB (gx true (decide ((0:Int)<(↑z14.length:Int)))) (z14.length<=100000000/\∀(v38:Bool),(v38=true↔List.map spanOf z14=List.map spanOf z21)->J37 v38) (J37 false))) ((0:Int),[],PUnit.unit)) ((z15.length+z14.length) * (32:Nat)<=140737488355328/\post (z15++z14))) ((0:Int),[],[],PUnit.unit))) ((0:Int),[],[],PUnit.unit)
theorem rcomb_w (a:List (api_Rect))(b:List (api_Rect))(h:Int)(post:dens (shT rcomb_sp.rs [])->Prop):rcomb_W a b h (λy0=>post (y0,()))=walkG (callR Tryz.prog rcomb_C (drawR Tryz.prog tau) 8 0) 89 false [tv (.sl (.st .api_Rect)) a,tv (.sl (.st .api_Rect)) b,tv (.int .i64) h] rcomb_sp.rs post:=by kernel_rfl
theorem rcomb_of (h:∀a b h post,rcomb_P a b h post->rcomb_W a b h post):SpecOK Tryz.prog rcomb_sp:=SpecOK.of_rules (C:=rcomb_C) (dr:=drawR Tryz.prog tau) (n:=8) (fk:=0) (.cons (rule1_ok rput_ok) (.cons (rule1_ok rins_ok) (.cons (rule1_ok rsm_ok) .nil))) (drawR_ok tau) λx post hp=>HoldW.of (rcomb_w x.1 x.2.1 x.2.2.1 post) (h x.1 x.2.1 x.2.2.1 (λy0=>post (y0,())) hp)
theorem putS_len {n:Int}:∀{l:List Int},(putS n l).length<=l.length+1
 |[]=>by simp[putS]
 |x::r=>by
  have:=putS_len (n:=n) (l:=r)
  unfold putS
  split
  ·simp;omega
  ·split<;>simp
theorem fold_len {f g:Rc->Int}:∀{l:List Rc}{a:List Int},(l.foldl (λa r=>putS (g r) (putS (f r) a)) a).length<=a.length+2 * l.length
 |[],a=>by simp
 |r::l,a=>by
  have ih:=fold_len (f:=f) (g:=g) (l:=l) (a:=putS (g r) (putS (f r) a))
  have h1:=putS_len (n:=g r) (l:=putS (f r) a)
  have h2:=putS_len (n:=f r) (l:=a)
  simp only[List.foldl_cons,List.length_cons]
  omega
abbrev cutF:List Int->Rc->List Int:=λa r=>putS r.High (putS r.Low a)
abbrev edgF:List Int->Rc->List Int:=λa r=>putS r.Right (putS r.Left a)
theorem comb_in {l:List Rc}(hl:l.length<=1000){K:List Int->List Int->Prop}{ys0 xs0:List Int}(h1:ys0.length<=10000)(h2:xs0.length<=10000)(hK:K (l.foldl cutF ys0) (l.foldl edgF xs0)):
 LOOP [Ty.int IntKind.i64,(Ty.int IntKind.i64).sl,(Ty.int IntKind.i64).sl] (λ(rec5:Int->List Int->List Int->Prop) (z6:Int) (z7 z8:List Int)=>IFB (decide (z6<(↑l.length:Int))) (((0:Int)<=z6/\z6<(↑l.length:Int))/\JOIN [(Ty.int IntKind.i64).sl,(Ty.int IntKind.i64).sl] (λ(y9 y10:List Int)=>rec5 (IntKind.i64.wrap (z6+(1:Int))) y9 y10) λ(J11:List Int->List Int->Prop)=>z8.length<=(1000000:Nat)/\(putS (ix l z6).1 z8).length<=(1000000:Nat)/\z7.length<=(1000000:Nat)/\(putS (ix l z6).2 z7).length<=(1000000:Nat)/\J11 (putS (ix l z6).4 (putS (ix l z6).2 z7)) (putS (ix l z6).3 (putS (ix l z6).1 z8))) (K z7 z8)) ((0:Int),ys0,xs0,PUnit.unit):=by
 refine LOOP.list l (λk (s:List Int×List Int)=>((k:Int),s.1,s.2,())) (λu=>Int.toNat u.1) (λk r (s:List Int×List Int)=>r.foldl cutF s.1=l.foldl cutF ys0/\r.foldl edgF s.2=l.foldl edgF xs0/\s.1.length<=10000+2 * k/\s.2.length<=10000+2 * k) (ys0,xs0) rfl ⟨rfl,rfl,by simpa using h1,by simpa using h2⟩ (λk s h=>by simp) ?_ ?_
 ·intro rec k x r s hd hk hkl ⟨g1,g2,g3,g4⟩ hrec
  obtain⟨ys,xs⟩:=s
  dsimp only at g1 g2 g3 g4
  have hx:=ix_of hk
  show IFB _ _ _
  refine IFB.mk (λ_=>⟨by show 0<=(k:Int)/\(k:Int)<l.length;omega,?_⟩) (λh=>absurd (of_decide_eq_false h) (by show ¬¬((k:Int)<l.length);omega))
  refine JOIN.opq λ(J:List Int->List Int->Prop) hJ=> ?_
  have p1:=putS_len (n:=x.Left) (l:=xs)
  have p2:=putS_len (n:=x.Low) (l:=ys)
  have p3:=putS_len (n:=x.Right) (l:=putS x.Left xs)
  have p4:=putS_len (n:=x.High) (l:=putS x.Low ys)
  dsimp only
  rw[hx]
  refine⟨by omega,by omega,by omega,by omega,?_⟩
  rw[hJ]
  show rec (IntKind.i64.wrap ((k:Int)+1)) _ _
  rw[wrapS (by omega)]
  exact hrec (_,_) ⟨g1,g2,by dsimp only;omega,by dsimp only;omega⟩
 ·intro rec s ⟨g1,g2,g3,g4⟩
  show IFB _ _ _
  refine IFB.mk (λh=>absurd (of_decide_eq_true h) (by show ¬((l.length:Int)<l.length);omega)) (λ_=> ?_)
  have g1:s.1=l.foldl cutF ys0:=g1
  have g2:s.2=l.foldl edgF xs0:=g2
  show K s.1 s.2
  rw[g1,g2]
  exact hK
def rI (R:Int->List Sp)(ys:List Int)(i:Int)(last out:List Rc):Prop:=∃(k:Nat)(acc:List Bd),i=k/\k<=ys.length/\buildG R acc (ys.drop k)=buildG R [] ys/\last=lastR acc/\out=flat acc.dropLast/\(flat acc).length<=5000 * k
def rJ (p:Int->Bool)(xs:List Int)(u v:Int)(i:Int)(band:List Rc):Prop:=∃(m:Nat)(sp:List Sp),i=m/\m<=xs.length/\spansG p sp (xs.drop m)=spansOf p xs/\band=sp.map (mkR u v)/\sp.length<=m
theorem short_drop {l:List Int}{k:Nat}(h:¬k+1<l.length)(R:Int->List Sp)(acc:List Bd):buildG R acc (l.drop k)=acc:=by
 have:(l.drop k).length<=1:=by simp;omega
 match hd:l.drop k with
 |[]=>rfl
 |[_]=>rfl
 |_::_::_=>rw[hd] at this;simp at this
theorem short_drop2 {l:List Int}{k:Nat}(h:¬k+1<l.length)(p:Int->Bool)(acc:List Sp):spansG p acc (l.drop k)=acc:=by
 have:(l.drop k).length<=1:=by simp;omega
 match hd:l.drop k with
 |[]=>rfl
 |[_]=>rfl
 |_::_::_=>rw[hd] at this;simp at this
theorem rcomb_main (a b:List api_Rect)(h:Int)(post:List api_Rect->Prop)(hp:rcomb_P a b h post):rcomb_W a b h post:=by
 obtain⟨⟨ha,hb⟩,hp⟩:=hp
 obtain⟨hcan,hcov,hF⟩:=comb_build (howS_0 h) (a:=a) (b:=b) (R:=λy=>spansOf (λx=>comb (howS h) a b x y) (edgesS (a++b))) (λu _=>comb_row (howS_0 h))
 rw[hF] at hp
 obtain⟨ys,hys⟩:∃ys,ys=cutsS (a++b):=⟨_,rfl⟩
 obtain⟨xs,hxs⟩:∃xs,xs=edgesS (a++b):=⟨_,rfl⟩
 have hy1:(cutsS a).length<=2000:=Nat.le_trans (fold_len (f:=λr=>r.Low) (g:=λr=>r.High) (l:=a) (a:=[])) (by simp;omega)
 have hx1:(edgesS a).length<=2000:=Nat.le_trans (fold_len (f:=λr=>r.Left) (g:=λr=>r.Right) (l:=a) (a:=[])) (by simp;omega)
 have hyl:ys.length<=4000:=by rw[hys];exact Nat.le_trans (fold_len (f:=λr=>r.Low) (g:=λr=>r.High) (l:=a++b) (a:=[])) (by simp;omega)
 have hxl:xs.length<=4000:=by rw[hxs];exact Nat.le_trans (fold_len (f:=λr=>r.Left) (g:=λr=>r.Right) (l:=a++b) (a:=[])) (by simp;omega)
 have hy2:b.foldl cutF (cutsS a)=ys:=by rw[hys];show _=(a++b).foldl cutF [];rw[List.foldl_append];rfl
 have hx2:b.foldl edgF (edgesS a)=xs:=by rw[hxs];show _=(a++b).foldl edgF [];rw[List.foldl_append];rfl
 rw[<-hys,<-hxs] at hp
 unfold rcomb_W
 intro _
 refine LOOP.fuel (λu=>(u.1=(0:Int)/\u.2.1=([]:List Int)/\u.2.2.1=([]:List Int))\/(u.1=(1:Int)/\u.2.1=cutsS a/\u.2.2.1=edgesS a)\/(u.1=(2:Int)/\u.2.1=ys/\u.2.2.1=xs)) (λu=>2-Int.toNat u.1) (.inl ⟨rfl,rfl,rfl⟩) ?_
 rintro rec1 ⟨(z2:Int),(z3:List Int),(z4:List Int),⟨⟩⟩ hI hrec1
 have w01:IntKind.i64.wrap ((0:Int)+1)=1:=wrap_in (by omega) (by omega)
 have w11:IntKind.i64.wrap ((1:Int)+1)=2:=wrap_in (by omega) (by omega)
 rcases hI with⟨e1,e2,e3⟩|⟨e1,e2,e3⟩|⟨e1,e2,e3⟩
 ·have e1:z2=0:=e1
  have e2:z3=[]:=e2
  have e3:z4=[]:=e3
  subst e1 e2 e3
  refine IFB.mk (λ_=>⟨⟨Int.le_refl _,by show (0:Int)<2;omega⟩,λ_=> ?_⟩) (λh=>absurd (of_decide_eq_false h) (by show ¬¬((0:Int)<2);omega))
  refine comb_in (l:=a) ha (K:=λy x=>rec1 (IntKind.i64.wrap (0+1)) y x) (by simp) (by simp) ?_
  rw[w01]
  exact hrec1 ((1:Int),cutsS a,edgesS a,()) (.inr (.inl ⟨rfl,rfl,rfl⟩)) (by show 2-(1:Int).toNat<2-(0:Int).toNat;omega)
 ·have e1:z2=1:=e1
  have e2:z3=cutsS a:=e2
  have e3:z4=edgesS a:=e3
  subst e1 e2 e3
  refine IFB.mk (λ_=>⟨⟨by omega,by show (1:Int)<2;omega⟩,λ_=> ?_⟩) (λh=>absurd (of_decide_eq_false h) (by show ¬¬((1:Int)<2);omega))
  refine comb_in (l:=b) (ys0:=cutsS a) (xs0:=edgesS a) hb (K:=λy x=>rec1 (IntKind.i64.wrap (1+1)) y x) (by omega) (by omega) ?_
  rw[w11,hy2,hx2]
  exact hrec1 ((2:Int),ys,xs,()) (.inr (.inr ⟨rfl,rfl,rfl⟩)) (by show 2-(2:Int).toNat<2-(1:Int).toNat;omega)
 ·have e1:z2=2:=e1
  have e2:z3=ys:=e2
  have e3:z4=xs:=e3
  subst e1 e2 e3
  refine IFB.mk (λh=>absurd (of_decide_eq_true h) (by show ¬((2:Int)<2);omega)) (λ_=> ?_)
  clear hrec1 hy2 hx2 hy1 hx1 w01 w11
  have hyl:List.length (z3:List Int)<=4000:=hyl
  have hxl:List.length (z4:List Int)<=4000:=hxl
  obtain⟨p,hpdef⟩:∃p:Int->Int->Bool,p=λy x=>comb (howS h) a b x y:=⟨_,rfl⟩
  have hp:post (flat (buildG (λy=>spansOf (p y) z4) [] z3)):=by rw[hpdef];exact hp
  refine LOOP.fuel (λu=>rI (λy=>spansOf (p y) z4) z3 u.1 u.2.1 u.2.2.1) (λu=>z3.length-Int.toNat u.1) ⟨0,[],rfl,Nat.zero_le _,rfl,rfl,rfl,Nat.zero_le _⟩ ?_
  rintro rec12 ⟨(z13:Int),(z14:List Rc),(z15:List Rc),⟨⟩⟩ ⟨k,acc,i1,i2,i3,i4,i5,i6⟩ hrec12
  have i1:z13=(k:Int):=i1
  have i2:k<=List.length (z3:List Int):=i2
  have hk4:k<=4000:=by omega
  have i4:z14=lastR acc:=i4
  have i5:z15=flat acc.dropLast:=i5
  subst i1 i4 i5
  have wk:IntKind.i64.wrap ((k:Int)+1)=((k+1:Nat):Int):=wrapS (by omega)
  intro _
  show IFB (decide (IntKind.i64.wrap ((k:Int)+1)<_)) _ _
  rw[wk]
  refine IFB.mk (λhlt=> ?_) (λhge=> ?_)
  ·have hlt:((k+1:Nat):Int)<z3.length:=of_decide_eq_true hlt
   have hlt':k+1<z3.length:=by omega
   obtain⟨d1,d2⟩:=drop_two hlt'
   obtain⟨u,hu⟩:∃u,ix z3 (k:Int)=u:=⟨_,rfl⟩
   obtain⟨v,hv⟩:∃v,ix z3 ((k+1:Nat):Int)=v:=⟨_,rfl⟩
   rw[hu,hv] at d1
   rw[hv] at d2
   rw[d1] at i3
   refine JOIN.opq λ(J18:List Rc->List Rc->Prop) h18=> ?_
   have h18:(flat (addBd acc u v (spansOf (p u) z4))).length<=5000 * (k+1)->J18 (lastR (addBd acc u v (spansOf (p u) z4))) (flat (addBd acc u v (spansOf (p u) z4)).dropLast):=λhl=>by
    rw[h18]
    show rec12 ((k+1:Nat):Int) _ _
    refine hrec12 (((k+1:Nat):Int),_,_,()) ⟨k+1,addBd acc u v (spansOf (p u) z4),rfl,by omega,?_,rfl,rfl,hl⟩ (by show z3.length-((k+1:Nat):Int).toNat<z3.length-(k:Int).toNat;omega)
    rw[d2];exact i3
   refine LOOP.fuel (λq=>rJ (p u) z4 u v q.1 q.2.1) (λq=>z4.length-Int.toNat q.1) ⟨0,[],rfl,Nat.zero_le _,rfl,rfl,Nat.zero_le _⟩ ?_
   rintro rec19 ⟨(z20:Int),(z21:List Rc),⟨⟩⟩ ⟨m,sp,j1,j2,j3,j4,j5⟩ hrec19
   have j1:z20=(m:Int):=j1
   have j2:m<=List.length (z4:List Int):=j2
   have hm4:m<=4000:=by omega
   have j4:z21=sp.map (mkR u v):=j4
   subst j1 j4
   have wm:IntKind.i64.wrap ((m:Int)+1)=((m+1:Nat):Int):=wrapS (by omega)
   intro _
   show IFB (decide (IntKind.i64.wrap ((m:Int)+1)<_)) _ _
   rw[wm]
   refine IFB.mk (λhmt=> ?_) (λhge _=> ?_)
   ·have hmt:((m+1:Nat):Int)<z4.length:=of_decide_eq_true hmt
    have hmt':m+1<z4.length:=by omega
    obtain⟨c1,c2⟩:=drop_two hmt'
    obtain⟨x,hx⟩:∃x,ix z4 (m:Int)=x:=⟨_,rfl⟩
    obtain⟨x',hx'⟩:∃x',ix z4 ((m+1:Nat):Int)=x':=⟨_,rfl⟩
    rw[hx,hx'] at c1
    rw[hx'] at c2
    rw[c1] at j3
    refine JOIN.opq λ(J23:List Rc->Prop) h23=> ?_
    have h23:∀sp',spansG (p u) sp' (x'::z4.drop (m+2))=spansOf (p u) z4->sp'.length<=m+1->J23 (sp'.map (mkR u v)):=λsp' q1 q2=>by
     rw[h23]
     show rec19 ((m+1:Nat):Int) _
     exact hrec19 (((m+1:Nat):Int),_,()) ⟨m+1,sp',rfl,by omega,by rw[c2];exact q1,rfl,q2⟩ (by show z4.length-((m+1:Nat):Int).toNat<z4.length-(m:Int).toNat;omega)
    dsimp only
    rw[hx,hx',hu,hv]
    refine JOIN.opq λ(J27:Bool->Prop) h27=> ?_
    have j3:spansG (p u) (if p u x=true then addSp sp x x' else sp) (x'::z4.drop (m+2))=spansOf (p u) z4:=j3
    have h27:J27 (!(p u x)):=by
     rw[h27]
     cases hpx:p u x with
     |false=>
      rw[hpx] at j3
      exact IFB.mk (λ_=>h23 sp j3 (by omega)) (λh=>by cases h)
     |true=>
      rw[hpx] at j3
      have h23:=h23 _ j3 (by have:=addSp_len (out:=sp) (u:=x) (v:=x');simp only[if_true];omega)
      rw[if_pos rfl] at h23
      refine IFB.mk (λh=>by cases h) (λ_ _=> ?_)
      have hsl:sp.length<=4000:=by omega
      simp only[List.length_map]
      rcases addSp_map (sp:=sp) (u:=u) (v:=v) (x:=x) (x':=x') with⟨e1,e2⟩|⟨A,s,e1,e2⟩
      ·subst e1
       rw[e2] at h23
       refine⟨λh=>by simp[gx_t] at h,λh=>by simp[gx_t] at h,IFB.mk (λh=>by simp at h) (λ_=> ?_)⟩
       refine JOIN.mk ⟨by omega,by omega,by omega,by omega,by simp,h23⟩
      ·have hn:(sp.length:Int)=A.length+1:=by rw[e1];simp
       have wl:IntKind.i64.wrap ((sp.length:Int)-1)=(A.length:Int):=by rw[wrap_in (by omega) (by omega)];omega
       have hlast:ix (sp.map (mkR u v)) (A.length:Int)=mkR u v s:=by
        rw[e1,List.map_append]
        exact ix_app (by simp)
       rw[wl,hlast]
       refine⟨λ_=>by omega,λ_=>by omega,IFB.mk (λh=> ?_) (λh=> ?_)⟩
       ·have h:s.2=x:=by
         have:=(Bool.and_eq_true_iff.1 h).2
         exact of_decide_eq_true this
        rcases e2 with⟨_,e2⟩|⟨e2,_⟩
        ·rw[e2] at h23
         exact⟨by omega,by omega,h23⟩
        ·exact absurd h e2
       ·have h:s.2≠x:=by
         intro hs
         have:decide ((mkR u v s).3=x)=true:=decide_eq_true hs
         rw[this] at h
         have:decide ((0:Int)<(sp.length:Int))=true:=decide_eq_true (by omega)
         rw[this] at h
         cases h
        rcases e2 with⟨e2,_⟩|⟨_,e2⟩
        ·exact absurd e2 h
        ·rw[e2] at h23
         exact JOIN.mk ⟨by omega,by omega,by omega,by omega,by simp;omega,h23⟩
    refine⟨by omega,by omega,by omega,by omega,by omega,by omega,?_⟩
    have hpe:p u x=howS h (cov a x u) (cov b x u):=by rw[hpdef];rfl
    rw[hpe] at h27
    refine JOIN.opq λ(J29:Bool->Prop) h29=> ?_
    have h29:J29 (howS h (cov a x u) (cov b x u)):=by rw[h29];exact h27
    unfold howS at h29
    refine IFB.mk (λq=> ?_) (λq=>IFB.mk (λq2=> ?_) (λq2=> ?_))
    ·rw[if_pos (of_decide_eq_true q)] at h29;exact h29
    ·rw[if_neg (of_decide_eq_false q),if_pos (of_decide_eq_true q2)] at h29;exact h29
    ·rw[if_neg (of_decide_eq_false q),if_neg (of_decide_eq_false q2)] at h29;exact h29
   ·have hge:¬((m+1:Nat):Int)<z4.length:=of_decide_eq_false hge
    rw[short_drop2 (by omega)] at j3
    subst j3
    have hfl:=flat_last (acc:=acc)
    have hfl2:(flat acc.dropLast).length+(lastR acc).length=(flat acc).length:=by rw[<-hfl];simp
    have hnew:=flat_last (acc:=addBd acc u v (spansOf (p u) z4))
    have hlen:(flat (addBd acc u v (spansOf (p u) z4))).length<=5000 * (k+1):=by
     rw[<-hnew,List.length_append]
     rcases addBd_ref (acc:=acc) (u:=u) (v:=v) (ss:=spansOf (p u) z4) with⟨_,e2,e3⟩|⟨_,e2,e3⟩
     ·rw[e2,e3,List.length_map];omega
     ·rw[e2,e3,List.length_map,List.length_append];omega
    have h18:=h18 hlen
    dsimp only
    rw[hu,hv]
    have hms:((spansOf (p u) z4).map (mkR u v)).map spanOf=spansOf (p u) z4:=by
     rw[List.map_map]
     have:(spanOf∘mkR u v)=id:=by funext s;rfl
     rw[this,List.map_id]
    rw[hms]
    have href:=addBd_ref (acc:=acc) (u:=u) (v:=v) (ss:=spansOf (p u) z4)
    have hll:(lastR acc).length<=20000000:=by omega
    have hol:(flat acc.dropLast).length<=20000000:=by omega
    clear hnew hlen hfl i3 hrec12 hrec19
    generalize spansOf (p u) z4=ss at *
    generalize lastR acc=last at *
    generalize flat acc.dropLast=out at *
    generalize lastR (addBd acc u v ss)=last' at *
    generalize flat (addBd acc u v ss).dropLast=out' at *
    refine JOIN.opq λ(J37:Bool->Prop) h37=> ?_
    have h37:∀y:Bool,(y=true->last.map spanOf=ss)->(last≠[]->last.map spanOf=ss->y=true)->J37 y:=λy g1 g2=>by
     rw[h37]
     have main:IFB (decide ((0:Int)<(last.length:Int))&&y&&decide ((ix last 0).4=u)) ((last.length:Int)<=9223372036854775807->LOOP [Ty.int IntKind.i64,(Ty.st Sn.api_Rect).sl] (λ(rec31:Int->List api_Rect->Prop) (z32:Int) (z33:List api_Rect)=>IFB (decide (z32<(last.length:Int))) (((0:Int)<=((k+1:Nat):Int)/\((k+1:Nat):Int)<(z3.length:Int))/\((0:Int)<=z32/\z32<(z33.length:Int))/\rec31 (IntKind.i64.wrap (z32+1)) (z33.set z32.toNat {Left:=(ix z33 z32).1,Low:=(ix z33 z32).2,Right:=(ix z33 z32).3,High:=v:api_Rect})) (J18 z33 out)) ((0:Int),last,PUnit.unit)) ((out.length+last.length) * 32<=140737488355328/\J18 (ss.map (mkR u v)) (out++last)):=by
      refine IFB.mk (λhc _=> ?_) (λhc=>⟨by omega,?_⟩)
      ·have hc:(0<last.length/\y=true)/\(ix last 0).4=u:=by simpa using hc
       have hne:last≠[]:=by intro e;rw[e] at hc;simp at hc
       rcases href with⟨_,e2,e3⟩|⟨e1,_⟩
       ·rw[e2,e3] at h18
        obtain⟨hl,hhl⟩:∃hl:Nat->List Rc,hl=λq=>(last.take q).map (λr=>{r with High:=v})++last.drop q:=⟨_,rfl⟩
        have h0:hl 0=last:=by rw[hhl];rfl
        have h1:∀q r,last[q]? =some r->ix (hl q) (q:Int)=r/\(hl q).set q {Left:=r.1,Low:=r.2,Right:=r.3,High:=v}=hl (q+1):=λq r hq=>by
         rw[hhl]
         exact⟨map_at (f:=λr:Rc=>{r with High:=v}) hq,map_step (f:=λr:Rc=>{r with High:=v}) hq⟩
        have h2:∀q,(hl q).length=last.length:=λq=>by rw[hhl];exact map_len
        have h3:hl last.length=last.map λr=>{r with High:=v}:=by rw[hhl];simp
        rw[<-h3] at h18
        refine LOOP.list last (λq (s:Unit)=>((q:Int),hl q,())) (λw=>Int.toNat w.1) (λ_ _ _=>True) () (by rw[h0];rfl) trivial (λq s h=>by simp) ?_ ?_
        ·intro rec q r rs s hd hq hql _ hrec
         obtain⟨g1,g2⟩:=h1 q r hq
         have g3:=h2 q
         show IFB _ _ _
         refine IFB.mk (λ_=>⟨by omega,?_,?_⟩) (λh=>absurd (of_decide_eq_false h) (by show ¬¬((q:Int)<last.length);omega))
         ·show 0<=(q:Int)/\(q:Int)<((hl q).length:Int)
          omega
         ·dsimp only
          rw[g1,wrapS (by omega),Int.toNat_natCast,g2]
          exact hrec () trivial
        ·intro rec s _
         show IFB _ _ _
         exact IFB.mk (λh=>absurd (of_decide_eq_true h) (by show ¬((last.length:Int)<last.length);omega)) (λ_=>h18)
       ·exact absurd ⟨hne,g1 hc.1.2,hc.2⟩ e1
      ·rcases href with⟨⟨q1,q2,q3⟩,_⟩|⟨_,e2,e3⟩
       ·exfalso
        have:0<last.length:=List.length_pos_iff.2 q1
        have hd:decide ((0:Int)<(last.length:Int))=true:=decide_eq_true (by omega)
        rw[g2 q1 q2,q3,hd] at hc
        simp at hc
       ·rw[e2,e3] at h18
        exact h18
     exact⟨λh=>⟨Int.NonNeg.mk _,of_decide_eq_true (Bool.and_eq_true_iff.1 h).1⟩,λ_=>⟨by omega,by omega⟩,main,main⟩
    refine IFB.mk (λh=>⟨by omega,λy hy=>h37 y hy.1 (λ_=>hy.2)⟩) (λh=>h37 false (λh=>by cases h) (λhne _=> ?_))
    exfalso
    have:0<last.length:=List.length_pos_iff.2 hne
    have h:decide ((0:Int)<(last.length:Int))=false:=h
    have:=of_decide_eq_false h
    omega
  ·have hge:¬((k+1:Nat):Int)<z3.length:=of_decide_eq_false hge
   rw[short_drop (by omega)] at i3
   have hfl:=flat_last (acc:=acc)
   have hfl2:(flat acc.dropLast).length+(lastR acc).length=(flat acc).length:=by rw[<-hfl];simp
   rw[<-i3,<-hfl] at hp
   refine⟨?_,hp⟩
   show ((flat acc.dropLast).length+(lastR acc).length) * 32<=140737488355328
   omega
theorem rcomb_ok:SpecOK Tryz.prog rcomb_sp:=rcomb_of rcomb_main
end RE
end Go.Proofs.YtjcjdgmojkkioaaGreatDoor
set_option linter.unusedVariables false
set_option maxRecDepth 100000
namespace Go.Proofs.YtjcjdgmojkkioaaGreatDoor
open Go.RowKit
namespace RE
open PL
namespace PL
def withinP (a b:List Rc):Prop:=validP a/\validP b/\∀x y,cov a x y=true->cov b x y=true
open Classical in
noncomputable def ofS (l:List Rc):List Rc×Int:=if 120<l.length then ([],1) else if ¬∀r∈l,proper r then ([],2) else if 120<(canonF (cov l)).length then ([],1) else (canonF (cov l),0)
def insS (l:List Sp)(x:Int):Bool:=l.any λs=>decide (s.Left<=x)&&decide (x<s.Right)
def properB (r:Rc):Bool:=decide (0<=r.Left)&&decide (r.Left<r.Right)&&decide (r.Right<=16384)&&decide (0<=r.Low)&&decide (r.Low<r.High)&&decide (r.High<=16384)
end PL
theorem properB_iff {r:Rc}:properB r=true↔proper r:=by unfold properB proper;simp[and_assoc]
theorem comb_or_nil (a:List Rc):comb (howS 1) a []=cov a:=by
 funext x y
 unfold comb howS
 simp[cov_nil]
theorem canon_cov (a:List Rc):Canon (canonF (cov a))/\∀x y,cov (canonF (cov a)) x y=cov a x y:=by
 have:=comb_ok (howS_0 1) a []
 rw[comb_or_nil] at this
 exact this
theorem canon_iff (a:List Rc):canonF (cov a)=a↔Canon a:=⟨λh=>h ▸ (canon_cov a).1,canon_self⟩
theorem not_none (a b:List Rc):canonF (comb (howS 3) a b)=[]↔∀x y,cov a x y=true->cov b x y=true:=by
 obtain⟨h1,h2⟩:=comb_ok (howS_0 3) a b
 rw[canon_none h1]
 constructor
 ·intro h x y ha
  have:=h x y
  rw[h2] at this
  unfold comb howS at this
  simpa [ha] using this
 ·intro h x y
  rw[h2]
  unfold comb howS
  cases ha:cov a x y with
  |false=>simp
  |true=>simp[h x y ha]
theorem proper_box {l:List Rc}(h:∀r∈l,proper r){x y:Int}(hc:cov l x y=true):0<=x/\x<16384/\0<=y/\y<16384:=by
 obtain⟨r,hr,h1,h2,h3,h4⟩:=cov_iff.1 hc
 obtain⟨p1,p2,p3,p4,p5,p6⟩:=h r hr
 omega
theorem box_len {f:Int->Int->Bool}(hc:Canon (canonF f))(h:∀x y,cov (canonF f) x y=true->0<=x/\x<16384/\0<=y/\y<16384):(canonF f).length<=268435456:=by
 have:=canon_len hc (x0:=0) (x1:=16384) (y0:=0) (y1:=16384) (by omega) (by omega) h
 omega
theorem cov_len {l:List Rc}(h:∀r∈l,proper r):(canonF (cov l)).length<=268435456:=box_len (canon_cov l).1 λx y hc=>proper_box h (by rwa [(canon_cov l).2] at hc)
theorem all_ix {l:List Rc}{p:Rc->Prop}(h:∀j:Nat,j<l.length->p (ix l (j:Int))):∀r∈l,p r:=by
 intro r hr
 obtain⟨j,hj,rfl⟩:=List.getElem_of_mem hr
 have:=h j hj
 rwa [ix_lt hj] at this
end RE
end Go.Proofs.YtjcjdgmojkkioaaGreatDoor
namespace Go.Proofs.YtjcjdgmojkkioaaGreatDoor
namespace RE
set_option maxRecDepth 100000
open Go.RowKit
open PL
def rof_P (l:List (api_Rect))(post:List (api_Rect)->Int->Prop):Prop:=post (ofS l).1 (ofS l).2
def rof_W (l:List (api_Rect))(post:List (api_Rect)->Int->Prop):Prop:=(↑l.length:Int)<=9223372036854775807->IFB (decide ((120:Int)<(↑l.length:Int))) (post [] 1) ((↑l.length:Int)<=9223372036854775807->LOOP [Ty.int IntKind.i64] (λ(rec1:Int->Prop) (z2:Int)=>IFB (decide (z2<(↑l.length:Int))) (((0:Int)<=z2/\z2<(↑l.length:Int))/\IFB (!(decide ((0:Int)<=(ix l z2).1)&&decide ((ix l z2).1<(ix l z2).3)&&decide ((ix l z2).3<=16384)&&decide ((0:Int)<=(ix l z2).2)&&decide ((ix l z2).2<(ix l z2).4)&&decide ((ix l z2).4<=16384))) (post [] 2) (rec1 (IntKind.i64.wrap (z2+1)))) ((l.length<=1000/\(0:Nat)<=1000)/\JOIN [(Ty.st Sn.api_Rect).sl,Ty.int IntKind.i64] (λ(y3:List api_Rect) (y4:Int)=>post y3 y4) λ(J5:List api_Rect->Int->Prop)=>(↑(canonF λ(x y:Int)=>howS (1:Int) (cov l x y) (cov [] x y)).length:Int)<=9223372036854775807->IFB (decide ((120:Int)<(↑(canonF λ(x y:Int)=>howS (1:Int) (cov l x y) (cov [] x y)).length:Int))) (J5 [] 1) (J5 (canonF λ(x y:Int)=>howS (1:Int) (cov l x y) (cov [] x y)) 0))) ((0:Int),PUnit.unit))
theorem rof_main (l:List api_Rect)(post:List api_Rect->Int->Prop)(hp:rof_P l post):rof_W l post:=by
 unfold rof_P at hp
 unfold rof_W
 intro _
 refine IFB.mk (λhb=> ?_) (λhb _=> ?_)
 ·have hb:=of_decide_eq_true hb
  unfold ofS at hp
  rw[if_pos (by omega)] at hp
  exact hp
 ·have hb:=of_decide_eq_false hb
  unfold ofS at hp
  rw[if_neg (by omega)] at hp
  refine loopCmp (n:=l.length) (by omega) (p:=λj=>proper (ix l (j:Int))) (λrec k hk hpre hrec=>⟨by omega,IFB.mk (λhb=> ?_) (λhb=>hrec ?_)⟩) λhall=> ?_
  ·rw[if_pos] at hp
   ·exact hp
   ·intro h
    have:=properB_iff.2 (h _ (ix_mem (l:=l) (i:=(k:Int)) (by omega) (by omega)))
    unfold properB at this
    rw[this] at hb
    cases hb
  ·exact properB_iff.1 (by unfold properB;simpa using hb)
  ·have hall:=all_ix hall
   rw[if_neg (λh=>h hall)] at hp
   have hf:(canonF λ(x y:Int)=>howS 1 (cov l x y) (cov [] x y))=canonF (cov l):=congrArg canonF (comb_or_nil l)
   rw[hf]
   have hlen:=cov_len hall
   refine⟨⟨by omega,by omega⟩,JOIN.opq λ(J:List api_Rect->Int->Prop) hJ _=>IFB.mk (λhb=> ?_) (λhb=> ?_)⟩
   ·have hb:=of_decide_eq_true hb
    rw[if_pos (by omega)] at hp
    rw[hJ];exact hp
   ·have hb:=of_decide_eq_false hb
    rw[if_neg (by omega)] at hp
    rw[hJ];exact hp
end RE
end Go.Proofs.YtjcjdgmojkkioaaGreatDoor
namespace Go.Proofs
open Go.Shelf
def Tryz.lays189_ren:Go.Shelf.Ren:=⟨λ|189=>70|125=>125|257=>159|128=>204|129=>205|294=>245|295=>246|296=>247|297=>248|298=>249|299=>250|216=>251|300=>252|301=>253|328=>299|329=>281|330=>282|331=>300|332=>301|215=>167|343=>332|n=>n,λ|28=>22|3=>3|46=>213|0=>0|51=>293|53=>271|4=>4|183=>286|182=>285|131=>290|5=>5|9=>9|218=>339|222=>343|228=>368|229=>134|n=>n,λ|n=>n⟩
theorem Tryz.lays189:Go.Proofs.Lays.n189 Tryz.prog Tryz.lays189_ren:={
 mixed:=by kernel_rfl
 f125:=Tryz.func125.trans (congrArg some (by kernel_rfl))
 f128:=Tryz.func204.trans (congrArg some (by kernel_rfl))
 f129:=Tryz.func205.trans (congrArg some (by kernel_rfl))
 f189:=Tryz.func70.trans (congrArg some (by kernel_rfl))
 f215:=Tryz.func167.trans (congrArg some (by kernel_rfl))
 f216:=Tryz.func251.trans (congrArg some (by kernel_rfl))
 f257:=Tryz.func159.trans (congrArg some (by kernel_rfl))
 f294:=Tryz.func245.trans (congrArg some (by kernel_rfl))
 f295:=Tryz.func246.trans (congrArg some (by kernel_rfl))
 f296:=Tryz.func247.trans (congrArg some (by kernel_rfl))
 f297:=Tryz.func248.trans (congrArg some (by kernel_rfl))
 f298:=Tryz.func249.trans (congrArg some (by kernel_rfl))
 f299:=Tryz.func250.trans (congrArg some (by kernel_rfl))
 f300:=Tryz.func252.trans (congrArg some (by kernel_rfl))
 f301:=Tryz.func253.trans (congrArg some (by kernel_rfl))
 f328:=Tryz.func299.trans (congrArg some (by kernel_rfl))
 f329:=Tryz.func281.trans (congrArg some (by kernel_rfl))
 f330:=Tryz.func282.trans (congrArg some (by kernel_rfl))
 f331:=Tryz.func300.trans (congrArg some (by kernel_rfl))
 f332:=Tryz.func301.trans (congrArg some (by kernel_rfl))
 f343:=Tryz.func332.trans (congrArg some (by kernel_rfl))
 t0:=Tryz.underlying0
 a0:=Tryz.isAgg0
 z0:=Tryz.sizeOf0
 v0:=Tryz.zeroValue0
 t3:=Tryz.underlying3
 a3:=Tryz.isAgg3
 z3:=Tryz.sizeOf3
 v3:=Tryz.zeroValue3
 t4:=Tryz.underlying4
 a4:=Tryz.isAgg4
 z4:=Tryz.sizeOf4
 v4:=Tryz.zeroValue4
 t5:=Tryz.underlying5
 a5:=Tryz.isAgg5
 z5:=Tryz.sizeOf5
 v5:=Tryz.zeroValue5
 t9:=Tryz.underlying9
 a9:=Tryz.isAgg9
 z9:=Tryz.sizeOf9
 v9:=Tryz.zeroValue9
 t28:=Tryz.underlying22
 a28:=Tryz.isAgg22
 z28:=Tryz.sizeOf22
 v28:=Tryz.zeroValue22
 t46:=Tryz.underlying213
 a46:=Tryz.isAgg213
 z46:=Tryz.sizeOf213
 v46:=Tryz.zeroValue213
 t51:=Tryz.underlying293
 a51:=Tryz.isAgg293
 z51:=Tryz.sizeOf293
 v51:=Tryz.zeroValue293
 t53:=Tryz.underlying271
 a53:=Tryz.isAgg271
 z53:=Tryz.sizeOf271
 v53:=Tryz.zeroValue271
 t131:=Tryz.underlying290
 a131:=Tryz.isAgg290
 z131:=Tryz.sizeOf290
 v131:=Tryz.zeroValue290
 t182:=Tryz.underlying285
 a182:=Tryz.isAgg285
 z182:=Tryz.sizeOf285
 v182:=Tryz.zeroValue285
 t183:=Tryz.underlying286
 a183:=Tryz.isAgg286
 z183:=Tryz.sizeOf286
 v183:=Tryz.zeroValue286
 t218:=Tryz.underlying339
 a218:=Tryz.isAgg339
 z218:=Tryz.sizeOf339
 v218:=Tryz.zeroValue339
 t222:=Tryz.underlying343
 a222:=Tryz.isAgg343
 z222:=Tryz.sizeOf343
 v222:=Tryz.zeroValue343
 t228:=Tryz.underlying368
 a228:=Tryz.isAgg368
 z228:=Tryz.sizeOf368
 v228:=Tryz.zeroValue368
 t229:=Tryz.underlying134
 a229:=Tryz.isAgg134
 z229:=Tryz.sizeOf134
 v229:=Tryz.zeroValue134}
open Go.Sort Go.RowKit in
theorem Tryz.slices_Sort_int (blk off cap:Nat)(zs:List Int)(w:World)(hH:Holds (Value.int .i64) w blk off zs.toArray)(hblk:blk<w.heap.size)(hsz:zs.length<4611686018427387904):
 Calls Tryz.prog 70 #[.slice (some ⟨blk,off,none⟩) zs.length cap] w λe w'=>
  e= .returned (.tuple #[])/\∃n os,w'=grow (putRow (Value.int .i64) (Sort.ahead w n) blk off (zs.mergeSort λx y=>decide (x<=y)).toArray) os:=Any.slices_Sort_int Tryz.lays189 blk off cap zs w hH hblk hsz
def Tryz.laysNm220_ren:Go.Shelf.Ren:=⟨λ|20=>72|n=>n,λ|22=>22|3=>3|4=>4|0=>0|n=>n,λ|n=>n⟩
theorem Tryz.laysNm220:Go.Proofs.Lays2.n20 Tryz.prog Tryz.laysNm220_ren:={
 mixed:=by kernel_rfl
 f20:=Tryz.func72.trans (congrArg some (by kernel_rfl))
 t0:=Tryz.underlying0
 a0:=Tryz.isAgg0
 z0:=Tryz.sizeOf0
 v0:=Tryz.zeroValue0
 t3:=Tryz.underlying3
 a3:=Tryz.isAgg3
 z3:=Tryz.sizeOf3
 v3:=Tryz.zeroValue3
 t4:=Tryz.underlying4
 a4:=Tryz.isAgg4
 z4:=Tryz.sizeOf4
 v4:=Tryz.zeroValue4
 t22:=Tryz.underlying22
 a22:=Tryz.isAgg22
 z22:=Tryz.sizeOf22
 v22:=Tryz.zeroValue22
 i3:=by kernel_rfl}
open Go.RowKit Go.Lib Go.Sort in
open Go.RowKit Go.Lib Go.Sort in
theorem Tryz.slices_Compact_int (blk off cap:Nat)(zs:List Int)(w:World)(hH:Holds (Value.int .i64) w blk off zs.toArray)(hsz:zs.length<=9223372036854775807)(hcap:zs.length<=cap):
 Calls Tryz.prog 72 #[.slice (some ⟨blk,off,none⟩) zs.length cap] w λe w'=>e= .returned (.slice (some ⟨blk,off,none⟩) (Lib.compact zs).length cap)/\∃q,w'=putRow (Value.int .i64) (Sort.ahead w q) blk off (Lib.compact zs++List.replicate (zs.length-(Lib.compact zs).length) 0).toArray:=Any.slices_Compact_int Tryz.laysNm220 blk off cap zs w hH hsz hcap
open Go.RowKit Go.Lib Go.Sort in
theorem Tryz.slices_Compact_int_empty (a:Option Addr)(cap:Nat)(w:World):
 Calls Tryz.prog 72 #[.slice a 0 cap] w λe w'=>e= .returned (.slice a 0 cap)/\w'=w:=Any.slices_Compact_int_empty Tryz.laysNm220 a cap w
open Go.RowKit Go.Lib in
open Go.RowKit Go.Lib in
open Go.RowKit Go.Lib Go.Sort in
open Go.RowKit Go.Sort in
theorem Tryz.slices_Sort_int_none (p:Option Addr)(cap:Nat)(w:World):
 Calls Tryz.prog 70 #[.slice p 0 cap] w λe w'=>e= .returned (.tuple #[])/\w'=w:=Any.slices_Sort_int_none Tryz.lays189 p cap w
end Go.Proofs
set_option linter.unusedVariables false
set_option maxRecDepth 100000
namespace Go.Proofs.YtjcjdgmojkkioaaGreatDoor
open Go.RowKit Go.Sort
namespace RE
open PL
namespace PL
def sortI (l:List Int):List Int:=l.mergeSort λx y=>decide (x<=y)
end PL
def ssort_sp:Spec3:=⟨70,.int .i64,none,λ(l:List Int) post=>l.length<=1000000/\post (sortI l)⟩
theorem row_ints {w:World}{S:Cells}{cur:Array Value}{l:List Int}(h:∀(i:Nat)(x:Int),l[i]? =some x->∀(j:Nat)(c:D),(enc (.int .i64) x)[j]? =some c->∃u:Value,cur[i * size (.int .i64)+j]? =some u/\u.oneCell'=true/\Rd S w c u):
 cur.toList.take l.length=l.map (Value.int .i64):=by
 apply List.ext_getElem?
 intro i
 by_cases hi:i<l.length
 ·rw[List.getElem?_take_of_lt hi,Array.getElem?_toList,List.getElem?_map]
  obtain⟨u,h1,_,h3⟩:=h i l[i] (List.getElem?_eq_getElem hi) 0 _ rfl
  have h1:cur[i * 1+0]? =some u:=h1
  rw[Nat.mul_one,Nat.add_zero] at h1
  rw[h1,List.getElem?_eq_getElem hi]
  have h3:Rd S w (.v (.int .i64 l[i])) u:=h3
  rw[rd_v h3];rfl
 ·rw[List.getElem?_take_eq_none (by omega),List.getElem?_eq_none (by simp;omega)]
theorem ssort_ok:Spec3OK Tryz.prog ssort_sp:=by
 intro (l:List Int) post hp w S v F e hrow hS hF
 obtain⟨hlen,hp⟩:=hp
 obtain⟨h0,⟨rfl,⟨ad,rfl⟩,hn⟩|⟨g,cap,cur,rfl,hFg,hg,hnl,hcm,hcs,hrr⟩⟩:=hrow
 ·refine (Tryz.slices_Sort_int_none ad 0 w).mono ?_
  rintro e' w' ⟨rfl,rfl⟩
  have e:sortI []=[]:=List.mergeSort_nil
  have hp:post (sortI []):=hp
  rw[e] at hp
  exact⟨_,[],rfl,hp,⟨h0,.inl ⟨rfl,⟨ad,rfl⟩,hn⟩⟩,rfl,rfl,rfl,Nat.le_refl _,λ_ _ _=>rfl⟩
 ·have hgl:=(Array.getElem?_eq_some_iff.1 hg).1
  have hnl:List.length (l:List Int)<=cap:=hnl
  have hl2:(sortI l).length=List.length (l:List Int):=List.length_mergeSort ..
  refine (Tryz.slices_Sort_int g 0 cap l w (holds_of_blockI hg (row_ints hrr)) hgl (by have hlen:List.length (l:List Int)<=1000000:=hlen;omega)).mono ?_
  rintro e' w' ⟨rfl,n,os,rfl⟩
  have hG:=grownBy_sortedI (w:=w) (n:=n) (g:=g) (os:=os) (sortI l).toArray
  refine⟨_,sortI l,rfl,hp,⟨h0,.inr ⟨g,cap,_,congrArg (λn=>Value.slice (some ⟨g,0,none⟩) n cap) hl2.symm,hFg,heap_sortedI _ hg,hl2 ▸ hnl,hcm,by simp[putCells,hcs],λi (x:Int) hx j c hc=> ?_⟩⟩,hG.os,hG.tape,hG.output,hG.size,λb hb hnF=>hG.block b hb λe=>hnF ((hFg b).2 (Option.some.inj e))⟩
  have hi:i<(sortI l).length:=(List.getElem?_eq_some_iff.1 hx).1
  cases j with
  |succ j=>cases (show ([]:List D)[j]? =some c from hc)
  |zero=>
   have hc:[D.v (.int .i64 x)][0]? =some c:=hc
   simp at hc
   subst hc
   refine⟨.int .i64 x,?_,rfl,.v _⟩
   show (putCells (Value.int .i64) 0 (sortI l).toArray cur)[i * 1+0]? =_
   rw[Nat.mul_one,Nat.add_zero]
   have hcs:cur.size=cap * 1:=hcs
   have h1:i<cur.size:=by omega
   simp only[putCells,Array.getElem?_mapIdx,Array.getElem?_eq_getElem h1,Option.map_some,Nat.zero_le,true_and,Nat.zero_add,List.size_toArray,if_pos hi,Nat.sub_zero]
   have:(sortI l).toArray[i]! =x:=by
    have h2:(sortI l)[i]=x:=(List.getElem?_eq_some_iff.1 hx).2
    rw[<-h2]
    simp[hi]
   rw[this]
end RE
end Go.Proofs.YtjcjdgmojkkioaaGreatDoor
set_option linter.unusedVariables false
set_option maxRecDepth 100000
namespace Go.Proofs.YtjcjdgmojkkioaaGreatDoor
open Go.RowKit Go.Sort
namespace RE
open PL
namespace PL
def compI (l:List Int):List Int:=Lib.compact l
noncomputable def uniqI (l:List Int):List Int:=compI (sortI l)
end PL
theorem compact_up {d:Array Int}(h:∀j k,j<=k->k<d.size->d[j]! <=d[k]!):∀m,m<=d.size->(Lib.compactUpTo d m).Pairwise (·<·)/\∀x,x∈Lib.compactUpTo d m↔∃j,j<m/\d[j]! =x
 |0,_=>⟨by simp[Lib.compactUpTo],λx=>by simp[Lib.compactUpTo]⟩
 |m+1,hm=>by
  obtain⟨h1,h2⟩:=compact_up h m (by omega)
  rw[Lib.compactUpTo_succ]
  by_cases hk:Lib.keeps d m=true
  ·rw[if_pos hk]
   constructor
   ·rw[List.pairwise_append]
    refine⟨h1,List.pairwise_singleton _ _,λx hx y hy=> ?_⟩
    rw[List.mem_singleton] at hy
    subst hy
    obtain⟨j,hj,rfl⟩:=(h2 x).1 hx
    have hne:d[m]!≠d[m-1]! :=by
     simp only[Lib.keeps,decide_eq_true_eq] at hk
     rcases hk with hk|hk
     ·omega
     ·exact hk
    have a1:=h j (m-1) (by omega) (by omega)
    have a2:=h (m-1) m (by omega) (by omega)
    omega
   ·intro x
    rw[List.mem_append,h2,List.mem_singleton]
    constructor
    ·rintro (⟨j,hj,e⟩|e)
     ·exact⟨j,by omega,e⟩
     ·exact⟨m,by omega,e.symm⟩
    ·rintro ⟨j,hj,e⟩
     by_cases he:j=m
     ·subst he;exact .inr e.symm
     ·exact .inl ⟨j,by omega,e⟩
  ·rw[if_neg hk,List.append_nil]
   refine⟨h1,λx=> ?_⟩
   rw[h2]
   have hk:¬(m=0\/d[m]!≠d[m-1]!):=by simpa [Lib.keeps] using hk
   constructor
   ·rintro ⟨j,hj,e⟩;exact⟨j,by omega,e⟩
   ·rintro ⟨j,hj,e⟩
    by_cases he:j=m
    ·subst he
     refine⟨j-1,by omega,?_⟩
     rw[<-e]
     exact (Classical.not_not.1 λh=>hk (.inr h)).symm
    ·exact⟨j,by omega,e⟩
theorem uniqI_ok (l:List Int):(uniqI l).Pairwise (·<·)/\∀x,x∈uniqI l↔x∈l:=by
 have hs:(sortI l).Pairwise (λx y=>decide (x<=y)=true):=List.pairwise_mergeSort (λa b c=>by simp;omega) (λa b=>by simp;omega) l
 have hmono:∀j k,j<=k->k<(sortI l).toArray.size->(sortI l).toArray[j]! <=(sortI l).toArray[k]! :=by
  intro j k hjk hk
  have hk:k<(sortI l).length:=by simpa using hk
  rw[List.pairwise_iff_getElem] at hs
  by_cases e:j=k
  ·subst e;exact Int.le_refl _
  ·have:=hs j k (by omega) hk (by omega)
   simp only[decide_eq_true_eq] at this
   simpa [hk,(by omega:j<(sortI l).length)] using this
 obtain⟨h1,h2⟩:=compact_up hmono (sortI l).length (by simp)
 refine⟨h1,λx=> ?_⟩
 rw[show uniqI l=Lib.compactUpTo (sortI l).toArray (sortI l).length from rfl,h2]
 have hm:x∈sortI l↔x∈l:=List.mem_mergeSort
 rw[<-hm]
 constructor
 ·rintro ⟨j,hj,e⟩
  have:(sortI l)[j]=x:=by simpa [hj] using e
  rw[<-this];exact List.getElem_mem hj
 ·intro h
  obtain⟨j,hj,rfl⟩:=List.getElem_of_mem h
  exact⟨j,hj,by simp[hj]⟩
theorem uniqI_eq {l xs:List Int}(h1:xs.Pairwise (·<·))(h2:∀x,x∈xs↔x∈l):uniqI l=xs:=inc_uniq (uniqI_ok l).1 h1 λx=>by rw[(uniqI_ok l).2,h2]
theorem uniqI_len (l:List Int):(uniqI l).length<=l.length:=Nat.le_trans (Go.Lib.compact_length_le (α:=Int) _) (by unfold sortI;simp)
theorem Spec2OK.of_row {P:Program}{f:FuncId}{e:TypeId}{t:Ty}{pt:List (den t)->(List (den t)->Prop)->Prop}(hE:Nat.ble 1000000 e=false)
 (h:∀l post,pt l post->∀w (S:Cells)(v:Value)(F:Nat->Prop),RowAt w S v F e t l->(∀b o,S b o->b<w.heap.size)->(∀b,F b->b<w.heap.size/\∀k,¬S b k)->
  Calls P f #[v] w λe' w'=>∃r l',e'= .returned r/\post l'/\RowAt w' S r F e t l'/\w'.os=w.os/\w'.tape=w.tape/\w'.output=w.output/\w.heap.size<=w'.heap.size/\∀b,b<w.heap.size->¬F b->w'.heap[b]? =w.heap[b]?):
 Spec2OK P ⟨f,[.own e t],.own e t,λx post=>pt (x.1:List (den t)) λy=>post (y,())⟩:=by
 rintro ⟨(l:List (den t)),⟨⟩⟩ post hp us w c hox hl hr
 match us,hl with
 |[u],_=>
 have hu:=srel_os (hr 0 (.os 0) u rfl rfl).1
 subst hu
 have hob:(mem2 [.own e t] ((l,()):dens (shTL [.own e t] []))).obs 0=some (.row e t l):=by
  show some (rowOb (e,⟨t,l⟩))=_
  rw[rowOb_row _ _ _ hE]
 obtain⟨_,_,hrow⟩:=hox.objs 0 _ hob
 have hfb:=hox.fb 0 _ hob rfl
 refine (h l _ hp w c.S (c.H 0) (c.F 0) hrow hox.sb λb hb=>⟨(hfb b hb).1,(hfb b hb).2.1⟩).mono ?_
 rintro e' w' ⟨rv,l',rfl,hp,hrow',g1,g2,g3,g4,g5⟩
 have hone:∀x y,put (λ_=>none) 1 (some (Ob.row e t l')) x=some y->x=1/\y= .row e t l':=λx y hx=>by
  by_cases e:x=1
  ·subst e
   rw[put_same] at hx
   injection hx with hx
   exact⟨rfl,hx.symm⟩
  ·rw[put_ne _ _ e] at hx;cases hx
 have hU:∀k,(mem2 [.own e t] ((l,()):dens (shTL [.own e t] []))).U k->k=0:=λk hk=>by
  have:k<1:=hk
  omega
 refine⟨rv,(l',()),⟨c.S,put c.H 1 rv,put c.F 1 (c.F 0),c.T⟩,put (λ_=>none) 1 (some (.row e t l')),λk=>k<2,rfl,hp,⟨λb o hb=>Nat.lt_of_lt_of_le (hox.sb b o hb) g4,λx y hx=> ?_,λx y hx ho b hb=> ?_,λi j x y hx ox hy oy hne b hb hb'=> ?_,λT hT=> ?_,λe=> ?_,hox.tF⟩,⟨g1,g2,g3,g4,λ_ h=>h,λ_ h=> .inl h,λk hk=> ?_,λk hk=> ?_,λ_ _ h=>h,λ_ _ h=> .inl h,λb hb hf hT=>g5 b hb λhF=>hf ⟨0,_,hob,rfl,hF⟩,λb hb=> ?_⟩,?_,λj r hj=> ?_⟩
 ·obtain⟨rfl,rfl⟩:=hone x y hx
  refine⟨by omega,trivial,?_⟩
  show RowAt w' c.S (put c.H 1 rv 1) (put c.F 1 (c.F 0) 1) e t l'
  rw[put_same,put_same]
  exact hrow'
 ·obtain⟨rfl,rfl⟩:=hone x y hx
  have hb:put c.F 1 (c.F 0) 1 b:=hb
  rw[put_same] at hb
  obtain⟨u1,u2,u3⟩:=hfb b hb
  exact⟨Nat.lt_of_lt_of_le u1 g4,u2,u3⟩
 ·obtain⟨rfl,rfl⟩:=hone i x hx
  obtain⟨rfl,rfl⟩:=hone j y hy
  exact absurd rfl hne
 ·obtain⟨t1,t2⟩:=hox.nT T hT
  exact⟨Nat.lt_of_lt_of_le t1 g4,t2⟩
 ·cases e
 ·have:=hU k hk
  show k<2
  omega
 ·have:=hU k hk
  subst this
  exact⟨put_ne (k:=1) (i:=0) c.H rv (by omega),put_ne (k:=1) (i:=0) c.F (c.F 0) (by omega)⟩
 ·obtain⟨x,y,hx,ho,hb⟩:=hb
  obtain⟨rfl,rfl⟩:=hone x y hx
  have hb:put c.F 1 (c.F 0) 1 b:=hb
  rw[put_same] at hb
  exact .inl ⟨0,_,hob,rfl,hb⟩
 ·show SRel ⟨c.S,put c.H 1 rv,put c.F 1 (c.F 0),c.T⟩ w' (.os 1) rv
  have:=SRel.os (c:=⟨c.S,put c.H 1 rv,put c.F 1 (c.F 0),c.T⟩) (w:=w') 1
  rwa [show (Cx.mk c.S (put c.H 1 rv) (put c.F 1 (c.F 0)) c.T).H 1=rv from put_same c.H 1 rv] at this
 ·match j,hj with
  |0,hj=>
   have hj:some ((e,⟨t,l'⟩):Row)=some r:=hj
   injection hj with hj
   subst hj
   rw[rowOb_row _ _ _ hE]
   exact put_same _ _ _
  |j+1,hj=>cases (show (none:Option Row)=some r from hj)
def scompact_sp:Spec2:=⟨72,[.own 3 (.int .i64)],.own 3 (.int .i64),λx post=>(λ(l:List Int) (post:List Int->Prop)=>l.length<=1000000/\post (compI l)) (x.1:List Int) λy=>post (y,())⟩
theorem scompact_row:∀(l:List Int)(post:List Int->Prop),(l.length<=1000000/\post (compI l))->∀(w:World)(S:Cells)(v:Value)(F:Nat->Prop),RowAt w S v F 3 (.int .i64) l->(∀b o,S b o->b<w.heap.size)->(∀b,F b->b<w.heap.size/\∀k,¬S b k)->
 Calls Tryz.prog 72 #[v] w λe' w'=>∃(r:Value)(l':List Int),e'= .returned r/\post l'/\RowAt w' S r F 3 (.int .i64) l'/\w'.os=w.os/\w'.tape=w.tape/\w'.output=w.output/\w.heap.size<=w'.heap.size/\∀b,b<w.heap.size->¬F b->w'.heap[b]? =w.heap[b]? :=by
 intro l post ⟨hlen,hp⟩ w S v F hrow hS hF
 obtain⟨h0,⟨rfl,⟨ad,rfl⟩,hn⟩|⟨g,cap,cur,rfl,hFg,hg,hnl,hcm,hcs,hrr⟩⟩:=hrow
 ·refine (Tryz.slices_Compact_int_empty ad 0 w).mono ?_
  rintro e' w' ⟨rfl,rfl⟩
  have e:Lib.compact ([]:List Int)=[]:=rfl
  have hp:post (Lib.compact ([]:List Int)):=hp
  rw[e] at hp
  exact⟨_,[],rfl,hp,⟨h0,.inl ⟨rfl,⟨ad,rfl⟩,hn⟩⟩,rfl,rfl,rfl,Nat.le_refl _,λ_ _ _=>rfl⟩
 ·have hnl:List.length (l:List Int)<=cap:=hnl
  have hlen:List.length (l:List Int)<=1000000:=hlen
  have hcl:(Lib.compact (l:List Int)).length<=List.length (l:List Int):=Go.Lib.compact_length_le (α:=Int) l
  refine (Tryz.slices_Compact_int g 0 cap l w (holds_of_blockI hg (row_ints hrr)) (by omega) hnl).mono ?_
  rintro e' w' ⟨rfl,n,rfl⟩
  generalize hd:(Lib.compact (l:List Int)++List.replicate (List.length (l:List Int)-(Lib.compact (l:List Int)).length) 0).toArray=d
  have hG:=grownBy_sortedI (w:=w) (n:=n) (g:=g) (os:= #[]) d
  have hH:=heap_sortedI (n:=n) (os:= #[]) d hg
  rw[grow_empty] at hG hH
  refine⟨_,Lib.compact (l:List Int),rfl,hp,⟨h0,.inr ⟨g,cap,_,rfl,hFg,hH,Nat.le_trans hcl hnl,hcm,by simp[putCells,hcs],λi (x:Int) hx j c hc=> ?_⟩⟩,hG.os,hG.tape,hG.output,hG.size,λb hb hnF=>hG.block b hb λe=>hnF ((hFg b).2 (Option.some.inj e))⟩
  have hi:i<(Lib.compact (l:List Int)).length:=(List.getElem?_eq_some_iff.1 hx).1
  cases j with
  |succ j=>cases (show ([]:List D)[j]? =some c from hc)
  |zero=>
   have hc:[D.v (.int .i64 x)][0]? =some c:=hc
   simp at hc
   subst hc
   refine⟨.int .i64 x,?_,rfl,.v _⟩
   show (putCells (Value.int .i64) 0 d cur)[i * 1+0]? =_
   rw[Nat.mul_one,Nat.add_zero]
   have hcs:cur.size=cap * 1:=hcs
   have h1:i<cur.size:=by omega
   have h2:i<d.size:=by rw[<-hd];simp;omega
   simp only[putCells,Array.getElem?_mapIdx,Array.getElem?_eq_getElem h1,Option.map_some,Nat.zero_le,true_and,Nat.zero_add,if_pos h2,Nat.sub_zero]
   have:d[i]! =x:=by
    have h2:(Lib.compact (l:List Int))[i]=x:=(List.getElem?_eq_some_iff.1 hx).2
    rw[<-h2,<-hd]
    simp[List.getElem?_append_left hi,List.getElem?_eq_getElem hi]
   rw[this]
theorem scompact_ok:Spec2OK Tryz.prog scompact_sp:=Spec2OK.of_row rfl (t:= .int .i64) scompact_row
end RE
end Go.Proofs.YtjcjdgmojkkioaaGreatDoor
namespace Go.Proofs
open Go.Shelf
def Tryz.sortSp_ren:Go.Shelf.Ren:=⟨λ|6=>233|15=>125|14=>295|28=>204|29=>205|20=>323|21=>324|22=>325|23=>326|24=>327|25=>328|26=>329|27=>330|46=>340|47=>281|48=>282|49=>341|50=>342|57=>345|n=>n,λ|22=>163|24=>237|25=>308|3=>3|39=>213|0=>0|53=>293|55=>271|4=>4|46=>286|45=>285|50=>290|5=>5|9=>9|66=>339|70=>343|76=>368|77=>134|n=>n,λ|n=>n⟩
theorem Tryz.sortSp:Go.Proofs.SlLaysF0.n6 Tryz.prog Tryz.sortSp_ren:={
 mixed:=by kernel_rfl
 f6:=⟨Tryz.f233.name,by decide,Tryz.func233.trans (congrArg some (by kernel_rfl))⟩
 f14:=⟨Tryz.f295.name,by decide,Tryz.func295.trans (congrArg some (by kernel_rfl))⟩
 f15:=Tryz.func125.trans (congrArg some (by kernel_rfl))
 f20:=⟨Tryz.f323.name,by decide,Tryz.func323.trans (congrArg some (by kernel_rfl))⟩
 f21:=⟨Tryz.f324.name,by decide,Tryz.func324.trans (congrArg some (by kernel_rfl))⟩
 f22:=⟨Tryz.f325.name,by decide,Tryz.func325.trans (congrArg some (by kernel_rfl))⟩
 f23:=⟨Tryz.f326.name,by decide,Tryz.func326.trans (congrArg some (by kernel_rfl))⟩
 f24:=⟨Tryz.f327.name,by decide,Tryz.func327.trans (congrArg some (by kernel_rfl))⟩
 f25:=⟨Tryz.f328.name,by decide,Tryz.func328.trans (congrArg some (by kernel_rfl))⟩
 f26:=⟨Tryz.f329.name,by decide,Tryz.func329.trans (congrArg some (by kernel_rfl))⟩
 f27:=⟨Tryz.f330.name,by decide,Tryz.func330.trans (congrArg some (by kernel_rfl))⟩
 f28:=Tryz.func204.trans (congrArg some (by kernel_rfl))
 f29:=Tryz.func205.trans (congrArg some (by kernel_rfl))
 f46:=⟨Tryz.f340.name,by decide,Tryz.func340.trans (congrArg some (by kernel_rfl))⟩
 f47:=Tryz.func281.trans (congrArg some (by kernel_rfl))
 f48:=Tryz.func282.trans (congrArg some (by kernel_rfl))
 f49:=⟨Tryz.f341.name,by decide,Tryz.func341.trans (congrArg some (by kernel_rfl))⟩
 f50:=⟨Tryz.f342.name,by decide,Tryz.func342.trans (congrArg some (by kernel_rfl))⟩
 f57:=⟨Tryz.f345.name,by decide,Tryz.func345.trans (congrArg some (by kernel_rfl))⟩
 t0:=Tryz.underlying0
 a0:=Tryz.isAgg0
 z0:=Tryz.sizeOf0
 v0:=Tryz.zeroValue0
 t3:=Tryz.underlying3
 a3:=Tryz.isAgg3
 z3:=Tryz.sizeOf3
 v3:=Tryz.zeroValue3
 t4:=Tryz.underlying4
 a4:=Tryz.isAgg4
 z4:=Tryz.sizeOf4
 v4:=Tryz.zeroValue4
 t5:=Tryz.underlying5
 a5:=Tryz.isAgg5
 z5:=Tryz.sizeOf5
 v5:=Tryz.zeroValue5
 t9:=Tryz.underlying9
 a9:=Tryz.isAgg9
 z9:=Tryz.sizeOf9
 v9:=Tryz.zeroValue9
 t22:=Tryz.underlying163
 a22:=Tryz.isAgg163
 z22:=Tryz.sizeOf163
 v22:=Tryz.zeroValue163
 t25:=Tryz.underlying308
 a25:=Tryz.isAgg308
 z25:=Tryz.sizeOf308
 v25:=Tryz.zeroValue308
 t39:=Tryz.underlying213
 a39:=Tryz.isAgg213
 z39:=Tryz.sizeOf213
 v39:=Tryz.zeroValue213
 t45:=Tryz.underlying285
 a45:=Tryz.isAgg285
 z45:=Tryz.sizeOf285
 v45:=Tryz.zeroValue285
 t46:=Tryz.underlying286
 a46:=Tryz.isAgg286
 z46:=Tryz.sizeOf286
 v46:=Tryz.zeroValue286
 t50:=Tryz.underlying290
 a50:=Tryz.isAgg290
 z50:=Tryz.sizeOf290
 v50:=Tryz.zeroValue290
 t53:=Tryz.underlying293
 a53:=Tryz.isAgg293
 z53:=Tryz.sizeOf293
 v53:=Tryz.zeroValue293
 t55:=Tryz.underlying271
 a55:=Tryz.isAgg271
 z55:=Tryz.sizeOf271
 v55:=Tryz.zeroValue271
 t66:=Tryz.underlying339
 a66:=Tryz.isAgg339
 z66:=Tryz.sizeOf339
 v66:=Tryz.zeroValue339
 t70:=Tryz.underlying343
 a70:=Tryz.isAgg343
 z70:=Tryz.sizeOf343
 v70:=Tryz.zeroValue343
 t76:=Tryz.underlying368
 a76:=Tryz.isAgg368
 z76:=Tryz.sizeOf368
 v76:=Tryz.zeroValue368
 t77:=Tryz.underlying134
 a77:=Tryz.isAgg134
 z77:=Tryz.sizeOf134
 v77:=Tryz.zeroValue134}
def Tryz.cmpSp_ren:Go.Shelf.Ren:=⟨λ|5=>87|7=>167|n=>n,λ|22=>3|3=>3|4=>4|n=>n,λ|n=>n⟩
theorem Tryz.cmpSp:Go.Proofs.SlLaysC2.n5 Tryz.prog Tryz.cmpSp_ren:={
 mixed:=by kernel_rfl
 f5:=⟨Tryz.f87.name,by decide,Tryz.func87.trans (congrArg some (by kernel_rfl))⟩
 f7:=⟨Tryz.f167.name,by decide,Tryz.func167.trans (congrArg some (by kernel_rfl))⟩
 t3:=Tryz.underlying3
 a3:=Tryz.isAgg3
 z3:=Tryz.sizeOf3
 v3:=Tryz.zeroValue3
 t4:=Tryz.underlying4
 a4:=Tryz.isAgg4
 z4:=Tryz.sizeOf4
 v4:=Tryz.zeroValue4
 t22:=Tryz.underlying3
 a22:=Tryz.isAgg3
 z22:=Tryz.sizeOf3
 v22:=Tryz.zeroValue3}
def Tryz.growSp_ren:Go.Shelf.Ren:=⟨λ|4=>302|n=>n,λ|22=>163|25=>237|3=>3|4=>4|9=>9|20=>20|0=>0|2=>3|n=>n,λ|n=>n⟩
theorem Tryz.growSp:Go.Proofs.Lays8.n4 Tryz.prog Tryz.growSp_ren:={
 mixed:=by kernel_rfl
 f4:=⟨Tryz.f302.name,by decide,Tryz.func302.trans (congrArg some (by kernel_rfl))⟩
 t0:=Tryz.underlying0
 a0:=Tryz.isAgg0
 z0:=Tryz.sizeOf0
 v0:=Tryz.zeroValue0
 t3:=Tryz.underlying3
 a3:=Tryz.isAgg3
 z3:=Tryz.sizeOf3
 v3:=Tryz.zeroValue3
 t4:=Tryz.underlying4
 a4:=Tryz.isAgg4
 z4:=Tryz.sizeOf4
 v4:=Tryz.zeroValue4
 t9:=Tryz.underlying9
 a9:=Tryz.isAgg9
 z9:=Tryz.sizeOf9
 v9:=Tryz.zeroValue9
 t20:=Tryz.underlying20
 a20:=Tryz.isAgg20
 z20:=Tryz.sizeOf20
 v20:=Tryz.zeroValue20
 t22:=Tryz.underlying163
 a22:=Tryz.isAgg163
 z22:=Tryz.sizeOf163
 v22:=Tryz.zeroValue163}
end Go.Proofs
namespace Go.Proofs.YtjcjdgmojkkioaaGreatDoor
namespace RE
set_option maxRecDepth 100000
open Go.RowKit
open Go.Sort
open Go.Lib
open PL
def encS (x:region_Span):List Value:=[.int .i64 x.1,.int .i64 x.2]
def cfS (x y:region_Span):Int:=Lib.compareInt x.1 y.1
theorem ltS (x y:region_Span):ltOf cfS x y=decide (x.1<y.1):=by
 unfold ltOf cfS Lib.compareInt
 by_cases h1:x.1<y.1
 ·simp[h1]
 ·by_cases h2:y.1<x.1<;>simp[h1,h2]
theorem swoS:SWO (ltOf cfS) where
 irrefl x:=by rw[ltS];simp
 trans x y z h1 h2:=by rw[ltS] at *;simp at *;omega
 ntrans x y z h1 h2:=by rw[ltS] at *;simp at *;omega
set_option maxHeartbeats 1000000 in
theorem clos158 (x y:region_Span)(W:World):Calls Tryz.prog 234 #[.agg #[.int .i64 x.1,.int .i64 x.2],.agg #[.int .i64 y.1,.int .i64 y.2]] W λe w'=>e= .returned (.int .i64 (Lib.compareInt x.1 y.1))/\∃q os',w'=grow (W.drewN q) os':=by
 have hcon:=λW'=>AnyG.cmp_Compare_int Tryz.cmpSp x.1 y.1 W'
 change ∀W',Calls Tryz.prog 87 _ _ _ at hcon
 generalize Lib.compareInt x.1 y.1=r at hcon ⊢
 go_enter Tryz.func234,Tryz.ntmps234
 go_wp2_with (go_at_call 87;refine (hcon _).mono ?_;rintro e w' ⟨rfl,rfl⟩)
 go_ret
 exact⟨rfl,0,_,by rw[alloc_eq_grow,alloc_eq_grow,grow_grow];rfl⟩
theorem cmpLays158 (blk off size:Nat)(w:World):CmpLays Tryz.prog 234 #[] encS 2 cfS blk off size w:=
 λ_ _ _ _ x y=>clos158 x y _
theorem heap_sortedV {w:World}{g n:Nat}{os:Array Obj}{cur:Array Value}{e:TypeId}{fr:Nat×Nat}(d:Array Value)(hb:w.heap[g]? =some (.cells cur e fr)):
 (grow (putRow id (Sort.ahead w n) g 0 d) os).heap[g]? =some (.cells (putCells id 0 d cur) e fr):=by
 have hg:g<w.heap.size:=(Array.getElem?_eq_some_iff.1 hb).1
 rw[heap_grow_old _ _ (by simpa using hg)]
 simp[putRow,mapBlock,Sort.ahead,Array.getElem?_modify,hb,onCells]
theorem grownBy_sortedV {w:World}{g n:Nat}{os:Array Obj}(d:Array Value):w.grownBy (grow (putRow id (Sort.ahead w n) g 0 d) os) (some g):=by
 refine⟨rfl,rfl,rfl,by simp,λk hk hne=> ?_⟩
 rw[heap_grow_old _ _ (by simpa using hk)]
 have:g≠k:=λe=>hne (by rw[e])
 simp[putRow,mapBlock,Sort.ahead,Array.getElem?_modify,this]
theorem holdsS {w:World}{S:Cells}{g cap:Nat}{cur:Array Value}{e:TypeId}{l:List region_Span}(hb:w.heap[g]? =some (.cells cur e (0,0)))
 (h:∀(i:Nat)(x:region_Span),l[i]? =some x->∀(j:Nat)(c:D),(enc (.st .region_Span) x)[j]? =some c->∃u:Value,cur[i * 2+j]? =some u/\u.oneCell'=true/\Rd S w c u):
 HoldsK encS 2 w g 0 l.toArray:=by
 intro t ht
 have ht:t<l.length * 2:=by simpa using ht
 have hi:t/2<l.length:=by omega
 refine⟨?_,by simp[World.frozen?,hb]⟩
 have hx:=List.getElem?_eq_getElem hi
 have key:∀j,j<2->t % 2=j->cur[t]? =some (encS l[t/2])[j]! :=by
  intro j hj htj
  have ht2:t/2 * 2+j=t:=by omega
  match j,hj with
  |0,_=>
   obtain⟨u,h1,_,h3⟩:=h (t/2) l[t/2] hx 0 _ rfl
   have h3:Rd S w (.v (.int .i64 l[t/2].1)) u:=h3
   rw[ht2] at h1
   rw[h1,rd_v h3];rfl
  |1,_=>
   obtain⟨u,h1,_,h3⟩:=h (t/2) l[t/2] hx 1 _ rfl
   have h3:Rd S w (.v (.int .i64 l[t/2].2)) u:=h3
   rw[ht2] at h1
   rw[h1,rd_v h3];rfl
 have hk:=key (t % 2) (Nat.mod_lt _ (by omega)) rfl
 show w.cell? ⟨g,0+t,none⟩=some (flatK encS 2 l.toArray)[t]!
 rw[get_flatK _ _ _ t (by simpa using ht)]
 have e1:(l.toArray)[t/2]! =l[t/2]:=by simp[hi]
 rw[e1,Nat.zero_add]
 rw[<-hk]
 simp[World.cell?,hb]
def psort_sp:Spec3:=⟨233,.st .region_Span,some 234,λ(l:List region_Span) post=>(l.length<=1000000)/\∀l2,l2.Perm l->l2.Pairwise (λs t=>s.1<=t.1)->post l2⟩
theorem psort_row (l:List region_Span)(post:List region_Span->Prop)(hp:(l.length<=1000000)/\∀l2,l2.Perm l->l2.Pairwise (λs t=>s.1<=t.1)->post l2)(w:World)(S:Cells)(v:Value)(F:Nat->Prop)(e:TypeId)(hrow:RowAt w S v F e (.st .region_Span) l):
 Calls Tryz.prog 233 #[v,.func (.func 234) #[] #[]] w λe' w'=>∃r,∃l':List region_Span,e'= .returned r/\post l'/\RowAt w' S v F e (.st .region_Span) l'/\w'.os=w.os/\w'.tape=w.tape/\w'.output=w.output/\w.heap.size<=w'.heap.size/\∀b,b<w.heap.size->¬F b->w'.heap[b]? =w.heap[b]? :=by
 obtain⟨hlen,hp⟩:=hp
 obtain⟨h0,⟨rfl,⟨ad,rfl⟩,hn⟩|⟨g,cap,cur,rfl,hFg,hg,hnl,hcm,hcs,hrr⟩⟩:=hrow
 ·refine (AnyF.slices_SortFunc_none Tryz.sortSp ad 0 _ w).mono ?_
  rintro e' w' ⟨rfl,rfl⟩
  exact⟨_,[],rfl,hp [] (List.Perm.refl _) List.Pairwise.nil,⟨h0,.inl ⟨rfl,⟨ad,rfl⟩,hn⟩⟩,rfl,rfl,rfl,Nat.le_refl _,λ_ _ _=>rfl⟩
 ·have hgl:=(Array.getElem?_eq_some_iff.1 hg).1
  have hnl:List.length (l:List region_Span)<=cap:=hnl
  have eg:∀args w,(callFunc 234 args).run Tryz.prog w= .ok (.enter 234 args) w:=enters_of Tryz.func234 (by kernel_rfl) rfl
  refine (AnyQ.slices_SortFunc Tryz.sortSp 2 Tryz.isAgg237 Tryz.sizeOf237 encS (λ_=>rfl) (λx v hv=>by simp[encS] at hv;rcases hv with rfl|rfl<;>rfl) cfS swoS 234 #[] g 0 cap l.toArray w eg (cmpLays158 g 0 _ w) (holdsS (cap:=cap) hg hrr) hgl (by simp;omega)).mono ?_
  rintro e' w' ⟨rfl,d,n,os,⟨q1,q2,q3⟩,q4,rfl⟩
  have hdl:d.size=l.length:=by rw[q1];simp
  have hdt:List.length (d.toList:List region_Span)=l.length:=by rw[Array.length_toList];exact hdl
  have hG:=grownBy_sortedV (w:=w) (n:=n) (g:=g) (os:=os) (flatK encS 2 d)
  have hH:=heap_sortedV (n:=n) (os:=os) (flatK encS 2 d) hg
  refine⟨_,d.toList,rfl,hp _ ?_ ?_,⟨h0,.inr ⟨g,cap,_,?_,hFg,hH,Nat.le_trans (Nat.le_of_eq hdt) hnl,hcm,by simp[putCells,hcs],λi (x:region_Span) hx j c hc=> ?_⟩⟩,hG.os,hG.tape,hG.output,hG.size,λb hb hnF=>hG.block b hb λe=>hnF ((hFg b).2 (Option.some.inj e))⟩
  ·have e1:d.extract 0 l.toArray.size=d:=by rw[<-q1];simp
   have e2:l.toArray.extract 0 l.toArray.size=l.toArray:=by simp
   rw[e1,e2] at q3
   simpa using q3
  ·rw[List.pairwise_iff_getElem]
   intro i j hi hj hij
   have hi':i<d.size:=by simpa using hi
   have hj':j<d.size:=by simpa using hj
   have:=q4 i j (Nat.zero_le _) hij (by rw[<-q1];exact hj')
   rw[ltS,getElem!_pos d i hi',getElem!_pos d j hj'] at this
   have:=of_decide_eq_false this
   simp only[Array.getElem_toList]
   omega
  ·show Value.slice (some ⟨g,0,none⟩) l.length cap=Value.slice (some ⟨g,0,none⟩) (List.length (d.toList:List region_Span)) cap
   rw[hdt]
  ·have hx:(d.toList:List region_Span)[i]? =some x:=hx
   rw[Array.getElem?_toList] at hx
   have hi:i<d.size:=(Array.getElem?_eq_some_iff.1 hx).1
   have hxe:d[i]! =x:=by
    rw[getElem!_pos d i hi]
    exact (Array.getElem?_eq_some_iff.1 hx).2
   have hcs:cur.size=cap * 2:=hcs
   have key:∀k,k<2->(putCells id 0 (flatK encS 2 d) cur)[i * 2+k]? =some (encS x)[k]! :=by
    intro k hk
    have h1:i * 2+k<cur.size:=by omega
    have h2:i * 2+k<d.size * 2:=by omega
    simp only[putCells,Array.getElem?_mapIdx,Array.getElem?_eq_getElem h1,Option.map_some,Nat.zero_le,true_and,Nat.zero_add,size_flatK,if_pos h2,Nat.sub_zero,id]
    rw[get_flatK _ _ _ _ h2,show (i * 2+k)/2=i by omega,show (i * 2+k) % 2=k by omega,hxe]
   match j,hc with
   |0,hc=>
    have hc:some (D.v (.int .i64 x.1))=some c:=hc
    injection hc with hc
    subst hc
    exact⟨_,key 0 (by omega),rfl,.v _⟩
   |1,hc=>
    have hc:some (D.v (.int .i64 x.2))=some c:=hc
    injection hc with hc
    subst hc
    exact⟨_,key 1 (by omega),rfl,.v _⟩
   |j+2,hc=>cases (show (none:Option D)=some c from hc)
theorem psort_ok:Spec3OK Tryz.prog psort_sp:=λl post hp w S v F e hrow _ _=>psort_row l post hp w S v F e hrow
end RE
end Go.Proofs.YtjcjdgmojkkioaaGreatDoor
