/-
  Texts of the proof of TopAmended, part GB.
-/
import Derived.Test.YtjcjdgmojkkioaaGreatDoorDGA
set_option linter.unusedVariables false
noncomputable section
namespace Go.Proofs.YtjcjdgmojkkioaaGreatDoor
namespace RE
open Go.RowKit
variable {P:Program}
theorem OX.writeRow {ob:Obs}{U:Nat->Prop}{tp:Bool}{w:World}{c:Cx}(h:OX ob U tp w c){id g n cap:Nat}{e:TypeId}{t:Ty}{l l':List (den t)}(hid:ob id=some (.row e t l))(hH:c.H id= .slice (some ⟨g,0,none⟩) n cap){o:Nat}{vs:List Value}(hlen:l'.length=l.length)(hfit:o+vs.length<=l.length * size t)(hne:l≠[])
 (h1:∀u∈vs,u.oneCell'=true)
 (hnew:∀i x,l'[i]? =some x->∀j d,(enc t x)[j]? =some d->(o<=i * size t+j/\∃u,vs[i * size t+j-o]? =some u/\Rd c.S w d u)\/((i * size t+j<o\/o+vs.length<=i * size t+j)/\∃(i':Nat)(x':den t),i'=i/\l[i']? =some x'/\(enc t x')[j]? =some d)):
 (∀q,q<vs.length->(w.cell? ⟨g,o+q,none⟩).isSome=true/\w.frozen? ⟨g,o+q,none⟩=false)/\
 OX (put ob id (some (.row e t l'))) U tp (w.setCells g o vs) c/\Tr ob U w c (put ob id (some (.row e t l'))) U (w.setCells g o vs) c:=by
 obtain⟨hUid,_,h0,⟨e1,_⟩|⟨g',cap',cur,hv,hF,hg,k1,k2,k3,k4⟩⟩:=h.objs id _ hid
 ·exact absurd e1 hne
 rw[hH] at hv
 injection hv with e1 e2 e3
 injection e1 with e1
 injection e1 with e1
 subst e1 e2 e3
 have hf:=h.fb id _ hid rfl g ((hF g).2 rfl)
 obtain⟨o1,o2,o3,o4,o5⟩:=setCells_os g vs o w
 have hfit':o+vs.length<=cur.size:=by
  rw[k3]
  exact Nat.le_trans hfit (Nat.mul_le_mul_right _ k1)
 refine⟨λq hq=>⟨by rw[cell_row hg,Array.getElem?_eq_getElem (by omega)];rfl,by simp[World.frozen?,hg]⟩,?_⟩
 refine h.upd id (.row e t l') (λi=>i≠id) (λ_ h=>h) hUid (put_same _ _ _) (λi y hi e=>⟨e,by rw[put_ne _ _ e] at hi;exact hi⟩) (λe=>e rfl) (λ_ _=>⟨rfl,rfl⟩) (λ_ _ h=>h) (λ_ _ h=> .inl h) (λb' o hb'=>by rw[o4];exact h.sb b' o hb') rfl o1 o2 o3 (Nat.le_of_eq o4.symm)
  (λk hk hn=>o5 k (λe=>hn id _ hid rfl (λe=>e rfl) (by rw[e];exact (hF g).2 rfl))) ?_ trivial (λ_ k hk=> .inl ⟨id,_,hid,rfl,λe=>e rfl,hk⟩) (λ_ k hk=>by rw[o4];exact⟨(h.fb id _ hid rfl k hk).1,(h.fb id _ hid rfl k hk).2.1⟩)
 have hrd:∀{d:D}{u:Value},Rd c.S w d u->Rd c.S (w.setCells g o vs) d u:=λhr=>hr.mono (λ_ _ h=>h) (λb' o hs=>World.cell?_of_block (o5 b' (λe=>hf.2.1 o (e ▸ hs))))
 have hg':w.heap[g]? =some (.cells cur.toList.toArray e (0,0)):=by simpa using hg
 have hh:=heap_setCells_at g vs o w cur.toList e (0,0) hg' (by simpa using hfit')
 refine⟨h0,.inr ⟨g,cap,_,by rw[hH,hlen],hF,hh,by rw[hlen];exact k1,k2,?_,λq y hq p d hd=> ?_⟩⟩
 ·rw[List.size_toArray,spl_len (by simpa using hfit')];simpa using k3
 ·rw[List.getElem?_toArray,spl_get (by simpa using hfit')]
  rcases hnew q y hq p d hd with⟨a1,u,a2,a3⟩|⟨a1,i',x',a0,a2,a3⟩
  ·have hl:q * size t+p-o<vs.length:=(List.getElem?_eq_some_iff.1 a2).1
   refine⟨u,?_,h1 u (List.mem_of_getElem? a2),hrd a3⟩
   rw[if_neg (by omega),if_pos (by omega)];exact a2
  ·subst a0
   obtain⟨u,u1,u2,u3⟩:=k4 i' x' a2 p d a3
   refine⟨u,?_,u2,hrd u3⟩
   rcases a1 with c1|c1
   ·rw[if_pos c1];simpa using u1
   ·rw[if_neg (by omega),if_neg (by omega)];simpa using u1
theorem put_self {ob:Obs}{id:Nat}{x:Option Ob}(h:ob id=x):put ob id x=ob:=by
 funext i
 by_cases e:i=id
 ·subst e;rw[put_same,h]
 ·rw[put_ne _ _ e]
theorem row_handle {ob:Obs}{U:Nat->Prop}{tp:Bool}{w:World}{c:Cx}(h:OX ob U tp w c){id:Nat}{e:TypeId}{t:Ty}{l:List (den t)}(hid:ob id=some (.row e t l)):∃ad cap,c.H id= .slice ad l.length cap/\l.length<=cap/\(l=[]\/∃g,ad=some ⟨g,0,none⟩):=by
 obtain⟨_,_,h0,⟨e1,⟨ad,e2⟩,e3⟩|⟨g',cap',cur,hv,hF,hg,k1,k2,k3,k4⟩⟩:=h.objs id _ hid
 ·exact⟨ad,0,by rw[e2,e1];rfl,by rw[e1];exact Nat.le_refl _,.inl e1⟩
 ·exact⟨_,_,hv,k1,.inr ⟨g',rfl⟩⟩
theorem ovr_one (ob:Obs)(id:Nat)(x:Option Ob):ovr ob [(id,x)]=put ob id x:=by rw[ovr_cons,ovr_nil]
theorem castL_same' (t:Ty)(l:List (den t)):castL t t l=some l:=by
 have hb:∀t:Ty,t.beq t=true:=λt=>by
  induction t with
  |int _=>simp[Ty.beq]
  |bool=>rfl
  |str=>rfl
  |sl t ih=>exact ih
  |st _=>exact Nat.beq_refl _
 unfold castL
 rw[dif_pos (hb t)]
def isClear:Op->Option (TypeId×Operand)
 | .call ⟨.builtin .clear,args,tys⟩=>match args.toList,tys.toList with
  |[x],[t]=>some (t,x)
  |_,_=>none
 |_=>none
theorem isClear_spec {o:Op}{t:TypeId}{x:Operand}(h:isClear o=some (t,x)):o= .call ⟨.builtin .clear,#[x],#[t]⟩:=by
 unfold isClear at h
 split at h
 ·rename_i args tys
  split at h
  ·rename_i x' t' ha ht
   injection h with h
   injection h with h1 h2
   subst h1 h2
   rw[arr1 ha,arr1 ht]
  ·cases h
 ·cases h
def eClear (P:Program)(m:Mem)(t:TypeId):SV->Option ERes
 | .sub id sz a b=>match m.ob id,elemOf P t with
  |some (.row e ty l),some e'=>match zeroOf P e' with
   |some zs=>match dec ty (zs.map D.v) with
    |some z=>bif Nat.beq sz (size ty)&&Nat.beq zs.length (size ty) then some ⟨[],[],.d (.v (.tuple #[])),[(id,some (.row e ty (l.take a.toNat++(List.replicate (b.toNat-a.toNat) z++l.drop b.toNat))))],0⟩ else none
    |none=>none
   |none=>none
  |_,_=>none
 |_=>none
theorem zeroCells_list (z:Array Value)(n:Nat):(Builtin.zeroCells z n).toList=(List.range (n * z.size)).map λi=>z[i % z.size]! :=by
 simp[Builtin.zeroCells]
theorem eClear_ok {o:Oper}{m:Mem}{ρ:Operand->SV}{k:Nat}{t:TypeId}{x:Operand}{R:ERes}(he:o.op= .call ⟨.builtin .clear,#[x],#[t]⟩)(h:eClear P m t (ρ x)=some R):EffR P o m ρ k R:=by
 intro ac w c hr hk hp K Q hK
 have hx:=hr.op x
 unfold eClear at h
 split at h
 ·rename_i id sz a b hxe
  rw[hxe] at hx
  split at h
  ·rename_i e ty l e' hob hel
   split at h
   ·rename_i zs hz
    split at h
    ·rename_i z hdz
     cases hb:(Nat.beq sz (size ty)&&Nat.beq zs.length (size ty)) with
     |false=>rw[hb] at h;cases h
     |true=>
      rw[hb] at h
      injection h with h
      subst h
      obtain⟨b1,b2⟩:=Bool.and_eq_true_iff.1 hb
      have b1:=beq_eq b1
      have b2:=beq_eq b2
      subst b1
      obtain⟨ad,cap,hH,hcap,had⟩:=row_handle hr.ox hob
      obtain⟨ad',n',cap',hH',hu,hab1,hab2,hab3⟩:=srel_sub hx
      rw[hH] at hH'
      injection hH' with q1 q2 q3
      subst q1 q2 q3
      obtain⟨inf,hund,hinf,hsz⟩:=elemOf_spec hel
      obtain⟨i2,z2,hi2,hz2,hzc0,hone⟩:=zeroOf_spec hz
      have hzc:=hzc0
      have eob:∀l',ovr m.ob [(id,some (.row e ty l'))]=put m.ob id (some (.row e ty l')):=λl'=>ovr_one _ _ _
      by_cases hlt:a.toNat<b.toNat
      ·have hne:l≠[]:=by intro e0;rw[e0] at hab3;simp at hab3;omega
       obtain⟨g,rfl⟩:=had.resolve_left hne
       rw[subV_len,if_neg (by omega)] at hu
       have hzsize:z2.cells.size=size ty:=by rw[<-b2,<-hzc,Array.length_toList]
       have hcl:=zeroCells_list z2.cells (b.toNat-a.toNat)
       have hvl:(Builtin.zeroCells z2.cells (b.toNat-a.toNat)).toList.length=(b.toNat-a.toNat) * size ty:=by rw[hcl];simp[hzsize]
       have hpos:0<size ty:=(hr.ox.objs id _ hob).2.2.1
       have hvget:∀q,q<(b.toNat-a.toNat) * size ty->(Builtin.zeroCells z2.cells (b.toNat-a.toNat)).toList[q]? =zs[q % size ty]? :=λq hq=>by
        have hm:q % size ty<size ty:=Nat.mod_lt _ hpos
        rw[hcl,<-hzc,List.getElem?_map,List.getElem?_range (by rw[hzsize];exact hq)]
        simp only[Option.map_some,hzsize]
        rw[getElem!_pos _ _ (by rw[hzsize];exact hm)]
        rw[Array.getElem?_toList,Array.getElem?_eq_getElem (by rw[hzsize];exact hm)]
       have hzin:∀q,q<(b.toNat-a.toNat) * size ty->∃u,zs[q % size ty]? =some u:=λq hq=>⟨_,List.getElem?_eq_getElem (by rw[b2];exact Nat.mod_lt _ hpos)⟩
       have hv1:∀u∈(Builtin.zeroCells z2.cells (b.toNat-a.toNat)).toList,u.oneCell'=true:=λu hu=>by
        obtain⟨q,hq⟩:=List.getElem?_of_mem hu
        have hql:q<(b.toNat-a.toNat) * size ty:=by rw[<-hvl];exact (List.getElem?_eq_some_iff.1 hq).1
        rw[hvget q hql] at hq
        have:=List.mem_of_getElem? hq
        exact hone u (by first|exact this|(rw[hzc];exact this)|(rw[<-hzc] at this;exact this))
       obtain⟨d1,d2⟩:=dec_rd hdz
       have hbl:b.toNat<=l.length:=by omega
       have hlen:(l.take a.toNat++(List.replicate (b.toNat-a.toNat) z++l.drop b.toNat)).length=l.length:=by simp;omega
       have hfit:a.toNat * size ty+(Builtin.zeroCells z2.cells (b.toNat-a.toNat)).toList.length<=l.length * size ty:=by
        rw[hvl,<-Nat.add_mul];exact Nat.mul_le_mul_right _ (by omega)
       obtain⟨r0,r1,r2⟩:=hr.ox.writeRow hob hH hlen hfit hne hv1 (λi y hi j d hd=>by
        have hj:=enc_lt hd
        by_cases c1:i<a.toNat
        ·right
         rw[List.getElem?_append_left (by simp;omega),List.getElem?_take,if_pos c1] at hi
         exact⟨.inl (row_lt c1 hj),i,y,rfl,hi,hd⟩
        ·rw[List.getElem?_append_right (by simp;omega)] at hi
         rw[show i-(l.take a.toNat).length=i-a.toNat by simp;omega] at hi
         by_cases c2:i<b.toNat
         ·left
          rw[List.getElem?_append_left (by simp;omega),List.getElem?_replicate,if_pos (by omega)] at hi
          injection hi with hi
          subst hi
          have e1:i * size ty=a.toNat * size ty+(i-a.toNat) * size ty:=by rw[<-Nat.add_mul];congr 1;omega
          have hq:(i-a.toNat) * size ty+j<(b.toNat-a.toNat) * size ty:=row_lt (by omega) hj
          refine⟨by omega,?_⟩
          rw[show i * size ty+j-a.toNat * size ty=(i-a.toNat) * size ty+j by omega,hvget _ hq,(div_mod_at hj).2]
          obtain⟨u,hu⟩:∃u,zs[j]? =some u:=⟨_,List.getElem?_eq_getElem (by rw[b2];exact hj)⟩
          exact⟨u,hu,d2 j d (.v u) hd (by rw[List.getElem?_map,hu];rfl) (.v u)⟩
         ·right
          rw[List.getElem?_append_right (by simp;omega),List.length_replicate,List.getElem?_drop,show b.toNat+(i-a.toNat-(b.toNat-a.toNat))=i by omega] at hi
          refine⟨.inr ?_,i,y,rfl,hi,hd⟩
          rw[hvl,<-Nat.add_mul,show a.toNat+(b.toNat-a.toNat)=b.toNat by omega]
          exact Nat.le_trans (Nat.mul_le_mul_right _ (by omega)) (Nat.le_add_right _ _))
       have hst:=run_storeCells_cells (P:=P) g (a.toNat * size ty) (Builtin.zeroCells z2.cells (b.toNat-a.toNat)).toList 0 w (λq hq=>by have:=(r0 q hq).1;simpa using this) (λq hq=>by have:=(r0 q hq).2;simpa using this) hv1
       rw[Nat.add_zero] at hst
       have hnz:b.toNat-a.toNat≠0:=by omega
       obtain⟨nn,hnn⟩:∃nn,b.toNat-a.toNat=nn+1:=⟨b.toNat-a.toNat-1,by omega⟩
       have hst2:(storeCells {block:=g,off:=a.toNat * size ty,spot:=none} (Builtin.zeroCells z2.cells (nn+1)).toList).run P w= .ok () (w.setCells g (a.toNat * size ty) (Builtin.zeroCells z2.cells (b.toNat-a.toNat)).toList):=by rw[<-hnn];exact hst
       refine wp_value (v:= .tuple #[]) (w':=w.setCells g (a.toNat * size ty) (Builtin.zeroCells z2.cells (b.toNat-a.toNat)).toList) ?_ (hK _ c _ ?_ ?_ (.d _ _ (.v _)) trivial trivial)
       ·rw[hnn] at hu
        simp[execOp,he,resolve,invoke,builtin,hu,Builtin.clear_,run_underlying hund,zeroValue,typeInfo,hi2,hz2,addr_add,hst2]
       ·rw[eob,addN_zero];exact r1
       ·rw[eob,addN_zero];exact r2
      ·have hz0:b.toNat-a.toNat=0:=by omega
       have hl':l.take a.toNat++(List.replicate (b.toNat-a.toNat) z++l.drop b.toNat)=l:=by
        rw[hz0,show b.toNat=a.toNat by omega];simp
       rw[subV_len,hz0] at hu
       refine wp_value (v:= .tuple #[]) (w':=w) ?_ (hK _ c _ ?_ ?_ (.d _ _ (.v _)) trivial trivial)
       ·cases had2:(if cap=a.toNat then ad else ad.map (·.add (a.toNat * size ty)))<;>rw[had2] at hu<;>simp[execOp,he,resolve,invoke,builtin,hu,Builtin.clear_,run_underlying hund]
       ·rw[eob,hl',put_self hob,addN_zero];exact hr.ox
       ·rw[eob,hl',put_self hob,addN_zero];exact .refl
    ·cases h
   ·cases h
  ·cases h
 ·cases h
def eAppIn (P:Program)(m:Mem)(t:TypeId):SV->SV->Option ERes
 | .sub id sz a b,.sub id' sz' a' b'=>match m.ob id with
  |some (.row e ty l)=>match appTy P t (size ty) with
   |some (e',bs)=>bif Nat.beq id id'&&Nat.beq sz (size ty)&&Nat.beq sz' (size ty) then some ⟨[.fr a b a'],[],.sub id sz 0 (b+(b'-a')),[(id,some (.row e ty (l.take b.toNat++(sub l a' b'++l.drop (b.toNat+(b'.toNat-a'.toNat))))))],0⟩ else none
   |none=>none
  |_=>none
 |_,_=>none
theorem eAppIn_ok {o:Oper}{m:Mem}{ρ:Operand->SV}{k:Nat}{t:TypeId}{x y:Operand}{R:ERes}(he:o.op= .call ⟨.builtin .append,#[x,y],#[t,t]⟩)(h:eAppIn P m t (ρ x) (ρ y)=some R):EffR P o m ρ k R:=by
 intro ac w c hr hk hp K Q hK
 have hx:=hr.op x
 have hxu:=hr.iu x
 have hy:=hr.op y
 unfold eAppIn at h
 split at h
 ·rename_i id sz a b id' sz' a' b' hxe hye
  rw[hxe] at hx hxu
  rw[hye] at hy
  split at h
  ·rename_i e ty l hob
   split at h
   ·rename_i e' bs hat
    cases hb:(Nat.beq id id'&&Nat.beq sz (size ty)&&Nat.beq sz' (size ty)) with
    |false=>rw[hb] at h;cases h
    |true=>
     rw[hb] at h
     injection h with h
     subst h
     simp only[Bool.and_eq_true] at hb
     have b1:=beq_eq hb.1.1
     have b2:=beq_eq hb.1.2
     have b3:=beq_eq hb.2
     subst b1 b2 b3
     obtain⟨⟨p1,p2⟩,_⟩:=hp
     subst p1
     obtain⟨i,z,t1,t2,t3,t4,t5,t6,t7,t8⟩:=appTy_spec hat
     have hrow:rowOf m id=some ⟨ty,l⟩:=by unfold rowOf;rw[hob]
     have hsrc0:srcOf m ty (.sub id (size ty) a' b')=some (sub l a' b'):=by
      simp[srcOf,hrow,castL_same']
     obtain⟨⟨fy,hsrc,hy1,hy2⟩,hl2⟩:=srcOf_ok (P:=P) hsrc0 hr.ox hy t1 (by omega)
     obtain⟨ad,cap,hH,hcap,had⟩:=row_handle hr.ox hob
     obtain⟨ad',n',cap',hH',hu,hab1,hab2,hab3⟩:=srel_sub hx
     rw[hH] at hH'
     injection hH' with q1 q2 q3
     subst q1 q2 q3
     obtain⟨ad',n',cap',hH',hv,hab1',hab2',hab3'⟩:=srel_sub hy
     rw[hH] at hH'
     injection hH' with q1 q2 q3
     subst q1 q2 q3
     have hsl:=sub_len (l:=l) ⟨hab1',hab2',hab3'⟩
     have eob:∀l',ovr m.ob [(id,some (.row e ty l'))]=put m.ob id (some (.row e ty l')):=λl'=>ovr_one _ _ _
     have hB:(b+(b'-a')).toNat=b.toNat+(b'.toNat-a'.toNat):=by omega
     rw[subV_len,Int.toNat_zero,Nat.zero_mul,Nat.sub_zero,Nat.sub_zero] at hu
     have e0:(if cap=0 then ad else ad.map (·.add 0))=ad:=by split<;>cases ad<;>simp[Addr.add]
     rw[e0] at hu
     have hres:SRel c w (.sub id (size ty) 0 (b+(b'-a'))) (.slice ad (b.toNat+(b'.toNat-a'.toNat)) cap):=by
      have:=SRel.sub (c:=c) (w:=w) id (size ty) 0 (b+(b'-a')) ad l.length cap hH (by omega)
      rw[subV_len,Int.toNat_zero,Nat.zero_mul,Nat.sub_zero,Nat.sub_zero,e0,hB] at this
      exact this
     by_cases hl0:l=[]
     ·have hb0:b.toNat=0:=by rw[hl0] at hab3;simp at hab3;omega
      have hm0:(sub l a' b').length=0:=by rw[hsl];rw[hl0] at hab3';simp at hab3';omega
      have hs0:sub l a' b'=[]:=List.eq_nil_of_length_eq_zero hm0
      rw[hm0] at hsrc
      simp only[Nat.zero_mul,List.range_zero,List.map_nil] at hsrc
      have hm1:b'.toNat-a'.toNat=0:=by omega
      have hl':l.take b.toNat++(sub l a' b'++l.drop (b.toNat+(b'.toNat-a'.toNat)))=l:=by rw[hs0,hm1,hl0];simp
      have hrun:=run_append_nothing (P:=P) w t t o.type e' i t1 t2 ad b.toNat cap (by omega) (ac.eval y) (by rw[t5];exact hsrc)
      rw[hb0] at hu
      refine wp_value (v:= .slice ad 0 cap) (w':=w) ?_ (hK _ c _ ?_ ?_ ?_ (.inl hxu) trivial)
      ·rw[hb0] at hrun
       simp[execOp,he,resolve,invoke,builtin,hu,hrun]
      ·rw[eob,hl',put_self hob,addN_zero];exact hr.ox
      ·rw[eob,hl',put_self hob,addN_zero];exact .refl
      ·rw[hb0,hm1] at hres;exact hres
     ·obtain⟨g,rfl⟩:=had.resolve_left hl0
      have hvl:((List.range ((sub l a' b').length * size ty)).map (λq=>fy (q/size ty) (q % size ty))).length=(b'.toNat-a'.toNat) * size ty:=by simp[hsl]
      have hv1:∀u∈((List.range ((sub l a' b').length * size ty)).map (λq=>fy (q/size ty) (q % size ty))),u.oneCell'=true:=by
       have:=hsrc.one;exact this
      have hlen:(l.take b.toNat++(sub l a' b'++l.drop (b.toNat+(b'.toNat-a'.toNat)))).length=l.length:=by simp only[List.length_append,List.length_take,List.length_drop,hsl];omega
      have hfit:b.toNat * size ty+((List.range ((sub l a' b').length * size ty)).map (λq=>fy (q/size ty) (q % size ty))).length<=l.length * size ty:=by
       rw[hvl,<-Nat.add_mul];exact Nat.mul_le_mul_right _ (by omega)
      obtain⟨r0,r1,r2⟩:=hr.ox.writeRow hob hH hlen hfit hl0 hv1 (λi y hi j d hd=>by
       have hj:=enc_lt hd
       by_cases c1:i<b.toNat
       ·right
        rw[List.getElem?_append_left (by simp;omega),List.getElem?_take,if_pos c1] at hi
        exact⟨.inl (row_lt c1 hj),i,y,rfl,hi,hd⟩
       ·rw[List.getElem?_append_right (by simp;omega)] at hi
        rw[show i-(l.take b.toNat).length=i-b.toNat by simp;omega] at hi
        by_cases c2:i<b.toNat+(b'.toNat-a'.toNat)
        ·left
         rw[List.getElem?_append_left (by rw[hsl];omega)] at hi
         have e1:i * size ty=b.toNat * size ty+(i-b.toNat) * size ty:=by rw[<-Nat.add_mul];congr 1;omega
         refine⟨by omega,fy (i-b.toNat) j,?_,hy2 _ y j d hi hd⟩
         rw[show i * size ty+j-b.toNat * size ty=(i-b.toNat) * size ty+j by omega,getElem?_flat (row_lt (by rw[hsl];omega) hj),(div_mod_at hj).1,(div_mod_at hj).2]
        ·right
         rw[List.getElem?_append_right (by rw[hsl];omega),hsl,List.getElem?_drop,show b.toNat+(b'.toNat-a'.toNat)+(i-b.toNat-(b'.toNat-a'.toNat))=i by omega] at hi
         refine⟨.inr ?_,i,y,rfl,hi,hd⟩
         rw[hvl,<-Nat.add_mul]
         exact Nat.le_trans (Nat.mul_le_mul_right _ (by omega)) (Nat.le_add_right _ _))
      have hrun:=run_append_room_src (P:=P) (w:=w) t t o.type e' i t1 t2 g 0 b.toNat cap (ac.eval y) (sub l a' b').length _ (by rw[t5];exact hsrc) (by rw[hsl];omega) (λq hq=>by rw[t5,Nat.zero_add];exact (r0 q hq).1) (λq hq=>by rw[t5,Nat.zero_add];exact (r0 q hq).2)
      rw[t5,Nat.zero_add,hsl] at hrun
      rw[<-hsl] at hrun
      refine wp_value (v:= .slice (some ⟨g,0,none⟩) (b.toNat+(b'.toNat-a'.toNat)) cap) (w':=w.setCells g (b.toNat * size ty) ((List.range ((sub l a' b').length * size ty)).map (λq=>fy (q/size ty) (q % size ty)))) ?_ (hK _ c _ ?_ ?_ ?_ (.inl hxu) trivial)
      ·rw[hsl] at hrun ⊢
       simp[execOp,he,resolve,invoke,builtin,hu,hrun]
      ·rw[eob,addN_zero];exact r1
      ·rw[eob,addN_zero];exact r2
      ·have:=SRel.sub (c:=c) (w:=w.setCells g (b.toNat * size ty) ((List.range ((sub l a' b').length * size ty)).map (λq=>fy (q/size ty) (q % size ty)))) id (size ty) 0 (b+(b'-a')) (some ⟨g,0,none⟩) l.length cap hH (by omega)
       rw[subV_len,Int.toNat_zero,Nat.zero_mul,Nat.sub_zero,Nat.sub_zero,e0,hB] at this
       exact this
   ·cases h
  ·cases h
 ·cases h
def pSliceX (P:Program)(m:Mem)(ρ:Operand->SV)(t:TypeId)(x:SV)(lo hi:Option Operand):Option PRes:=
 match elemOf P t,optI ρ lo,optI ρ hi with
 |some e,some lo,some hi=>match x with
  | .sub id sz a b=>match rowOf m id with
   |some ⟨ty,l⟩=>bif Nat.beq (tsz P e) sz then okp (.sx a (lo.getD 0) (hi.getD b) l.length) (.sub id sz (lo.getD 0) (hi.getD b)) else none
   |none=>none
  |_=>none
 |_,_,_=>none
theorem slice_run2 {ρ:Operand->SV}{t e:TypeId}(he:elemOf P t=some e){lo hi:Option Operand}{zlo zhi:Option Int}(hlo:optI ρ lo=some zlo)(hhi:optI ρ hi=some zhi){a:Act}{w:World}{c:Cx}(hop:∀x,SRel c w (ρ x) (a.eval x)){ad:Option Addr}{n cap:Nat}(hc:n<=cap)
 (hb:SubOK (zlo.getD 0) (zhi.getD (n:Nat)) (cap:Nat)):(Instr.sliceAt t (.slice ad n cap) (lo.map a.eval) (hi.map a.eval) none).run P w= .ok (subV (tsz P e) (zlo.getD 0).toNat (zhi.getD (n:Nat)).toNat (.slice ad n cap)) w:=by
 obtain⟨inf,hu,hi',hs⟩:=elemOf_spec he
 have key:∀{o:Option Operand}{z:Option Int},optI ρ o=some z->o.map a.eval=z.map (λz=>Value.int .i64 z):=λ{o z} h=>by
  cases o with
  |none=>simp only[optI,Option.some.injEq] at h;subst h;rfl
  |some x=>
   have hx:=hop x
   have h:intS (ρ x)=some z:=h
   unfold intS at h
   split at h
   ·rename_i z' hz
    injection h with h
    subst h
    rw[hz] at hx
    simp[srel_v hx]
   ·cases h
 rw[key hlo,key hhi]
 obtain⟨h1,h2,h3⟩:=hb
 cases zlo with
 |none=>
  cases zhi with
  |none=>simp at h1 h2 h3;simp[Instr.sliceAt,Instr.slice,run_underlying hu,Instr.sliceBounds,sizeOf,typeInfo,hi',subV]
  |some q=>
   simp at h1 h2 h3
   have b1:0<=q/\q<=(cap:Int):=by omega
   simp[Instr.sliceAt,Instr.slice,run_underlying hu,Instr.sliceBounds,Instr.sliceBound,asIntOf,b1,sizeOf,typeInfo,hi',subV]
 |some p=>
  cases zhi with
  |none=>
   simp at h1 h2 h3
   have b2:0<=p/\p<=(n:Int):=by omega
   simp[Instr.sliceAt,Instr.slice,run_underlying hu,Instr.sliceBounds,Instr.sliceBound,asIntOf,b2,sizeOf,typeInfo,hi',hs,subV]
  |some q=>
   simp at h1 h2 h3
   have b1:0<=q/\q<=(cap:Int):=by omega
   have b2:0<=p/\p<=((q.toNat:Nat):Int):=by omega
   simp[Instr.sliceAt,Instr.slice,run_underlying hu,Instr.sliceBounds,Instr.sliceBound,asIntOf,b1,b2,sizeOf,typeInfo,hi',hs,subV]
   exact λhh=>absurd hh (by omega)
theorem rowOf_handle {m:Mem}{w:World}{c:Cx}(ox:OX m.ob m.U m.tp w c){id:Nat}{t:Ty}{l:List (den t)}(h:rowOf m id=some ⟨t,l⟩):∃ad cap,c.H id= .slice ad l.length cap/\l.length<=cap:=by
 obtain⟨ad,cap,hv,hc,hm,_⟩:=rowOf_rel ox h
 exact⟨ad,cap,hv,hc⟩
theorem pSliceX_run {m:Mem}{ρ:Operand->SV}{t:TypeId}{x:Operand}{lo hi:Option Operand}{R:PRes}(h:pSliceX P m ρ t (ρ x) lo hi=some R){a:Act}{w:World}{c:Cx}(hr:Rels m ρ a w c)(hp:allC R.ps):
 ∃v,(Instr.sliceAt t (a.eval x) (lo.map a.eval) (hi.map a.eval) none).run P w= .ok v w/\SRel c w R.r v/\R.r.inU m.U/\allL R.fs:=by
 unfold pSliceX at h
 have hx:=hr.op x
 have hxu:=hr.iu x
 split at h
 ·rename_i e zlo zhi he hlo hhi
  split at h
  ·rename_i id sz a0 b0 hxe
   rw[hxe] at hx hxu
   split at h
   ·rename_i ty l hrow
    cases hb:Nat.beq (tsz P e) sz with
    |false=>rw[hb] at h;cases h
    |true=>
     rw[hb] at h
     have hb:=beq_eq hb
     cases okp_eq h
     obtain⟨⟨p0,p1,p2,p3⟩,_⟩:=hp
     subst p0
     obtain⟨ad,cap,hH,hcap⟩:=rowOf_handle hr.ox hrow
     obtain⟨ad',n',cap',hH',hu,hab1,hab2,hab3⟩:=srel_sub hx
     rw[hH] at hH'
     injection hH' with q1 q2 q3
     subst q1 q2 q3
     rw[subV_len,Int.toNat_zero,Nat.zero_mul,Nat.sub_zero,Nat.sub_zero] at hu
     have e0:(if cap=0 then ad else ad.map (·.add 0))=ad:=by split<;>cases ad<;>simp[Addr.add]
     rw[e0] at hu
     have hbn:((b0.toNat:Nat):Int)=b0:=Int.toNat_of_nonneg hab2
     refine⟨_,by rw[hu];exact slice_run2 he hlo hhi hr.op (by omega) (n:=b0.toNat) (cap:=cap) (by rw[hbn];exact⟨p1,p2,by omega⟩),?_,hxu,trivial⟩
     rw[hbn,hb]
     have:=SRel.sub (c:=c) (w:=w) id sz (zlo.getD 0) (zhi.getD b0) ad l.length cap hH ⟨p1,p2,p3⟩
     have e2:subV sz (zlo.getD 0).toNat (zhi.getD b0).toNat (.slice ad b0.toNat cap)=subV sz (zlo.getD 0).toNat (zhi.getD b0).toNat (.slice ad l.length cap):=rfl
     rw[e2];exact this
   ·cases h
  ·cases h
 ·cases h
def pSlice3 (P:Program)(m:Mem)(ρ:Operand->SV)(t:TypeId)(x:SV)(lo hi mx:Operand):Option PRes:=
 match elemOf P t,intS (ρ lo),intS (ρ hi),intS (ρ mx) with
 |some e,some (some lo),some (some hi),some (some mx)=>match x with
  | .os id=>match rowOf m id with
   |some ⟨ty,l⟩=>okp (.s3 lo hi mx l.length) .un
   |none=>none
  |_=>none
 |_,_,_,_=>none
theorem intS_rel {s:SV}{z:Int}(h:intS s=some (some z)){c:Cx}{w:World}{u:Value}(hs:SRel c w s u):u= .int .i64 z:=by
 unfold intS at h
 split at h
 ·rename_i z'
  injection h with h
  injection h with h
  subst h
  exact srel_v hs
 ·cases h
theorem pSlice3_run {m:Mem}{ρ:Operand->SV}{t:TypeId}{x lo hi mx:Operand}{R:PRes}(h:pSlice3 P m ρ t (ρ x) lo hi mx=some R){a:Act}{w:World}{c:Cx}(hr:Rels m ρ a w c)(hp:allC R.ps):
 ∃v,(Instr.sliceAt t (a.eval x) (some (a.eval lo)) (some (a.eval hi)) (some (a.eval mx))).run P w= .ok v w/\SRel c w R.r v/\R.r.inU m.U/\allL R.fs:=by
 unfold pSlice3 at h
 have hx:=hr.op x
 split at h
 ·rename_i e zlo zhi zmx he hlo hhi hmx
  split at h
  ·rename_i id hxe
   rw[hxe] at hx
   split at h
   ·rename_i ty l hrow
    cases okp_eq h
    obtain⟨⟨p0,p1,p2,p3⟩,_⟩:=hp
    obtain⟨ad,cap,hH,hcap⟩:=rowOf_handle hr.ox hrow
    rw[srel_os hx,hH,intS_rel hlo (hr.op lo),intS_rel hhi (hr.op hi),intS_rel hmx (hr.op mx)]
    obtain⟨inf,hu,hi',hs⟩:=elemOf_spec he
    have c1:0<=zmx/\zmx<=(cap:Int):=by omega
    have c2:0<=zhi/\zhi<=((zmx.toNat:Nat):Int):=by omega
    have c3:0<=zlo/\zlo<=((zhi.toNat:Nat):Int):=by omega
    have d2:zhi<=max zmx 0:=by omega
    have d3:zlo<=max zhi 0:=by omega
    exact⟨_,by simp only[Instr.sliceAt,Instr.slice,Instr.sliceBounds,Instr.sliceBound,asIntOf,sizeOf,typeInfo];simp[run_underlying hu,hi',c1,c2,c3,d2,d3];rfl,.un _,trivial,trivial⟩
   ·cases h
  ·cases h
 ·cases h
def isLen:Op->Option (TypeId×Operand)
 | .call ⟨.builtin .len,args,tys⟩=>match args.toList,tys.toList with
  |[x],[t]=>some (t,x)
  |_,_=>none
 |_=>none
theorem isLen_spec {o:Op}{t:TypeId}{x:Operand}(h:isLen o=some (t,x)):o= .call ⟨.builtin .len,#[x],#[t]⟩:=by
 unfold isLen at h
 split at h
 ·rename_i args tys
  split at h
  ·rename_i x' t' ha ht
   injection h with h
   injection h with h1 h2
   subst h1 h2
   rw[arr1 ha,arr1 ht]
  ·cases h
 ·cases h
def pLenX (P:Program)(t:TypeId):SV->Option PRes
 | .sub id sz a b=>match elemOf P t with
  |some _=>okf (0<=a/\a<=b) (bI .i64 (b-a))
  |none=>none
 |_=>none
theorem pLenX_run {t ty0:TypeId}{x:SV}{R:PRes}(h:pLenX P t x=some R){c:Cx}{w:World}{u:Value}(hx:SRel c w x u):∃v,(Builtin.len_ #[t] ty0 #[u]).run P w= .ok v w/\R.r= .d (.v v)/\allL R.fs:=by
 unfold pLenX at h
 split at h
 ·rename_i id sz a b
  split at h
  ·rename_i e he
   obtain⟨inf,hu',_⟩:=elemOf_spec he
   cases okf_eq h
   obtain⟨ad,n,cap,hH,hu,h1,h2,h3⟩:=srel_sub hx
   rw[subV_len] at hu
   have e1:((b.toNat-a.toNat:Nat):Int)=b-a:=by omega
   exact⟨_,by simp[Builtin.len_,goInt,run_underlying hu',hu];rfl,by rw[e1];rfl,⟨h1,h2⟩,trivial⟩
  ·cases h
 ·cases h
def popS (P:Program)(m:Mem)(ρ:Operand->SV)(o:Oper):Option PRes:=match o.op with
 | .slice t x lo hi none=>pSlice P m ρ t (ρ x) lo hi
 |_=>pop P m ρ o
theorem popS_run {m:Mem}{ρ:Operand->SV}{o:Oper}{R:PRes}(h:popS P m ρ o=some R){a:Act}{w:World}{c:Cx}(hr:RelsC m ρ a w c)(hp:allC R.ps):∃v,(execOp a.eval o).run P w= .ok (.value v) w/\SRel c w R.r v/\R.r.inU m.U/\allL R.fs:=by
 unfold popS at h
 split at h
 ·rename_i t x lo hi he
  obtain⟨v,h1,h2,h3,h4⟩:=pSlice_run (P:=P) h hr.toRels hp
  exact⟨v,by simp[execOp,he,h1],h2,h3,h4⟩
 ·exact pop_run h hr hp
theorem popS_pop {m:Mem}{ρ:Operand->SV}{o:Oper}{R:PRes}(h:popS P m ρ o=some R)(hs:∀t x lo hi,o.op≠.slice t x lo hi none):pop P m ρ o=some R:=by
 unfold popS at h
 split at h
 ·rename_i t x lo hi he
  exact absurd he (hs t x lo hi)
 ·exact h
def eopX (P:Program)(m:Mem)(ρ:Operand->SV)(o:Oper):Option ERes:=
 match o.op with
 | .slice t x lo hi none=>match ρ x with
  | .sub _ _ _ _=>liftE (pSliceX P m ρ t (ρ x) lo hi)
  |_=>none
 | .slice t x (some lo) (some hi) (some mx)=>liftE (pSlice3 P m ρ t (ρ x) lo hi mx)
 |_=>match isClear o.op with
  |some (t,x)=>eClear P m t (ρ x)
  |none=>match isAppend o.op with
   |some (t,x,y)=>eAppIn P m t (ρ x) (ρ y)
   |none=>match isLen o.op with
    |some (t,x)=>liftE (pLenX P t (ρ x))
    |none=>none
theorem eopX_ok {m:Mem}{ρ:Operand->SV}{k:Nat}{o:Oper}{R:ERes}(h:eopX P m ρ o=some R):EffR P o m ρ k R:=by
 unfold eopX at h
 split at h
 ·rename_i t x lo hi he
  split at h
  ·obtain⟨R',hR',rfl⟩:=liftE_eq h
   refine pure_ok rfl λa w c hrel hp=> ?_
   obtain⟨v,h1,h2,h3,h4⟩:=pSliceX_run (P:=P) hR' hrel.toRels hp
   exact⟨v,by simp[execOp,he,h1],h2,h3,h4⟩
  ·cases h
 ·rename_i t x lo hi mx he
  obtain⟨R',hR',rfl⟩:=liftE_eq h
  refine pure_ok rfl λa w c hrel hp=> ?_
  obtain⟨v,h1,h2,h3,h4⟩:=pSlice3_run (P:=P) hR' hrel.toRels hp
  exact⟨v,by simp[execOp,he,h1],h2,h3,h4⟩
 ·split at h
  ·rename_i t x hc
   exact eClear_ok (isClear_spec hc) h
  ·split at h
   ·rename_i t x y ha
    exact eAppIn_ok (isAppend_spec ha) h
   ·split at h
    ·rename_i t x hl
     have he:=isLen_spec hl
     obtain⟨R',hR',rfl⟩:=liftE_eq h
     refine pure_ok rfl λa w c hrel hp=> ?_
     obtain⟨v,h1,h2,h3⟩:=pLenX_run (P:=P) (ty0:=o.type) hR' (hrel.toRels.op x)
     exact⟨v,by simp[execOp,he,resolve,invoke,builtin,h1],by rw[h2];exact v_srel v,by rw[h2];trivial,h3⟩
    ·cases h
def eop1 (P:Program)(τ:TypeId->Option Ty)(m:Mem)(ρ:Operand->SV)(k:Nat)(o:Oper):Option ERes:=match eopX P m ρ o with
 |some R=>some R
 |none=>eop0 P τ m ρ k o
theorem eop1_ok {τ:TypeId->Option Ty}{m:Mem}{ρ:Operand->SV}{k:Nat}{o:Oper}{R:ERes}(h:eop1 P τ m ρ k o=some R):EffR P o m ρ k R:=by
 unfold eop1 at h
 split at h
 ·rename_i R' hR'
  injection h with h
  subst h
  exact eopX_ok hR'
 ·exact eop0_ok h
theorem OX.updN {ob ob':Obs}{U U':Nat->Prop}{tp:Bool}{w w':World}{c c':Cx}(h:OX ob U tp w c)(K keep:Nat->Prop)
 (hU:∀i,U i->U' i) (hob:∀i y,ob' i=some y->¬K i->keep i/\ob i=some y) (hkk:∀i,K i->¬keep i)
 (hH:∀i,U i->c'.H i=c.H i/\c'.F i=c.F i) (hS:∀b o,c.S b o->c'.S b o) (hSn:∀b o,c'.S b o->c.S b o\/(∃i y,ob i=some y/\y.own=true/\¬keep i/\c.F i b)\/w.heap.size<=b) (hSb:∀b o,c'.S b o->b<w'.heap.size)
 (hT:c'.T=c.T) (hos:w'.os=w.os) (htape:w'.tape=w.tape) (hout:w'.output=w.output) (hsz:w.heap.size<=w'.heap.size)
 (hblk:∀b,b<w.heap.size->(∀i y,ob i=some y->y.own=true->¬keep i->¬c.F i b)->w'.heap[b]? =w.heap[b]?)
 (hat:∀i x,K i->ob' i=some x->U' i/\x.inU U'/\ObAt w' c' i x)
 (hF:∀i x,K i->ob' i=some x->x.own=true->∀b,c'.F i b->((∃j y,ob j=some y/\y.own=true/\¬keep j/\c.F j b)\/w.heap.size<=b)/\b<w'.heap.size/\∀o,¬c'.S b o)
 (hdj:∀i j x y,K i->K j->ob' i=some x->ob' j=some y->x.own=true->y.own=true->i≠j->∀b,c'.F i b->¬c'.F j b):
 OX ob' U' tp w' c'/\Tr ob U w c ob' U' w' c':=by
 have hg:∀i y j z,ob i=some y->y.own=true->keep i->ob j=some z->z.own=true->¬keep j->∀b,c.F i b->¬c.F j b:=λi y j z hi oi ki hj oj kj b hb=>h.dj i j y z hi oi hj oj (λe=>kj (e ▸ ki)) b hb
 have hcell:∀b o,c.S b o->w'.cell? ⟨b,o,none⟩=w.cell? ⟨b,o,none⟩:=λb o hs=>World.cell?_of_block (hblk b (h.sb b o hs) λi y hi oi _ hf=>(h.fb i y hi oi b hf).2.1 o hs)
 have hgT:∀i y b,ob i=some y->y.own=true->c.F i b->c.T≠some b:=λi y b hi oi hf=>(h.fb i y hi oi b hf).2.2
 refine⟨⟨hSb,λi y hi=> ?_,λi y hi oi b hb=> ?_,λi j y z hi oi hj oj hne b hb hb'=> ?_,λT hTs=> ?_,λhtp=> ?_,λhtp=>hT.trans (h.tF htp)⟩,⟨hos,htape,hout,hsz,λT hTs=>by rw[hT];exact hTs,λT hTs=> .inl (by rw[<-hT];exact hTs),hU,hH,hS,λb o hb=> ?_,λb hb hf hTb=> ?_,λb hb=> ?_⟩⟩
 ·by_cases e:K i
  ·exact hat i y e hi
  ·obtain⟨k1,k2⟩:=hob i y hi e
   obtain⟨q1,q2,q3⟩:=h.objs i y k2
   refine⟨hU i q1,Ob.inU_mono hU q2,q3.keep q2 hS hcell (λT hTs=>by rw[hT];exact hTs) (λj hj=>(hH j hj).1) (hH i q1) λoi b hb=> ?_⟩
   exact hblk b (h.fb i y k2 oi b hb).1 λj z hj oj kj=>hg i y j z k2 oi k1 hj oj kj b hb
 ·by_cases e:K i
  ·obtain⟨a1,a2,a3⟩:=hF i y e hi oi b hb
   refine⟨a2,a3,?_⟩
   rw[hT]
   rcases a1 with⟨j,z,hj,oj,_,hf⟩|hn
   ·exact hgT j z b hj oj hf
   ·intro e;have:=(h.nT b e).1;omega
  ·obtain⟨k1,k2⟩:=hob i y hi e
   rw[(hH i (h.objs i y k2).1).2] at hb
   obtain⟨q1,q2,q3⟩:=h.fb i y k2 oi b hb
   refine⟨Nat.lt_of_lt_of_le q1 hsz,λo ho=> ?_,by rw[hT];exact q3⟩
   rcases hSn b o ho with e1|⟨j,z,hj,oj,kj,hf⟩|e1
   ·exact q2 o e1
   ·exact hg i y j z k2 oi k1 hj oj kj b hb hf
   ·omega
 ·have main:∀k x,K k->ob' k=some x->x.own=true->∀i y,ob' i=some y->y.own=true->¬K i->∀b,c'.F k b->¬c'.F i b:=λk x hk hx ox i y hi oi e b hb hb'=>by
   obtain⟨k1,k2⟩:=hob i y hi e
   rw[(hH i (h.objs i y k2).1).2] at hb'
   rcases (hF k x hk hx ox b hb).1 with⟨j,z,hj,oj,kj,hf⟩|hn
   ·exact hg i y j z k2 oi k1 hj oj kj b hb' hf
   ·have:=(h.fb i y k2 oi b hb').1;omega
  by_cases e:K i
  ·by_cases e2:K j
   ·exact hdj i j y z e e2 hi hj oi oj hne b hb hb'
   ·exact main i y e hi oi j z hj oj e2 b hb hb'
  ·by_cases e2:K j
   ·exact main j z e2 hj oj i y hi oi e b hb' hb
   ·obtain⟨k1,k2⟩:=hob i y hi e
    obtain⟨q1,q2⟩:=hob j z hj e2
    rw[(hH i (h.objs i y k2).1).2] at hb
    rw[(hH j (h.objs j z q2).1).2] at hb'
    exact h.dj i j y z k2 oi q2 oj hne b hb hb'
 ·rw[hT] at hTs
  obtain⟨q1,q2⟩:=h.nT T hTs
  refine⟨Nat.lt_of_lt_of_le q1 hsz,λo ho=> ?_⟩
  rcases hSn T o ho with e1|⟨j,z,hj,oj,kj,hf⟩|e1
  ·exact q2 o e1
  ·exact hgT j z T hj oj hf hTs
  ·omega
 ·obtain⟨T,hTs,ht⟩:=h.tpe htp
  refine⟨T,hT.trans hTs,ht.mono hS hcell (hblk T ht.lt λi y hi oi _ hf=>hgT i y T hi oi hf hTs)⟩
 ·rcases hSn b o hb with e1|⟨j,z,hj,oj,kj,hf⟩|e1
  ·exact .inl e1
  ·exact .inr (.inl ⟨j,z,hj,oj,hf⟩)
  ·exact .inr (.inr e1)
 ·exact hblk b hb λi y hi oi _ hf'=>hf ⟨i,y,hi,oi,hf'⟩
 ·obtain⟨i,y,hi,oi,hb⟩:=hb
  by_cases e:K i
  ·rcases (hF i y e hi oi b hb).1 with⟨j,z,hj,oj,_,hf⟩|hn
   ·exact .inl ⟨j,z,hj,oj,hf⟩
   ·exact .inr hn
  ·obtain⟨k1,k2⟩:=hob i y hi e
   rw[(hH i (h.objs i y k2).1).2] at hb
   exact .inl ⟨i,y,k2,oi,hb⟩
def memN:List Nat->Nat->Bool
 |[],_=>false
 |y::r,x=>Nat.beq y x||memN r x
theorem memN_of {l:List Nat}{x:Nat}(h:x∈l):memN l x=true:=by
 induction l with
 |nil=>cases h
 |cons y r ih=>
  show (Nat.beq y x||memN r x)=true
  rcases List.mem_cons.1 h with e|e
  ·subst e;simp
  ·rw[ih e,Bool.or_true]
def rowIs (m:Mem)(e':TypeId)(t':Ty):SV->Option (Nat×List (den t'))
 | .os id=>match m.ob id with
  |some (.row e t l)=>bif Nat.beq e' e then match castL t' t l with
   |some l'=>some (id,l')
   |none=>none
   else none
  |_=>none
 |_=>none
theorem rowIs_spec {m:Mem}{e':TypeId}{t':Ty}{s:SV}{id:Nat}{l:List (den t')}(h:rowIs m e' t' s=some (id,l)):s= .os id/\m.ob id=some (.row e' t' l):=by
 unfold rowIs at h
 split at h
 ·rename_i id0
  split at h
  ·rename_i e t l0 hob
   cases hb:Nat.beq e' e with
   |false=>rw[hb] at h;cases h
   |true=>
    rw[hb] at h
    have hb:=beq_eq hb
    subst hb
    simp only[cond_true] at h
    split at h
    ·rename_i l1 hc
     obtain⟨e1,e2⟩:=castL_eq hc
     subst e1
     have e2:=eq_of_heq e2
     subst e2
     injection h with h
     injection h with h1 h2
     subst h1 h2
     exact⟨rfl,hob⟩
    ·cases h
  ·cases h
 ·cases h
def datIs:SV->Option D
 | .d d=>some d
 |_=>none
def cellsD (m:Mem)(t:Ty):Nat->List SV->Option (List D×List Nat)
 |_,[]=>some ([],[])
 |j,s::r=>match cellsD m t (j+1) r with
  |some (ds,ids)=>match dcol t j with
   |none=>match datIs s with
    |some d=>some (d::ds,ids)
    |none=>none
   |some (e',t')=>match rowIs m e' t' s with
    |some (id,l)=>bif memN ids id then none else some (.sl t' l::ds,id::ids)
    |none=>none
  |none=>none
theorem cellsD_spec {m:Mem}{t:Ty}:∀{cs:List SV}{j0:Nat}{ds:List D}{ids:List Nat},cellsD m t j0 cs=some (ds,ids)->ds.length=cs.length/\
 (∀(q:Nat)(s:SV)(d:D),cs[q]? =some s->ds[q]? =some d->(dcol t (j0+q)=none/\s= .d d)\/∃(e':TypeId)(t':Ty)(id:Nat)(l:List (den t')),dcol t (j0+q)=some (e',t')/\s= .os id/\m.ob id=some (.row e' t' l)/\d= .sl t' l/\id∈ids)/\
 (∀(q q':Nat)(id:Nat),cs[q]? =some (.os id)->cs[q']? =some (.os id)->q=q')/\∀id∈ids,∃q:Nat,cs[q]? =some (.os id)
 |[],j0,ds,ids,h=>by
  injection h with h
  injection h with h1 h2
  subst h1 h2
  exact⟨rfl,λq s d hs=>by simp at hs,λq q' id hs=>by simp at hs,λid hi=>by cases hi⟩
 |s::r,j0,ds,ids,h=>by
  unfold cellsD at h
  split at h
  ·rename_i ds1 ids1 h1
   obtain⟨i1,i2,i3,i4⟩:=cellsD_spec h1
   have sh:∀q,j0+1+q=j0+(q+1):=λq=>by omega
   have i5:∀(q:Nat)(id:Nat),r[q]? =some (.os id)->id∈ids1:=λq id hq=>by
    have hql:q<ds1.length:=by rw[i1];exact (List.getElem?_eq_some_iff.1 hq).1
    rcases i2 q _ _ hq (List.getElem?_eq_getElem hql) with⟨_,e⟩|⟨_,_,id',_,_,e,_,_,hm⟩
    ·cases e
    ·injection e with e;rw[e];exact hm
   split at h
   ·rename_i hc
    split at h
    ·rename_i d hd
     injection h with h
     injection h with e1 e2
     subst e1 e2
     have hs:s= .d d:=by
      unfold datIs at hd
      split at hd
      ·injection hd with hd;rw[hd]
      ·cases hd
     subst hs
     refine⟨by simp[i1],λq s' d' hs hd=> ?_,λq q' id hq hq'=> ?_,λid hi=> ?_⟩
     ·cases q with
      |zero=>simp at hs hd;subst hs hd;exact .inl ⟨hc,rfl⟩
      |succ q=>simp at hs hd;rw[<-sh];exact i2 q s' d' hs hd
     ·cases q with
      |zero=>simp at hq
      |succ q=>
       cases q' with
       |zero=>simp at hq'
       |succ q'=>simp at hq hq';rw[i3 q q' id hq hq']
     ·obtain⟨q,hq⟩:=i4 id hi
      exact⟨q+1,by simpa using hq⟩
    ·cases h
   ·rename_i e' t' hc
    split at h
    ·rename_i id l hrow
     obtain⟨hs,hob⟩:=rowIs_spec hrow
     subst hs
     cases hb:memN ids1 id with
     |true=>rw[hb] at h;cases h
     |false=>
      rw[hb] at h
      injection h with h
      injection h with e1 e2
      subst e1 e2
      have hnm:id ∉ ids1:=λhm=>by rw[memN_of hm] at hb;cases hb
      refine⟨by simp[i1],λq s' d' hs hd=> ?_,λq q' id' hq hq'=> ?_,λid' hi=> ?_⟩
      ·cases q with
       |zero=>simp at hs hd;subst hs hd;exact .inr ⟨e',t',id,l,hc,rfl,hob,rfl,by simp⟩
       |succ q=>
        simp at hs hd
        rw[<-sh]
        rcases i2 q s' d' hs hd with h|⟨a1,a2,a3,a4,b1,b2,b3,b4,b5⟩
        ·exact .inl h
        ·exact .inr ⟨a1,a2,a3,a4,b1,b2,b3,b4,by simp[b5]⟩
      ·cases q with
       |zero=>
        cases q' with
        |zero=>rfl
        |succ q'=>
         simp at hq hq'
         subst hq
         exact absurd (i5 q' _ hq') hnm
       |succ q=>
        cases q' with
        |zero=>
         simp at hq hq'
         subst hq'
         exact absurd (i5 q _ hq) hnm
        |succ q'=>simp at hq hq';rw[i3 q q' id' hq hq']
      ·rcases List.mem_cons.1 hi with e|hi
       ·subst e;exact⟨0,rfl⟩
       ·obtain⟨q,hq⟩:=i4 id' hi
        exact⟨q+1,by simpa using hq⟩
    ·cases h
  ·cases h
theorem decA_slD {t t':Ty}{l:List (den t')}{x:den t}(h:decA t (.sl t' l)=some x):encA t x= .sl t' l:=by
 cases t with
 |int k=>cases h
 |bool=>cases h
 |str=>cases h
 |sl t=>
  have h:castL t t' l=some x:=h
  obtain⟨e1,e2⟩:=castL_eq h
  subst e1
  have e2:=eq_of_heq e2
  subst e2
  rfl
 |st s=>cases h
theorem decs_slD:∀{ts:List Ty}{ds:List D}{y:dens ts},decs ts ds=some y->∀(i:Nat)(t':Ty)(l:List (den t')),ds[i]? =some (.sl t' l)->(encs ts y)[i]? =some (.sl t' l)
 |[],[],y,_,i,t',l,h=>by simp at h
 |[],d::ds,y,h,i,t',l,_=>by simp[decs] at h
 |t::ts,[],y,h,i,t',l,hi=>by simp at hi
 |t::ts,d::ds,y,h,i,t',l,hi=>by
  unfold decs at h
  split at h
  ·rename_i x r h1 h2
   injection h with h
   subst h
   cases i with
   |zero=>
    simp at hi
    subst hi
    show some (encA t x)=_
    rw[decA_slD h1]
   |succ i=>simp at hi;exact decs_slD h2 i t' l hi
  ·cases h
theorem decOne_slD {t:Ty}{ds:List D}{x:den t}(hs:enc t x=[encA t x])(h:decOne t ds=some x){i:Nat}{t':Ty}{l:List (den t')}(hi:ds[i]? =some (.sl t' l)):(enc t x)[i]? =some (.sl t' l):=by
 unfold decOne at h
 split at h
 ·rename_i d
  cases i with
  |zero=>
   simp at hi
   subst hi
   rw[hs]
   show some (encA t x)=_
   rw[decA_slD h]
  |succ i=>simp at hi
 ·cases h
theorem dec_slD:∀{t:Ty}{ds:List D}{x:den t},dec t ds=some x->∀{i:Nat}{t':Ty}{l:List (den t')},ds[i]? =some (.sl t' l)->(enc t x)[i]? =some (.sl t' l)
 | .st s,ds,x,h,i,t',l,hi=>by
  have h:decSt s ds=some x:=h
  unfold decSt at h
  split at h
  ·rename_i y hy
   injection h with h
   subst h
   show (encs (flds s) (RE.un s (RE.mk s y)))[i]? =_
   rw[un_mk]
   exact decs_slD hy i t' l hi
  ·cases h
 | .int k,ds,x,h,i,t',l,hi=>decOne_slD rfl h hi
 | .bool,ds,x,h,i,t',l,hi=>decOne_slD rfl h hi
 | .str,ds,x,h,i,t',l,hi=>decOne_slD rfl h hi
 | .sl t,ds,x,h,i,t',l,hi=>decOne_slD rfl h hi
def noneU (ids:List Nat):List (Nat×Option Ob):=ids.map λi=>(i,none)
theorem ovr_noneU (ob:Obs):∀(ids:List Nat)(i:Nat)(x:Ob),ovr ob (noneU ids) i=some x->i ∉ ids/\ob i=some x
 |[],i,x,h=>⟨λ(h:i∈([]:List Nat))=>(List.not_mem_nil h).elim,h⟩
 |id::r,i,x,h=>by
  have h:ovr ob ((id,none)::noneU r) i=some x:=h
  rw[ovr_cons] at h
  by_cases e:i=id
  ·subst e;rw[put_same] at h;cases h
  ·rw[put_ne _ _ e] at h
   obtain⟨h1,h2⟩:=ovr_noneU ob r i x h
   refine⟨λhm=> ?_,h2⟩
   rcases List.mem_cons.1 hm with e'|e'
   ·exact e e'
   ·exact h1 e'
def eBuildD (P:Program)(τ:TypeId->Option Ty)(m:Mem)(ρ:Operand->SV)(k:Nat)(t:TypeId)(len:Nat)(xs:Array (Nat×Operand)):Option ERes:=match xs.toList with
 |[(_,x)]=>match elemOf P t with
  |some e=>match τ e,zeroOf P e,ρ x with
   |some ty,some zs,.agg cs0=>match fillS (rowPl (size ty) len) (zeroRow zs (len * size ty)) [(0,.agg cs0)] with
    |some cs=>match cellsD m ty 0 cs with
     |some (ds,ids)=>match dec ty ds with
      |some y=>bif Nat.beq len 1&&Nat.beq (tsz P e) (size ty)&&Nat.beq zs.length (size ty)&&Nat.ble 1 (size ty)&&Nat.ble (size ty) 16777216&&xs.toList.all (λp=>Nat.beq p.1 0) then some ⟨[],[],.os k,(k,some (.dp e ty [y]))::noneU ids,1⟩ else none
      |none=>none
     |none=>none
    |none=>none
   |_,_,_=>none
  |none=>none
 |_=>none
theorem eBuildD_ok {τ:TypeId->Option Ty}{o:Oper}{m:Mem}{ρ:Operand->SV}{k:Nat}{t:TypeId}{len:Nat}{xs:Array (Nat×Operand)}{R:ERes}(he:o.op= .buildSlice t len xs)(h:eBuildD P τ m ρ k t len xs=some R):EffR P o m ρ k R:=by
 intro a w c hr hk hp K Q hK
 unfold eBuildD at h
 split at h
 rotate_left
 ·cases h
 rename_i i0 x hxs
 split at h
 rotate_left
 ·cases h
 rename_i e hel
 split at h
 rotate_left
 ·cases h
 rename_i ty zs cs0 hty hz hx
 split at h
 rotate_left
 ·cases h
 rename_i cs hf
 split at h
 rotate_left
 ·cases h
 rename_i ds ids hcd
 split at h
 rotate_left
 ·cases h
 rename_i y hy
 cases hb:(Nat.beq len 1&&Nat.beq (tsz P e) (size ty)&&Nat.beq zs.length (size ty)&&Nat.ble 1 (size ty)&&Nat.ble (size ty) 16777216&&xs.toList.all (λp=>Nat.beq p.1 0)) with
 |false=>rw[hb] at h;cases h
 |true=>
 rw[hb] at h
 injection h with h
 subst h
 simp only[Bool.and_eq_true] at hb
 obtain⟨⟨⟨⟨⟨b0,b1⟩,b2⟩,b3⟩,b4⟩,b5⟩:=hb
 have b0:=beq_eq b0
 have b1:=beq_eq b1
 have b2:=beq_eq b2
 have b3:=Nat.le_of_ble_eq_true b3
 have b4:=Nat.le_of_ble_eq_true b4
 subst b0
 have hi0:i0=0:=by
  rw[hxs] at b5
  exact beq_eq (List.all_eq_true.1 b5 (i0,x) (by simp))
 subst hi0
 obtain⟨i,hu,hi,hsz⟩:=elemOf_spec hel
 obtain⟨i',z,hi',hz',hzc,h1⟩:=zeroOf_spec hz
 rw[hi] at hi'
 injection hi' with hi'
 subst hi'
 obtain⟨us,q1,q2,q3,q4⟩:=buildSlice_run (P:=P) (a:=a) (w:=w) (c:=c) (xs:=xs) (ss:=[(0,.agg cs0)]) hu hi (hsz.trans b1) hz' hzc h1 b2 (by omega) (by have:=congrArg List.length hxs;simpa using this) (λi p q hp hq=>by
  rw[hxs] at hq
  cases i with
  |zero=>
   simp at hp hq
   subst hp hq
   exact⟨rfl,hx ▸ hr.op x,λid e=>by cases e⟩
  |succ i=>simp at hp) hf
 obtain⟨d1,d2,d3,d4⟩:=cellsD_spec hcd
 simp only[Nat.zero_add] at d2
 obtain⟨y1,y2⟩:=dec_rd hy
 have hk':¬m.U k:=hk k (Nat.le_refl _) (by show k<k+1;omega)
 have hne:∀i,m.U i->i≠k:=λi hi e=>hk' (e ▸ hi)
 have hids:∀id∈ids,∃(q:Nat)(e':TypeId)(t':Ty)(l:List (den t')),cs[q]? =some (.os id)/\m.ob id=some (.row e' t' l):=λid hm=>by
  obtain⟨q,hq⟩:=d4 id hm
  have hql:q<ds.length:=by rw[d1];exact (List.getElem?_eq_some_iff.1 hq).1
  rcases d2 q _ _ hq (List.getElem?_eq_getElem hql) with⟨_,e⟩|⟨e',t',id',l,_,e,ho,_⟩
  ·cases e
  ·injection e with e;subst e;exact⟨q,e',t',l,hq,ho⟩
 have hmem:∀(q:Nat)(id:Nat),cs[q]? =some (.os id)->id∈ids/\∃(e':TypeId)(t':Ty)(l:List (den t')),m.ob id=some (.row e' t' l):=λq id hq=>by
  have hql:q<ds.length:=by rw[d1];exact (List.getElem?_eq_some_iff.1 hq).1
  rcases d2 q _ _ hq (List.getElem?_eq_getElem hql) with⟨_,e⟩|⟨e',t',id',l,_,e,ho,_,hm⟩
  ·cases e
  ·injection e with e;subst e;exact⟨hm,e',t',l,ho⟩
 let Fi:Nat->Nat->Nat->Prop:=λ_ q b=>∃id,cs[q]? =some (.os id)/\c.F id b
 let F':Nat->Prop:=λb=>b=w.heap.size\/∃i j,i<1/\Fi i j b
 have hFi:∀i q b,Fi i q b->∃id e' t',∃l:List (den t'),id∈ids/\m.ob id=some (.row e' t' l)/\c.F id b/\b<w.heap.size/\∀o,¬c.S b o:=λi q b ⟨id,hq,hb⟩=>by
  obtain⟨hm,e',t',l,ho⟩:=hmem q id hq
  obtain⟨g1,g2,_⟩:=hr.ox.fb id _ ho rfl b hb
  exact⟨id,e',t',l,hm,ho,hb,g1,g2⟩
 obtain⟨w',hw'⟩:∃w',w'=w.alloc (.cells us.toArray e):=⟨_,rfl⟩
 have hkeepH:∀b,b<w.heap.size->w'.heap[b]? =w.heap[b]? :=λb hb=>by rw[hw'];exact heap_alloc_old w _ hb
 have hcell:∀b o,c.S b o->w'.cell? ⟨b,o,none⟩=w.cell? ⟨b,o,none⟩:=λb o hs=>World.cell?_of_block (hkeepH b (hr.ox.sb b o hs))
 obtain⟨v,hv⟩:∃v,v=Value.slice (some ⟨w.heap.size,0,none⟩) 1 1:=⟨_,rfl⟩
 have hdp:DpAt w' c.S v F' e ty [y]:=by
  refine⟨b3,.inr ⟨w.heap.size,1,us.toArray,Fi,hv,λb=>Iff.rfl,λi j _ hf=> ?_,λi j i' j' b hi hi' hf hf'=> ?_,by rw[hw'];exact heap_alloc_new w _,Nat.le_refl _,by simp[maxLen],?_,λi x hx j d hd=> ?_⟩⟩
  ·obtain⟨_,_,_,_,_,_,_,hlt,_⟩:=hFi i j _ hf
   omega
  ·have hi:i<1:=hi
   have hi':i'<1:=hi'
   refine⟨by omega,?_⟩
   obtain⟨id,hq,hb⟩:=hf
   obtain⟨id',hq',hb'⟩:=hf'
   by_cases e:id=id'
   ·subst e;exact d3 j j' id hq hq'
   ·obtain⟨_,_,_,_,ho⟩:=hmem j id hq
    obtain⟨_,_,_,_,ho'⟩:=hmem j' id' hq'
    exact absurd hb' (hr.ox.dj id id' _ _ ho rfl ho' rfl e b hb)
  ·rw[List.size_toArray,q2,<-d1,y1];omega
  ·cases i with
   |succ i=>simp at hx
   |zero=>
    simp at hx
    subst hx
    have hjl:=enc_lt hd
    have hjd:j<ds.length:=by rw[y1];exact hjl
    have hjc:j<cs.length:=by rw[<-d1];exact hjd
    have hju:j<us.length:=by rw[q2];exact hjc
    have hsr:=q4 j cs[j] us[j] (List.getElem?_eq_getElem hjc) (List.getElem?_eq_getElem hju)
    refine⟨us[j],by simp[hju],q3 _ (List.getElem_mem hju),?_⟩
    rcases d2 j cs[j] ds[j] (List.getElem?_eq_getElem hjc) (List.getElem?_eq_getElem hjd) with⟨e1,e2⟩|⟨e',t',id,l,e1,e2,ho,e3,hm⟩
    ·unfold CellD
     rw[e1]
     rw[e2] at hsr
     exact (y2 j d ds[j] hd (List.getElem?_eq_getElem hjd) (srel_d hsr)).mono (λ_ _ h=>h) hcell
    ·unfold CellD
     rw[e1]
     have hdd:=dec_slD hy (show ds[j]? =some (.sl t' l) by rw[List.getElem?_eq_getElem hjd,e3])
     rw[hdd] at hd
     injection hd with hd
     refine⟨l,hd.symm,?_⟩
     rw[e2] at hsr
     rw[srel_os hsr]
     have hrow:RowAt w c.S (c.H id) (c.F id) e' t' l:=(hr.ox.objs id _ ho).2.2
     have hFe:Fi 0 j=c.F id:=by
      funext b
      refine propext ⟨λ⟨id',hq,hb⟩=> ?_,λhb=>⟨id,?_,hb⟩⟩
      ·rw[List.getElem?_eq_getElem hjc,e2] at hq
       injection hq with hq
       injection hq with hq
       rw[hq];exact hb
      ·rw[List.getElem?_eq_getElem hjc,e2]
     rw[hFe]
     exact hrow.keep (λ_ _ h=>h) hcell λb hb=>hkeepH b (hr.ox.fb id _ ho rfl b hb).1
 have eob:ovr m.ob ((k,some (Ob.dp e ty [y]))::noneU ids)=put (ovr m.ob (noneU ids)) k (some (.dp e ty [y])):=ovr_cons _ _ _ _
 obtain⟨r1,r2⟩:=hr.ox.upd (ob':=put (ovr m.ob (noneU ids)) k (some (.dp e ty [y]))) (U':=addU m.U k) (w':=w') (c':=⟨c.S,put c.H k v,put c.F k F',c.T⟩) k (.dp e ty [y]) (λi=>i≠k/\i ∉ ids)
  (λ_ h=> .inl h) (.inr rfl) (put_same _ _ _) (λi y' hi e'=>by
   rw[put_ne _ _ e'] at hi
   obtain⟨g1,g2⟩:=ovr_noneU _ _ _ _ hi
   exact⟨⟨e',g1⟩,g2⟩) (λe=>e.1 rfl) (λi hi=>⟨put_ne _ _ (hne i hi),put_ne _ _ (hne i hi)⟩) (λ_ _ h=>h) (λ_ _ h=> .inl h) (λb o' hb=>by rw[hw'];exact Nat.lt_of_lt_of_le (hr.ox.sb b o' hb) (by simp))
  rfl (by rw[hw'];rfl) (by rw[hw'];rfl) (by rw[hw'];rfl) (by rw[hw'];simp) (λb hb _=>hkeepH b hb) (by
   show DpAt w' c.S (put c.H k v k) (put c.F k F' k) e ty [y]
   rw[put_same,put_same];exact hdp) trivial (λ_ b hb=>by
   have hb:put c.F k F' k b:=hb
   rw[put_same] at hb
   rcases hb with hb|⟨i,j,_,hb⟩
   ·exact .inr (Nat.le_of_eq hb.symm)
   ·obtain⟨id,e',t',l,hm,ho,hf,_⟩:=hFi i j b hb
    exact .inl ⟨id,_,ho,rfl,λq=>q.2 hm,hf⟩) (λ_ b hb=>by
   have hb:put c.F k F' k b:=hb
   rw[put_same] at hb
   rcases hb with hb|⟨i,j,_,hb⟩
   ·subst hb
    rw[hw']
    exact⟨by simp,λo' ho=>by have:=hr.ox.sb _ _ ho;omega⟩
   ·obtain⟨id,e',t',l,hm,ho,hf,g1,g2⟩:=hFi i j b hb
    rw[hw']
    exact⟨Nat.lt_of_lt_of_le g1 (by simp),g2⟩)
 subst hw'
 refine wp_value (v:=v) (w':=w.alloc (.cells us.toArray e)) (by rw[hv];simp only[execOp,he,Sem.run_bind,q1,Result.andThen_ok];rfl) (hK _ ⟨c.S,put c.H k v,put c.F k F',c.T⟩ _ ?_ ?_ ?_ (.inr ⟨Nat.le_refl _,by show k<k+1;omega⟩) trivial)
 ·show OX (ovr m.ob (_::_)) (addN m.U k 1) _ _ _
  rw[eob,addN_one];exact r1
 ·show Tr _ _ _ _ (ovr m.ob (_::_)) (addN m.U k 1) _ _
  rw[eob,addN_one];exact r2
 ·have:=SRel.os (c:=⟨c.S,put c.H k v,put c.F k F',c.T⟩) (w:=w.alloc (.cells us.toArray e)) k
  dsimp only at this
  rw[put_same] at this
  exact this
def RawAt (w:World)(v:Value)(F:Nat->Prop)(e:TypeId)(sz n:Nat):Prop:=
 (n=0/\(∃ad,v= .slice ad 0 0)/\∀b,¬F b)\/∃g cap cur,v= .slice (some ⟨g,0,none⟩) n cap/\(∀b,F b↔b=g)/\w.heap[g]? =some (.cells cur e (0,0))/\n<=cap/\cap<=maxLen/\cur.size=cap * sz
theorem app_raw (w:World)(t ty e:TypeId)(i:TypeInfo)(z:Value)(τ:Ty)(ht:P.underlying t=some (.slice e))(hi:P.info? e=some i)(hz:i.zero=some z)(hsize:i.size=size τ)(hzs:z.cells.size=size τ)
 {v:Value} {F:Nat->Prop} {n:Nat} (ho:RawAt w v F e (size τ) n) {x:Value} {m:Nat} {news:List Value} (hs:Src P (size τ) t x m news w) (h63:n+m<=maxLen) (hb:(n+m) * i.bytes<=140737488355328):
 ∃v' w',(Builtin.append_ #[t,t] ty #[v,x]).run P w= .ok v' w'/\((m=0/\v'=v/\w'=w)\/
  ∃(g cap:Nat)(arr:Array Value),v'= .slice (some ⟨g,0,none⟩) (n+m) cap/\n+m<=cap/\cap<=maxLen/\w'.heap[g]? =some (.cells arr e (0,0))/\arr.size=cap * size τ/\
   (∀(g0 c0:Nat)(cur:Array Value),v= .slice (some ⟨g0,0,none⟩) n c0->w.heap[g0]? =some (.cells cur e (0,0))->∀q,q<n * size τ->arr[q]? =cur[q]?)/\
   (∀(q:Nat)(u:Value),news[q]? =some u->arr[n * size τ+q]? =some u)/\w'.os=w.os/\w'.tape=w.tape/\w'.output=w.output/\w.heap.size<=w'.heap.size/\(∀k,k<w.heap.size->k≠g->w'.heap[k]? =w.heap[k]?)/\g<w'.heap.size/\((g=w.heap.size)\/F g)):=by
 rw[<-hsize] at hs hzs ⊢
 have hsmall:n+m<=9223372036854775807:=by simp only[maxLen] at h63;omega
 obtain⟨hl,⟨ad,hv⟩,_⟩|⟨g,cap,cur,hv,hF,hg,hn,hcm,hcs⟩:=ho
 ·subst hl
  by_cases hm:m=0
  ·subst hm
   have hnw:news=[]:=List.eq_nil_of_length_eq_zero (by simpa using hs.newsLen)
   subst hnw
   subst hv
   exact⟨_,_,run_append_nothing (P:=P) w t t ty e i ht hi ad 0 0 (Nat.le_refl _) x hs,.inl ⟨rfl,rfl,rfl⟩⟩
  ·have hfc:(Builtin.firstCells i.size 0 (.slice ad 0 0)).run P w.drew= .ok #[] w.drew:=by
    cases ad with
    |none=>exact run_firstCells_none (P:=P) w.drew i.size 0 0 0
    |some a=>exact run_firstCells_some w.drew i.size 0 a 0 0 [] (by simp) (λj v h=>by simp at h)
   have hrun:=run_append_grow_src (P:=P) w t t ty e i z ht hi hz ad 0 0 [] hfc x m news hs (by omega) (by omega) (growslice_fits (by omega) hb)
   rw[hv]
   refine⟨_,_,hrun,.inr ⟨w.heap.size,_,_,rfl,grownCap_ge w (0+m) 0 e,grownCap_le_maxLen w (0+m) 0 e h63,heap_alloc_new w.drew _,?_,λg0 c0 cur hv0=> ?_,λq u hq=> ?_,rfl,rfl,rfl,by simp,λk hk _=>heap_alloc_old w.drew _ hk,by simp,.inl rfl⟩⟩
   ·have hge:=grownCap_ge w (0+m) 0 e
    simp only[Array.size_append,List.size_toArray,List.length_append,size_zeroCells,hzs,hs.newsLen,List.length_nil,Nat.zero_add,<-Nat.add_mul] at hge ⊢
    first|done|(congr 1;omega)
   ·intro _ q hq;simp at hq
   ·have hl:q<news.length:=(List.getElem?_eq_some_iff.1 hq).1
    simp only[Nat.zero_mul,Nat.zero_add,List.nil_append]
    rw[Array.getElem?_append_left (by simpa using hl)]
    simpa using hq
 ·have hv2:v= .slice (some ⟨g,0,none⟩) n cap:=hv
  have hn2:n<=cap:=hn
  have hcs2:cur.size=cap * i.size:=by rw[hsize];exact hcs
  have hgl:=(Array.getElem?_eq_some_iff.1 hg).1
  by_cases hroom:n+m<=cap
  ·have hlen:n * i.size+news.length<=cur.size:=by rw[hs.newsLen,hcs2,<-Nat.add_mul];exact Nat.mul_le_mul_right _ hroom
   have hrun:=run_append_room_src (P:=P) w t t ty e i ht hi g 0 n cap x m news hs hroom (λj hj=>by rw[cell_row hg,Array.getElem?_eq_getElem (by rw[Nat.zero_add];omega)];rfl) (λj hj=>by simp[World.frozen?,hg])
   rw[<-hv2] at hrun
   have hg':w.heap[g]? =some (.cells cur.toList.toArray e (0,0)):=by simpa using hg
   obtain⟨o1,o2,o3,o4,o5⟩:=setCells_os g news (0+n * i.size) w
   have hfit:0+n * i.size+news.length<=cur.toList.length:=by have e:cur.toList.length=cur.size:=Array.length_toList;omega
   refine⟨_,_,hrun,.inr ⟨g,cap,_,rfl,hroom,hcm,heap_setCells_at g news (0+n * i.size) w cur.toList e (0,0) hg' hfit,?_,λg0 c0 cur0 hv0 hg0 q hq=> ?_,λq u hq=> ?_,o1,o2,o3,Nat.le_of_eq o4.symm,λk _ hk=>o5 k hk,by rw[o4];exact hgl,.inr ((hF g).2 rfl)⟩⟩
   ·rw[List.size_toArray,spl_len hfit,Array.length_toList];exact hcs2
   ·rw[hv2] at hv0
    injection hv0 with e1 e2 e3
    injection e1 with e1
    injection e1 with e1
    subst e1
    rw[hg] at hg0
    injection hg0 with hg0
    injection hg0 with hg0
    subst hg0
    rw[List.getElem?_toArray,spl_get hfit,if_pos (by omega)]
    simp
   ·have hl:q<news.length:=(List.getElem?_eq_some_iff.1 hq).1
    rw[List.getElem?_toArray,spl_get hfit,if_neg (by omega),if_pos (by omega),show n * i.size+q-(0+n * i.size)=q by omega]
    exact hq
  ·have hol:(cur.toList.take (n * i.size)).length=n * i.size:=by
    rw[List.length_take,Array.length_toList,hcs2]
    exact Nat.min_eq_left (Nat.mul_le_mul_right _ hn2)
   have hfc:(Builtin.firstCells i.size n (.slice (some ⟨g,0,none⟩) n cap)).run P w.drew= .ok (cur.toList.take (n * i.size)).toArray w.drew:=
    run_firstCells_some w.drew i.size n ⟨g,0,none⟩ n cap _ hol (λj u hj=>by
     rw[addr_add]
     have hjl:j<n * i.size:=by have:=(List.getElem?_eq_some_iff.1 hj).1;rwa [hol] at this
     rw[List.getElem?_take,if_pos hjl] at hj
     have:=cell_of_row w g j cur e (0,0) hg
     simp at hj
     simpa [this] using hj)
   have hrun:=run_append_grow_src (P:=P) w t t ty e i z ht hi hz (some ⟨g,0,none⟩) n cap _ hfc x m news hs (by omega) (by omega) (growslice_fits (by omega) hb)
   rw[<-hv2] at hrun
   refine⟨_,_,hrun,.inr ⟨w.heap.size,_,_,rfl,grownCap_ge w (n+m) cap e,grownCap_le_maxLen w (n+m) cap e h63,heap_alloc_new w.drew _,?_,λg0 c0 cur0 hv0 hg0 q hq=> ?_,λq u hq=> ?_,rfl,rfl,rfl,by simp,λk hk _=>heap_alloc_old w.drew _ hk,by simp,.inl rfl⟩⟩
   ·have hge:=grownCap_ge w (n+m) cap e
    simp only[Array.size_append,List.size_toArray,List.length_append,size_zeroCells,hzs,hs.newsLen,hol,<-Nat.add_mul]
    congr 1;omega
   ·rw[hv2] at hv0
    injection hv0 with e1 e2 e3
    injection e1 with e1
    injection e1 with e1
    subst e1
    rw[hg] at hg0
    injection hg0 with hg0
    injection hg0 with hg0
    subst hg0
    rw[Array.getElem?_append_left (by simp only[List.size_toArray,List.length_append,hol];omega),List.getElem?_toArray,List.getElem?_append_left (by rw[hol];exact hq),List.getElem?_take,if_pos hq]
    simp
   ·have hl:q<news.length:=(List.getElem?_eq_some_iff.1 hq).1
    rw[Array.getElem?_append_left (by simp only[List.size_toArray,List.length_append,hol];omega),List.getElem?_toArray,List.getElem?_append_right (by rw[hol];omega),hol,Nat.add_sub_cancel_left]
    exact hq
theorem DpAt.openD {w:World}{S:Cells}{v:Value}{F:Nat->Prop}{e:TypeId}{t:Ty}{l:List (den t)}(h:DpAt w S v F e t l):∃(G:Nat->Prop)(Fi:Nat->Nat->Nat->Prop),RawAt w v G e (size t) l.length/\(∀b,G b->F b)/\(∀i j b,i<l.length->Fi i j b->F b/\¬G b)/\(∀i j i' j' b,i<l.length->i'<l.length->Fi i j b->Fi i' j' b->i=i'/\j=j')/\
 ∀i x,l[i]? =some x->∃g cap cur,v= .slice (some ⟨g,0,none⟩) l.length cap/\G g/\w.heap[g]? =some (.cells cur e (0,0))/\∀j d,(enc t x)[j]? =some d->∃u:Value,cur[i * size t+j]? =some u/\u.oneCell'=true/\CellD w S (Fi i j) t j d u:=by
 obtain⟨h0,⟨h1,⟨ad,h2⟩,h3⟩|⟨g,cap,cur,Fi,hv,hF,hg1,hg2,hg,h1,h2,h3,h4⟩⟩:=h
 ·subst h1
  exact⟨λ_=>False,λ_ _ _=>False,.inl ⟨rfl,⟨ad,h2⟩,λ_ h=>h⟩,λ_ h=>h.elim,λ_ _ _ _ h=>h.elim,λ_ _ _ _ _ _ _ h=>h.elim,λi x hx=>by simp at hx⟩
 ·refine⟨(·=g),Fi,.inr ⟨g,cap,cur,hv,λ_=>Iff.rfl,hg,h1,h2,h3⟩,λb hb=>(hF b).2 (.inl hb),λi j b hi hf=>⟨(hF b).2 (.inr ⟨i,j,hi,hf⟩),λe=>hg1 i j hi (e ▸ hf)⟩,hg2,λi x hx=>⟨g,cap,cur,hv,rfl,hg,h4 i x hx⟩⟩
theorem DpAt.src {w:World}{S:Cells}{v:Value}{F:Nat->Prop}{e:TypeId}{τ:Ty}{l:List (den τ)}(h:DpAt w S v F e τ l){t e0:TypeId}(ht:P.underlying t=some (.slice e0)):∃fy:Nat->Nat->Value,Src P (size τ) t v l.length ((List.range (l.length * size τ)).map (λq=>fy (q/size τ) (q % size τ))) w/\
 ∀(i:Nat),i<l.length->∀j,j<size τ->∀g cap cur,v= .slice (some ⟨g,0,none⟩) l.length cap->w.heap[g]? =some (.cells cur e (0,0))->cur[i * size τ+j]? =some (fy i j):=by
 obtain⟨h0,⟨h1,⟨ad,h2⟩,h3⟩|⟨g,cap,cur,Fi,hv,hF,hg1,hg2,hg,h1,h2,h3,h4⟩⟩:=h
 ·subst h1 h2
  refine⟨λ_ _=>undef,?_,λi hi=>by simp at hi⟩
  cases ad with
  |none=>simpa using Src.ofNil (P:=P) w (size:=size τ) ht 0
  |some a=>simpa using Src.ofSlice (P:=P) w (size:=size τ) ht a 0 0 [] (by simp) (λj u h=>by simp at h) (λu h=>by simp at h)
 ·have hc:∀i,i<l.length->∀j,j<size τ->∃u:Value,cur[i * size τ+j]? =some u/\u.oneCell'=true:=λi hi j hj=>by
   have hje:j<(enc τ l[i]).length:=by rw[enc_len];exact hj
   obtain⟨u,u1,u2,_⟩:=h4 i l[i] (List.getElem?_eq_getElem hi) j _ (List.getElem?_eq_getElem hje)
   exact⟨u,u1,u2⟩
  refine⟨λi j=>(cur[i * size τ+j]?).getD undef,?_,λi hi j hj g' cap' cur' hv' hg'=> ?_⟩
  ·rw[hv]
   have hone:∀q,q<l.length * size τ->∃u:Value,cur[q]? =some u/\u.oneCell'=true:=λq hq=>by
    have e1:q/size τ<l.length:=Nat.div_lt_of_lt_mul (by rwa [Nat.mul_comm] at hq)
    have e2:q % size τ<size τ:=Nat.mod_lt _ h0
    have:=hc (q/size τ) e1 (q % size τ) e2
    rwa [Nat.div_add_mod'] at this
   refine Src.ofSlice w ht _ _ _ _ (by simp) (λj u hj=> ?_) (λu hu=> ?_)
   ·have hj':j<l.length * size τ:=by have:=(List.getElem?_eq_some_iff.1 hj).1;simpa using this
    rw[getElem?_flat (f:=λi j=>(cur[i * size τ+j]?).getD undef) hj'] at hj
    injection hj with hj
    obtain⟨u',u1,u2⟩:=hone j hj'
    have hj:(cur[j/size τ * size τ+j % size τ]?).getD undef=u:=hj
    rw[Nat.div_add_mod',u1] at hj
    have hj:u'=u:=hj
    rw[addr_add,Nat.zero_add,cell_row hg,u1,hj]
   ·simp at hu
    obtain⟨q,hq,rfl⟩:=hu
    obtain⟨u',u1,u2⟩:=hone q hq
    rw[Nat.div_add_mod',u1];exact u2
  ·rw[hv] at hv'
   injection hv' with e1 e2 e3
   injection e1 with e1
   injection e1 with e1
   subst e1
   rw[hg] at hg'
   injection hg' with hg'
   injection hg' with hg'
   subst hg'
   obtain⟨u,u1,_⟩:=hc i hi j hj
   show _=some ((cur[i * size τ+j]?).getD undef)
   rw[u1];rfl
theorem OX.appendD {ob:Obs}{U:Nat->Prop}{tp:Bool}{w:World}{c:Cx}(h:OX ob U tp w c){k:Nat}(hk:¬U k){olds:List Nat}{id2:Nat}(t ty e:TypeId)(i:TypeInfo)(z:Value)(τ:Ty)(ht:P.underlying t=some (.slice e))(hi:P.info? e=some i)(hz:i.zero=some z)(hsize:i.size=size τ)(hzs:z.cells.size=size τ)
 {v:Value} {F:Nat->Prop} {l l2:List (den τ)} (ho:DpAt w c.S v F e τ l) (hF:∀b,F b->∃id y,id∈olds/\ob id=some y/\y.own=true/\c.F id b) (hid2:ob id2=some (.dp e τ l2)) (hn2:id2 ∉ olds) (h63:l.length+l2.length<=maxLen) (hb:(l.length+l2.length) * i.bytes<=140737488355328):
 ∃v' w' c',(Builtin.append_ #[t,t] ty #[v,c.H id2]).run P w= .ok v' w'/\c'.H k=v'/\OX (put (ovr ob (noneU (id2::olds))) k (some (.dp e τ (l++l2)))) (addU U k) tp w' c'/\Tr ob U w c (put (ovr ob (noneU (id2::olds))) k (some (.dp e τ (l++l2)))) (addU U k) w' c':=by
 have ho2:DpAt w c.S (c.H id2) (c.F id2) e τ l2:=(h.objs id2 _ hid2).2.2
 have hf2:=h.fb id2 _ hid2 rfl
 have hf1:∀b,F b->b<w.heap.size/\∀o,¬c.S b o:=λb hb=>by
  obtain⟨id,y,_,e2,e3,e4⟩:=hF b hb
  exact⟨(h.fb id y e2 e3 b e4).1,(h.fb id y e2 e3 b e4).2.1⟩
 have hd12:∀b,F b->¬c.F id2 b:=λb hb=>by
  obtain⟨id,y,e1,e2,e3,e4⟩:=hF b hb
  exact h.dj id id2 y _ e2 e3 hid2 rfl (λe=>hn2 (e ▸ e1)) b e4
 have h0:=ho.1
 obtain⟨G1,Fi1,hraw,g1,f1,d1,c1⟩:=ho.openD
 obtain⟨G2,Fi2,_,g2,f2,d2,c2⟩:=ho2.openD
 obtain⟨fy,hsrc,hfy⟩:=ho2.src ht
 obtain⟨v',w',hrun,hres⟩:=app_raw (P:=P) w t ty e i z τ ht hi hz hsize hzs hraw hsrc h63 hb
 have hne:∀i,U i->i≠k:=λi hi e=>hk (e ▸ hi)
 have hkeep:∀j y,put (ovr ob (noneU (id2::olds))) k (some (.dp e τ (l++l2))) j=some y->j≠k->(j≠k/\j ∉ id2::olds)/\ob j=some y:=λj y hj e=>by
  rw[put_ne _ _ e] at hj
  obtain⟨q1,q2⟩:=ovr_noneU _ _ _ _ hj
  exact⟨⟨e,q1⟩,q2⟩
 have gone1:∀b,F b->∃i y,ob i=some y/\y.own=true/\¬(i≠k/\i ∉ id2::olds)/\c.F i b:=λb hb=>by
  obtain⟨id,y,e1,e2,e3,e4⟩:=hF b hb
  exact⟨id,y,e2,e3,λq=>q.2 (by simp[e1]),e4⟩
 have gone2:∀b,c.F id2 b->∃i y,ob i=some y/\y.own=true/\¬(i≠k/\i ∉ id2::olds)/\c.F i b:=λb hb=>⟨id2,_,hid2,rfl,λq=>q.2 (by simp),hb⟩
 rcases hres with⟨hm,rfl,rfl⟩|⟨g,cap,arr,rfl,hcap,hcm,hg,harr,hold,hnew,o1,o2,o3,o4,o5,o6,hwhere⟩
 ·have hye:l2=[]:=List.eq_nil_of_length_eq_zero hm
  subst hye
  refine⟨_,_,⟨c.S,put c.H k v',put c.F k F,c.T⟩,hrun,put_same _ _ _,h.upd k (.dp e τ (l++[])) (λj=>j≠k/\j ∉ id2::olds) (λ_ h=> .inl h) (.inr rfl) (put_same _ _ _) hkeep (λe=>e.1 rfl) (λi hi=>⟨put_ne _ _ (hne i hi),put_ne _ _ (hne i hi)⟩) (λ_ _ h=>h) (λ_ _ h=> .inl h) (λb o hb=>h.sb b o hb)
   rfl rfl rfl rfl (Nat.le_refl _) (λ_ _ _=>rfl) ?_ trivial (λ_ b hb=> ?_) (λ_ b hb=> ?_)⟩
  ·show DpAt w' c.S (put c.H k v' k) (put c.F k F k) _ _ _
   rw[put_same,put_same,List.append_nil];exact ho
  ·have hb':put c.F k F k b:=hb
   rw[put_same] at hb'
   exact .inl (gone1 b hb')
  ·have hb':put c.F k F k b:=hb
   rw[put_same] at hb'
   exact hf1 b hb'
 ·have hgS:∀o,¬c.S g o:=λo hs=>by
   rcases hwhere with e1|e1
   ·have:=h.sb _ _ hs;omega
   ·exact (hf1 g (g1 g e1)).2 o hs
  have hcell:∀b o,c.S b o->w'.cell? ⟨b,o,none⟩=w.cell? ⟨b,o,none⟩:=λb o hs=>World.cell?_of_block (o5 b (h.sb b o hs) (λe=>hgS o (e ▸ hs)))
  let Fi:Nat->Nat->Nat->Prop:=λi j b=>(i<l.length/\Fi1 i j b)\/(l.length<=i/\i-l.length<l2.length/\Fi2 (i-l.length) j b)
  let F':Nat->Prop:=λb=>b=g\/∃i j,i<(l++l2).length/\Fi i j b
  have n1:∀i j b,i<l.length->Fi1 i j b->b<w.heap.size/\b≠g/\(∀o,¬c.S b o):=λi j b hi hf=>by
   obtain⟨q1,q2⟩:=f1 i j b hi hf
   obtain⟨q3,q4⟩:=hf1 b q1
   refine⟨q3,λe=> ?_,q4⟩
   subst e
   rcases hwhere with e1|e1
   ·omega
   ·exact q2 e1
  have n2:∀i j b,i<l2.length->Fi2 i j b->b<w.heap.size/\b≠g/\(∀o,¬c.S b o):=λi j b hi hf=>by
   obtain⟨q1,q2⟩:=f2 i j b hi hf
   obtain⟨q3,q4,_⟩:=hf2 b q1
   refine⟨q3,λe=> ?_,q4⟩
   subst e
   rcases hwhere with e1|e1
   ·omega
   ·exact hd12 b (g1 b e1) q1
  have hFi:∀i j b,i<(l++l2).length->Fi i j b->b<w.heap.size/\b≠g/\(∀o,¬c.S b o)/\(F b\/c.F id2 b):=λi j b hi hf=>by
   rcases hf with⟨q1,q2⟩|⟨q1,q2,q3⟩
   ·obtain⟨a1,a2,a3⟩:=n1 i j b q1 q2
    exact⟨a1,a2,a3,.inl (f1 i j b q1 q2).1⟩
   ·obtain⟨a1,a2,a3⟩:=n2 _ j b q2 q3
    exact⟨a1,a2,a3,.inr (f2 _ j b q2 q3).1⟩
  have hdp:DpAt w' c.S (.slice (some ⟨g,0,none⟩) (l.length+l2.length) cap) F' e τ (l++l2):=by
   refine⟨h0,.inr ⟨g,cap,arr,Fi,by rw[List.length_append],λb=>Iff.rfl,λi j hi hf=>(hFi i j g hi hf).2.1 rfl,λi j i' j' b hi hi' hf hf'=> ?_,hg,by rw[List.length_append];exact hcap,hcm,harr,λq x hq j d hd=> ?_⟩⟩
   ·rcases hf with⟨q1,q2⟩|⟨q1,q2,q3⟩
    ·rcases hf' with⟨p1,p2⟩|⟨p1,p2,p3⟩
     ·exact d1 i j i' j' b q1 p1 q2 p2
     ·exact absurd (f2 _ _ b p2 p3).1 (hd12 b (f1 i j b q1 q2).1)
    ·rcases hf' with⟨p1,p2⟩|⟨p1,p2,p3⟩
     ·exact absurd (f2 _ _ b q2 q3).1 (hd12 b (f1 _ _ b p1 p2).1)
     ·obtain⟨a1,a2⟩:=d2 _ _ _ _ b q2 p2 q3 p3
      exact⟨by omega,a2⟩
   ·have hj:=enc_lt hd
    by_cases h1:q<l.length
    ·rw[List.getElem?_append_left h1] at hq
     obtain⟨g0,cap0,cur,e1,_,hg0,hr0⟩:=c1 q x hq
     obtain⟨u,u1,u2,u3⟩:=hr0 j d hd
     refine⟨u,?_,u2,?_⟩
     ·rw[hold g0 cap0 cur e1 hg0 (q * size τ+j) (row_lt h1 hj)];exact u1
     ·have hFe:Fi q j=Fi1 q j:=by
       funext b
       refine propext ⟨λhf=> ?_,λhf=> .inl ⟨h1,hf⟩⟩
       rcases hf with⟨_,p⟩|⟨p,_⟩
       ·exact p
       ·omega
      rw[hFe]
      exact u3.keep (λ_ _ h=>h) hcell λb hf=>o5 b (n1 q j b h1 hf).1 (n1 q j b h1 hf).2.1
    ·rw[List.getElem?_append_right (by omega)] at hq
     have hil:q-l.length<l2.length:=(List.getElem?_eq_some_iff.1 hq).1
     obtain⟨g0,cap0,cur,e1,_,hg0,hr0⟩:=c2 _ x hq
     obtain⟨u,u1,u2,u3⟩:=hr0 j d hd
     have hfu:=hfy _ hil j hj g0 cap0 cur e1 hg0
     rw[u1] at hfu
     injection hfu with hfu
     refine⟨u,?_,u2,?_⟩
     ·have e1:q * size τ=l.length * size τ+(q-l.length) * size τ:=by rw[<-Nat.add_mul];congr 1;omega
      have:=hnew ((q-l.length) * size τ+j) (fy (q-l.length) j) (by rw[getElem?_flat (row_lt hil hj),(div_mod_at hj).1,(div_mod_at hj).2])
      rw[e1,Nat.add_assoc,hfu];exact this
     ·have hFe:Fi q j=Fi2 (q-l.length) j:=by
       funext b
       refine propext ⟨λhf=> ?_,λhf=> .inr ⟨by omega,hil,hf⟩⟩
       rcases hf with⟨p,_⟩|⟨_,_,p⟩
       ·omega
       ·exact p
      rw[hFe]
      exact u3.keep (λ_ _ h=>h) hcell λb hf=>o5 b (n2 _ j b hil hf).1 (n2 _ j b hil hf).2.1
  refine⟨_,_,⟨c.S,put c.H k (.slice (some ⟨g,0,none⟩) (l.length+l2.length) cap),put c.F k F',c.T⟩,hrun,put_same _ _ _,h.upd k (.dp e τ (l++l2)) (λj=>j≠k/\j ∉ id2::olds) (λ_ h=> .inl h) (.inr rfl) (put_same _ _ _) hkeep (λe=>e.1 rfl) (λi hi=>⟨put_ne _ _ (hne i hi),put_ne _ _ (hne i hi)⟩) (λ_ _ h=>h) (λ_ _ h=> .inl h) (λb o hb=>Nat.lt_of_lt_of_le (h.sb b o hb) o4)
   rfl o1 o2 o3 o4 (λb hb hn=>o5 b hb (λe1=> ?_)) ?_ trivial (λ_ b hb=> ?_) (λ_ b hb=> ?_)⟩
  ·subst e1
   rcases hwhere with e1|e1
   ·omega
   ·obtain⟨j,y,q1,q2,q3,q4⟩:=gone1 b (g1 b e1)
    exact hn j y q1 q2 q3 q4
  ·show DpAt w' c.S (put c.H k _ k) (put c.F k F' k) _ _ _
   rw[put_same,put_same];exact hdp
  ·have hb':put c.F k F' k b:=hb
   rw[put_same] at hb'
   rcases hb' with hb'|⟨i,j,hi,hb'⟩
   ·subst hb'
    rcases hwhere with e1|e1
    ·exact .inr (Nat.le_of_eq e1.symm)
    ·exact .inl (gone1 b (g1 b e1))
   ·rcases (hFi i j b hi hb').2.2.2 with q|q
    ·exact .inl (gone1 b q)
    ·exact .inl (gone2 b q)
  ·have hb':put c.F k F' k b:=hb
   rw[put_same] at hb'
   rcases hb' with hb'|⟨i,j,hi,hb'⟩
   ·subst hb'
    exact⟨o6,hgS⟩
   ·obtain⟨q1,_,q2,_⟩:=hFi i j b hi hb'
    exact⟨Nat.lt_of_lt_of_le q1 o4,q2⟩
def dpIs (m:Mem)(ty:Ty):SV->Option (Nat×TypeId×List (den ty))
 | .os id=>match m.ob id with
  |some (.dp e t l)=>match castL ty t l with
   |some l'=>some (id,e,l')
   |none=>none
  |_=>none
 |_=>none
theorem dpIs_spec {m:Mem}{ty:Ty}{s:SV}{id:Nat}{e:TypeId}{l:List (den ty)}(h:dpIs m ty s=some (id,e,l)):s= .os id/\m.ob id=some (.dp e ty l):=by
 unfold dpIs at h
 split at h
 ·split at h
  ·rename_i id0 e0 t l0 hob
   split at h
   ·rename_i l1 hc
    obtain⟨e1,e2⟩:=castL_eq hc
    subst e1
    have e2:=eq_of_heq e2
    subst e2
    injection h with h
    injection h with h1 h2
    injection h2 with h2 h3
    subst h1 h2 h3
    exact⟨rfl,hob⟩
   ·cases h
  ·cases h
 ·cases h
def eAppR (k:Nat)(e:TypeId)(ty:Ty)(bs:Nat)(l l2:List (den ty))(ids:List Nat):ERes:=⟨[.ap bs l.length l2.length],[],.os k,(k,some (.dp e ty (l++l2)))::noneU ids,1⟩
def eAppD (P:Program)(τ:TypeId->Option Ty)(m:Mem)(k:Nat)(t:TypeId)(x y:SV):Option ERes:=match elemOf P t with
 |some e0=>match τ e0 with
  |some ty=>match appTy P t (size ty),dpIs m ty y with
   |some (e',bs),some (id2,e2,l2)=>match x with
    | .os id1=>match dpIs m ty (.os id1) with
     |some (id1',e1,l)=>bif Nat.beq e' e2&&Nat.beq e' e1&& !(Nat.beq id2 id1') then some (eAppR k e' ty bs l l2 [id2,id1']) else none
     |none=>none
    | .d (.v v)=>bif isNil v&&Nat.beq e' e2 then some (eAppR k e' ty bs [] l2 [id2]) else none
    |_=>none
   |_,_=>none
  |none=>none
 |none=>none
theorem eAppD_ok {τ:TypeId->Option Ty}{o:Oper}{m:Mem}{ρ:Operand->SV}{k:Nat}{t:TypeId}{x y:Operand}{R:ERes}(he:o.op= .call ⟨.builtin .append,#[x,y],#[t,t]⟩)(h:eAppD P τ m k t (ρ x) (ρ y)=some R):EffR P o m ρ k R:=by
 intro a w c hr hk hp K Q hK
 have hx:=hr.op x
 have hy:=hr.op y
 have fin:∀(e:TypeId)(ty:Ty)(bs:Nat)(l l2:List (den ty))(olds:List Nat)(id2:Nat)(F:Nat->Prop),appTy P t (size ty)=some (e,bs)->ρ y= .os id2->m.ob id2=some (.dp e ty l2)->id2 ∉ olds->DpAt w c.S (a.eval x) F e ty l->(∀b,F b->∃id y,id∈olds/\m.ob id=some y/\y.own=true/\c.F id b)->
  R=eAppR k e ty bs l l2 (id2::olds)->o.wp P a w K Q:=by
  intro e ty bs l l2 olds id2 F ha hye hob2 hn2 hrow hF hR
  subst hR
  obtain⟨i,z,t1,t2,t3,t4,t5,t6,t7,t8⟩:=appTy_spec ha
  have hroom:=hp.1
  have hroom:apOK bs l.length l2.length:=hroom
  unfold apOK at hroom
  have h63:l.length+l2.length<=maxLen:=by
   have:=Nat.le_mul_of_pos_right (l.length+l2.length) (show 0<bs by omega)
   simp only[maxLen];omega
  obtain⟨v',w',c',r1,r2,r3,r4⟩:=hr.ox.appendD (hk k (Nat.le_refl _) (by show k<k+1;omega)) (olds:=olds) (id2:=id2) t o.type e i z ty t1 t2 t3 t5 t4 hrow hF hob2 hn2 h63 (by rw[t6];exact hroom)
  have hyv:a.eval y=c.H id2:=by rw[hye] at hy;exact srel_os hy
  have eob:ovr m.ob (eAppR k e ty bs l l2 (id2::olds)).ob=put (ovr m.ob (noneU (id2::olds))) k (some (.dp e ty (l++l2))):=ovr_cons _ _ _ _
  refine wp_value (v:=v') (w':=w') ?_ (hK _ c' _ ?_ ?_ ?_ ?_ trivial)
  ·rw[<-hyv] at r1
   simp[execOp,he,resolve,invoke,builtin,r1]
  ·rw[eob];show OX _ (addN m.U k 1) _ _ _;rw[addN_one];exact r3
  ·rw[eob];show Tr _ _ _ _ _ (addN m.U k 1) _ _;rw[addN_one];exact r4
  ·rw[<-r2];exact .os k
  ·exact .inr ⟨Nat.le_refl _,by show k<k+1;omega⟩
 unfold eAppD at h
 split at h
 rotate_left
 ·cases h
 rename_i e0 hel
 split at h
 rotate_left
 ·cases h
 rename_i ty hty
 split at h
 rotate_left
 ·cases h
 rename_i e' bs id2 e2 l2 ha hd2
 obtain⟨y1,y2⟩:=dpIs_spec hd2
 split at h
 ·rename_i id1 hxe
  rw[hxe] at hx
  split at h
  ·rename_i id1' e1 l hd1
   obtain⟨x1,x2⟩:=dpIs_spec hd1
   injection x1 with x1
   subst x1
   cases hb:(Nat.beq e' e2&&Nat.beq e' e1&& !(Nat.beq id2 id1)) with
   |false=>rw[hb] at h;cases h
   |true=>
    rw[hb] at h
    simp only[Bool.and_eq_true,Bool.not_eq_true'] at hb
    obtain⟨⟨b1,b2⟩,b3⟩:=hb
    have b1:=beq_eq b1
    have b2:=beq_eq b2
    subst b1 b2
    injection h with h
    refine fin e' ty bs l l2 [id1] id2 (c.F id1) ha y1 y2 (λhm=> ?_) ?_ (λb hb=>⟨id1,_,by simp,x2,rfl,hb⟩) h.symm
    ·rw[List.mem_singleton] at hm
     subst hm
     simp at b3
    ·rw[srel_os hx];exact (hr.ox.objs id1 _ x2).2.2
  ·cases h
 ·rename_i v hxe
  rw[hxe] at hx
  cases hb:(isNil v&&Nat.beq e' e2) with
  |false=>rw[hb] at h;cases h
  |true=>
   rw[hb] at h
   obtain⟨b1,b2⟩:=Bool.and_eq_true_iff.1 hb
   have b2:=beq_eq b2
   subst b2
   injection h with h
   obtain⟨i,z,t1,t2,t3,t4,t5,t6,t7,t8⟩:=appTy_spec ha
   refine fin e' ty bs [] l2 [] id2 (λ_=>False) ha y1 y2 (λhm=>by cases hm) ?_ (λb hb=>hb.elim) h.symm
   rw[srel_v hx,isNil_eq b1]
   exact⟨by omega,.inl ⟨rfl,⟨none,rfl⟩,λ_ h=>h⟩⟩
 ·cases h
def focW (t:Ty)(k:Nat):Nat->List D->List SV
 |_,[]=>[]
 |j,d::r=>(match dcol t j with
  |none=> .d d
  |some _=> .os (k+1+j))::focW t k (j+1) r
def focO (t:Ty)(k:Nat):Nat->List D->List (Nat×Option Ob)
 |_,[]=>[]
 |j,d::r=>match dcol t j with
  |none=>focO t k (j+1) r
  |some (e',t')=>(k+1+j,some (.row e' t' ((decL t' d).getD [])))::focO t k (j+1) r
theorem focW_len (t:Ty)(k:Nat):∀(j:Nat)(ds:List D),(focW t k j ds).length=ds.length
 |_,[]=>rfl
 |j,d::r=>by simp[focW,focW_len t k (j+1) r]
theorem focW_get (t:Ty)(k:Nat):∀(j0:Nat)(ds:List D)(q:Nat)(s:SV),(focW t k j0 ds)[q]? =some s->∃d,ds[q]? =some d/\((dcol t (j0+q)=none/\s= .d d)\/(∃p,dcol t (j0+q)=some p/\s= .os (k+1+(j0+q))))
 |_,[],q,s,h=>by simp[focW] at h
 |j0,d::r,0,s,h=>by
  refine⟨d,rfl,?_⟩
  simp only[focW,List.getElem?_cons_zero,Option.some.injEq] at h
  rw[Nat.add_zero]
  cases hc:dcol t j0 with
  |none=>rw[hc] at h;exact .inl ⟨rfl,h.symm⟩
  |some p=>rw[hc] at h;exact .inr ⟨p,rfl,h.symm⟩
 |j0,d::r,q+1,s,h=>by
  simp only[focW,List.getElem?_cons_succ] at h
  obtain⟨d',h1,h2⟩:=focW_get t k (j0+1) r q s h
  refine⟨d',by simpa using h1,?_⟩
  rw[show j0+1+q=j0+(q+1) by omega] at h2
  exact h2
theorem focO_at (t:Ty)(k:Nat)(ob:Obs):∀(j0:Nat)(ds:List D)(i:Nat)(x:Ob),ovr ob (focO t k j0 ds) i=some x->(∃(q:Nat)(d:D)(e':TypeId)(t':Ty),ds[q]? =some d/\dcol t (j0+q)=some (e',t')/\i=k+1+(j0+q)/\x= .row e' t' ((decL t' d).getD []))\/ob i=some x
 |_,[],i,x,h=> .inr h
 |j0,d::r,i,x,h=>by
  unfold focO at h
  have ih:=λ(h:ovr ob (focO t k (j0+1) r) i=some x)=>focO_at t k ob (j0+1) r i x h
  have shift:((∃(q:Nat)(d:D)(e':TypeId)(t':Ty),r[q]? =some d/\dcol t (j0+1+q)=some (e',t')/\i=k+1+(j0+1+q)/\x= .row e' t' ((decL t' d).getD []))\/ob i=some x)->(∃(q:Nat)(d':D)(e':TypeId)(t':Ty),(d::r)[q]? =some d'/\dcol t (j0+q)=some (e',t')/\i=k+1+(j0+q)/\x= .row e' t' ((decL t' d').getD []))\/ob i=some x:=λh=>by
   rcases h with⟨q,d',e',t',h1,h2,h3,h4⟩|h
   ·exact .inl ⟨q+1,d',e',t',by simpa using h1,by rw[show j0+(q+1)=j0+1+q by omega];exact h2,by omega,h4⟩
   ·exact .inr h
  split at h
  ·exact shift (ih h)
  ·rename_i e' t' hc
   rw[ovr_cons] at h
   by_cases e:i=k+1+j0
   ·subst e
    rw[put_same] at h
    injection h with h
    exact .inl ⟨0,d,e',t',rfl,hc,rfl,h.symm⟩
   ·rw[put_ne _ _ e] at h
    exact shift (ih h)
def eIdxD (P:Program)(m:Mem)(k:Nat)(t:TypeId)(x y:SV):Option ERes:=match x with
 | .os id=>match m.ob id with
  |some (.dp e ty l)=>match elemOf P t,y with
   |some e0,.d (.v (.int _ z))=>bif Nat.beq (tsz P e0) (size ty) then some ⟨[.inb l.length z],[],.op k z (size ty) 0,(id,some (.als k))::(k,some (.foc e ty l z (focW ty k 0 (enc ty (ix l z)))))::focO ty k 0 (enc ty (ix l z)),1+size ty⟩ else none
   |_,_=>none
  |_=>none
 |_=>none
theorem eIdxD_ok {o:Oper}{m:Mem}{ρ:Operand->SV}{k:Nat}{t:TypeId}{x y:Operand}{R:ERes}(he:o.op= .indexAddr t x y)(h:eIdxD P m k t (ρ x) (ρ y)=some R):EffR P o m ρ k R:=by
 intro a w c hr hk hp K Q hK
 have hx:=hr.op x
 have hy:=hr.op y
 unfold eIdxD at h
 split at h
 rotate_left
 ·cases h
 rename_i id hxe
 rw[hxe] at hx
 split at h
 rotate_left
 ·cases h
 rename_i e ty l hob
 split at h
 rotate_left
 ·cases h
 rename_i e0 kk z hel hye
 rw[hye] at hy
 cases hb:Nat.beq (tsz P e0) (size ty) with
 |false=>rw[hb] at h;cases h
 |true=>
 rw[hb] at h
 have hsz:=beq_eq hb
 injection h with h
 subst h
 have hz:inb l z:=hp.1
 have hzl:z.toNat<l.length:=by obtain⟨h1,h2⟩:=hz;omega
 have hx:=srel_os hx
 have hy:=srel_v hy
 obtain⟨hUid,_,hat⟩:=hr.ox.objs id _ hob
 have hfid:=hr.ox.fb id _ hob rfl
 have hat:DpAt w c.S (c.H id) (c.F id) e ty l:=hat
 obtain⟨h0,⟨hl0,_⟩|⟨g,cap,cur,Fi,hv,hF,hg1,hg2,hg,k1,k2,k3,k4⟩⟩:=hat
 ·rw[hl0] at hzl;exact absurd hzl (Nat.not_lt_zero _)
 have hxz:=ix_get (l:=l) (i:=z) hz
 have hsize:(enc ty (ix l z)).length=size ty:=enc_len _ _
 have hnU:∀i,m.U i->¬(k<=i/\i<k+(1+size ty)):=λi hi q=>hk i q.1 q.2 hi
 let H':Nat->Value:=λi=>if i=k then c.H id else if k<i/\i<k+(1+size ty) then (cur[z.toNat * size ty+(i-k-1)]?).getD undef else c.H i
 let F':Nat->Nat->Prop:=λi=>if i=k then (·=g) else if k<i/\i<k+(1+size ty) then Fi z.toNat (i-k-1) else c.F i
 let S':Cells:=λb o=>c.S b o\/∃i j,i<l.length/\i≠z.toNat/\Fi i j b
 let c':Cx:=⟨S',H',F',c.T⟩
 have hS:∀b o,c.S b o->S' b o:=λ_ _ h=> .inl h
 have hHo:∀i,m.U i->c'.H i=c.H i/\c'.F i=c.F i:=λi hi=>by
  have hn:=hnU i hi
  refine⟨?_,?_⟩
  ·show (if i=k then _ else if _ then _ else _)=_
   rw[if_neg (λe=>hn (by omega)),if_neg (λe=>hn (by omega))]
  ·show (if i=k then _ else if _ then _ else _)=_
   rw[if_neg (λe=>hn (by omega)),if_neg (λe=>hn (by omega))]
 have hHk:c'.H k=c.H id:=if_pos rfl
 have hFk:c'.F k=(·=g):=if_pos rfl
 have hHj:∀j,j<size ty->c'.H (k+1+j)=(cur[z.toNat * size ty+j]?).getD undef/\c'.F (k+1+j)=Fi z.toNat j:=λj hj=>by
  refine⟨?_,?_⟩
  ·show (if k+1+j=k then _ else if _ then _ else _)=_
   rw[if_neg (by omega),if_pos (by omega),show k+1+j-k-1=j by omega]
  ·show (if k+1+j=k then _ else if _ then _ else _)=_
   rw[if_neg (by omega),if_pos (by omega),show k+1+j-k-1=j by omega]
 have hFi:∀i j b,i<l.length->Fi i j b->c.F id b:=λi j b hi hf=>(hF b).2 (.inr ⟨i,j,hi,hf⟩)
 have hFgid:c.F id g:=(hF g).2 (.inl rfl)
 have hcase:∀i x,ovr m.ob ((id,some (.als k))::(k,some (.foc e ty l z (focW ty k 0 (enc ty (ix l z)))))::focO ty k 0 (enc ty (ix l z))) i=some x->
  (i=id/\x= .als k)\/(i=k/\x= .foc e ty l z (focW ty k 0 (enc ty (ix l z))))\/(∃(j:Nat)(e':TypeId)(t':Ty)(li:List (den t'))(u:Value),j<size ty/\(enc ty (ix l z))[j]? =some (.sl t' li)/\dcol ty j=some (e',t')/\i=k+1+j/\x= .row e' t' li/\cur[z.toNat * size ty+j]? =some u/\RowAt w c.S u (Fi z.toNat j) e' t' li)\/(i≠id/\¬(k<=i/\i<k+(1+size ty))/\m.ob i=some x):=λi x hi=>by
  rw[ovr_cons] at hi
  by_cases e1:i=id
  ·subst e1;rw[put_same] at hi;injection hi with hi;exact .inl ⟨rfl,hi.symm⟩
  ·rw[put_ne _ _ e1,ovr_cons] at hi
   by_cases e2:i=k
   ·subst e2;rw[put_same] at hi;injection hi with hi;exact .inr (.inl ⟨rfl,hi.symm⟩)
   ·rw[put_ne _ _ e2] at hi
    rcases focO_at ty k m.ob 0 _ i x hi with⟨q,d,e',t',h1,h2,h3,h4⟩|hi
    ·rw[Nat.zero_add] at h2 h3
     obtain⟨u,u1,u2,u3⟩:=k4 z.toNat _ hxz q d h1
     unfold CellD at u3
     rw[h2] at u3
     obtain⟨li,hd,hrow⟩:=u3
     subst hd
     have hli:((decL t' (.sl t' li)).getD []:List (den t'))=li:=by
      show (castL t' t' li).getD []=li
      rw[castL_same0];rfl
     rw[hli] at h4
     exact .inr (.inr (.inl ⟨q,e',t',li,u,by rw[<-hsize];exact (List.getElem?_eq_some_iff.1 h1).1,h1,h2,h3,h4,u1,hrow⟩))
    ·exact .inr (.inr (.inr ⟨e1,hnU i (hr.ox.objs i x hi).1,hi⟩))
 have hcellN:∀b o,c.S b o->w.cell? ⟨b,o,none⟩=w.cell? ⟨b,o,none⟩:=λ_ _ _=>rfl
 obtain⟨r1,r2⟩:=hr.ox.updN (ob':=ovr m.ob ((id,some (.als k))::(k,some (.foc e ty l z (focW ty k 0 (enc ty (ix l z)))))::focO ty k 0 (enc ty (ix l z)))) (U':=addN m.U k (1+size ty)) (w':=w) (c':=c')
  (λi=>i=id\/(k<=i/\i<k+(1+size ty))) (λi=>i≠id/\¬(k<=i/\i<k+(1+size ty))) (λ_ h=> .inl h) (λi x hi hnk=>by
   rcases hcase i x hi with⟨e1,_⟩|⟨e1,_⟩|⟨j,e',t',li,u,h1,_,_,h2,_⟩|⟨e1,e2,e3⟩
   ·exact absurd (.inl e1) hnk
   ·exact absurd (.inr ⟨by omega,by omega⟩) hnk
   ·exact absurd (.inr ⟨by omega,by omega⟩) hnk
   ·exact⟨⟨e1,e2⟩,e3⟩) (λi hi hn=>by
   rcases hi with e1|e1
   ·exact hn.1 e1
   ·exact hn.2 e1) hHo hS (λb o hb=>by
   rcases hb with hb|⟨i,j,hi,_,hf⟩
   ·exact .inl hb
   ·exact .inr (.inl ⟨id,_,hob,rfl,λq=>q.1 rfl,hFi i j b hi hf⟩)) (λb o hb=>by
   rcases hb with hb|⟨i,j,hi,_,hf⟩
   ·exact hr.ox.sb b o hb
   ·exact (hfid b (hFi i j b hi hf)).1) rfl rfl rfl rfl (Nat.le_refl _) (λ_ _ _=>rfl) (λi x hK' hi=>by
   rcases hcase i x hi with⟨rfl,rfl⟩|⟨rfl,rfl⟩|⟨j,e',t',li,u,h1,_,_,rfl,rfl,h2,h3⟩|⟨e1,e2,e3⟩
   ·refine⟨.inl hUid,.inr ⟨Nat.le_refl _,by omega⟩,?_⟩
    show c'.H i=c'.H k
    rw[hHk,(hHo i hUid).1]
   ·refine⟨.inr ⟨Nat.le_refl _,by omega⟩,?_,?_⟩
    ·refine inUL_of λq s hs=> ?_
     obtain⟨d,hd,hs'⟩:=focW_get ty i 0 _ q s hs
     rw[Nat.zero_add] at hs'
     rcases hs' with⟨_,rfl⟩|⟨_,_,rfl⟩
     ·trivial
     ·have:=enc_lt hd
      exact .inr ⟨by omega,by omega⟩
    ·refine⟨h0,hz.1,hz.2,by rw[focW_len,hsize],g,cap,cur,hHk.trans hv,λb=>by rw[hFk],hg,k1,k2,k3,λq x hq hne j d hd=> ?_,λj s hs=> ?_⟩
     ·obtain⟨u,u1,u2,u3⟩:=k4 q x hq j d hd
      refine⟨u,u1,u2,?_⟩
      have hql:=(List.getElem?_eq_some_iff.1 hq).1
      unfold CellD at u3
      split at u3
      ·exact Rd.mono hS (λ_ _ _=>rfl) u3
      ·obtain⟨li,hd',hrow⟩:=u3
       rw[hd']
       exact hrow.rd hS λb hb o=> .inr ⟨q,j,hql,hne,hb⟩
     ·obtain⟨d,hd,hs'⟩:=focW_get ty i 0 _ j s hs
      rw[Nat.zero_add] at hs'
      obtain⟨u,u1,u2,u3⟩:=k4 z.toNat _ hxz j d hd
      refine⟨u,u1,u2,?_⟩
      unfold CellD at u3
      rcases hs' with⟨e1,rfl⟩|⟨p,e1,rfl⟩
      ·rw[e1] at u3
       exact .d _ _ (Rd.mono hS (λ_ _ _=>rfl) u3)
      ·have:=SRel.os (c:=c') (w:=w) (i+1+j)
       rw[(hHj j (enc_lt hd)).1,u1] at this
       exact this
   ·refine⟨.inr ⟨by omega,by omega⟩,trivial,?_⟩
    show RowAt w c'.S (c'.H (k+1+j)) (c'.F (k+1+j)) e' t' li
    rw[(hHj j h1).1,(hHj j h1).2,h2]
    exact h3.keep hS (λ_ _ _=>rfl) λ_ _=>rfl
   ·exact absurd hK' (λq=>q.elim e1 e2)) (λi x hK' hi ho b hb=>by
   rcases hcase i x hi with⟨rfl,rfl⟩|⟨rfl,rfl⟩|⟨j,e',t',li,u,h1,_,_,rfl,rfl,h2,h3⟩|⟨e1,e2,e3⟩
   ·cases ho
   ·rw[hFk] at hb
    have hb:b=g:=hb
    subst hb
    refine⟨.inl ⟨id,_,hob,rfl,λq=>q.1 rfl,hFgid⟩,(hfid b hFgid).1,λo hs=> ?_⟩
    rcases hs with hs|⟨i',j',hi',_,hf⟩
    ·exact (hfid b hFgid).2.1 o hs
    ·exact hg1 i' j' hi' hf
   ·rw[(hHj j h1).2] at hb
    have hbid:=hFi _ j b hzl hb
    refine⟨.inl ⟨id,_,hob,rfl,λq=>q.1 rfl,hbid⟩,(hfid b hbid).1,λo hs=> ?_⟩
    rcases hs with hs|⟨i',j',hi',hne',hf⟩
    ·exact (hfid b hbid).2.1 o hs
    ·exact hne' (hg2 i' j' z.toNat j b hi' hzl hf hb).1
   ·exact absurd hK' (λq=>q.elim e1 e2)) (λi i' x x' hK' hK'' hi hi' ho ho' hne b hb hb'=>by
   rcases hcase i x hi with⟨rfl,rfl⟩|⟨rfl,rfl⟩|⟨j,e',t',li,u,h1,_,_,rfl,rfl,h2,h3⟩|⟨e1,e2,e3⟩
   ·cases ho
   ·rw[hFk] at hb
    have hb:b=g:=hb
    rcases hcase i' x' hi' with⟨rfl,rfl⟩|⟨rfl,rfl⟩|⟨j,e',t',li,u,h1,_,_,rfl,rfl,h2,h3⟩|⟨e1,e2,e3⟩
    ·cases ho'
    ·exact hne rfl
    ·rw[(hHj j h1).2,hb] at hb'
     exact hg1 _ j hzl hb'
    ·exact hK''.elim e1 e2
   ·rw[(hHj j h1).2] at hb
    rcases hcase i' x' hi' with⟨rfl,rfl⟩|⟨rfl,rfl⟩|⟨j',e'',t'',li',u',h1',_,_,rfl,rfl,h2',h3'⟩|⟨e1,e2,e3⟩
    ·cases ho'
    ·rw[hFk] at hb'
     have hb':b=g:=hb'
     rw[hb'] at hb
     exact hg1 _ j hzl hb
    ·rw[(hHj j' h1').2] at hb'
     have:=(hg2 _ j _ j' b hzl hzl hb hb').2
     subst this
     exact hne rfl
    ·exact hK''.elim e1 e2
   ·exact hK'.elim e1 e2)
 have hu:a.eval x= .slice (some ⟨g,0,none⟩) l.length cap:=hx.trans hv
 refine wp_value (v:= .pointer (some ⟨g,z.toNat * tsz P e0,none⟩)) (w':=w) ?_ (hK _ c' _ r1 r2 ?_ (.inr ⟨Nat.le_refl _,by show k<k+(1+size ty);omega⟩) trivial)
 ·have:=run_index (P:=P) hel (ad:=⟨g,0,none⟩) (n:=l.length) (cap:=cap) (k:=kk) (z:=z) hz w
  rw[addr_add,Nat.zero_add] at this
  simp[execOp,he,hu,hy,this]
 ·show SRel c' w (.op k z (size ty) 0) _
  have:=SRel.op (c:=c') (w:=w) k z (size ty) 0 g l.length cap (hHk.trans hv) hz
  rw[Nat.add_zero] at this
  rw[hsz];exact this
theorem foc_cells {w:World}{c:Cx}{id:Nat}{e:TypeId}{t:Ty}{l:List (den t)}{k:Int}{cs:List SV}(h:FocAt w c id e t l k cs):∃g cap,c.H id= .slice (some ⟨g,0,none⟩) l.length cap/\c.F id g/\∃us:List Value,us.length=cs.length/\(∀j u,us[j]? =some u->w.cell? ⟨g,k.toNat * size t+j,none⟩=some u)/\(∀u∈us,u.oneCell'=true)/\∀(j:Nat)(s:SV)(u:Value),cs[j]? =some s->us[j]? =some u->SRel c w s u:=by
 obtain⟨h0,h1,h2,h3,g,cap,cur,q1,q2,q3,q4,q5,q6,q7,q8⟩:=h
 refine⟨g,cap,q1,(q2 g).2 rfl,?_⟩
 exact load_cellsR (R:=SRel c w) (w:=w) (b:=g) (off:=k.toNat * size t) (cs:=cs) λj s hs=>by
  obtain⟨u,u1,u2,u3⟩:=q8 j s hs
  exact⟨u,by rw[cell_row q3];exact u1,u2,u3⟩
def eLoadF (P:Program)(m:Mem)(t:TypeId)(x:SV):Option ERes:=match x with
 | .op id z sz j=>match m.ob id with
  |some (.foc _ ty _ k cs)=>bif Nat.beq sz (size ty)&&Nat.ble j sz then match pCells P t (cs.drop j) with
   |some r=>some ⟨[.pp (z=k)],[],r,[],0⟩
   |none=>none
   else none
  |_=>none
 |_=>none
theorem eLoadF_ok {o:Oper}{m:Mem}{ρ:Operand->SV}{k:Nat}{t:TypeId}{x:Operand}{R:ERes}(he:o.op= .load t x)(h:eLoadF P m t (ρ x)=some R):EffR P o m ρ k R:=by
 unfold eLoadF at h
 split at h
 rotate_left
 ·cases h
 rename_i id z sz j hxe
 split at h
 rotate_left
 ·cases h
 rename_i e ty l kf cs hob
 cases hb:(Nat.beq sz (size ty)&&Nat.ble j sz) with
 |false=>rw[hb] at h;cases h
 |true=>
 rw[hb] at h
 simp only[cond_true] at h
 split at h
 rotate_left
 ·cases h
 rename_i r hr0
 injection h with h
 subst h
 have b1:=beq_eq (Bool.and_eq_true_iff.1 hb).1
 subst b1
 refine pure_ok (R':=⟨[.pp (z=kf)],[],r⟩) rfl λa w c hr hp=> ?_
 have hz:z=kf:=hp.1
 subst hz
 have hx:=hr.op x
 rw[hxe] at hx
 obtain⟨g,n,cap,hH,hu,hz⟩:=srel_op hx
 obtain⟨_,hUo,hat⟩:=hr.ox.objs id _ hob
 have hat:FocAt w c id e ty l z cs:=hat
 obtain⟨g',cap',hH',hF',us,u1,u2,u3,u4⟩:=foc_cells hat
 rw[hH] at hH'
 injection hH' with e1 e2 e3
 injection e1 with e1
 injection e1 with e1
 subst e1
 obtain⟨v,v1,v2,v3⟩:=pCells_run (P:=P) (t:=t) (U:=m.U) hr0 (c:=c) (w:=w) (b:=g) (o:=z.toNat * size ty+j) (us:=us.drop j) (by simp[u1]) (λu hu=>u3 u (List.mem_of_mem_drop hu)) (λq u hq=>by
  rw[List.getElem?_drop] at hq
  rw[Nat.add_assoc];exact u2 _ u hq) (λq s u hs hu=>by
  rw[List.getElem?_drop] at hs hu;exact u4 _ s u hs hu) (inUL_of λq s hs=>by rw[List.getElem?_drop] at hs;exact inUL_get hUo hs)
 refine⟨v,?_,v2,v3,trivial⟩
 simp[execOp,he,hu,v1]
theorem OX.storeFoc {ob:Obs}{U:Nat->Prop}{tp:Bool}{w:World}{c:Cx}(h:OX ob U tp w c){id g n cap j:Nat}{e:TypeId}{t:Ty}{l:List (den t)}{k:Int}{cs ks:List SV}{vs:List Value}(hid:ob id=some (.foc e t l k cs))(hH:c.H id= .slice (some ⟨g,0,none⟩) n cap)(hl:vs.length=ks.length)(ho:j+ks.length<=size t)
 (h1:∀u∈vs,u.oneCell'=true) (hr:∀(q:Nat)(s:SV)(u:Value),ks[q]? =some s->vs[q]? =some u->SRel c w s u) (hU:inUL U ks):
 (∀q,q<vs.length->(w.cell? ⟨g,k.toNat * size t+j+q,none⟩).isSome=true/\w.frozen? ⟨g,k.toNat * size t+j+q,none⟩=false)/\
 OX (put ob id (some (.foc e t l k (spl cs j ks)))) U tp (w.setCells g (k.toNat * size t+j) vs) c/\Tr ob U w c (put ob id (some (.foc e t l k (spl cs j ks)))) U (w.setCells g (k.toNat * size t+j) vs) c:=by
 obtain⟨hUid,hUcs,h0,hk0,hk1,hcl,g',cap',cur,hv,hF,hg,k1,k2,k3,k4,k5⟩:=h.objs id _ hid
 have hUcs:inUL U cs:=hUcs
 rw[hH] at hv
 injection hv with e1 e2 e3
 injection e1 with e1
 injection e1 with e1
 subst e1 e2 e3
 have hil:k.toNat<l.length:=by omega
 have hf:=h.fb id _ hid rfl g ((hF g).2 rfl)
 obtain⟨o1,o2,o3,o4,o5⟩:=setCells_os g vs (k.toNat * size t+j) w
 have hfit:k.toNat * size t+j+vs.length<=cur.size:=by
  rw[k3]
  have a1:(k.toNat+1) * size t<=cap * size t:=Nat.mul_le_mul_right _ (by omega)
  have a2:(k.toNat+1) * size t=k.toNat * size t+size t:=Nat.succ_mul _ _
  omega
 refine⟨λq hq=>⟨by rw[cell_row hg,Array.getElem?_eq_getElem (by omega)];rfl,by simp[World.frozen?,hg]⟩,?_⟩
 have hcl':j+ks.length<=cs.length:=by rw[hcl];exact ho
 have hsr:∀{s:SV}{u:Value},s.inU U->SRel c w s u->SRel c (w.setCells g (k.toNat * size t+j) vs) s u:=λhu hr=>SRel.mono (U:=U) (λ_ _ h=>h) (λb' o hs=>World.cell?_of_block (o5 b' (λe=>hf.2.1 o (e ▸ hs)))) (λ_ h=>h) (λ_ _=>rfl) hr hu
 have hrd:∀{d:D}{u:Value},Rd c.S w d u->Rd c.S (w.setCells g (k.toNat * size t+j) vs) d u:=λhr=>hr.mono (λ_ _ h=>h) (λb' o hs=>World.cell?_of_block (o5 b' (λe=>hf.2.1 o (e ▸ hs))))
 have hg':w.heap[g]? =some (.cells cur.toList.toArray e (0,0)):=by simpa using hg
 have hh:=heap_setCells_at g vs (k.toNat * size t+j) w cur.toList e (0,0) hg' (by simpa using hfit)
 refine h.upd id (.foc e t l k (spl cs j ks)) (λi=>i≠id) (λ_ h=>h) hUid (put_same _ _ _) (λi y hi e=>⟨e,by rw[put_ne _ _ e] at hi;exact hi⟩) (λe=>e rfl) (λ_ _=>⟨rfl,rfl⟩) (λ_ _ h=>h) (λ_ _ h=> .inl h) (λb' o hb'=>by rw[o4];exact h.sb b' o hb') rfl o1 o2 o3 (Nat.le_of_eq o4.symm)
  (λb hb hn=>o5 b (λe=>hn id _ hid rfl (λe=>e rfl) (by rw[e];exact (hF g).2 rfl))) ?_ ?_ (λ_ b hb=> .inl ⟨id,_,hid,rfl,λe=>e rfl,hb⟩) (λ_ b hb=>by rw[o4];exact⟨(h.fb id _ hid rfl b hb).1,(h.fb id _ hid rfl b hb).2.1⟩)
 ·refine⟨h0,hk0,hk1,by rw[spl_len hcl',hcl],g,cap,_,hH,hF,hh,k1,k2,?_,λq y hq hne p d hd=> ?_,λp s hs=> ?_⟩
  ·rw[List.size_toArray,spl_len (by simpa using hfit)];simpa using k3
  ·have hp:=enc_lt hd
   obtain⟨u,u1,u2,u3⟩:=k4 q y hq hne p d hd
   refine⟨u,?_,u2,hrd u3⟩
   rw[List.getElem?_toArray,spl_get (by simpa using hfit)]
   have hne2:q * size t+p<k.toNat * size t+j\/k.toNat * size t+j+vs.length<=q * size t+p:=by
    rcases Nat.lt_or_ge q k.toNat with c1|c1
    ·left
     have a1:(q+1) * size t<=k.toNat * size t:=Nat.mul_le_mul_right _ c1
     have a2:(q+1) * size t=q * size t+size t:=Nat.succ_mul _ _
     omega
    ·right
     have a1:(k.toNat+1) * size t<=q * size t:=Nat.mul_le_mul_right _ (by omega)
     have a2:(k.toNat+1) * size t=k.toNat * size t+size t:=Nat.succ_mul _ _
     omega
   rcases hne2 with c1|c1
   ·rw[if_pos c1];simpa using u1
   ·rw[if_neg (by omega),if_neg (by omega)];simpa using u1
  ·have hpl:p<size t:=by
    have:=(List.getElem?_eq_some_iff.1 hs).1
    rw[spl_len hcl',hcl] at this;exact this
   rw[spl_get hcl'] at hs
   rw[List.getElem?_toArray,spl_get (by simpa using hfit)]
   by_cases c1:p<j
   ·rw[if_pos c1] at hs
    obtain⟨u,u1,u2,u3⟩:=k5 p s hs
    exact⟨u,by rw[if_pos (by omega)];simpa using u1,u2,hsr (inUL_get hUcs hs) u3⟩
   ·by_cases c2:p<j+ks.length
    ·rw[if_neg c1,if_pos c2] at hs
     have hvl:p-j<vs.length:=by omega
     refine⟨vs[p-j],?_,h1 _ (List.getElem_mem hvl),hsr (inUL_get hU hs) (hr (p-j) s _ hs (List.getElem?_eq_getElem hvl))⟩
     rw[if_neg (by omega),if_pos (by omega),show k.toNat * size t+p-(k.toNat * size t+j)=p-j by omega]
     exact List.getElem?_eq_getElem hvl
    ·rw[if_neg c1,if_neg c2] at hs
     obtain⟨u,u1,u2,u3⟩:=k5 p s hs
     exact⟨u,by rw[if_neg (by omega),if_neg (by omega)];simpa using u1,u2,hsr (inUL_get hUcs hs) u3⟩
 ·refine inUL_of λp s hs=> ?_
  rw[spl_get hcl'] at hs
  split at hs
  ·exact inUL_get hUcs hs
  ·split at hs
   ·exact inUL_get hU hs
   ·exact inUL_get hUcs hs
def eStoreF (P:Program)(m:Mem)(t:TypeId)(x y:SV):Option ERes:=match x with
 | .op id z sz j=>match m.ob id with
  |some (.foc e ty l k cs)=>bif Nat.beq sz (size ty)&&okc y&&hOne m y&&szTy P t (cellsOf y).length&&Nat.ble (j+(cellsOf y).length) (size ty) then some ⟨[.pp (z=k)],[],.un,[(id,some (.foc e ty l k (spl cs j (cellsOf y))))],0⟩ else none
  |_=>none
 |_=>none
theorem eStoreF_ok {o:Oper}{m:Mem}{ρ:Operand->SV}{k:Nat}{t:TypeId}{x y:Operand}{R:ERes}(he:o.op= .store t x y)(h:eStoreF P m t (ρ x) (ρ y)=some R):EffR P o m ρ k R:=by
 intro a w c hr hk hp K Q hK
 have hx:=hr.op x
 unfold eStoreF at h
 split at h
 rotate_left
 ·cases h
 rename_i id z sz j hxe
 rw[hxe] at hx
 split at h
 rotate_left
 ·cases h
 rename_i e ty l kf cs hob
 cases hb:(Nat.beq sz (size ty)&&okc (ρ y)&&hOne m (ρ y)&&szTy P t (cellsOf (ρ y)).length&&Nat.ble (j+(cellsOf (ρ y)).length) (size ty)) with
 |false=>rw[hb] at h;cases h
 |true=>
 rw[hb] at h
 injection h with h
 subst h
 simp only[Bool.and_eq_true] at hb
 obtain⟨⟨⟨⟨b0,b1⟩,b2⟩,b3⟩,b4⟩:=hb
 have b0:=beq_eq b0
 subst b0
 have b4:=Nat.le_of_ble_eq_true b4
 have hz:z=kf:=hp.1
 subst hz
 obtain⟨k1,k2,k3⟩:=cells_rd (hr.op y) b1 (hOne_spec hr.ox b2)
 obtain⟨g,n,cap,hH,hu,hz⟩:=srel_op hx
 obtain⟨r0,r1,r2⟩:=hr.ox.storeFoc (j:=j) (ks:=cellsOf (ρ y)) (vs:=(a.eval y).cells.toList) hob hH k1 b4 k2 k3 (cellsOf_inU (hr.iu y))
 have hst:=run_store (P:=P) t w g (z.toNat * size ty+j) (a.eval y) (by rw[k1];exact b3) (λq hq=>(r0 q hq).1) (λq hq=>(r0 q hq).2) k2
 refine wp_skip' (w':=w.setCells g (z.toNat * size ty+j) (a.eval y).cells.toList) (by simp[execOp,he,hu,hst]) (hK _ c _ ?_ ?_ (.un _) trivial trivial)
 ·show OX (ovr m.ob [_]) (addN m.U k 0) _ _ _
  rw[ovr_cons,ovr_nil,addN_zero];exact r1
 ·show Tr _ _ _ _ (ovr m.ob [_]) (addN m.U k 0) _ _
  rw[ovr_cons,ovr_nil,addN_zero];exact r2
def isLenD:Op->Option (TypeId×Operand)
 | .call ⟨.builtin .len,args,tys⟩=>match args.toList,tys.toList with
  |[x],[t]=>some (t,x)
  |_,_=>none
 |_=>none
theorem isLenD_spec {o:Op}{t:TypeId}{x:Operand}(h:isLenD o=some (t,x)):o= .call ⟨.builtin .len,#[x],#[t]⟩:=by
 unfold isLenD at h
 split at h
 ·rename_i args tys
  split at h
  ·rename_i x' t' ha ht
   injection h with h
   injection h with h1 h2
   subst h1 h2
   rw[arr1 ha,arr1 ht]
  ·cases h
 ·cases h
def eLenD (P:Program)(m:Mem)(t:TypeId)(x:SV):Option ERes:=match x with
 | .os id=>match dpOf m id with
  |some ⟨_,l⟩=>bif (elemOf P t).isSome then some ⟨[],[LenOK l],bI .i64 (l.length:Nat),[],0⟩ else none
  |none=>none
 |_=>none
theorem eLenD_ok {o:Oper}{m:Mem}{ρ:Operand->SV}{k:Nat}{t:TypeId}{x:Operand}{R:ERes}(he:o.op= .call ⟨.builtin .len,#[x],#[t]⟩)(h:eLenD P m t (ρ x)=some R):EffR P o m ρ k R:=by
 unfold eLenD at h
 split at h
 rotate_left
 ·cases h
 rename_i id hxe
 split at h
 rotate_left
 ·cases h
 rename_i ty l hd
 cases hb:(elemOf P t).isSome with
 |false=>rw[hb] at h;cases h
 |true=>
 rw[hb] at h
 injection h with h
 subst h
 obtain⟨e0,hel⟩:=Option.isSome_iff_exists.1 hb
 refine pure_ok (R':=⟨[],[LenOK l],bI .i64 (l.length:Nat)⟩) rfl λa w c hr hp=> ?_
 have hx:=hr.op x
 rw[hxe] at hx
 have hx:=srel_os hx
 obtain⟨ad,cap,hv,hc,hm⟩:=dpOf_rel hr.ox hd
 rw[hv] at hx
 obtain⟨inf,hu',_⟩:=elemOf_spec hel
 refine⟨.int .i64 (l.length:Nat),?_,.d _ _ (.v _),trivial,lenOK hc hm,trivial⟩
 have hxx:a.eval x= .slice ad l.length cap:=hx
 simp[execOp,he,resolve,invoke,builtin,hxx,Builtin.len_,goInt,run_underlying hu']
def isDeep (τ:TypeId->Option Ty):Bool:=match τ 999999 with
 |some .bool=>true
 |_=>false
def eopD (P:Program)(τ:TypeId->Option Ty)(m:Mem)(ρ:Operand->SV)(k:Nat)(o:Oper):Option ERes:=bif isDeep τ then match o.op with
 | .buildSlice t len xs=>eBuildD P τ m ρ k t len xs
 | .store t x y=>eStoreF P m t (ρ x) (ρ y)
 | .load t x=>eLoadF P m t (ρ x)
 | .indexAddr t x y=>eIdxD P m k t (ρ x) (ρ y)
 |_=>match isAppend o.op with
  |some (t,x,y)=>eAppD P τ m k t (ρ x) (ρ y)
  |none=>match isLenD o.op with
   |some (t,x)=>eLenD P m t (ρ x)
   |none=>none
 else none
theorem eopD_ok {τ:TypeId->Option Ty}{m:Mem}{ρ:Operand->SV}{k:Nat}{o:Oper}{R:ERes}(h:eopD P τ m ρ k o=some R):EffR P o m ρ k R:=by
 unfold eopD at h
 cases hb:isDeep τ with
 |false=>rw[hb] at h;cases h
 |true=>
 rw[hb] at h
 simp only[cond_true] at h
 split at h
 ·rename_i t len xs he;exact eBuildD_ok he h
 ·rename_i t x y he;exact eStoreF_ok he h
 ·rename_i t x he;exact eLoadF_ok he h
 ·rename_i t x y he;exact eIdxD_ok he h
 ·split at h
  ·rename_i t x y ha;exact eAppD_ok (isAppend_spec ha) h
  ·split at h
   ·rename_i t x ha;exact eLenD_ok (isLenD_spec ha) h
   ·cases h
def isZ0:Int->Bool
 | .ofNat 0=>true
 |_=>false
theorem isZ0_eq {a:Int}(h:isZ0 a=true):a=0:=by
 unfold isZ0 at h
 split at h
 ·rfl
 ·cases h
theorem OX.front {ob:Obs}{U:Nat->Prop}{tp:Bool}{w:World}{c:Cx}(hox:OX ob U tp w c){k id sz:Nat}{b:Int}{e:TypeId}{ty:Ty}{l:List (den ty)}{v:Value}(hk:¬U k)(hob:ob id=some (.row e ty l))(hsz:sz=size ty)(hs:SRel c w (.sub id sz 0 b) v):
 ∃c',OX (put (put ob id none) k (some (.row e ty (l.take b.toNat)))) (addN U k 1) tp w c'/\Tr ob U w c (put (put ob id none) k (some (.row e ty (l.take b.toNat)))) (addN U k 1) w c'/\c'.H k=v/\(∀i,U i->c'.H i=c.H i)/\v.cells= #[v]/\v.oneCell'=true:=by
 subst hsz
 obtain⟨ad,n,cap,hH,hv,hab1,hab2,hab3⟩:=srel_sub hs
 have hid:U id:=(hox.objs id _ hob).1
 have hne:id≠k:=λe=>hk (e ▸ hid)
 have e0:(if cap=0 then ad else ad.map (·.add 0))=ad:=by split<;>cases ad<;>simp[Addr.add]
 rw[subV_len,Int.toNat_zero,Nat.zero_mul,Nat.sub_zero,Nat.sub_zero,e0] at hv
 obtain⟨_,_,hrow⟩:=hox.objs id _ hob
 have hrow':RowAt w c.S v (c.F id) e ty (l.take b.toNat):=by
  obtain⟨h0,⟨e1,⟨ad',e2⟩,e3⟩|⟨g,cap',cur,e2,e3,e4,e5,e6,e7,e8⟩⟩:=hrow
  ·rw[hH] at e2
   injection e2 with q1 q2 q3
   subst q1 q2 q3
   refine⟨h0,.inl ⟨by rw[e1];simp,⟨ad,?_⟩,e3⟩⟩
   rw[hv];congr 1;omega
  ·rw[hH] at e2
   injection e2 with q1 q2 q3
   subst q1 q2 q3
   have hl:(l.take b.toNat).length=b.toNat:=by rw[List.length_take];omega
   refine⟨h0,.inr ⟨g,cap,cur,by rw[hv,hl],e3,e4,by rw[hl];omega,e6,e7,λi x hx j d hd=>e8 i x ?_ j d hd⟩⟩
   rw[List.getElem?_take] at hx
   split at hx
   ·exact hx
   ·cases hx
 have hUk:addN U k 1 k:= .inr ⟨Nat.le_refl _,by omega⟩
 have main:=hox.upd (c':=⟨c.S,put c.H k v,put c.F k (c.F id),c.T⟩) (w':=w) (ob':=put (put ob id none) k (some (.row e ty (l.take b.toNat)))) (U':=addN U k 1) k (.row e ty (l.take b.toNat)) (λi=>i≠id/\i≠k)
  (λi hi=> .inl hi) hUk (put_same _ _ _) (λi y hi e1=>by
   rw[put_ne _ _ e1] at hi
   by_cases e2:i=id
   ·subst e2;rw[put_same] at hi;cases hi
   ·rw[put_ne _ _ e2] at hi;exact⟨⟨e2,e1⟩,hi⟩) (λe1=>e1.2 rfl) (λi hi=>by
    have:i≠k:=λe=>hk (e ▸ hi)
    exact⟨put_ne _ _ this,put_ne _ _ this⟩) (λ_ _ h=>h) (λ_ _ h=> .inl h) (λb o hb=>hox.sb b o hb)
  rfl rfl rfl rfl (Nat.le_refl _) (λ_ _ _=>rfl) (by
   show RowAt w c.S (put c.H k v k) (put c.F k (c.F id) k) e ty (l.take b.toNat)
   rw[put_same,put_same];exact hrow') trivial (λ_ x hk=>by
   have hk:put c.F k (c.F id) k x:=hk
   rw[put_same] at hk
   exact .inl ⟨id,_,hob,rfl,λq=>q.1 rfl,hk⟩) (λ_ x hk=>by
   have hk:put c.F k (c.F id) k x:=hk
   rw[put_same] at hk
   exact⟨(hox.fb id _ hob rfl x hk).1,(hox.fb id _ hob rfl x hk).2.1⟩)
 refine⟨_,main.1,main.2,put_same _ _ _,λi hi=>put_ne _ _ (λe=>hk (e ▸ hi)),?_,?_⟩
 ·rw[hv];rfl
 ·rw[hv];rfl
def eStoreSub (P:Program)(m:Mem)(k:Nat)(t:TypeId):SV->SV->Option ERes
 | .bx id off,.sub rid sz a b=>match m.ob id with
  |some (.box cs)=>match m.ob rid with
   |some (.row e ty l)=>bif isZ0 a&&Nat.beq sz (size ty)&&szTy P t 1&&Nat.ble (off+1) cs.length then some ⟨[],[],.un,[(id,some (.box (spl cs off [.os k]))),(k,some (.row e ty (l.take b.toNat))),(rid,none)],1⟩ else none
   |_=>none
  |_=>none
 |_,_=>none
theorem eStoreSub_ok {o:Oper}{m:Mem}{ρ:Operand->SV}{k:Nat}{t:TypeId}{x y:Operand}{R:ERes}(he:o.op= .store t x y)(h:eStoreSub P m k t (ρ x) (ρ y)=some R):EffR P o m ρ k R:=by
 intro a w c hr hk hp K Q hK
 have hx:=hr.op x
 have hy:=hr.op y
 unfold eStoreSub at h
 split at h
 ·rename_i id off rid sz za zb hxe hye
  rw[hxe] at hx
  rw[hye] at hy
  split at h
  ·rename_i cs hob
   split at h
   ·rename_i e ty l hrob
    cases hb:(isZ0 za&&Nat.beq sz (size ty)&&szTy P t 1&&Nat.ble (off+1) cs.length) with
    |false=>rw[hb] at h;cases h
    |true=>
     rw[hb] at h
     injection h with h
     subst h
     simp only[Bool.and_eq_true] at hb
     obtain⟨⟨⟨b1,b2⟩,b3⟩,b4⟩:=hb
     have b1:=isZ0_eq b1
     have b2:=beq_eq b2
     have b4:=Nat.le_of_ble_eq_true b4
     subst b1
     have hkU:¬m.U k:=hk k (Nat.le_refl _) (by show k<k+1;omega)
     obtain⟨c',o1,t1,hHk,hHi,hvc,hv1⟩:=hr.ox.front hkU hrob b2 hy
     obtain⟨b,hbH,hbu⟩:=srel_bx hx
     have hidU:m.U id:=(hr.ox.objs id _ hob).1
     have hidk:id≠k:=λe=>hkU (e ▸ hidU)
     have hidr:id≠rid:=λe=>by rw[e,hrob] at hob;cases hob
     have hob1:put (put m.ob rid none) k (some (.row e ty (l.take zb.toNat))) id=some (.box cs):=by
      rw[put_ne _ _ hidk,put_ne _ _ hidr];exact hob
     have hbH1:c'.H id= .pointer (some ⟨b,0,none⟩):=(hHi id hidU).trans hbH
     obtain⟨_,_,b',arr,t',q1,q2,q3,q4,q5,q6⟩:=o1.objs id _ hob1
     rw[hbH1] at q1
     injection q1 with q1
     injection q1 with q1
     injection q1 with q1
     subst q1
     have hvl:(a.eval y).cells.toList=[a.eval y]:=by rw[hvc]
     have hst:=run_store (P:=P) t w b off (a.eval y) (by rw[hvl];exact b3) (λj hj=>by rw[hvl] at hj;simp at hj;rw[cell_row q3,List.getElem?_toArray,List.getElem?_eq_getElem (by omega)];rfl) (λj hj=>by simp[World.frozen?,q3]) (by rw[hvl];intro v hv;rw[List.mem_singleton] at hv;rw[hv];exact hv1)
     obtain⟨r1,r2⟩:=o1.store (off:=off) (ks:=[.os k]) (vs:=(a.eval y).cells.toList) hob1 hbH1 (by rw[hvl];rfl) b4 (by rw[hvl];intro v hv;rw[List.mem_singleton] at hv;rw[hv];exact hv1) (λj s u hs hu=>by
      rw[hvl] at hu
      cases j with
      |zero=>
       simp at hs hu
       subst hs hu
       have:=SRel.os (c:=c') (w:=w) k
       rw[hHk] at this
       exact this
      |succ j=>simp at hs) ⟨.inr ⟨Nat.le_refl _,by omega⟩,trivial⟩
     have eo:ovr m.ob [(id,some (.box (spl cs off [.os k]))),(k,some (.row e ty (l.take zb.toNat))),(rid,none)]=put (put (put m.ob rid none) k (some (.row e ty (l.take zb.toNat)))) id (some (.box (spl cs off [.os k]))):=by
      rw[ovr_cons,ovr_cons,ovr_cons,ovr_nil]
     refine wp_skip' (w':=w.setCells b off (a.eval y).cells.toList) (by simp[execOp,he,hbu,hst]) (hK _ c' _ ?_ ?_ (.un _) trivial trivial)
     ·rw[eo];exact r1
     ·rw[eo];exact t1.trans r2
   ·cases h
  ·cases h
 ·cases h
def eopM (P:Program)(τ:TypeId->Option Ty)(m:Mem)(ρ:Operand->SV)(k:Nat)(o:Oper):Option ERes:=match o.op with
 | .store t x y=>match eStoreSub P m k t (ρ x) (ρ y) with
  |some R=>some R
  |none=>none
 |_=>none
theorem eopM_ok {τ:TypeId->Option Ty}{m:Mem}{ρ:Operand->SV}{k:Nat}{o:Oper}{R:ERes}(h:eopM P τ m ρ k o=some R):EffR P o m ρ k R:=by
 unfold eopM at h
 split at h
 ·rename_i t x y he
  split at h
  ·rename_i R' hR'
   injection h with h
   subst h
   exact eStoreSub_ok he hR'
  ·cases h
 ·cases h
def eop (P:Program)(τ:TypeId->Option Ty)(m:Mem)(ρ:Operand->SV)(k:Nat)(o:Oper):Option ERes:=match eopD P τ m ρ k o with
 |some R=>some R
 |none=>match eop1 P τ m ρ k o with
  |some R=>some R
  |none=>eopM P τ m ρ k o
theorem eop_ok {τ:TypeId->Option Ty}{m:Mem}{ρ:Operand->SV}{k:Nat}{o:Oper}{R:ERes}(h:eop P τ m ρ k o=some R):EffR P o m ρ k R:=by
 unfold eop at h
 split at h
 ·rename_i R' hR'
  injection h with h
  subst h
  exact eopD_ok hR'
 ·split at h
  ·rename_i R' hR'
   injection h with h
   subst h
   exact eop1_ok hR'
  ·exact eopM_ok h
def look:List (Nat×SV)->Nat->SV
 |[],_=> .un
 |(k,v)::r,x=>bif Nat.beq k x then v else look r x
def lookO:List (Nat×Option Ob)->Obs
 |[],_=>none
 |(k,v)::r,x=>bif Nat.beq k x then v else lookO r x
theorem beq_ne {a b:Nat}(h:a≠b):Nat.beq a b=false:=by
 cases hb:Nat.beq a b with
 |false=>rfl
 |true=>exact absurd (beq_eq hb) h
theorem look_cons (k:Nat)(v:SV)(l:List (Nat×SV))(x:Nat):look ((k,v)::l) x=if k=x then v else look l x:=by
 show (bif Nat.beq k x then v else look l x)=_
 by_cases h:k=x
 ·subst h;simp
 ·rw[beq_ne h,if_neg h];rfl
theorem lookO_cons (k:Nat)(v:Option Ob)(l:List (Nat×Option Ob)):lookO ((k,v)::l)=put (lookO l) k v:=by
 funext x
 show (bif Nat.beq k x then v else lookO l x)=_
 by_cases h:x=k
 ·subst h;rw[put_same];simp
 ·rw[beq_ne (λe=>h e.symm),put_ne _ _ h];rfl
theorem lookO_app:∀(l r:List (Nat×Option Ob)),lookO (l++r)=ovr (lookO r) l
 |[],r=>rfl
 |(k,v)::l,r=>by rw[List.cons_append,lookO_cons,ovr_cons,lookO_app l r]
mutual
def SV.lowN (n:Nat):SV->Bool
 | .bx id _=>Nat.blt id n
 | .os id=>Nat.blt id n
 | .sub id _ _ _=>Nat.blt id n
 | .op id _ _ _=>Nat.blt id n
 | .agg cs=>belowL n cs
 | .tup cs=>belowL n cs
 | .fn _ cs=>belowL n cs
 | .cnd _ _ _ x=>x.lowN n
 | .d _=>true
 | .tp=>true
 | .un=>true
 | .ns id=>Nat.blt id n
 | .np id _ _ _=>Nat.blt id n
 | .inn id _=>Nat.blt id n
 | .ip id _ _ _ _=>Nat.blt id n
def belowL (n:Nat):List SV->Bool
 |[]=>true
 |s::r=>s.lowN n&&belowL n r
end
mutual
theorem SV.lowN_inU {n:Nat}:∀(s:SV),s.lowN n=true->s.inU (λi=>i<n)
 | .bx id _,h=>Nat.le_of_ble_eq_true h
 | .os id,h=>Nat.le_of_ble_eq_true h
 | .sub id _ _ _,h=>Nat.le_of_ble_eq_true h
 | .op id _ _ _,h=>Nat.le_of_ble_eq_true h
 | .agg cs,h=>belowL_inU cs h
 | .tup cs,h=>belowL_inU cs h
 | .fn _ cs,h=>belowL_inU cs h
 | .cnd _ _ _ x,h=>SV.lowN_inU x h
 | .d _,_=>trivial
 | .tp,_=>trivial
 | .un,_=>trivial
 | .ns id,h=>Nat.le_of_ble_eq_true h
 | .np id _ _ _,h=>Nat.le_of_ble_eq_true h
 | .inn id _,h=>Nat.le_of_ble_eq_true h
 | .ip id _ _ _ _,h=>Nat.le_of_ble_eq_true h
theorem belowL_inU {n:Nat}:∀(cs:List SV),belowL n cs=true->inUL (λi=>i<n) cs
 |[],_=>trivial
 |s::r,h=>⟨SV.lowN_inU s (Bool.and_eq_true_iff.1 h).1,belowL_inU r (Bool.and_eq_true_iff.1 h).2⟩
end
structure MS where
 ob:List (Nat×Option Ob)
 nx:Nat
 tp:Bool
def MS.obs (m:MS):Obs:=lookO m.ob
def MS.U (m:MS):Nat->Prop:=λi=>i<m.nx
def MS.mem (m:MS):Mem:=⟨m.obs,m.U,m.tp⟩
structure St where
 sl:List (Nat×SV)
 ms:MS
 n:Nat
 gs:List Nat
 gd:List Nat
def St.ev (st:St):Operand->SV
 | .tmp t=>bif Nat.blt t st.n then look st.sl t else .un
 | .const v=> .d (.v v)
 | .func f=> .d (.v (.func (.func f) #[] #[]))
 | .global _=> .un
abbrev TrM (m:MS)(w:World)(c:Cx)(m':MS)(w':World)(c':Cx):Prop:=Tr m.obs m.U w c m'.obs m'.U w' c'
abbrev OXM (m:MS)(w:World)(c:Cx):Prop:=OX m.obs m.U m.tp w c
def has (l:List Nat)(x:Nat):Bool:=match l with
 |[]=>false
 |y::r=>Nat.beq y x||has r x
theorem has_cons {y x:Nat}{r:List Nat}:has (y::r) x=true↔y=x\/has r x=true:=by
 show (Nat.beq y x||has r x)=true↔_
 rw[Bool.or_eq_true]
 exact⟨λh=>h.imp beq_eq id,λh=>h.imp (λe=>by rw[e];simp) id⟩
def guardG (want:Bool):SV->Option Bool
 | .d (.v (.bool b))=>some (gx want b)
 | .cnd _ _ g (.d (.v (.bool b)))=>some (g&&gx want b)
 |_=>none
structure RX (st:St)(a:Act)(w:World)(c:Cx):Prop where
 ox:OXM st.ms w c
 sz:a.tmps.size=st.n
 sl:∀(x:Nat)(u:Value),a.tmps[x]? =some u->SRel c w (look st.sl x) u
 us:∀x,(look st.sl x).inU st.ms.U
 cn:∀x q wt g y,look st.sl x= .cnd q wt g y->has st.gs q=true/\has st.gd x=true/\∀G,guardG wt (look st.sl q)=some G->g=G
theorem RX.ev {st:St}{a:Act}{w:World}{c:Cx}(h:RX st a w c)(x:Operand):SRel c w (st.ev x) (a.eval x):=by
 cases x with
 |tmp t=>
  show SRel c w (bif Nat.blt t st.n then look st.sl t else .un) (a.tmps.getD t undef)
  cases hb:Nat.blt t st.n with
  |false=>exact .un _
  |true=>
   have hlt:t<a.tmps.size:=by rw[h.sz];exact Nat.le_of_ble_eq_true hb
   have:=h.sl t _ (Array.getElem?_eq_getElem hlt)
   rw[Array.getD_eq_getD_getElem?,Array.getElem?_eq_getElem hlt]
   exact this
 |const v=>exact .d _ _ (.v v)
 |func f=>exact .d _ _ (.v _)
 |global g=>exact .un _
theorem RX.evU {st:St}{a:Act}{w:World}{c:Cx}(h:RX st a w c)(x:Operand):(st.ev x).inU st.ms.U:=by
 cases x with
 |tmp t=>
  show (bif Nat.blt t st.n then look st.sl t else .un).inU _
  cases hb:Nat.blt t st.n with
  |false=>exact trivial
  |true=>exact h.us t
 |const v=>trivial
 |func f=>trivial
 |global g=>trivial
theorem RX.evC {st:St}{a:Act}{w:World}{c:Cx}(h:RX st a w c):CnOK st.ev:=by
 intro x q wt g y b hx hq
 cases x with
 |tmp t=>
  have hx:(bif Nat.blt t st.n then look st.sl t else .un)= .cnd q wt g y:=hx
  have hq:(bif Nat.blt q st.n then look st.sl q else .un)= .d (.v (.bool b)):=hq
  cases hb:Nat.blt t st.n with
  |false=>rw[hb] at hx;cases hx
  |true=>
   rw[hb] at hx
   cases hc:Nat.blt q st.n with
   |false=>rw[hc] at hq;cases hq
   |true=>rw[hc] at hq;exact (h.cn t q wt g y hx).2.2 (gx wt b) (by simp only[cond_true] at hq;rw[hq];rfl)
 |const v=>cases hx
 |func f=>cases hx
 |global g=>cases hx
theorem RX.rels {st:St}{a:Act}{w:World}{c:Cx}(h:RX st a w c):RelsC st.ms.mem st.ev a w c:=⟨⟨h.ox,h.ev,h.evU⟩,h.evC⟩
def noC:SV->SV
 | .cnd _ _ _ _=> .un
 |s=>s
theorem noC_rel {c:Cx}{w:World}{s:SV}{u:Value}(h:SRel c w s u):SRel c w (noC s) u:=by
 unfold noC
 split
 ·exact .un _
 ·exact h
theorem noC_inU {U:Nat->Prop}{s:SV}(h:s.inU U):(noC s).inU U:=by
 unfold noC
 split
 ·trivial
 ·exact h
theorem noC_ne {s:SV}{q:Nat}{wt g:Bool}{y:SV}:noC s≠.cnd q wt g y:=by
 unfold noC
 split
 ·exact λe=>by cases e
 ·rename_i h;exact λe=>h _ _ _ _ e
def dstOK (st:St):Option Nat->Bool
 |none=>true
 |some d=>Nat.blt d st.n&& !(has st.gs d)
def putD (d:Option Nat)(r:SV)(l:List (Nat×SV)):List (Nat×SV):=match d with
 |some d=>(d,r)::l
 |none=>l
def St.set (st:St)(d:Option Nat)(r:SV)(m:MS):St:=⟨putD d (noC r) st.sl,m,st.n,st.gs,st.gd⟩
theorem RX.set {st:St}{a:Act}{w w':World}{c c':Cx}(h:RX st a w c){m:MS}(ht:TrM st.ms w c m w' c')(hox:OXM m w' c'){d:Option Nat}(hd:dstOK st d=true){r:SV}{v:Value}(hr:SRel c' w' r v)(hu:r.inU m.U):RX (st.set d r m) (a.put d v) w' c':=by
 have hs:∀(x:Nat)(u:Value),a.tmps[x]? =some u->SRel c' w' (look st.sl x) u:=λx u hx=>ht.srel h.ox (h.sl x u hx) (h.us x)
 have hU:∀x,(look st.sl x).inU m.U:=λx=>SV.inU_mono ht.uU _ (h.us x)
 cases d with
 |none=>exact⟨hox,h.sz,hs,hU,h.cn⟩
 |some d=>
  obtain⟨d1,d2⟩:=Bool.and_eq_true_iff.1 hd
  have hdl:d<a.tmps.size:=by rw[h.sz];exact Nat.le_of_ble_eq_true d1
  have d2:has st.gs d=false:=by simpa using d2
  refine⟨hox,?_,λx u hx=> ?_,λx=> ?_,λx q wt g y hx=> ?_⟩
  ·show (a.tmps.setIfInBounds d v).size=_
   rw[Array.size_setIfInBounds];exact h.sz
  ·show SRel c' w' (look ((d,noC r)::st.sl) x) u
   have hx:(a.tmps.setIfInBounds d v)[x]? =some u:=hx
   rw[Array.getElem?_setIfInBounds] at hx
   rw[look_cons]
   split at hx
   ·rename_i e
    rw[if_pos e]
    injection hx with hx
    rw[<-hx];exact noC_rel hr
   ·rename_i e
    rw[if_neg e]
    exact hs x u hx
  ·show (look ((d,noC r)::st.sl) x).inU m.U
   rw[look_cons]
   split
   ·exact noC_inU hu
   ·exact hU x
  ·have hx:look ((d,noC r)::st.sl) x= .cnd q wt g y:=hx
   rw[look_cons] at hx
   split at hx
   ·exact absurd hx noC_ne
   ·obtain⟨k1,k2,k3⟩:=h.cn x q wt g y hx
    refine⟨k1,k2,λG hb=>k3 G ?_⟩
    have hb:guardG wt (look ((d,noC r)::st.sl) q)=some G:=hb
    rw[look_cons] at hb
    split at hb
    ·rename_i e;rw[<-e,d2] at k1;cases k1
    ·exact hb
def St.setG (st:St)(d:Nat)(q:Nat)(want g:Bool)(r:SV):St:=⟨(d,.cnd q want g (noC r))::st.sl,st.ms,st.n,q::st.gs,d::st.gd⟩
theorem RX.setG {st:St}{a:Act}{w w':World}{c c':Cx}(h:RX st a w c)(ht:TrM st.ms w c st.ms w' c')(hox:OXM st.ms w' c'){d:Nat}(hd:dstOK st (some d)=true){q:Nat}{want g:Bool}(hqd:q≠d)(hg:guardG want (look st.sl q)=some g){r:SV}{v:Value}(hr:g=true->SRel c' w' r v)(hv:g=false->v=undef)(hu:r.inU st.ms.U):RX (st.setG d q want g r) (a.put (some d) v) w' c':=by
 have hs:∀(x:Nat)(u:Value),a.tmps[x]? =some u->SRel c' w' (look st.sl x) u:=λx u hx=>ht.srel h.ox (h.sl x u hx) (h.us x)
 obtain⟨d1,d2⟩:=Bool.and_eq_true_iff.1 hd
 have hdl:d<a.tmps.size:=by rw[h.sz];exact Nat.le_of_ble_eq_true d1
 have d2:has st.gs d=false:=by simpa using d2
 refine⟨hox,?_,λx u hx=> ?_,λx=> ?_,λx q' wt g' y hx=> ?_⟩
 ·show (a.tmps.setIfInBounds d v).size=_
  rw[Array.size_setIfInBounds];exact h.sz
 ·show SRel c' w' (look ((d,.cnd q want g (noC r))::st.sl) x) u
  have hx:(a.tmps.setIfInBounds d v)[x]? =some u:=hx
  rw[Array.getElem?_setIfInBounds] at hx
  rw[look_cons]
  split at hx
  ·rename_i e
   rw[if_pos e]
   injection hx with hx
   rw[<-hx];exact .cnd q want g _ v (λe=>noC_rel (hr e)) hv
  ·rename_i e
   rw[if_neg e]
   exact hs x u hx
 ·show (look ((d,.cnd q want g (noC r))::st.sl) x).inU st.ms.U
  rw[look_cons]
  split
  ·exact noC_inU hu
  ·exact h.us x
 ·have hx:look ((d,.cnd q want g (noC r))::st.sl) x= .cnd q' wt g' y:=hx
  rw[look_cons] at hx
  split at hx
  ·rename_i e
   injection hx with e1 e2 e3 e4
   subst e1 e2 e3
   refine⟨has_cons.2 (.inl rfl),has_cons.2 (.inl e),λG hb=> ?_⟩
   have hb:guardG want (look ((d,.cnd q want g (noC r))::st.sl) q)=some G:=hb
   rw[look_cons,if_neg (λe=>hqd e.symm),hg] at hb
   exact Option.some.inj hb
  ·obtain⟨k1,k2,k3⟩:=h.cn x q' wt g' y hx
   refine⟨has_cons.2 (.inr k1),has_cons.2 (.inr k2),λG hb=>k3 G ?_⟩
   have hb:guardG wt (look ((d,.cnd q want g (noC r))::st.sl) q')=some G:=hb
   rw[look_cons] at hb
   split at hb
   ·rename_i e;rw[<-e,d2] at k1;cases k1
   ·exact hb
theorem wanted_of {ops:Array Oper}{st:St}{a:Act}{w:World}{c:Cx}{o:Oper}{j dj:Nat}{want G:Bool}(ho:o.guard=some (j,want))(hj:(ops[j]?).bind (·.dst)=some dj)(hlt:dj<st.n)(hr:RX st a w c)(hg:guardG want (look st.sl dj)=some G):Region.wanted o (yielded ops a.tmps)=G:=by
 have hdl:dj<a.tmps.size:=by rw[hr.sz];exact hlt
 have hv:=hr.sl dj _ (Array.getElem?_eq_getElem hdl)
 unfold Region.wanted yielded
 simp only[ho,hj,Option.bind_some,Array.getElem?_eq_getElem hdl]
 unfold guardG at hg
 split at hg
 ·rename_i b hb
  rw[hb] at hv
  rw[srel_v hv]
  injection hg with hg
  subst hg
  cases b<;>cases want<;>rfl
 ·rename_i q' w' g b hb
  rw[hb] at hv
  injection hg with hg
  subst hg
  obtain⟨h1,h2⟩:=srel_cnd hv
  cases g with
  |true=>
   rw[srel_v (h1 rfl)]
   cases b<;>cases want<;>rfl
  |false=>
   rw[h2 rfl]
   rfl
 ·cases hg
def stripS (q:Nat)(want:Bool):SV->SV
 | .cnd q' w' g x=>bif Nat.beq q' q&&(w'==want) then noC x else .cnd q' w' g x
 |s=>s
def Cur:List Ty->Type
 |[]=>Prop
 |t::ts=>den t->Cur ts
def lam:(ts:List Ty)->(dens ts->Prop)->Cur ts
 |[],f=>f ()
 |_::ts,f=>λx=>lam ts λr=>f (x,r)
def app:(ts:List Ty)->Cur ts->dens ts->Prop
 |[],p,_=>p
 |_::ts,f,x=>app ts (f x.1) x.2
theorem app_lam:∀(ts:List Ty)(f:dens ts->Prop)(x:dens ts),app ts (lam ts f) x=f x
 |[],f,x=>rfl
 |_::ts,f,x=>app_lam ts _ x.2
structure JOIN (ts:List Ty)(J:Cur ts)(B:Cur ts->Prop):Prop where
 h:B J
structure IFB (b:Bool)(x y:Prop):Prop where
 t:b=true->x
 f:b=false->y
structure LOOP (ts:List Ty)(F:Cur ts->Cur ts)(v:dens ts):Prop where
 h:∃(I:dens ts->Prop)(μ:dens ts->Nat),I v/\∀x,I x->app ts (F (lam ts λy=>I y/\μ y<μ x)) x
def andL:List Prop->Prop->Prop
 |[],k=>k
 |p::r,k=>p/\andL r k
def impL:List Prop->Prop->Prop
 |[],k=>k
 |p::r,k=>p->impL r k
theorem andL_spec:∀{l:List Prop}{k:Prop},andL l k->allL l/\k
 |[],_,h=>⟨trivial,h⟩
 |p::r,k,h=>by
  obtain⟨h1,h2⟩:=h
  obtain⟨h3,h4⟩:=andL_spec h2
  exact⟨⟨h1,h3⟩,h4⟩
theorem impL_spec:∀{l:List Prop}{k:Prop},impL l k->allL l->k
 |[],_,h,_=>h
 |p::r,k,h,a=>impL_spec (h a.1) a.2
def callable (P:Program)(f:FuncId):Bool:=match P.funcs[f]? with
 |some fn=>fn.body.isSome&& !(fn.name== "runtime.NumGoroutine")
 |none=>false
theorem run_call {f:FuncId}(hf:callable P f=true)(vals:Array Value)(w:World):(callFunc f vals).run P w= .ok (.enter f vals) w:=by
 unfold callable at hf
 split at hf
 ·rename_i fn hfn
  simp only[Bool.and_eq_true,Bool.not_eq_true'] at hf
  obtain⟨h1,h2⟩:=hf
  obtain⟨c,hc⟩:=Option.isSome_iff_exists.1 h1
  have h3:fn.name≠ "runtime.NumGoroutine" :=by simpa using h2
  simp[callFunc,hfn,h3,hc]
 ·cases hf
def FrM (m m':MS):Prop:=(∃l,m'.ob=l++m.ob)/\(m.tp=true->m'.tp=true)
theorem FrM.refl (m:MS):FrM m m:=⟨⟨[],rfl⟩,id⟩
theorem FrM.trans {a b c:MS}(h:FrM a b)(k:FrM b c):FrM a c:=by
 obtain⟨⟨l,h1⟩,h2⟩:=h
 obtain⟨⟨l',k1⟩,k2⟩:=k
 exact⟨⟨l'++l,by rw[k1,h1,List.append_assoc]⟩,λe=>k2 (h2 e)⟩
abbrev CP:=FuncId->List SV->MS->(SV->MS->Prop)->Prop
def CallOK (P:Program)(cp:CP):Prop:=∀f ss m k,cp f ss m k->∀(us:List Value)w c,OXM m w c->us.length=ss.length->(∀(i:Nat)(s:SV)(u:Value),ss[i]? =some s->us[i]? =some u->SRel c w s u/\s.inU m.U)->
 Calls P f us.toArray w λe w'=>∃v r m' c',e= .returned v/\k r m'/\FrM m m'/\OXM m' w' c'/\TrM m w c m' w' c'/\SRel c' w' r v/\r.inU m'.U
def fnVal:Value->Option FuncId
 | .func (.func f) a b=>bif a.toList.isEmpty&&b.toList.isEmpty then some f else none
 |_=>none
def fnOf:SV->Option (FuncId×List SV)
 | .d (.v v)=>match fnVal v with
  |some f=>some (f,[])
  |none=>none
 | .fn f cs=>some (f,cs)
 | .d (.fn f ds)=>some (f,ds.map SV.d)
 |_=>none
theorem fnOf_rel {s:SV}{f:FuncId}{cs:List SV}(h:fnOf s=some (f,cs)){c:Cx}{w:World}{u:Value}{U:Nat->Prop}(hr:SRel c w s u)(hu:s.inU U):∃us:List Value,u= .func (.func f) #[] us.toArray/\us.length=cs.length/\∀(i:Nat)(s:SV)(u:Value),cs[i]? =some s->us[i]? =some u->SRel c w s u/\s.inU U:=by
 unfold fnOf at h
 split at h
 ·rename_i v
  split at h
  ·rename_i f' hf
   injection h with h
   injection h with h1 h2
   subst h1 h2
   refine⟨[],?_,rfl,λi s u hs=>by simp at hs⟩
   rw[srel_v hr]
   unfold fnVal at hf
   split at hf
   ·rename_i f'' a b
    cases hb:(a.toList.isEmpty&&b.toList.isEmpty) with
    |false=>rw[hb] at hf;cases hf
    |true=>
     rw[hb] at hf
     injection hf with hf
     subst hf
     simp only[Bool.and_eq_true,List.isEmpty_iff] at hb
     rw[arr1 hb.1,arr1 hb.2]
   ·cases hf
  ·cases h
 ·injection h with h
  injection h with h1 h2
  subst h1 h2
  cases hr with
  |fn _ _ us hl h=>exact⟨us,rfl,hl,λi s u hs hv=>⟨h i s u hs hv,inUL_get hu hs⟩⟩
 ·injection h with h
  injection h with h1 h2
  subst h1 h2
  cases srel_d hr with
  |fn _ _ us hl h=>
   refine⟨us,rfl,by simp[hl],λi s u hs hv=> ?_⟩
   rw[List.getElem?_map,Option.map_eq_some_iff] at hs
   obtain⟨x,hx,rfl⟩:=hs
   exact⟨.d _ _ (h i x u hx hv),trivial⟩
 ·cases h
def callT (ρ:Operand->SV):Op->Option (FuncId×List SV)
 | .call ⟨.value x,args,_⟩=>match fnOf (ρ x) with
  |some (f,cs)=>some (f,(args.toList.map ρ)++cs)
  |none=>none
 |_=>none
theorem callT_run {m:Mem}{ρ:Operand->SV}{o:Oper}{f:FuncId}{ss:List SV}(h:callT ρ o.op=some (f,ss))(hf:callable P f=true){a:Act}{w:World}{c:Cx}(hop:∀x,SRel c w (ρ x) (a.eval x))(hiu:∀x,(ρ x).inU m.U):
 ∃us:List Value,(execOp a.eval o).run P w= .ok (.enter f us.toArray) w/\us.length=ss.length/\∀(i:Nat)(s:SV)(u:Value),ss[i]? =some s->us[i]? =some u->SRel c w s u/\s.inU m.U:=by
 unfold callT at h
 split at h
 ·rename_i x args tys he
  split at h
  ·rename_i f' cs hfn
   injection h with h
   injection h with h1 h2
   subst h1 h2
   obtain⟨us,hu,hl,hr⟩:=fnOf_rel hfn (hop x) (hiu x)
   refine⟨args.toList.map a.eval++us,?_,by simp[hl],λi s u hs hv=> ?_⟩
   ·have e1:(args.toList.map a.eval++us).toArray=args.map a.eval++us.toArray:=by
     apply Array.ext';simp
    rw[e1]
    simp[execOp,he,resolve,hu,Deferred.ofValue,invoke,run_call hf]
   ·by_cases hi:i<args.toList.length
    ·rw[List.getElem?_append_left (by simpa using hi)] at hs hv
     rw[List.getElem?_map,Option.map_eq_some_iff] at hs hv
     obtain⟨y,hy,rfl⟩:=hs
     obtain⟨y',hy',rfl⟩:=hv
     rw[hy] at hy'
     injection hy' with hy'
     subst hy'
     exact⟨hop y,hiu y⟩
    ·rw[List.getElem?_append_right (by simpa using hi)] at hs hv
     simp only[List.length_map] at hs hv
     exact hr _ s u hs hv
  ·cases h
 ·cases h
def MS.upd (m:MS)(R:ERes):MS:=⟨R.ob++m.ob,m.nx+R.cnt,m.tp⟩
theorem upd_obs (m:MS)(R:ERes):(m.upd R).obs=ovr m.obs R.ob:=lookO_app _ _
theorem upd_U (m:MS)(R:ERes):(m.upd R).U=addN m.U m.nx R.cnt:=by
 funext i
 refine propext ⟨λh=> ?_,λh=> ?_⟩
 ·have h:i<m.nx+R.cnt:=h
  by_cases hi:i<m.nx
  ·exact .inl hi
  ·exact .inr ⟨by omega,h⟩
 ·show i<m.nx+R.cnt
  rcases h with h|h
  ·have h:i<m.nx:=h
   omega
  ·exact h.2
def isC0 (R:ERes):Bool:=R.ob.isEmpty&&Nat.beq R.cnt 0
def nilOf (m:Mem):SV->Option Prop
 | .d (.sl _ l)=>some (l=[])
 | .d (.v v)=>bif isNil v then some True else none
 | .os id=>match rowOf m id with
  |some ⟨_,l⟩=>some (l=[])
  |none=>none
 |_=>none
def nilTest (P:Program)(m:Mem)(ρ:Operand->SV):Op->Option (Bool×Prop)
 | .binOp .eql t x (.const v) _=>bif isNil v&&(elemOf P t).isSome then (nilOf m (ρ x)).map λp=>(true,p) else none
 | .binOp .neq t x (.const v) _=>bif isNil v&&(elemOf P t).isSome then (nilOf m (ρ x)).map λp=>(false,p) else none
 |_=>none
theorem nilOf_ok {m:Mem}{s:SV}{p:Prop}(h:nilOf m s=some p){c:Cx}{w:World}{u:Value}(ox:OX m.ob m.U m.tp w c)(hr:SRel c w s u):∃ad n cap,u= .slice ad n cap/\(ad=none->p):=by
 unfold nilOf at h
 split at h
 ·rename_i t l
  injection h with h
  subst h
  obtain⟨ad,cap,b,off,f,rfl,hc,hm,ha,h1,h2⟩:=(srel_d hr).slInv
  refine⟨ad,_,cap,rfl,λe=> ?_⟩
  rcases ha with ha|ha
  ·first|exact ha|exact List.eq_nil_of_length_eq_zero ha
  ·rw[e] at ha;cases ha
 ·rename_i v
  cases hn:isNil v with
  |false=>rw[hn] at h;cases h
  |true=>
   rw[hn] at h
   simp only[cond_true,Option.some.injEq] at h
   subst h
   exact⟨none,0,0,(srel_v hr).trans (isNil_eq hn),λ_=>trivial⟩
 ·split at h
  ·rename_i id t l hrow
   injection h with h
   subst h
   obtain⟨ad,cap,hv,hc,hm,hcell⟩:=rowOf_rel ox hrow
   refine⟨ad,_,cap,(srel_os hr).trans hv,λe=> ?_⟩
   cases l with
   |nil=>rfl
   |cons x r=>
    obtain⟨g,hg,_⟩:=hcell 0 x rfl
    rw[e] at hg;cases hg
  ·cases h
 ·cases h
theorem run_nilEq {t e:TypeId}(ht:elemOf P t=some e)(ad:Option Addr)(n cap:Nat)(w:World):(Op.equal t (.slice ad n cap) (.slice none 0 0)).run P w= .ok ad.isNone w:=by
 obtain⟨inf,hu,_⟩:=elemOf_spec ht
 have key:∀d,(Op.equalIn (d+1) t (.slice ad n cap) (.slice none 0 0)).run P w= .ok ad.isNone w:=λd=>by
  unfold Op.equalIn
  cases ad<;>simp[run_underlying hu]
 exact key _
theorem nilTest_ok {m:Mem}{ρ:Operand->SV}{o:Oper}{pos:Bool}{p:Prop}(h:nilTest P m ρ o.op=some (pos,p)){a:Act}{w:World}{c:Cx}(ox:OX m.ob m.U m.tp w c)(hop:∀x,SRel c w (ρ x) (a.eval x)):
 ∃b:Bool,(b=true->p)/\∀w,(execOp a.eval o).run P w= .ok (.value (.bool (bif pos then b else !b))) w:=by
 unfold nilTest at h
 split at h
 ·rename_i t x v y he
  cases hb:(isNil v&&(elemOf P t).isSome) with
  |false=>rw[hb] at h;cases h
  |true=>
   rw[hb] at h
   obtain⟨b1,b2⟩:=Bool.and_eq_true_iff.1 hb
   obtain⟨e,ht⟩:=Option.isSome_iff_exists.1 b2
   simp only[cond_true,Option.map_eq_some_iff,Prod.mk.injEq] at h
   obtain⟨q,hq,rfl,rfl⟩:=h
   obtain⟨ad,n,cap,hu,hp⟩:=nilOf_ok hq ox (hop x)
   have hv:=isNil_eq b1
   refine⟨ad.isNone,λe=>hp (by simpa using e),λw=> ?_⟩
   subst hv
   have hc:a.eval (.const (.slice none 0 0))= .slice none 0 0:=rfl
   simp[execOp,he,hu,hc,eqGuard,binOp,run_nilEq ht]
 ·rename_i t x v y he
  cases hb:(isNil v&&(elemOf P t).isSome) with
  |false=>rw[hb] at h;cases h
  |true=>
   rw[hb] at h
   obtain⟨b1,b2⟩:=Bool.and_eq_true_iff.1 hb
   obtain⟨e,ht⟩:=Option.isSome_iff_exists.1 b2
   simp only[cond_true,Option.map_eq_some_iff,Prod.mk.injEq] at h
   obtain⟨q,hq,rfl,rfl⟩:=h
   obtain⟨ad,n,cap,hu,hp⟩:=nilOf_ok hq ox (hop x)
   have hv:=isNil_eq b1
   refine⟨ad.isNone,λe=>hp (by simpa using e),λw=> ?_⟩
   subst hv
   have hc:a.eval (.const (.slice none 0 0))= .slice none 0 0:=rfl
   simp[execOp,he,hu,hc,eqGuard,binOp,run_nilEq ht]
 ·cases h
def dOfV:Value->Option D
 | .agg cs=>bif cs.toList.all (·.oneCell') then some (.agg (cs.toList.map D.v)) else none
 |v=>some (.v v)
theorem dOfV_rd {v:Value}{d:D}(h:dOfV v=some d)(S:Cells)(w:World):Rd S w d v:=by
 unfold dOfV at h
 split at h
 ·rename_i cs
  cases hb:cs.toList.all (·.oneCell') with
  |false=>rw[hb] at h;cases h
  |true=>
   rw[hb] at h
   injection h with h
   subst h
   have:=Rd.agg (S:=S) (w:=w) (cs.toList.map D.v) cs.toList (by simp) (λu hu=>List.all_eq_true.1 hb u hu) (λi c u hc hu=>by
    rw[List.getElem?_map,hu] at hc
    injection hc with hc
    subst hc
    exact .v u)
   simpa using this
 ·injection h with h
  subst h
  exact .v _
def zeroD (P:Program)(t:TypeId):Option D:=match P.info? t with
 |some i=>match i.zero with
  |some z=>dOfV z
  |none=>none
 |none=>none
def intKey (P:Program)(t:TypeId):Option TypeId:=match P.underlying t with
 |some (.map kt et)=>match P.underlying kt with
  |some (.int _)=>some et
  |_=>none
 |_=>none
def mapOf (m:Mem):SV->Option (Bool×List (Int×D))
 | .os id=>match m.ob id with
  |some (.mp sym es)=>some (sym,es)
  |_=>none
 |_=>none
def intOf':SV->Option Int
 | .d (.v (.int .i64 z))=>some z
 |_=>none
def mapT (P:Program)(m:Mem)(ρ:Operand->SV):Op->Option (Bool×Bool×List (Int×D)×Int×D)
 | .lookup t x k ok=>match mapOf m (ρ x),intOf' (ρ k),intKey P t with
  |some (sym,es),some z,some et=>match zeroD P et with
   |some d=>some (sym,ok,es,z,d)
   |none=>none
  |_,_,_=>none
 |_=>none
def mapR (ok b:Bool)(d:D):SV:=bif ok then .d (.tup [d,.v (.bool b)]) else .d d
def mapB (ok:Bool)(z:Int)(d0:D)(K:SV->Prop):List (Int×D)->Prop
 |[]=>K (mapR ok false d0)
 |(k,d)::r=>bif decide (z=k) then K (mapR ok true d) else mapB ok z d0 K r
def cellZ (j:Nat):D->Int
 | .agg cs=>match cs[j]? with
  |some (.v (.int .i64 z))=>z
  |_=>0
 |_=>0
def selZ (z:Int)(j:Nat)(d0:D):List (Int×D)->Int
 |[]=>cellZ j d0
 |(k,d)::r=>if z=k then cellZ j d else selZ z j d0 r
def hasZ (z:Int):List (Int×D)->Bool
 |[]=>false
 |(k,_)::r=>decide (z=k)||hasZ z r
def isInt64:D->Bool
 | .v (.int .i64 _)=>true
 |_=>false
def isAggN (n:Nat):D->Bool
 | .agg cs=>Nat.beq cs.length n
 |_=>false
def cellI (j:Nat):D->Bool
 | .agg cs=>match cs[j]? with
  |some d=>isInt64 d
  |none=>false
 |_=>false
def symW (z:Int)(d0:D)(es:List (Int×D)):Nat->Nat->List SV
 |_,0=>[]
 |j,n+1=>(bif cellI j d0&&es.all (λe=>cellI j e.2) then .d (.v (.int .i64 (selZ z j d0 es))) else .un)::symW z d0 es (j+1) n
def mapS (ok:Bool)(z:Int)(d0:D)(es:List (Int×D))(K:SV->Prop):Prop:=match d0 with
 | .agg cs=>bif es.all (λe=>isAggN cs.length e.2) then (bif ok then K (.tup [.agg (symW z d0 es 0 cs.length),.d (.v (.bool (hasZ z es)))]) else K (.agg (symW z d0 es 0 cs.length))) else False
 |_=>False
def mapK (sym ok:Bool)(z:Int)(d0:D)(es:List (Int×D))(K:SV->Prop):Prop:=bif sym then mapS ok z d0 es K else mapB ok z d0 K es
def findD (z:Int)(d0:D):List (Int×D)->Bool×D
 |[]=>(false,d0)
 |(k,d)::r=>if z=k then (true,d) else findD z d0 r
theorem mapB_eq {ok:Bool}{z:Int}{d0:D}{K:SV->Prop}:∀{es:List (Int×D)},mapB ok z d0 K es->K (mapR ok (findD z d0 es).1 (findD z d0 es).2)
 |[],h=>h
 |(k,d)::r,h=>by
  have h:(bif decide (z=k) then K (mapR ok true d) else mapB ok z d0 K r):=h
  unfold findD
  by_cases e:z=k
  ·rw[decide_eq_true e] at h;rw[if_pos e];exact h
  ·rw[decide_eq_false e] at h;rw[if_neg e];exact mapB_eq h
theorem hasZ_eq {z:Int}{d0:D}:∀{es:List (Int×D)},hasZ z es=(findD z d0 es).1
 |[]=>rfl
 |(k,d)::r=>by
  unfold hasZ findD
  by_cases e:z=k
  ·rw[decide_eq_true e,if_pos e];rfl
  ·rw[decide_eq_false e,if_neg e,hasZ_eq (d0:=d0)];rfl
theorem selZ_eq {z:Int}{j:Nat}{d0:D}:∀{es:List (Int×D)},selZ z j d0 es=cellZ j (findD z d0 es).2
 |[]=>rfl
 |(k,d)::r=>by
  unfold selZ findD
  by_cases e:z=k
  ·rw[if_pos e,if_pos e]
  ·rw[if_neg e,if_neg e,selZ_eq]
theorem findD_all {z:Int}{d0:D}{q:D->Bool}(h0:q d0=true):∀{es:List (Int×D)},es.all (λe=>q e.2)=true->q (findD z d0 es).2=true
 |[],_=>h0
 |(k,d)::r,h=>by
  simp only[List.all_cons,Bool.and_eq_true] at h
  unfold findD
  split
  ·exact h.1
  ·exact findD_all h0 h.2
theorem cellI_eq {j:Nat}{d:D}(h:cellI j d=true):∃cs,d= .agg cs/\cs[j]? =some (.v (.int .i64 (cellZ j d))):=by
 unfold cellI at h
 split at h
 ·rename_i cs
  split at h
  ·rename_i x hx
   unfold isInt64 at h
   split at h
   ·rename_i z
    exact⟨cs,rfl,by rw[hx];unfold cellZ;simp[hx]⟩
   ·cases h
  ·cases h
 ·cases h
theorem symW_len {z:Int}{d0:D}{es:List (Int×D)}:∀(n j:Nat),(symW z d0 es j n).length=n
 |0,_=>rfl
 |n+1,j=>by show (_::symW z d0 es (j+1) n).length=_;rw[List.length_cons,symW_len n]
theorem symW_get {z:Int}{d0:D}{es:List (Int×D)}:∀(n j i:Nat)(s:SV),(symW z d0 es j n)[i]? =some s->s= .un\/(s= .d (.v (.int .i64 (selZ z (j+i) d0 es)))/\cellI (j+i) d0=true/\es.all (λe=>cellI (j+i) e.2)=true)
 |0,_,i,s,h=>by simp[symW] at h
 |n+1,j,0,s,h=>by
  have h:some (bif cellI j d0&&es.all (λe=>cellI j e.2) then SV.d (.v (.int .i64 (selZ z j d0 es))) else .un)=some s:=h
  injection h with h
  cases hb:(cellI j d0&&es.all (λe=>cellI j e.2)) with
  |true=>
   rw[hb] at h
   obtain⟨b1,b2⟩:=Bool.and_eq_true_iff.1 hb
   exact .inr ⟨h.symm,b1,b2⟩
  |false=>rw[hb] at h;exact .inl h.symm
 |n+1,j,i+1,s,h=>by
  have h:(symW z d0 es (j+1) n)[i]? =some s:=h
  have:=symW_get n (j+1) i s h
  rw[show j+1+i=j+(i+1) by omega] at this
  exact this
theorem symW_inU {U:Nat->Prop}{z:Int}{d0:D}{es:List (Int×D)}{n j:Nat}:inUL U (symW z d0 es j n):=inUL_of λi s hs=>by
 rcases symW_get n j i s hs with rfl|⟨rfl,_⟩<;>trivial
theorem symW_rel {c:Cx}{w:World}{z:Int}{d0:D}{es:List (Int×D)}{cs0:List D}(h0:d0= .agg cs0)(ha:es.all (λe=>isAggN cs0.length e.2)=true){v:Value}(hr:Rd c.S w (findD z d0 es).2 v):SRel c w (.agg (symW z d0 es 0 cs0.length)) v:=by
 have hn:isAggN cs0.length (findD z d0 es).2=true:=findD_all (q:=isAggN cs0.length) (by rw[h0];simp[isAggN]) ha
 have key:∀j,cellI j d0=true->es.all (λe=>cellI j e.2)=true->cellI j (findD z d0 es).2=true:=λj h1 h2=>findD_all (q:=cellI j) h1 h2
 have hsel:∀j,selZ z j d0 es=cellZ j (findD z d0 es).2:=λj=>selZ_eq
 generalize hd:(findD z d0 es).2=d at *
 unfold isAggN at hn
 split at hn
 rotate_left
 ·cases hn
 rename_i cs
 have hn:=beq_eq hn
 cases hr with
 |agg _ us hl h1 h2=>
  refine .agg _ us (by rw[symW_len,hl,hn]) h1 λi s u hs hu=> ?_
  rcases symW_get _ _ i s hs with rfl|⟨rfl,k1,k2⟩
  ·exact .un u
  ·rw[Nat.zero_add] at k1 k2 ⊢
   obtain⟨cs2,e1,e2⟩:=cellI_eq (key i k1 k2)
   injection e1 with e1
   subst e1
   rw[hsel]
   exact .d _ _ (h2 i _ u e2 hu)
theorem find_run {S:Cells}{w:World}{z:Int}{d0:D}{kk:IntKind}:∀(ms:List MapEntry)(es:List (Int×D))(n:Nat),ms.length=es.length->(∀(i:Nat)(k:Int)(d:D)(m:MapEntry),es[i]? =some (k,d)->ms[i]? =some m->m.key= .int .i64 k/\Rd S w d m.val)->
 (∃(j:Nat)(v:Value),Instr.findNow (.int kk) (.int .i64 z) ms n=some (some (j,v))/\Rd S w (findD z d0 es).2 v/\(findD z d0 es).1=true)\/(Instr.findNow (.int kk) (.int .i64 z) ms n=some none/\findD z d0 es=(false,d0))
 |[],[],n,_,_=> .inr ⟨rfl,rfl⟩
 |[],_::_,_,h,_=>by simp at h
 |_::_,[],_,h,_=>by simp at h
 |m::ms,(k,d)::es,n,hl,hr=>by
  obtain⟨h1,h2⟩:=hr 0 k d m rfl rfl
  have hs:Instr.sameNow (.int kk) (.int .i64 z) m.key=some (z==k):=by rw[h1];simp[Instr.sameNow]
  cases hb:(z==k) with
  |true=>
   have e:z=k:=by simpa using hb
   refine .inl ⟨n,m.val,by unfold Instr.findNow;rw[hs,hb],?_,?_⟩
   ·unfold findD;rw[if_pos e];exact h2
   ·unfold findD;rw[if_pos e]
  |false=>
   have e:¬z=k:=by simpa using hb
   have ih:=find_run (S:=S) (w:=w) (z:=z) (d0:=d0) (kk:=kk) ms es (n+1) (by simpa using hl) (λi k d m hi hm=>hr (i+1) k d m (by simpa using hi) (by simpa using hm))
   have hf:Instr.findNow (.int kk) (.int .i64 z) (m::ms) n=Instr.findNow (.int kk) (.int .i64 z) ms (n+1):=by
    conv=>lhs;unfold Instr.findNow
    rw[hs,hb]
   have hd:findD z d0 ((k,d)::es)=findD z d0 es:=by
    conv=>lhs;unfold findD
    rw[if_neg e]
   rw[hf,hd]
   exact ih
theorem mapT_ok {m:Mem}{ρ:Operand->SV}{o:Oper}{sym ok:Bool}{es:List (Int×D)}{z:Int}{d0:D}(h:mapT P m ρ o.op=some (sym,ok,es,z,d0)){a:Act}{w:World}{c:Cx}(ox:OX m.ob m.U m.tp w c)(hop:∀x,SRel c w (ρ x) (a.eval x)){K:SV->Prop}(hK:mapK sym ok z d0 es K):
 ∃v r,K r/\SRel c w r v/\r.inU m.U/\(execOp a.eval o).run P w= .ok (.value v) w:=by
 unfold mapT at h
 split at h
 rotate_left
 ·cases h
 rename_i t x k ok' he
 split at h
 rotate_left
 ·cases h
 rename_i sym' es' z' et hm hz ht
 split at h
 rotate_left
 ·cases h
 rename_i d hd
 simp only[Option.some.injEq,Prod.mk.injEq] at h
 obtain⟨rfl,rfl,rfl,rfl,rfl⟩:=h
 obtain⟨id,hid,hob⟩:∃id,ρ x= .os id/\m.ob id=some (.mp sym' es'):=by
  unfold mapOf at hm
  split at hm
  ·rename_i id hx
   split at hm
   ·rename_i s2 es2 ho
    simp only[Option.some.injEq,Prod.mk.injEq] at hm
    obtain⟨rfl,rfl⟩:=hm
    exact⟨id,hx,ho⟩
   ·cases hm
  ·cases hm
 have hkey:a.eval k= .int .i64 z':=by
  unfold intOf' at hz
  split at hz
  ·rename_i z2 hx
   injection hz with hz
   subst hz
   have:=hop k
   rw[hx] at this
   exact srel_v this
  ·cases hz
 obtain⟨kt,kk,hu,hk⟩:∃kt kk,P.underlying t=some (.map kt et)/\P.underlying kt=some (.int kk):=by
  unfold intKey at ht
  split at ht
  ·rename_i kt et2 hu
   split at ht
   ·rename_i kk hk
    injection ht with ht
    subst ht
    exact⟨kt,kk,hu,hk⟩
   ·cases ht
  ·cases ht
 obtain⟨i,zv,hi,hzv,hdz⟩:∃i zv,P.info? et=some i/\i.zero=some zv/\dOfV zv=some d:=by
  unfold zeroD at hd
  split at hd
  ·rename_i i hi
   split at hd
   ·rename_i zv hz2
    exact⟨i,zv,hi,hz2,hd⟩
   ·cases hd
  ·cases hd
 obtain⟨_,_,b,arr,clock,hv,_,hg,hl,hr⟩:=ox.objs id _ hob
 have hx:a.eval x= .map (some b):=by
  have:=hop x
  rw[hid] at this
  exact (srel_os this).trans hv
 have hlen:arr.toList.length=es'.length:=by simpa using hl
 have hget:(getObj b).run P w= .ok (.map arr clock) w:=by simp[getObj,Sem.run,hg]
 have hck:∀q,(Instr.checkKey q 10000 kt (.int .i64 z')).run P w= .ok () w:=λq=>by
  show (Instr.checkKey q (9999+1) kt (.int .i64 z')).run P w=_
  unfold Instr.checkKey
  simp[run_underlying hk]
 have hzero:(zeroValue et).run P w= .ok zv w:=by simp[zeroValue,typeInfo,hi,hzv]
 have key:∃u:Value,Rd c.S w (findD z' d es').2 u/\(execOp a.eval o).run P w= .ok (.value (if ok' then .tuple #[u,.bool (findD z' d es').1] else u)) w:=by
  rcases find_run (S:=c.S) (w:=w) (z:=z') (d0:=d) (kk:=kk) arr.toList es' 0 hlen (λi k d m h1 h2=>hr i k d m h1 (by simpa using h2)) with⟨j,v,hf,hrd,hb⟩|⟨hf,he2⟩
  ·have hfk:(Instr.findKey kt (.int .i64 z') arr.toList).run P w= .ok (some (j,v)) w:=by
    unfold Instr.findKey
    simp[run_underlying hk,hf]
   exact⟨v,hrd,by rw[hb];simp[execOp,he,Instr.lookup,run_underlying hu,hx,hkey,hget,hck,hfk]⟩
  ·have hfk:(Instr.findKey kt (.int .i64 z') arr.toList).run P w= .ok none w:=by
    unfold Instr.findKey
    simp[run_underlying hk,hf]
   exact⟨zv,by rw[he2];exact dOfV_rd hdz c.S w,by rw[he2];simp[execOp,he,Instr.lookup,run_underlying hu,hx,hkey,hget,hck,hfk,hzero]⟩
 obtain⟨u,hrd,hrun⟩:=key
 unfold mapK at hK
 cases sym' with
 |false=>
  have hK:=mapB_eq (show mapB ok' z' d K es' from hK)
  cases ok' with
  |false=>exact⟨u,_,hK,.d _ _ hrd,trivial,by simpa using hrun⟩
  |true=>
   refine⟨.tuple #[u,.bool (findD z' d es').1],_,hK,.d _ _ (Rd.tup [_,.v (.bool _)] [u,.bool _] rfl λi c u hc hu=> ?_),trivial,by simpa using hrun⟩
   match i,hc,hu with
   |0,hc,hu=>cases hc;cases hu;exact hrd
   |1,hc,hu=>cases hc;cases hu;exact .v _
   |i+2,hc,hu=>cases hc
 |true=>
  have hK:mapS ok' z' d es' K:=hK
  unfold mapS at hK
  split at hK
  rotate_left
  ·exact hK.elim
  rename_i cs0 hd0
  cases ha:es'.all (λe=>isAggN cs0.length e.2) with
  |false=>rw[ha] at hK;exact hK.elim
  |true=>
   rw[ha] at hK
   have hrel:=symW_rel rfl ha hrd
   cases ok' with
   |false=>exact⟨u,_,hK,hrel,symW_inU,by simpa using hrun⟩
   |true=>
    refine⟨.tuple #[u,.bool (findD z' (.agg cs0) es').1],_,hK,.tup _ [u,.bool _] rfl λi s u hs hu=> ?_,⟨symW_inU,trivial,trivial⟩,by simpa using hrun⟩
    match i,hs,hu with
    |0,hs,hu=>cases hs;cases hu;exact hrel
    |1,hs,hu=>cases hs;cases hu;rw[hasZ_eq (d0:= .agg cs0)];exact .d _ _ (.v _)
    |i+2,hs,hu=>cases hs
def aop (P:Program)(τ:TypeId->Option Ty)(cp:CP)(o:Oper)(st:St)(K:St->Prop):Prop:=
 match callT st.ev o.op with
 |some (f,ss)=>bif callable P f&&dstOK st o.dst then cp f (ss.map noC) st.ms (λr m=>K (st.set o.dst r m)) else False
 |none=>match nilTest P st.ms.mem st.ev o.op with
 |some (pos,p)=>bif dstOK st o.dst then ∀b:Bool,(b=true->p)->K (st.set o.dst (.d (.v (.bool (bif pos then b else !b)))) st.ms) else False
 |none=>match mapT P st.ms.mem st.ev o.op with
 |some (sym,ok,es,z,d0)=>bif dstOK st o.dst then mapK sym ok z d0 es (λr=>K (st.set o.dst r st.ms)) else False
 |none=>match eop P τ st.ms.mem st.ev st.ms.nx o with
  |some R=>bif dstOK st o.dst then andL (R.ps.map Cnd.pr) (impL R.fs (K (st.set o.dst R.r (st.ms.upd R)))) else False
  |none=>False
def onlyNew (n:Nat):List (Nat×Option Ob)->Bool
 |[]=>true
 |(k,_)::r=>Nat.ble n k&&onlyNew n r
def news (m m':MS):List (Nat×Option Ob):=m'.ob.take (m'.ob.length-m.ob.length)
def aopG (P:Program)(τ:TypeId->Option Ty)(cp:CP)(o:Oper)(d q:Nat)(want:Bool)(st:St)(K:St->Prop):Prop:=
 match guardG want (look st.sl q) with
 |none=>False
 |some G=>bif dstOK st (some d)&& !(Nat.beq q d)&&Nat.blt q st.n then
  match callT (λx=>stripS q want (st.ev x)) o.op with
  |some (f,ss)=>match τ o.type with
   |some ty=>bif callable P f then
    JOIN [ty] (lam [ty] λv=>K (st.setG d q want G (.d (tv ty v.1)))) λJ=>IFB G (cp f (ss.map noC) st.ms λr m=>match r with
     | .d x=>match undoT ty x with
      |some y=>bif onlyNew st.ms.nx (news st.ms m)&&(m.tp==st.ms.tp) then app [ty] J (y,()) else False
      |none=>False
     |_=>False) (app [ty] J (dflt ty,()))
    else False
   |none=>False
  |none=>match eop P τ st.ms.mem (λx=>stripS q want (st.ev x)) st.ms.nx o with
   |some R=>bif isC0 R&&R.r.lowN st.ms.nx then andL ((R.ps.map Cnd.pr).map (G=true->·)) (impL (R.fs.map (G=true->·)) (K (st.setG d q want G R.r))) else IFB G (andL (R.ps.map Cnd.pr) (impL R.fs (K (st.set (some d) R.r (st.ms.upd R))))) (K (st.set (some d) .un st.ms))
   |none=>False
  else False
def Fr (st st':St):Prop:=st'.n=st.n/\(∃l,st'.sl=l++st.sl)/\FrM st.ms st'.ms
theorem Fr.refl (st:St):Fr st st:=⟨rfl,⟨[],rfl⟩,.refl _⟩
theorem Fr.trans {a b c:St}(h:Fr a b)(k:Fr b c):Fr a c:=by
 obtain⟨h0,⟨l,h1⟩,h2⟩:=h
 obtain⟨k0,⟨l',k1⟩,k2⟩:=k
 exact⟨k0.trans h0,⟨l'++l,by rw[k1,h1,List.append_assoc]⟩,h2.trans k2⟩
theorem Fr.set {st:St}{d:Option Nat}{r:SV}{m:MS}(h:FrM st.ms m):Fr st (st.set d r m):=by
 refine⟨rfl,?_,h⟩
 cases d with
 |none=>exact⟨[],rfl⟩
 |some d=>exact⟨[(d,noC r)],rfl⟩
theorem Fr.setG {st:St}{d q:Nat}{want g:Bool}{r:SV}:Fr st (st.setG d q want g r):=⟨rfl,⟨[_],rfl⟩,.refl _⟩
theorem FrM.upd (m:MS)(R:ERes):FrM m (m.upd R):=⟨⟨R.ob,rfl⟩,id⟩
structure Step (st:St)(a:Act)(w:World)(c:Cx)(st':St)(a':Act)(w':World)(c':Cx):Prop where
 rx:RX st' a' w' c'
 tr:TrM st.ms w c st'.ms w' c'
 df:a'.defers=a.defers
 fr:Fr st st'
theorem Step.refl {st:St}{a:Act}{w:World}{c:Cx}(h:RX st a w c):Step st a w c st a w c:=⟨h,.refl,rfl,.refl _⟩
theorem Step.trans {st st1 st2:St}{a a1 a2:Act}{w w1 w2:World}{c c1 c2:Cx}(h:Step st a w c st1 a1 w1 c1)(k:Step st1 a1 w1 c1 st2 a2 w2 c2):Step st a w c st2 a2 w2 c2:=
 ⟨k.rx,h.tr.trans k.tr,k.df.trans h.df,h.fr.trans k.fr⟩
theorem defers_put (a:Act)(d:Option Nat)(v:Value):(a.put d v).defers=a.defers:=by cases d<;>rfl
def OpS (P:Program)(o:Oper)(st:St)(Q:St->Prop):Prop:=∀a w c,RX st a w c->∀(K:Act->World->Prop)(Qx:Exit->Act->World->Prop),(∀st' a' w' c',Step st a w c st' a' w' c'->Q st'->K a' w')->o.wp P a w K Qx
theorem noC_args {ss:List SV}{us:List Value}{c:Cx}{w:World}{U:Nat->Prop}(h:∀(i:Nat)(s:SV)(u:Value),ss[i]? =some s->us[i]? =some u->SRel c w s u/\s.inU U):∀(i:Nat)(s:SV)(u:Value),(ss.map noC)[i]? =some s->us[i]? =some u->SRel c w s u/\s.inU U:=λi s u hs hu=>by
 rw[List.getElem?_map,Option.map_eq_some_iff] at hs
 obtain⟨x,hx,rfl⟩:=hs
 obtain⟨h1,h2⟩:=h i x u hx hu
 exact⟨noC_rel h1,noC_inU h2⟩
theorem aop_ok {τ:TypeId->Option Ty}{cp:CP}(hcp:CallOK P cp){o:Oper}{st:St}{K:St->Prop}(h:aop P τ cp o st K):OpS P o st K:=by
 intro a w c hr KK Qx hQ
 unfold aop at h
 split at h
 ·rename_i f ss hc
  cases hb:(callable P f&&dstOK st o.dst) with
  |false=>rw[hb] at h;exact h.elim
  |true=>
   rw[hb] at h
   obtain⟨b1,b2⟩:=Bool.and_eq_true_iff.1 hb
   obtain⟨us,hrun,hl,hrel⟩:=callT_run (m:=st.ms.mem) hc b1 hr.ev hr.evU
   unfold Oper.wp
   rw[hrun]
   show Calls _ _ _ _ _
   refine (hcp f _ st.ms _ h us w c hr.ox (by simpa using hl) (noC_args hrel)).mono ?_
   rintro e w' ⟨v,r,m',c',rfl,hk,hf,hox,htr,hs,hu⟩
   exact hQ _ _ _ c' ⟨hr.set htr hox b2 hs hu,htr,defers_put _ _ _,.set hf⟩ hk
 ·split at h
  ·rename_i pos p hn
   cases hb:dstOK st o.dst with
   |false=>rw[hb] at h;exact h.elim
   |true=>
    rw[hb] at h
    obtain⟨b,b1,b2⟩:=nilTest_ok hn hr.ox hr.ev
    unfold Oper.wp
    rw[b2 w]
    exact hQ _ _ _ c ⟨hr.set .refl hr.ox hb (.d _ _ (.v _)) trivial,.refl,defers_put _ _ _,.set (.refl _)⟩ (h b b1)
  split at h
  ·rename_i sym ok es z d0 hn
   cases hb:dstOK st o.dst with
   |false=>rw[hb] at h;exact h.elim
   |true=>
    rw[hb] at h
    obtain⟨v,r,hk,hs,hu,hrun⟩:=mapT_ok hn hr.ox hr.ev (show mapK sym ok z d0 es (λr=>K (st.set o.dst r st.ms)) from h)
    unfold Oper.wp
    rw[hrun]
    exact hQ _ _ _ c ⟨hr.set .refl hr.ox hb hs hu,.refl,defers_put _ _ _,.set (.refl _)⟩ hk
  split at h
  ·rename_i R hR
   cases hb:dstOK st o.dst with
   |false=>rw[hb] at h;exact h.elim
   |true=>
    rw[hb] at h
    obtain⟨h1,h2⟩:=andL_spec (show andL (R.ps.map Cnd.pr) _ from h)
    refine eop_ok (P:=P) hR a w c hr.rels (λi hi _ hu=>by have hu:i<st.ms.nx:=hu;omega) h1 KK Qx λv c' w' hox htr hs hu hf=> ?_
    have e1:=upd_obs st.ms R
    have e2:=upd_U st.ms R
    have htr':TrM st.ms w c (st.ms.upd R) w' c':=by show Tr _ _ _ _ (st.ms.upd R).obs (st.ms.upd R).U _ _;rw[e1,e2];exact htr
    have hox':OXM (st.ms.upd R) w' c':=by show OX (st.ms.upd R).obs (st.ms.upd R).U _ _ _;rw[e1,e2];exact hox
    exact hQ _ _ _ c' ⟨hr.set htr' hox' hb hs (by rw[e2];exact hu),htr',defers_put _ _ _,.set (.upd _ _)⟩ (impL_spec h2 hf)
  ·exact h.elim
theorem forget {m m':MS}{w w':World}{c c':Cx}(htpe:m'.tp=m.tp)(hf:FrM m m')(ho:onlyNew m.nx (news m m')=true)(hox0:OXM m w c)(hox:OXM m' w' c')(htr:TrM m w c m' w' c'):OXM m w' c'/\TrM m w c m w' c':=by
 obtain⟨⟨l,hl⟩,htp⟩:=hf
 have hn:news m m'=l:=by
  unfold news
  rw[hl,List.length_append,show l.length+m.ob.length-m.ob.length=l.length by omega,List.take_left]
 rw[hn] at ho
 have hobs:m'.obs=ovr m.obs l:=by show lookO m'.ob=_;rw[hl,lookO_app];rfl
 have hold:∀i,i<m.nx->m'.obs i=m.obs i:=by
  intro i hi
  rw[hobs]
  unfold ovr
  have:∀(l:List (Nat×Option Ob)),onlyNew m.nx l=true->lookU l i=none:=λl=>by
   induction l with
   |nil=>exact λ_=>rfl
   |cons p r ih=>
    intro h
    obtain⟨k,o⟩:=p
    obtain⟨h1,h2⟩:=Bool.and_eq_true_iff.1 h
    have h1:=Nat.le_of_ble_eq_true h1
    rw[lookU_cons,if_neg (by omega)]
    exact ih h2
  rw[this l ho]
 have hsub:∀id x,m.obs id=some x->m'.obs id=some x:=λid x hx=>by
  rw[hold id (hox0.objs id x hx).1];exact hx
 refine⟨⟨hox.sb,λid x hx=> ?_,λid x hx=>hox.fb id x (hsub id x hx),λi j x y hx o1 hy o2=>hox.dj i j x y (hsub i x hx) o1 (hsub j y hy) o2,hox.nT,λe=>hox.tpe (htp e),λe=>hox.tF (htpe.trans e)⟩,⟨htr.os,htr.tape,htr.output,htr.sz,htr.tK,htr.tN,λ_ h=>h,htr.hH,htr.sS,htr.sN,htr.blk,λb hb=> ?_⟩⟩
 ·obtain⟨k1,k2,_⟩:=hox0.objs id x hx
  exact⟨k1,k2,(hox.objs id x (hsub id x hx)).2.2⟩
 ·obtain⟨id,x,hx,o1,hb⟩:=hb
  exact htr.fp b ⟨id,x,hsub id x hx,o1,hb⟩
theorem evG {q:Nat}{want G:Bool}{st:St}{a:Act}{w:World}{c:Cx}(hr:RX st a w c){x:Operand}{g:Bool}{y:SV}(hs:st.ev x= .cnd q want g y)(hg:guardG want (look st.sl q)=some G)(hG:G=true):g=true:=by
 cases x with
 |tmp t=>
  have hs:(bif Nat.blt t st.n then look st.sl t else .un)= .cnd q want g y:=hs
  cases hbt:Nat.blt t st.n with
  |false=>rw[hbt] at hs;cases hs
  |true=>rw[hbt] at hs;exact ((hr.cn t q want g y hs).2.2 G hg).trans hG
 |const v=>cases hs
 |func f=>cases hs
 |global g=>cases hs
theorem stripS_rel {q:Nat}{want G:Bool}{st:St}{a:Act}{w:World}{c:Cx}(hr:RX st a w c)(hlt:q<st.n)(hg:guardG want (look st.sl q)=some G)(hG:G=true):RelsC st.ms.mem (λx=>stripS q want (st.ev x)) a w c:=by
 have key:∀x,SRel c w (stripS q want (st.ev x)) (a.eval x)/\(stripS q want (st.ev x)).inU st.ms.U:=λx=>by
  have h1:=hr.ev x
  have h2:=hr.evU x
  generalize hs:st.ev x=s at h1 h2
  unfold stripS
  split
  ·rename_i q' w' g y
   cases hb:(Nat.beq q' q&&(w'==want)) with
   |false=>exact⟨h1,h2⟩
   |true=>
    obtain⟨b1,b2⟩:=Bool.and_eq_true_iff.1 hb
    have b1:=beq_eq b1
    have b2:w'=want:=by simpa using b2
    subst b1 b2
    simp only[cond_true]
    refine⟨noC_rel ((srel_cnd h1).1 ?_),noC_inU h2⟩
    exact evG hr hs hg hG
  ·exact⟨h1,h2⟩
 refine⟨⟨hr.ox,λx=>(key x).1,λx=>(key x).2⟩,λx q1 w1 g1 y1 b hx hq=> ?_⟩
 have hx':st.ev x= .cnd q1 w1 g1 y1:=by
  generalize st.ev x=s at hx
  unfold stripS at hx
  split at hx
  ·rename_i q' w' g y
   cases hb:(Nat.beq q' q&&(w'==want)) with
   |false=>rw[hb] at hx;exact hx
   |true=>rw[hb] at hx;exact absurd hx noC_ne
  ·exact hx
 have hG1:guardG w1 (st.ev (.tmp q1))=some (gx w1 b):=by
  generalize hs:st.ev (.tmp q1)=s at hq
  unfold stripS at hq
  split at hq
  ·rename_i q' w' g y
   cases hb:(Nat.beq q' q&&(w'==want)) with
   |false=>rw[hb] at hq;cases hq
   |true=>
    rw[hb] at hq
    obtain⟨b1,b2⟩:=Bool.and_eq_true_iff.1 hb
    have b1:=beq_eq b1
    have b2:w'=want:=by simpa using b2
    subst b1 b2
    have hg1:g=true:=evG hr hs hg hG
    have hy:y= .d (.v (.bool b)):=by
     simp only[cond_true] at hq
     unfold noC at hq
     split at hq
     ·cases hq
     ·exact hq
    rw[hy,hg1];simp[guardG]
  ·rw[hq];rfl
 cases x with
 |tmp t=>
  have hx':(bif Nat.blt t st.n then look st.sl t else .un)= .cnd q1 w1 g1 y1:=hx'
  have hG1:guardG w1 (bif Nat.blt q1 st.n then look st.sl q1 else .un)=some (gx w1 b):=hG1
  cases hbt:Nat.blt t st.n with
  |false=>rw[hbt] at hx';cases hx'
  |true=>
   rw[hbt] at hx'
   cases hbq:Nat.blt q1 st.n with
   |false=>rw[hbq] at hG1;cases hG1
   |true=>rw[hbq] at hG1;exact (hr.cn t q1 w1 g1 y1 hx').2.2 _ hG1
 |const v=>cases hx'
 |func f=>cases hx'
 |global g=>cases hx'
def OpG (P:Program)(o:Oper)(G:Bool)(st:St)(Q:St->Prop):Prop:=∀a w c,RX st a w c->∀(K:Act->World->Prop)(Qx:Exit->Act->World->Prop),(∀st' a' w' c',Step st a w c st' a' w' c'->Q st'->K a' w')->if G=true then o.wp P a w K Qx else K (a.put o.dst undef) w
theorem andL_map {G:Bool}(hG:G=true):∀{l:List Prop},allL (l.map (G=true->·))->allL l
 |[],_=>trivial
 |p::r,h=>⟨h.1 hG,andL_map hG h.2⟩
theorem allL_map {G:Bool}:∀{l:List Prop},(G=true->allL l)->allL (l.map (G=true->·))
 |[],_=>trivial
 |p::r,h=>⟨λe=>(h e).1,allL_map λe=>(h e).2⟩
theorem aopG_ok {τ:TypeId->Option Ty}{cp:CP}(hcp:CallOK P cp){o:Oper}{d q:Nat}{want:Bool}{st:St}{K:St->Prop}(hd:o.dst=some d)(h:aopG P τ cp o d q want st K):∃G,q<st.n/\guardG want (look st.sl q)=some G/\OpG P o G st K:=by
 unfold aopG at h
 split at h
 ·exact h.elim
 ·rename_i G hG
  cases hb:(dstOK st (some d)&& !(Nat.beq q d)&&Nat.blt q st.n) with
  |false=>rw[hb] at h;exact h.elim
  |true=>
   rw[hb] at h
   simp only[Bool.and_eq_true,Bool.not_eq_true'] at hb
   obtain⟨⟨b1,b2⟩,b3⟩:=hb
   have hqd:q≠d:=λe=>by rw[e] at b2;simp at b2
   have hlt:q<st.n:=Nat.le_of_ble_eq_true b3
   refine⟨G,hlt,hG,λa w c hr KK Qx hQ=> ?_⟩
   simp only[cond_true] at h
   split at h
   ·rename_i f ss hc
    split at h
    ·rename_i ty hty
     cases hcl:callable P f with
     |false=>rw[hcl] at h;exact h.elim
     |true=>
      rw[hcl] at h
      obtain⟨⟨ht,hf⟩⟩:=h
      have hjoin:∀y:den ty,app [ty] (lam [ty] λv=>K (st.setG d q want G (.d (tv ty v.1)))) (y,())=K (st.setG d q want G (.d (tv ty y))):=λy=>app_lam [ty] _ (y,())
      cases hGv:G with
      |true=>
       rw[if_pos rfl]
       have h:=ht hGv
       have hrel:=stripS_rel hr hlt hG hGv
       obtain⟨us,hrun,hl,hargs⟩:=callT_run (m:=st.ms.mem) hc hcl hrel.op hrel.iu
       unfold Oper.wp
       rw[hrun]
       show Calls _ _ _ _ _
       refine (hcp f _ st.ms _ h us w c hr.ox (by simpa using hl) (noC_args hargs)).mono ?_
       rintro e w' ⟨v,r,m',c',rfl,hk,hfr,hox,htr,hs,hu⟩
       split at hk
       ·rename_i x
        split at hk
        ·rename_i y hy
         cases hon2:(onlyNew st.ms.nx (news st.ms m')&&(m'.tp==st.ms.tp)) with
         |false=>rw[hon2] at hk;exact hk.elim
         |true=>
          rw[hon2] at hk
          obtain⟨hon,htp2⟩:=Bool.and_eq_true_iff.1 hon2
          have htp2:m'.tp=st.ms.tp:=by simpa using htp2
          simp only[cond_true] at hk
          rw[hjoin] at hk
          obtain⟨ox2,tr2⟩:=forget htp2 hfr hon hr.ox hox htr
          rw[hd]
          exact hQ _ _ _ c' ⟨hr.setG tr2 ox2 b1 hqd hG (v:=v) (λ_=> .d _ _ (undoT_rd hy (srel_d hs))) (λe=>by rw[hGv] at e;cases e) trivial,tr2,defers_put _ _ _,.setG⟩ hk
        ·exact hk.elim
       ·exact hk.elim
      |false=>
       rw[if_neg (by decide)]
       have h:=hf hGv
       rw[hjoin] at h
       rw[hd]
       exact hQ _ _ _ c ⟨hr.setG .refl hr.ox b1 hqd hG (r:= .d (tv ty (dflt ty))) (v:=undef) (λe=>by rw[hGv] at e;cases e) (λ_=>rfl) trivial,.refl,defers_put _ _ _,.setG⟩ h
    ·exact h.elim
   ·split at h
    ·rename_i R hR
     cases hc1:(isC0 R&&R.r.lowN st.ms.nx) with
     |false=>
      rw[hc1] at h
      obtain⟨ht,hf⟩:=(show IFB G _ _ from h)
      cases hGv:G with
      |true=>
       rw[if_pos rfl]
       obtain⟨h1,h2⟩:=andL_spec (show andL (R.ps.map Cnd.pr) _ from ht hGv)
       refine eop_ok (P:=P) hR a w c (stripS_rel hr hlt hG hGv) (λi hi _ hu=>by have hu:i<st.ms.nx:=hu;omega) h1 KK Qx λv c' w' hox htr hs hu hf=> ?_
       have e1:=upd_obs st.ms R
       have e2:=upd_U st.ms R
       have htr':TrM st.ms w c (st.ms.upd R) w' c':=by show Tr _ _ _ _ (st.ms.upd R).obs (st.ms.upd R).U _ _;rw[e1,e2];exact htr
       have hox':OXM (st.ms.upd R) w' c':=by show OX (st.ms.upd R).obs (st.ms.upd R).U _ _ _;rw[e1,e2];exact hox
       rw[hd]
       exact hQ _ _ _ c' ⟨hr.set htr' hox' b1 hs (by rw[e2];exact hu),htr',defers_put _ _ _,.set (.upd _ _)⟩ (impL_spec h2 hf)
      |false=>
       rw[if_neg (by decide)]
       rw[hd]
       exact hQ _ _ _ c ⟨hr.set .refl hr.ox b1 (.un _) trivial,.refl,defers_put _ _ _,.set (.refl _)⟩ (hf hGv)
     |true=>
      rw[hc1] at h
      simp only[cond_true] at h
      obtain⟨hc0,hbl⟩:=Bool.and_eq_true_iff.1 hc1
      obtain⟨z1,z2⟩:=Bool.and_eq_true_iff.1 hc0
      have z1:R.ob=[]:=by simpa using z1
      have z2:=beq_eq z2
      obtain⟨h1,h2⟩:=andL_spec h
      cases hGv:G with
      |true=>
       rw[if_pos rfl]
       have hrel:=stripS_rel hr hlt hG hGv
       refine eop_ok (P:=P) hR a w c hrel (λi hi hi2 hu=>by rw[z2] at hi2;omega) (andL_map hGv h1) KK Qx λv c' w' hox htr hs hu hf=> ?_
       rw[z1,z2] at hox htr
       rw[z2] at hu
       rw[addN_zero] at hox htr hu
       rw[hd]
       exact hQ _ _ _ c' ⟨hr.setG htr hox b1 hqd hG (v:=v) (λ_=>hs) (λe=>by rw[hGv] at e;cases e) hu,htr,defers_put _ _ _,.setG⟩ (impL_spec h2 (allL_map λ_=>hf))
      |false=>
       rw[if_neg (by decide)]
       rw[hd]
       have hfs:allL (R.fs.map (G=true->·)):=allL_map λe=>by rw[hGv] at e;cases e
       exact hQ _ _ _ c ⟨hr.setG .refl hr.ox b1 hqd hG (r:=R.r) (v:=undef) (λe=>by rw[hGv] at e;cases e) (λ_=>rfl) (SV.lowN_inU _ hbl),.refl,defers_put _ _ _,.setG⟩ (impL_spec h2 hfs)
    ·exact h.elim
inductive Sh where
 |dat (t:Ty)
 |own (e:TypeId) (t:Ty)
 |bx (id off:Nat)
 |rf (id:Nat)
 |tp
 |un
 |agg (cs:List Sh)
 |tup (cs:List Sh)
mutual
def shT:Sh->List Ty->List Ty
 | .dat t,acc=>t::acc
 | .own _ t,acc=> .sl t::acc
 | .agg cs,acc=>shTL cs acc
 | .tup cs,acc=>shTL cs acc
 | .bx _ _,acc=>acc
 | .rf _,acc=>acc
 | .tp,acc=>acc
 | .un,acc=>acc
def shTL:List Sh->List Ty->List Ty
 |[],acc=>acc
 |s::r,acc=>shT s (shTL r acc)
end
abbrev Row:=TypeId×Sigma λt:Ty=>List (den t)
mutual
def instS:(s:Sh)->(acc:List Ty)->dens (shT s acc)->Nat->SV×List Row×dens acc
 | .dat t,_,v,_=>(.d (tv t v.1),[],v.2)
 | .own e t,_,v,k=>(.os k,[(e,⟨t,v.1⟩)],v.2)
 | .bx id off,_,v,_=>(.bx id off,[],v)
 | .rf id,_,v,_=>(.os id,[],v)
 | .tp,_,v,_=>(.tp,[],v)
 | .un,_,v,_=>(.un,[],v)
 | .agg cs,acc,v,k=>match instL cs acc v k with
  |(ss,rs,r)=>(mkAgg ss,rs,r)
 | .tup cs,acc,v,k=>match instL cs acc v k with
  |(ss,rs,r)=>(.tup ss,rs,r)
def instL:(ss:List Sh)->(acc:List Ty)->dens (shTL ss acc)->Nat->List SV×List Row×dens acc
 |[],_,v,_=>([],[],v)
 |s::r,acc,v,k=>match instS s (shTL r acc) v k with
  |(x,rs,v')=>match instL r acc v' (k+rs.length) with
   |(xs,rs',v'')=>(x::xs,rs++rs',v'')
end
structure Got (ts:List Ty) where
 v:dens ts
 own:List (Option Nat)
 fz:List Nat
def tupOf:SV->Option (List SV)
 | .tup ss=>some ss
 |_=>none
mutual
def fitS (m:Mem)(n:Nat):(s:Sh)->(acc:List Ty)->SV->dens acc->Option (Got (shT s acc))
 | .dat t,_,x,r=>match dataOf m x with
  |some (d,ids)=>match undoT t d with
   |some y=>some ⟨(y,r),[],ids⟩
   |none=>none
  |none=>none
 | .own e t,_,x,r=>match x with
  | .os id=>match m.ob id with
   |some (.row e' t' l)=>bif Nat.beq e e'&&Nat.blt e 1000000 then match castL t t' l with
    |some l'=>some ⟨(l',r),[some id],[]⟩
    |none=>none
    else none
   |some (.dp e' t' l)=>bif Nat.beq e (e'+1000000) then match castL t t' l with
    |some l'=>some ⟨(l',r),[some id],[]⟩
    |none=>none
    else none
   |_=>none
  | .d (.v y)=>bif isNil y&&Nat.ble 1 (size t) then some ⟨(([]:List (den t)),r),[none],[]⟩ else none
  |_=>none
 | .bx id off,_,x,r=>match x with
  | .bx id' off'=>bif Nat.beq id id'&&Nat.beq off off'&&Nat.blt id n then some ⟨r,[],[]⟩ else none
  |_=>none
 | .rf id,_,x,r=>match x with
  | .os id'=>bif Nat.beq id id'&&Nat.blt id n then some ⟨r,[],[]⟩ else none
  |_=>none
 | .tp,_,x,r=>match x with
  | .tp=>some ⟨r,[],[]⟩
  |_=>none
 | .un,_,_,r=>some ⟨r,[],[]⟩
 | .agg cs,acc,x,r=>match aggOf x with
  |some ss=>fitL m n cs acc ss r
  |none=>none
 | .tup cs,acc,x,r=>match tupOf x with
  |some ss=>fitL m n cs acc ss r
  |none=>none
def fitL (m:Mem)(n:Nat):(ss:List Sh)->(acc:List Ty)->List SV->dens acc->Option (Got (shTL ss acc))
 |[],_,[],r=>some ⟨r,[],[]⟩
 |s::ss,acc,x::xs,r=>match fitL m n ss acc xs r with
  |some g=>match fitS m n s (shTL ss acc) x g.v with
   |some h=>some ⟨h.v,h.own++g.own,h.fz++g.fz⟩
   |none=>none
  |none=>none
 |_,_,_,_=>none
end
def ownH (H:Nat->Value):Option Nat->Value
 |some id=>H id
 |none=> .slice none 0 0
def ownF (F:Nat->Nat->Prop):Option Nat->Nat->Prop
 |some id=>F id
 |none=>λ_=>False
def reCx (c:Cx)(k:Nat)(own:List (Option Nat)):Cx:=⟨c.S,λi=>if i<k then c.H i else ownH c.H ((own[i-k]?).getD none),λi=>if i<k then c.F i else ownF c.F ((own[i-k]?).getD none),c.T⟩
def RowsOK (m:Mem)(own:List (Option Nat))(rs:List Row):Prop:=rs.length=own.length/\∀(j:Nat)(o:Option Nat)(r:Row),own[j]? =some o->rs[j]? =some r->match o with
 |some id=>m.ob id=some (rowOb r)
 |none=>r.2.2=[]/\1<=size r.2.1
theorem RowsOK.app {m:Mem}{o1 o2:List (Option Nat)}{r1 r2:List Row}(h1:RowsOK m o1 r1)(h2:RowsOK m o2 r2):RowsOK m (o1++o2) (r1++r2):=by
 refine⟨by simp[h1.1,h2.1],λj o r ho hr=> ?_⟩
 by_cases hj:j<o1.length
 ·rw[List.getElem?_append_left hj] at ho
  rw[List.getElem?_append_left (by rw[h1.1];exact hj)] at hr
  exact h1.2 j o r ho hr
 ·rw[List.getElem?_append_right (by omega)] at ho
  rw[List.getElem?_append_right (by rw[h1.1];omega),h1.1] at hr
  exact h2.2 _ o r ho hr
mutual
theorem SV.inU_all:∀(s:SV),s.inU λ_=>True
 | .bx _ _=>trivial
 | .os _=>trivial
 | .sub _ _ _ _=>trivial
 | .op _ _ _ _=>trivial
 | .agg cs=>inUL_all cs
 | .tup cs=>inUL_all cs
 | .fn _ cs=>inUL_all cs
 | .cnd _ _ _ x=>SV.inU_all x
 | .d _=>trivial
 | .tp=>trivial
 | .un=>trivial
 | .ns _=>trivial
 | .np _ _ _ _=>trivial
 | .inn _ _=>trivial
 | .ip _ _ _ _ _=>trivial
theorem inUL_all:∀(cs:List SV),inUL (λ_=>True) cs
 |[]=>trivial
 |s::r=>⟨SV.inU_all s,inUL_all r⟩
end
structure Fz (m:Mem)(c c1:Cx)(w:World)(ids0:List Nat):Prop where
 h:OX m.ob m.U m.tp w c
 h':OX (ovr m.ob (fzU m.ob ids0)) m.U m.tp w c1
 t:Tr m.ob m.U w c (ovr m.ob (fzU m.ob ids0)) m.U w c1
 hH:c1.H=c.H
theorem ble_no {a b:Nat}(h:Nat.blt a b=true):Nat.ble b a=false:=by
 have h:a<b:=Nat.le_of_ble_eq_true h
 cases hb:Nat.ble b a with
 |false=>rfl
 |true=>have:=Nat.le_of_ble_eq_true hb;omega
mutual
theorem fitS_ok {m:Mem}{c c1:Cx}{w:World}{ids0:List Nat}(F:Fz m c c1 w ids0){k0:Nat}{own0:List (Option Nat)}:∀(s:Sh)(acc:List Ty)(x:SV)(r:dens acc)(g:Got (shT s acc)),fitS m k0 s acc x r=some g->(∀i∈g.fz,i∈ids0)->∀(k:Nat),k0<=k->(∀(j:Nat)(o:Option Nat),g.own[j]? =some o->own0[k-k0+j]? =some o)->
 (instS s acc g.v k).2.2=r/\RowsOK m g.own (instS s acc g.v k).2.1/\((instS s acc g.v k).1.inU λi=>i<k0\/(k<=i/\i<k+g.own.length))/\∀{u:Value},SRel c w x u->SRel (reCx c1 k0 own0) w (instS s acc g.v k).1 u
 | .dat ty,acc,x,r,g,hg,hz,k,hk,ho=>by
  unfold fitS at hg
  split at hg
  ·rename_i d ids hd
   split at hg
   ·rename_i y hy
    injection hg with hg
    subst hg
    refine⟨rfl,⟨rfl,λj o r ho=>by simp at ho⟩,trivial,λ{u} hr=> .d _ _ ?_⟩
    exact undoT_rd hy (dataOf_rel F.h F.h' F.t F.hH x hd hz hr)
   ·cases hg
  ·cases hg
 | .own e ty,acc,x,r,g,hg,hz,k,hk,ho=>by
  unfold fitS at hg
  split at hg
  ·rename_i id
   split at hg
   ·rename_i e' t' l hob
    cases hb:(Nat.beq e e'&&Nat.blt e 1000000) with
    |false=>rw[hb] at hg;cases hg
    |true=>
     rw[hb] at hg
     obtain⟨hb,hlt⟩:=Bool.and_eq_true_iff.1 hb
     have hb:=beq_eq hb
     subst hb
     simp only[cond_true] at hg
     split at hg
     ·rename_i l' hl
      obtain⟨e1,e2⟩:=castL_eq hl
      subst e1
      have e2:=eq_of_heq e2
      subst e2
      injection hg with hg
      subst hg
      refine⟨rfl,⟨rfl,λj o r ho hr=> ?_⟩,.inr ⟨Nat.le_refl _,by show k<k+1;omega⟩,λ{u} hr=> ?_⟩
      ·cases j with
       |zero=>
        simp at ho
        subst ho
        have hr:[(e,(⟨t',l⟩:Sigma λt:Ty=>List (den t)))][0]? =some r:=hr
        simp at hr
        subst hr
        rw[rowOb_row _ _ _ (ble_no hlt)]
        exact hob
       |succ j=>simp at ho
      ·rw[srel_os hr,<-F.hH]
       have:=SRel.os (c:=reCx c1 k0 own0) (w:=w) k
       have e:(reCx c1 k0 own0).H k=c1.H id:=by
        show (if k<k0 then c1.H k else ownH c1.H ((own0[k-k0]?).getD none))=_
        have:=ho 0 (some id) rfl
        rw[Nat.add_zero] at this
        rw[if_neg (by omega),this];rfl
       rw[e] at this
       exact this
     ·cases hg
   ·rename_i e' t' l hob
    cases hb:Nat.beq e (e'+1000000) with
    |false=>rw[hb] at hg;cases hg
    |true=>
     rw[hb] at hg
     have hb:=beq_eq hb
     subst hb
     simp only[cond_true] at hg
     split at hg
     ·rename_i l' hl
      obtain⟨e1,e2⟩:=castL_eq hl
      subst e1
      have e2:=eq_of_heq e2
      subst e2
      injection hg with hg
      subst hg
      refine⟨rfl,⟨rfl,λj o r ho hr=> ?_⟩,.inr ⟨Nat.le_refl _,by show k<k+1;omega⟩,λ{u} hr=> ?_⟩
      ·cases j with
       |zero=>
        simp at ho
        subst ho
        have hr:[(e'+1000000,(⟨t',l⟩:Sigma λt:Ty=>List (den t)))][0]? =some r:=hr
        simp at hr
        subst hr
        show m.ob id=some (rowOb (e'+1000000,⟨t',l⟩))
        rw[rowOb_dp]
        exact hob
       |succ j=>simp at ho
      ·rw[srel_os hr,<-F.hH]
       have:=SRel.os (c:=reCx c1 k0 own0) (w:=w) k
       have e:(reCx c1 k0 own0).H k=c1.H id:=by
        show (if k<k0 then c1.H k else ownH c1.H ((own0[k-k0]?).getD none))=_
        have:=ho 0 (some id) rfl
        rw[Nat.add_zero] at this
        rw[if_neg (by omega),this];rfl
       rw[e] at this
       exact this
     ·cases hg
   ·cases hg
  ·rename_i y
   cases hb:(isNil y&&Nat.ble 1 (size ty)) with
   |false=>rw[hb] at hg;cases hg
   |true=>
    rw[hb] at hg
    obtain⟨b1,b2⟩:=Bool.and_eq_true_iff.1 hb
    injection hg with hg
    subst hg
    refine⟨rfl,⟨rfl,λj o r ho hr=> ?_⟩,.inr ⟨Nat.le_refl _,by show k<k+1;omega⟩,λ{u} hr=> ?_⟩
    ·cases j with
     |zero=>
      simp at ho
      subst ho
      have hr:[(e,(⟨ty,[]⟩:Sigma λt:Ty=>List (den t)))][0]? =some r:=hr
      simp at hr
      subst hr
      exact⟨rfl,Nat.le_of_ble_eq_true b2⟩
     |succ j=>simp at ho
    ·rw[srel_v hr,isNil_eq b1]
     have:=SRel.os (c:=reCx c1 k0 own0) (w:=w) k
     have e:(reCx c1 k0 own0).H k= .slice none 0 0:=by
      show (if k<k0 then c1.H k else ownH c1.H ((own0[k-k0]?).getD none))=_
      have:=ho 0 none rfl
      rw[Nat.add_zero] at this
      rw[if_neg (by omega),this];rfl
     rw[e] at this
     exact this
  ·cases hg
 | .bx id off,acc,x,r,g,hg,hz,k,hk,ho=>by
  unfold fitS at hg
  split at hg
  ·rename_i id' off'
   cases hb:(Nat.beq id id'&&Nat.beq off off'&&Nat.blt id k0) with
   |false=>rw[hb] at hg;cases hg
   |true=>
    rw[hb] at hg
    simp only[Bool.and_eq_true] at hb
    have b1:=beq_eq hb.1.1
    have b2:=beq_eq hb.1.2
    have b3:id<k0:=Nat.le_of_ble_eq_true hb.2
    subst b1 b2
    injection hg with hg
    subst hg
    refine⟨rfl,⟨rfl,λj o r ho=>by simp at ho⟩,.inl b3,λ{u} hr=> ?_⟩
    obtain⟨b,hb,rfl⟩:=srel_bx hr
    refine .bx id off b ?_
    show (if id<k0 then c1.H id else _)=_
    rw[if_pos b3,F.hH];exact hb
  ·cases hg
 | .rf id,acc,x,r,g,hg,hz,k,hk,ho=>by
  unfold fitS at hg
  split at hg
  ·rename_i id'
   cases hb:(Nat.beq id id'&&Nat.blt id k0) with
   |false=>rw[hb] at hg;cases hg
   |true=>
    rw[hb] at hg
    simp only[Bool.and_eq_true] at hb
    have b1:=beq_eq hb.1
    have b3:id<k0:=Nat.le_of_ble_eq_true hb.2
    subst b1
    injection hg with hg
    subst hg
    refine⟨rfl,⟨rfl,λj o r ho=>by simp at ho⟩,.inl b3,λ{u} hr=> ?_⟩
    have e1:(reCx c1 k0 own0).H id=c.H id:=by
     show (if id<k0 then c1.H id else _)=_
     rw[if_pos b3,F.hH]
    rw[srel_os hr,<-e1]
    exact .os id
  ·cases hg
 | .tp,acc,x,r,g,hg,hz,k,hk,ho=>by
  unfold fitS at hg
  split at hg
  ·injection hg with hg
   subst hg
   refine⟨rfl,⟨rfl,λj o r ho=>by simp at ho⟩,trivial,λ{u} hr=> ?_⟩
   obtain⟨T,hT,rfl⟩:=srel_tp hr
   exact .tp T (F.t.tK T hT)
  ·cases hg
 | .un,acc,x,r,g,hg,hz,k,hk,ho=>by
  unfold fitS at hg
  injection hg with hg
  subst hg
  exact⟨rfl,⟨rfl,λj o r ho=>by simp at ho⟩,trivial,λ{u} _=> .un u⟩
 | .agg cs,acc,x,r,g,hg,hz,k,hk,ho=>by
  unfold fitS at hg
  split at hg
  ·rename_i ss hs
   obtain⟨q1,q2,q3,q4,q5⟩:=fitL_ok F cs acc ss r g hg hz k hk ho
   refine⟨q1,q2,mkAgg_inU q3,λ{u} hr=> ?_⟩
   obtain⟨us,rfl,hl,h1,h2,_⟩:=aggOf_rel hs hr (SV.inU_all x)
   exact srel_mkAgg (by omega) h1 λi s u hs hu=>by
    have hi:i<ss.length:=by have:=(List.getElem?_eq_some_iff.1 hs).1;omega
    exact q5 i ss[i] s (List.getElem?_eq_getElem hi) hs (h2 i _ u (List.getElem?_eq_getElem hi) hu)
  ·cases hg
 | .tup cs,acc,x,r,g,hg,hz,k,hk,ho=>by
  unfold fitS at hg
  split at hg
  ·rename_i ss hs
   have hx:x= .tup ss:=by
    unfold tupOf at hs
    split at hs
    ·injection hs with hs;rw[hs]
    ·cases hs
   subst hx
   obtain⟨q1,q2,q3,q4,q5⟩:=fitL_ok F cs acc ss r g hg hz k hk ho
   refine⟨q1,q2,q3,λ{u} hr=> ?_⟩
   cases hr with
   |tup _ us hl h2=>
    exact .tup _ us (by omega) λi s u hs hu=>by
     have hi:i<ss.length:=by have:=(List.getElem?_eq_some_iff.1 hs).1;omega
     exact q5 i ss[i] s (List.getElem?_eq_getElem hi) hs (h2 i _ u (List.getElem?_eq_getElem hi) hu)
  ·cases hg
theorem fitL_ok {m:Mem}{c c1:Cx}{w:World}{ids0:List Nat}(F:Fz m c c1 w ids0){k0:Nat}{own0:List (Option Nat)}:∀(ss:List Sh)(acc:List Ty)(xs:List SV)(r:dens acc)(g:Got (shTL ss acc)),fitL m k0 ss acc xs r=some g->(∀i∈g.fz,i∈ids0)->∀(k:Nat),k0<=k->(∀(j:Nat)(o:Option Nat),g.own[j]? =some o->own0[k-k0+j]? =some o)->
 (instL ss acc g.v k).2.2=r/\RowsOK m g.own (instL ss acc g.v k).2.1/\inUL (λi=>i<k0\/(k<=i/\i<k+g.own.length)) (instL ss acc g.v k).1/\xs.length=(instL ss acc g.v k).1.length/\∀(i:Nat)(x y:SV),xs[i]? =some x->(instL ss acc g.v k).1[i]? =some y->∀{u:Value},SRel c w x u->SRel (reCx c1 k0 own0) w y u
 |[],acc,[],r,g,hg,hz,k,hk,ho=>by
  unfold fitL at hg
  injection hg with hg
  subst hg
  exact⟨rfl,⟨rfl,λj o r ho=>by simp at ho⟩,trivial,rfl,λi x y hx=>by simp at hx⟩
 |[],acc,_::_,r,g,hg,hz,k,hk,ho=>by simp[fitL] at hg
 |_::_,acc,[],r,g,hg,hz,k,hk,ho=>by simp[fitL] at hg
 |s::ss,acc,x::xs,r,g,hg,hz,k,hk,ho=>by
  unfold fitL at hg
  split at hg
  ·rename_i g1 h1
   split at hg
   ·rename_i g2 h2
    injection hg with hg
    subst hg
    obtain⟨p1,p2,p3,p4⟩:=fitS_ok F s (shTL ss acc) x g1.v g2 h2 (λi hi=>hz i (by simp[hi])) k hk (λj o hj=>ho j o (by
     have hjl:=(List.getElem?_eq_some_iff.1 hj).1
     show (g2.own++g1.own)[j]? =some o
     rw[List.getElem?_append_left hjl];exact hj))
    have hl:(instS s (shTL ss acc) g2.v k).2.1.length=g2.own.length:=p2.1
    obtain⟨q1,q2,q3,q4,q5⟩:=fitL_ok F ss acc xs r g1 h1 (λi hi=>hz i (by simp[hi])) (k+g2.own.length) (by omega) (λj o hj=>by
     have:=ho (g2.own.length+j) o (by
      show (g2.own++g1.own)[g2.own.length+j]? =some o
      rw[List.getElem?_append_right (by omega),show g2.own.length+j-g2.own.length=j by omega];exact hj)
     rw[show k+g2.own.length-k0+j=k-k0+(g2.own.length+j) by omega];exact this)
    have e:instL (s::ss) acc g2.v k=((instS s (shTL ss acc) g2.v k).1::(instL ss acc g1.v (k+g2.own.length)).1,(instS s (shTL ss acc) g2.v k).2.1++(instL ss acc g1.v (k+g2.own.length)).2.1,(instL ss acc g1.v (k+g2.own.length)).2.2):=by
     show (match instS s (shTL ss acc) g2.v k with|(x,rs,v')=>match instL ss acc v' (k+rs.length) with|(xs,rs',v'')=>(x::xs,rs++rs',v''))=_
     dsimp only
     rw[hl,p1]
    rw[e]
    refine⟨q1,p2.app q2,⟨SV.inU_mono (λi hi=>hi.imp id λhi=>⟨hi.1,by rw[List.length_append];omega⟩) _ p3,inUL_mono (λi hi=>hi.imp id λhi=>⟨by omega,by rw[List.length_append];omega⟩) _ q3⟩,by simp[q4],λi x' y hx hy u hr=> ?_⟩
    cases i with
    |zero=>simp at hx hy;subst hx hy;exact p4 hr
    |succ i=>simp at hx hy;exact q5 i x' y hx hy hr
   ·cases hg
  ·cases hg
end
structure Shape where
 sl:List (Nat×Sh)
 bx:List (Nat×List Sh)
 kl:List Nat
 ko:List Nat
 rw:List (Nat×TypeId×Ty)
def Shape.all (s:Shape):List Sh:=s.sl.map (·.2)++(s.bx.map (λb=>Sh.tup b.2)++s.rw.map (λr=>Sh.dat (.sl r.2.2)))
def Shape.tys (s:Shape):List Ty:=shTL s.all []
def rowsOb:Nat->List Row->List (Nat×Option Ob)
 |_,[]=>[]
 |k,r::rs=>(k,some (rowOb r))::rowsOb (k+1) rs
def zipS:List (Nat×Sh)->List SV->List (Nat×SV)
 |p::r,x::xs=>(p.1,x)::zipS r xs
 |_,_=>[]
def tupL:SV->List SV
 | .tup cs=>cs
 |_=>[]
def zipB:List (Nat×List Sh)->List SV->List (Nat×Option Ob)
 |p::r,x::xs=>(p.1,some (.box (tupL x)))::zipB r xs
 |_,_=>[]
def listOf (t:Ty):SV->List (den t)
 | .d d=>(decL t d).getD []
 |_=>[]
def reOb (b:Option Ob)(e:TypeId)(t:Ty)(l:List (den t)):Ob:=match b with
 |some (.nst e0 _ k e' t' _)=> .nst e0 t k e' t' l
 |_=> .row e t l
def zipR (B:Nat->Option Ob):List (Nat×TypeId×Ty)->List SV->List (Nat×Option Ob)
 |p::r,x::xs=>(p.1,some (reOb (B p.1) p.2.1 p.2.2 (listOf p.2.2 x)))::zipR B r xs
 |_,_=>[]
def Shape.inst (s:Shape)(base:St)(v:dens s.tys):St:=
 ⟨zipS s.sl (instL s.all [] v base.ms.nx).1++(s.kl.map (λx=>(x,SV.un))++base.sl),
  ⟨zipB s.bx ((instL s.all [] v base.ms.nx).1.drop s.sl.length)++(zipR base.ms.obs s.rw ((instL s.all [] v base.ms.nx).1.drop (s.sl.length+s.bx.length))++(rowsOb base.ms.nx (instL s.all [] v base.ms.nx).2.1++(s.ko.map (λx=>(x,none))++base.ms.ob))),base.ms.nx+(instL s.all [] v base.ms.nx).2.1.length,base.ms.tp⟩,base.n,[],[]⟩
def boxOf (m:Mem)(id:Nat):SV:=match m.ob id with
 |some (.box cs)=> .tup cs
 |_=> .un
def rowW (m:Mem)(id:Nat):SV:=match m.ob id with
 |some (.row _ t l)=> .d (.sl t l)
 |some (.nst _ t _ _ _ l)=> .d (.sl t l)
 |_=> .un
def isNst:Option Ob->Bool
 |some (.nst _ _ _ _ _ _)=>true
 |_=>false
def isRow2 (b s:Option Ob)(e:TypeId)(t:Ty):Bool:=match s with
 |some (.row e' t' _)=>Nat.beq e e'&&t.beq t'&& !isNst b
 |some (.nst e1 t1 k1 f1 u1 _)=>match b with
  |some (.nst e2 t2 k2 f2 u2 _)=>t.beq t1&&Nat.beq e1 e2&&Nat.beq k1 k2&&Nat.beq f1 f2&&u1.beq u2
  |_=>false
 |_=>false
theorem isRow2_spec {b s:Option Ob}{e:TypeId}{t:Ty}(h:isRow2 b s e t=true):∃l:List (den t),s=some (reOb b e t l)/\((∃l',s=some (.row e t l'))\/∃e1 k f u l',s=some (.nst e1 t k f u l'))/\(match s with|some (.row _ t l)=>SV.d (.sl t l)|some (.nst _ t _ _ _ l)=> .d (.sl t l)|_=> .un)= .d (.sl t l):=by
 unfold isRow2 at h
 split at h
 ·rename_i e' t' l
  simp only[Bool.and_eq_true,Bool.not_eq_true'] at h
  obtain⟨⟨b1,b2⟩,b3⟩:=h
  have b1:=beq_eq b1
  have b2:=Ty.beq_eq b2
  subst b1 b2
  refine⟨l,?_,.inl ⟨l,rfl⟩,rfl⟩
  unfold reOb
  split
  ·cases b3
  ·rfl
 ·rename_i e1 t1 k1 f1 u1 l
  split at h
  ·rename_i e2 t2 k2 f2 u2 l2
   simp only[Bool.and_eq_true] at h
   obtain⟨⟨⟨⟨b1,b2⟩,b3⟩,b4⟩,b5⟩:=h
   have b1:=Ty.beq_eq b1
   have b2:=beq_eq b2
   have b3:=beq_eq b3
   have b4:=beq_eq b4
   have b5:=Ty.beq_eq b5
   subst b1 b2 b3 b4 b5
   exact⟨l,rfl,.inr ⟨e1,k1,f1,u1,l,rfl⟩,rfl⟩
  ·cases h
 ·cases h
def isBox (m:Mem)(id:Nat):Bool:=match m.ob id with
 |some (.box _)=>true
 |_=>false
def memK {α:Type}:List (Nat×α)->Nat->Bool
 |[],_=>false
 |p::r,x=>Nat.beq p.1 x||memK r x
def newsS (base st:St):List (Nat×SV):=st.sl.take (st.sl.length-base.sl.length)
def oldOK (n:Nat)(ko:List Nat)(id:Nat):Bool:=Nat.ble n id||has ko id
def ownOK (n:Nat)(ko fz:List Nat):List (Option Nat)->Bool
 |[]=>true
 |none::r=>ownOK n ko fz r
 |some id::r=>oldOK n ko id&& !(has fz id)&&r.all (λo=>match o with
  |some j=> !(Nat.beq id j)
  |none=>true)&&ownOK n ko fz r
def Shape.fit0 (s:Shape)(base st:St):Option (dens s.tys):=
 match fitL st.ms.mem base.ms.nx s.all [] (s.sl.map (λp=>look st.sl p.1)++(s.bx.map (λb=>boxOf st.ms.mem b.1)++s.rw.map (λr=>rowW st.ms.mem r.1))) () with
 |some g=>bif (newsS base st).all (λp=>memK s.sl p.1||has s.kl p.1)&&(news base.ms st.ms).all (λp=>Nat.ble base.ms.nx p.1||memK s.bx p.1||has s.ko p.1||memK s.rw p.1)&&g.fz.all (oldOK base.ms.nx s.ko)&&ownOK base.ms.nx s.ko g.fz g.own&&s.bx.all (λb=>Nat.blt b.1 base.ms.nx&&isBox st.ms.mem b.1)&&s.rw.all (λr=>Nat.blt r.1 base.ms.nx&& !(has s.ko r.1)&&isRow2 (base.ms.obs r.1) (st.ms.obs r.1) r.2.1 r.2.2)&&base.gs.isEmpty&&(st.ms.tp==base.ms.tp) then some g.v else none
 |none=>none
def lookK {α:Type}:List (Nat×α)->Nat->Option α
 |[],_=>none
 |p::r,x=>bif Nat.beq p.1 x then some p.2 else lookK r x
theorem lookK_cons {α:Type}(p:Nat×α)(r:List (Nat×α))(x:Nat):lookK (p::r) x=if p.1=x then some p.2 else lookK r x:=by
 show (bif Nat.beq p.1 x then _ else _)=_
 by_cases h:p.1=x
 ·rw[h];simp
 ·rw[beq_ne h,if_neg h];rfl
theorem look_app:∀(l r:List (Nat×SV))(x:Nat),look (l++r) x=(lookK l x).getD (look r x)
 |[],r,x=>rfl
 |(k,v)::l,r,x=>by
  rw[List.cons_append,look_cons,lookK_cons]
  by_cases h:k=x
  ·rw[if_pos h,if_pos h];rfl
  ·rw[if_neg h,if_neg h];exact look_app l r x
theorem lookO_app':∀(l r:List (Nat×Option Ob))(x:Nat),lookO (l++r) x=(lookK l x).getD (lookO r x)
 |[],r,x=>rfl
 |(k,v)::l,r,x=>by
  rw[List.cons_append,lookO_cons,lookK_cons]
  by_cases h:k=x
  ·subst h;rw[if_pos rfl,put_same];rfl
  ·rw[if_neg h,put_ne _ _ (λe=>h e.symm)];exact lookO_app' l r x
theorem lookK_mem {α:Type}:∀{l:List (Nat×α)}{x:Nat}{v:α},lookK l x=some v->(x,v)∈l
 |p::r,x,v,h=>by
  rw[lookK_cons] at h
  split at h
  ·rename_i e
   injection h with h
   subst e h
   exact List.mem_cons_self
  ·exact List.mem_cons_of_mem _ (lookK_mem h)
theorem lookK_un {α:Type}(f:Nat->α):∀(l:List Nat)(x:Nat),lookK (l.map λy=>(y,f y)) x=if has l x=true then some (f x) else none
 |[],x=>rfl
 |y::r,x=>by
  rw[List.map_cons,lookK_cons]
  by_cases h:y=x
  ·subst h;rw[if_pos rfl,if_pos (has_cons.2 (.inl rfl))]
  ·rw[if_neg h,lookK_un f r x]
   by_cases h2:has r x=true
   ·rw[if_pos h2,if_pos (has_cons.2 (.inr h2))]
   ·rw[if_neg h2,if_neg (λe=>(has_cons.1 e).elim h h2)]
theorem zipS_some:∀{l:List (Nat×Sh)}{xs:List SV}{x:Nat}{v:SV},lookK (zipS l xs) x=some v->∃(i:Nat)(p:Nat×Sh),l[i]? =some p/\p.1=x/\xs[i]? =some v
 |[],_,x,v,h=>by simp[zipS,lookK] at h
 |p::r,[],x,v,h=>by simp[zipS,lookK] at h
 |p::r,y::xs,x,v,h=>by
  rw[zipS,lookK_cons] at h
  split at h
  ·rename_i e
   injection h with h
   exact⟨0,p,rfl,e,by rw[<-h];rfl⟩
  ·obtain⟨i,q,h1,h2,h3⟩:=zipS_some h
   exact⟨i+1,q,h1,h2,h3⟩
theorem zipS_none:∀{l:List (Nat×Sh)}{xs:List SV}{x:Nat},l.length<=xs.length->lookK (zipS l xs) x=none->memK l x=false
 |[],_,x,_,h=>rfl
 |p::r,[],x,hl,h=>by simp at hl
 |p::r,y::xs,x,hl,h=>by
  rw[zipS,lookK_cons] at h
  split at h
  ·cases h
  ·rename_i e
   show (Nat.beq p.1 x||memK r x)=false
   rw[beq_ne e,zipS_none (by simpa using hl) h];rfl
theorem zipB_some:∀{l:List (Nat×List Sh)}{xs:List SV}{x:Nat}{v:Option Ob},lookK (zipB l xs) x=some v->∃(i:Nat)(p:Nat×List Sh)(y:SV),l[i]? =some p/\p.1=x/\xs[i]? =some y/\v=some (.box (tupL y))
 |[],_,x,v,h=>by simp[zipB,lookK] at h
 |p::r,[],x,v,h=>by simp[zipB,lookK] at h
 |p::r,y::xs,x,v,h=>by
  rw[zipB,lookK_cons] at h
  split at h
  ·rename_i e
   injection h with h
   exact⟨0,p,y,rfl,e,rfl,h.symm⟩
  ·obtain⟨i,q,y',h1,h2,h3,h4⟩:=zipB_some h
   exact⟨i+1,q,y',h1,h2,h3,h4⟩
theorem zipB_none:∀{l:List (Nat×List Sh)}{xs:List SV}{x:Nat},l.length<=xs.length->lookK (zipB l xs) x=none->memK l x=false
 |[],_,x,_,h=>rfl
 |p::r,[],x,hl,h=>by simp at hl
 |p::r,y::xs,x,hl,h=>by
  rw[zipB,lookK_cons] at h
  split at h
  ·cases h
  ·rename_i e
   show (Nat.beq p.1 x||memK r x)=false
   rw[beq_ne e,zipB_none (by simpa using hl) h];rfl
theorem zipR_some {B:Nat->Option Ob}:∀{l:List (Nat×TypeId×Ty)}{xs:List SV}{x:Nat}{v:Option Ob},lookK (zipR B l xs) x=some v->∃(i:Nat)(p:Nat×TypeId×Ty)(y:SV),l[i]? =some p/\p.1=x/\xs[i]? =some y/\v=some (reOb (B p.1) p.2.1 p.2.2 (listOf p.2.2 y))
 |[],_,x,v,h=>by simp[zipR,lookK] at h
 |p::r,[],x,v,h=>by simp[zipR,lookK] at h
 |p::r,y::xs,x,v,h=>by
  rw[zipR,lookK_cons] at h
  split at h
  ·rename_i e
   injection h with h
   exact⟨0,p,y,rfl,e,rfl,h.symm⟩
  ·obtain⟨i,q,y',h1,h2,h3,h4⟩:=zipR_some h
   exact⟨i+1,q,y',h1,h2,h3,h4⟩
theorem zipR_none {B:Nat->Option Ob}:∀{l:List (Nat×TypeId×Ty)}{xs:List SV}{x:Nat},l.length<=xs.length->lookK (zipR B l xs) x=none->memK l x=false
 |[],_,x,_,h=>rfl
 |p::r,[],x,hl,h=>by simp at hl
 |p::r,y::xs,x,hl,h=>by
  rw[zipR,lookK_cons] at h
  split at h
  ·cases h
  ·rename_i e
   show (Nat.beq p.1 x||memK r x)=false
   rw[beq_ne e,zipR_none (by simpa using hl) h];rfl
theorem Ty.beq_refl:∀t:Ty,t.beq t=true
 | .int _=>by simp[Ty.beq]
 | .bool=>rfl
 | .str=>rfl
 | .sl t=>Ty.beq_refl t
 | .st _=>Nat.beq_refl _
mutual
theorem fitS_rest {m:Mem}{n:Nat}:∀(s:Sh)(acc:List Ty)(x:SV)(r:dens acc)(g:Got (shT s acc)),fitS m n s acc x r=some g->∀k,(instS s acc g.v k).2.2=r
 | .dat t,acc,x,r,g,hg,k=>by
  unfold fitS at hg
  split at hg
  ·split at hg
   ·injection hg with hg;subst hg;rfl
   ·cases hg
  ·cases hg
 | .own e t,acc,x,r,g,hg,k=>by
  unfold fitS at hg
  split at hg
  ·split at hg
   ·rename_i e' t' l hl
    cases hb:(Nat.beq e e'&&Nat.blt e 1000000) with
    |false=>rw[hb] at hg;cases hg
    |true=>
     rw[hb] at hg
     simp only[cond_true] at hg
     split at hg
     ·injection hg with hg;subst hg;rfl
     ·cases hg
   ·rename_i e' t' l hl
    cases hb:Nat.beq e (e'+1000000) with
    |false=>rw[hb] at hg;cases hg
    |true=>
     rw[hb] at hg
     simp only[cond_true] at hg
     split at hg
     ·injection hg with hg;subst hg;rfl
     ·cases hg
   ·cases hg
  ·rename_i y
   cases hb:(isNil y&&Nat.ble 1 (size t)) with
   |false=>rw[hb] at hg;cases hg
   |true=>
    rw[hb] at hg
    simp only[cond_true] at hg
    injection hg with hg;subst hg;rfl
  ·cases hg
 | .bx id off,acc,x,r,g,hg,k=>by
  unfold fitS at hg
  split at hg
  ·rename_i id' off'
   cases hb:(Nat.beq id id'&&Nat.beq off off'&&Nat.blt id n) with
   |false=>rw[hb] at hg;cases hg
   |true=>
    rw[hb] at hg
    simp only[cond_true] at hg
    injection hg with hg;subst hg;rfl
  ·cases hg
 | .rf id,acc,x,r,g,hg,k=>by
  unfold fitS at hg
  split at hg
  ·rename_i id'
   cases hb:(Nat.beq id id'&&Nat.blt id n) with
   |false=>rw[hb] at hg;cases hg
   |true=>
    rw[hb] at hg
    simp only[cond_true] at hg
    injection hg with hg;subst hg;rfl
  ·cases hg
 | .tp,acc,x,r,g,hg,k=>by
  unfold fitS at hg
  split at hg
  ·injection hg with hg;subst hg;rfl
  ·cases hg
 | .un,acc,x,r,g,hg,k=>by
  unfold fitS at hg
  injection hg with hg;subst hg;rfl
 | .agg cs,acc,x,r,g,hg,k=>by
  unfold fitS at hg
  split at hg
  ·exact fitL_rest cs acc _ r g hg k
  ·cases hg
 | .tup cs,acc,x,r,g,hg,k=>by
  unfold fitS at hg
  split at hg
  ·exact fitL_rest cs acc _ r g hg k
  ·cases hg
theorem fitL_rest {m:Mem}{n:Nat}:∀(ss:List Sh)(acc:List Ty)(xs:List SV)(r:dens acc)(g:Got (shTL ss acc)),fitL m n ss acc xs r=some g->∀k,(instL ss acc g.v k).2.2=r
 |[],acc,[],r,g,hg,k=>by
  unfold fitL at hg
  injection hg with hg;subst hg;rfl
 |[],acc,_::_,r,g,hg,k=>by simp[fitL] at hg
 |s::ss,acc,[],r,g,hg,k=>by simp[fitL] at hg
 |s::ss,acc,x::xs,r,g,hg,k=>by
  unfold fitL at hg
  split at hg
  ·rename_i g1 h1
   split at hg
   ·rename_i g2 h2
    injection hg with hg
    subst hg
    have e1:=fitS_rest s (shTL ss acc) x g1.v g2 h2 k
    show (instL ss acc (instS s (shTL ss acc) g2.v k).2.2 _).2.2=r
    rw[e1]
    exact fitL_rest ss acc xs r g1 h1 _
   ·cases hg
  ·cases hg
end
theorem castL_same (t:Ty)(l:List (den t)):castL t t l=some l:=by
 unfold castL
 split
 ·rfl
 ·rename_i h;exact absurd (Ty.beq_refl t) h
theorem fitL_dat {m:Mem}{n:Nat}:∀(ss:List Sh)(acc:List Ty)(xs:List SV)(r:dens acc)(g:Got (shTL ss acc)),fitL m n ss acc xs r=some g->∀(i k:Nat)(t:Ty)(l:List (den t)),ss[i]? =some (.dat (.sl t))->xs[i]? =some (.d (.sl t l))->(instL ss acc g.v k).1[i]? =some (.d (.sl t l))
 |[],acc,xs,r,g,hg,i,k,t,l,hs,hx=>by simp at hs
 |s::ss,acc,[],r,g,hg,i,k,t,l,hs,hx=>by simp at hx
 |s::ss,acc,x::xs,r,g,hg,i,k,t,l,hs,hx=>by
  unfold fitL at hg
  split at hg
  ·rename_i g1 h1
   split at hg
   ·rename_i g2 h2
    injection hg with hg
    subst hg
    cases i with
    |zero=>
     simp at hs hx
     subst hs hx
     unfold fitS at h2
     have e1:dataOf m (.d (.sl t l))=some (.sl t l,[]):=by unfold dataOf;rfl
     simp only[e1] at h2
     have e2:undoT (.sl t) (.sl t l)=some l:=castL_same t l
     simp only[e2] at h2
     injection h2 with h2
     subst h2
     rfl
    |succ i=>
     have hrec:=λk=>fitL_dat ss acc xs r g1 h1 i k t l (by simpa using hs) (by simpa using hx)
     have e:=(fitS_rest s (shTL ss acc) x g1.v g2 h2 k)
     show (_::_)[i+1]? =_
     rw[List.getElem?_cons_succ]
     show (instL ss acc (instS s (shTL ss acc) g2.v k).2.2 _).1[i]? =_
     rw[e]
     exact hrec _
   ·cases hg
  ·cases hg
theorem rowsOb_some:∀{rs:List Row}{k x:Nat}{v:Option Ob},lookK (rowsOb k rs) x=some v->∃(j:Nat)(r:Row),x=k+j/\rs[j]? =some r/\v=some (rowOb r)
 |[],k,x,v,h=>by simp[rowsOb,lookK] at h
 |r::rs,k,x,v,h=>by
  rw[rowsOb,lookK_cons] at h
  split at h
  ·rename_i e
   injection h with h
   exact⟨0,r,e.symm,rfl,h.symm⟩
  ·obtain⟨j,q,h1,h2,h3⟩:=rowsOb_some h
   exact⟨j+1,q,by omega,h2,h3⟩
mutual
theorem instS_noC:∀(s:Sh)(acc:List Ty)(v:dens (shT s acc))(k:Nat){q:Nat}{wt g:Bool}{y:SV},(instS s acc v k).1≠.cnd q wt g y
 | .dat t,acc,v,k,_,_,_,_=>λe=>by cases e
 | .own e t,acc,v,k,_,_,_,_=>λe=>by cases e
 | .bx id off,acc,v,k,_,_,_,_=>λe=>by cases e
 | .rf id,acc,v,k,_,_,_,_=>λe=>by cases e
 | .tp,acc,v,k,_,_,_,_=>λe=>by cases e
 | .un,acc,v,k,_,_,_,_=>λe=>by cases e
 | .agg cs,acc,v,k,_,_,_,_=>λe=>by
  have e:mkAgg (instL cs acc v k).1= .cnd _ _ _ _:=e
  unfold mkAgg at e
  split at e<;>cases e
 | .tup cs,acc,v,k,_,_,_,_=>λe=>by cases e
theorem instL_noC:∀(ss:List Sh)(acc:List Ty)(v:dens (shTL ss acc))(k i:Nat){q:Nat}{wt g:Bool}{y:SV},(instL ss acc v k).1[i]?≠some (.cnd q wt g y)
 |[],acc,v,k,i,_,_,_,_=>λe=>by simp[instL] at e
 |s::ss,acc,v,k,i,_,_,_,_=>λe=>by
  cases i with
  |zero=>exact instS_noC s (shTL ss acc) v k (by simpa [instL] using e)
  |succ i=>exact instL_noC ss acc _ _ i (by simpa [instL] using e)
end
theorem instL_tup:∀(ss:List Sh)(acc:List Ty)(v:dens (shTL ss acc))(k i:Nat){cs:List Sh}{y:SV},ss[i]? =some (.tup cs)->(instL ss acc v k).1[i]? =some y->∃ys,y= .tup ys
 |[],acc,v,k,i,_,_,h,_=>by simp at h
 |s::ss,acc,v,k,i,_,_,h,e=>by
  cases i with
  |zero=>
   simp at h
   subst h
   exact⟨_,(by simpa [instL,instS] using e.symm)⟩
  |succ i=>exact instL_tup ss acc _ _ i (by simpa using h) (by simpa [instL] using e)
theorem all_has {l:List Nat}{p:Nat->Bool}(h:l.all p=true){x:Nat}(hx:x∈l):p x=true:=List.all_eq_true.1 h x hx
theorem has_mem {l:List Nat}{x:Nat}(h:x∈l):has l x=true:=by
 induction l with
 |nil=>cases h
 |cons y r ih=>
  rcases List.mem_cons.1 h with e|e
  ·exact has_cons.2 (.inl e.symm)
  ·exact has_cons.2 (.inr (ih e))
theorem ownOK_spec {n:Nat}{ko fz:List Nat}:∀{own:List (Option Nat)},ownOK n ko fz own=true->(∀(j id:Nat),own[j]? =some (some id)->oldOK n ko id=true/\has fz id=false)/\∀(i j id:Nat),i≠j->own[i]? =some (some id)->own[j]?≠some (some id)
 |[],_=>⟨λj id h=>by simp at h,λi j id _ h=>by simp at h⟩
 |none::r,h=>by
  obtain⟨h1,h2⟩:=ownOK_spec (own:=r) h
  refine⟨λj id hj=> ?_,λi j id hne hi hj=> ?_⟩
  ·cases j with
   |zero=>simp at hj
   |succ j=>exact h1 j id (by simpa using hj)
  ·cases i with
   |zero=>simp at hi
   |succ i=>
    cases j with
    |zero=>simp at hj
    |succ j=>exact h2 i j id (by omega) (by simpa using hi) (by simpa using hj)
 |some id0::r,h=>by
  unfold ownOK at h
  simp only[Bool.and_eq_true,Bool.not_eq_true'] at h
  obtain⟨⟨⟨a1,a2⟩,a3⟩,a4⟩:=h
  obtain⟨h1,h2⟩:=ownOK_spec (own:=r) a4
  have hn:∀j id,r[j]? =some (some id)->id0≠id:=λj id hj e=>by
   have:=List.all_eq_true.1 a3 (some id) (List.mem_of_getElem? hj)
   rw[e] at this
   simp at this
  refine⟨λj id hj=> ?_,λi j id hne hi hj=> ?_⟩
  ·cases j with
   |zero=>simp at hj;subst hj;exact⟨a1,a2⟩
   |succ j=>exact h1 j id (by simpa using hj)
  ·cases i with
   |zero=>
    simp at hi
    subst hi
    cases j with
    |zero=>exact hne rfl
    |succ j=>exact hn j id0 (by simpa using hj) rfl
   |succ i=>
    cases j with
    |zero=>simp at hj;subst hj;exact hn i id0 (by simpa using hi) rfl
    |succ j=>exact h2 i j id (by omega) (by simpa using hi) (by simpa using hj)
theorem Shape.fit0_ok {s:Shape}{base st:St}{v:dens s.tys}(hf:s.fit0 base st=some v){a0 a:Act}{w0 w:World}{c0 c:Cx}(hb:RX base a0 w0 c0)(hs:Step base a0 w0 c0 st a w c):∃c',Step base a0 w0 c0 (s.inst base v) a w c':=by
 unfold Shape.fit0 at hf
 split at hf
 rotate_left
 ·cases hf
 rename_i g hg
 generalize hck:((newsS base st).all (λp=>memK s.sl p.1||has s.kl p.1)&&(news base.ms st.ms).all (λp=>Nat.ble base.ms.nx p.1||memK s.bx p.1||has s.ko p.1||memK s.rw p.1)&&g.fz.all (oldOK base.ms.nx s.ko)&&ownOK base.ms.nx s.ko g.fz g.own&&s.bx.all (λb=>Nat.blt b.1 base.ms.nx&&isBox st.ms.mem b.1)&&s.rw.all (λr=>Nat.blt r.1 base.ms.nx&& !(has s.ko r.1)&&isRow2 (base.ms.obs r.1) (st.ms.obs r.1) r.2.1 r.2.2)&&base.gs.isEmpty&&(st.ms.tp==base.ms.tp))=ck at hf
 cases ck with
 |false=>cases hf
 |true=>
  injection hf with hf
  subst hf
  simp only[Bool.and_eq_true] at hck
  obtain⟨⟨⟨⟨⟨⟨⟨k1,k2⟩,k3⟩,k4⟩,k5⟩,k8⟩,k6⟩,k7⟩:=hck
  have k7:st.ms.tp=base.ms.tp:=by simpa using k7
  have k6:base.gs=[]:=by simpa using k6
  obtain⟨ow1,ow2⟩:=ownOK_spec k4
  obtain⟨fr1,⟨lS,hlS⟩,⟨lO,hlO⟩,htp⟩:=hs.fr
  have hnS:newsS base st=lS:=by
   unfold newsS
   rw[hlS,List.length_append,show lS.length+base.sl.length-base.sl.length=lS.length by omega,List.take_left]
  have hnO:news base.ms st.ms=lO:=by
   unfold news
   rw[hlO,List.length_append,show lO.length+base.ms.ob.length-base.ms.ob.length=lO.length by omega,List.take_left]
  rw[hnS] at k1
  rw[hnO] at k2
  obtain⟨c1,ox1,t1,hH1,hT1⟩:=hs.rx.ox.freezes g.fz
  have F:Fz st.ms.mem c c1 w g.fz:=⟨hs.rx.ox,ox1,t1,hH1⟩
  obtain⟨_,q2,q3,q4,q5⟩:=fitL_ok F (k0:=base.ms.nx) (own0:=g.own) s.all [] _ () g hg (λ_ h=>h) base.ms.nx (Nat.le_refl _) (λj o h=>by rw[Nat.sub_self,Nat.zero_add];exact h)
  generalize hI:instL s.all [] g.v base.ms.nx=I at q2 q3 q4 q5
  obtain⟨ys,rs,rest⟩:=I
  simp only at q2 q3 q4 q5
  have hrl:rs.length=g.own.length:=q2.1
  have hnxm:base.ms.nx<=st.ms.nx:=by
   rcases Nat.lt_or_ge st.ms.nx base.ms.nx with hlt|hge
   ·have:=hs.tr.uU st.ms.nx (show st.ms.nx<base.ms.nx from hlt)
    exact absurd (show st.ms.nx<st.ms.nx from this) (Nat.lt_irrefl _)
   ·exact hge
  let nx:=base.ms.nx
  let c2:=reCx c1 nx g.own
  have hH2:∀i,i<nx->c2.H i=c1.H i/\c2.F i=c1.F i:=λi hi=>⟨if_pos hi,if_pos hi⟩
  have hN2:∀j o,g.own[j]? =some o->c2.H (nx+j)=ownH c1.H o/\c2.F (nx+j)=ownF c1.F o:=λj o ho=>by
   have e:nx+j-nx=j:=by omega
   refine⟨?_,?_⟩
   ·show (if nx+j<nx then _ else _)=_
    rw[if_neg (by omega),e,ho];rfl
   ·show (if nx+j<nx then _ else _)=_
    rw[if_neg (by omega),e,ho];rfl
  have T1:Tr base.ms.obs base.ms.U w0 c0 (ovr st.ms.mem.ob (fzU st.ms.mem.ob g.fz)) st.ms.mem.U w c1:=hs.tr.trans t1
  have old:∀{x:SV}{u:Value},x.inU base.ms.U->SRel c w x u->SRel c2 w x u:=λhu hr=>by
   have h1:=t1.srel hs.rx.ox hr (SV.inU_mono hs.tr.uU _ hu)
   exact SRel.mono (c:=c1) (c':=c2) (U:=base.ms.U) (λ_ _ h=>h) (λ_ _ _=>rfl) (λ_ h=>h) (λi hi=>(hH2 i hi).1) h1 hu
  have hlo:∀id,lookO st.ms.ob id=(lookK lO id).getD (lookO base.ms.ob id):=λid=>by rw[hlO];exact lookO_app' _ _ _
  have hob:∀id x,(s.inst base g.v).ms.obs id=some x->
   (∃i p y cs,s.bx[i]? =some p/\p.1=id/\ys[s.sl.length+i]? =some y/\x= .box (tupL y)/\st.ms.obs id=some (.box cs)/\∀u,SRel c w (.tup cs) u->SRel c2 w y u)\/
   (∃j r o,id=nx+j/\rs[j]? =some r/\g.own[j]? =some o/\x=rowOb r)\/
   (id<nx/\x.inU base.ms.U/\st.ms.obs id=some x/\has s.ko id=false):=by
   intro id x hx
   have hx:lookO (zipB s.bx ((instL s.all [] g.v base.ms.nx).1.drop s.sl.length)++(zipR base.ms.obs s.rw ((instL s.all [] g.v base.ms.nx).1.drop (s.sl.length+s.bx.length))++(rowsOb base.ms.nx (instL s.all [] g.v base.ms.nx).2.1++(s.ko.map (λx=>(x,none))++base.ms.ob)))) id=some x:=hx
   rw[hI] at hx
   simp only at hx
   rw[lookO_app'] at hx
   cases hz:lookK (zipB s.bx (ys.drop s.sl.length)) id with
   |some v=>
    rw[hz] at hx
    obtain⟨i,p,y,h1,h2,h3,h4⟩:=zipB_some hz
    rw[List.getElem?_drop] at h3
    have hx:v=some x:=hx
    rw[h4] at hx
    injection hx with hx
    have hxs:(s.sl.map (λp=>look st.sl p.1)++(s.bx.map (λb=>boxOf st.ms.mem b.1)++s.rw.map (λr=>rowW st.ms.mem r.1)))[s.sl.length+i]? =some (boxOf st.ms.mem p.1):=by
     rw[List.getElem?_append_right (by simp),List.length_map,show s.sl.length+i-s.sl.length=i by omega,List.getElem?_append_left (by simpa using (List.getElem?_eq_some_iff.1 h1).1),List.getElem?_map,h1];rfl
    have hrel:=λu=> @q5 _ _ _ hxs h3 u
    have hbx:∃cs,st.ms.obs id=some (.box cs):=by
     have:=(Bool.and_eq_true_iff.1 (List.all_eq_true.1 k5 p (List.mem_of_getElem? h1))).2
     rw[h2] at this
     have this:(match st.ms.obs id with|some (.box _)=>true|_=>false)=true:=this
     split at this
     ·rename_i cs hcs;exact⟨cs,hcs⟩
     ·cases this
    obtain⟨cs,hcs⟩:=hbx
    refine .inl ⟨i,p,y,cs,h1,h2,h3,hx.symm,hcs,λu hu=>hrel u ?_⟩
    have:boxOf st.ms.mem p.1= .tup cs:=by
     unfold boxOf
     rw[h2]
     show (match st.ms.obs id with|some (.box cs)=>SV.tup cs|_=> .un)=_
     rw[hcs]
    rw[this];exact hu
   |none=>
    rw[hz] at hx
    have hbxk:memK s.bx id=false:=zipB_none (by
     rw[List.length_drop]
     have:ys.length=s.sl.length+(s.bx.length+s.rw.length):=by rw[<-q4];simp
     omega) hz
    have hx:lookO (zipR base.ms.obs s.rw (ys.drop (s.sl.length+s.bx.length))++(rowsOb base.ms.nx rs++(s.ko.map (λx=>(x,none))++base.ms.ob))) id=some x:=hx
    rw[lookO_app'] at hx
    cases hzr:lookK (zipR base.ms.obs s.rw (ys.drop (s.sl.length+s.bx.length))) id with
    |some v=>
     rw[hzr] at hx
     obtain⟨i,p,y,h1,h2,h3,h4⟩:=zipR_some hzr
     rw[List.getElem?_drop] at h3
     have hx:v=some x:=hx
     rw[h4] at hx
     injection hx with hx
     have hck:=List.all_eq_true.1 k8 p (List.mem_of_getElem? h1)
     simp only[Bool.and_eq_true,Bool.not_eq_true'] at hck
     obtain⟨⟨c1',c2'⟩,c3'⟩:=hck
     obtain⟨id0,e0,t0⟩:=p
     simp only at h2 c1' c2' c3' hx h4
     subst h2
     obtain⟨l,hrow,hkind,hdat⟩:=isRow2_spec c3'
     have hxs:(s.sl.map (λp=>look st.sl p.1)++(s.bx.map (λb=>boxOf st.ms.mem b.1)++s.rw.map (λr=>rowW st.ms.mem r.1)))[s.sl.length+s.bx.length+i]? =some (.d (.sl t0 l)):=by
      rw[List.getElem?_append_right (by simp;omega),List.length_map,List.getElem?_append_right (by simp;omega),List.length_map,show s.sl.length+s.bx.length+i-s.sl.length-s.bx.length=i by omega,List.getElem?_map,h1]
      exact congrArg some hdat
     have hss:s.all[s.sl.length+s.bx.length+i]? =some (.dat (.sl t0)):=by
      unfold Shape.all
      rw[List.getElem?_append_right (by simp;omega),List.length_map,List.getElem?_append_right (by simp;omega),List.length_map,show s.sl.length+s.bx.length+i-s.sl.length-s.bx.length=i by omega,List.getElem?_map,h1];rfl
     have hy:=fitL_dat s.all [] _ () g hg _ base.ms.nx t0 l hss hxs
     rw[hI] at hy
     have hy:ys[s.sl.length+s.bx.length+i]? =some (.d (.sl t0 l)):=hy
     rw[hy] at h3
     injection h3 with h3
     subst h3
     have hlo2:listOf t0 (.d (.sl t0 l))=l:=by
      show (castL t0 t0 l).getD []=l
      rw[castL_same];rfl
     rw[hlo2] at hx
     subst hx
     refine .inr (.inr ⟨Nat.le_of_ble_eq_true c1',?_,hrow,c2'⟩)
     rcases hkind with⟨l',e9⟩|⟨_,_,_,_,l',e9⟩
     ·rw[hrow] at e9;injection e9 with e9;rw[e9];trivial
     ·rw[hrow] at e9;injection e9 with e9;rw[e9];trivial
    |none=>
    rw[hzr] at hx
    have hrwk:memK s.rw id=false:=zipR_none (by
     rw[List.length_drop]
     have:ys.length=s.sl.length+(s.bx.length+s.rw.length):=by rw[<-q4];simp
     omega) hzr
    have hx:lookO (rowsOb base.ms.nx rs++(s.ko.map (λx=>(x,none))++base.ms.ob)) id=some x:=hx
    rw[lookO_app'] at hx
    cases hr:lookK (rowsOb base.ms.nx rs) id with
    |some v=>
     rw[hr] at hx
     obtain⟨j,r,h1,h2,h3⟩:=rowsOb_some hr
     have hx:v=some x:=hx
     rw[h3] at hx
     injection hx with hx
     have hj:j<g.own.length:=by rw[<-hrl];exact (List.getElem?_eq_some_iff.1 h2).1
     exact .inr (.inl ⟨j,r,g.own[j],h1,h2,List.getElem?_eq_getElem hj,hx.symm⟩)
    |none=>
     rw[hr] at hx
     have hx:lookO (s.ko.map (λx=>(x,none))++base.ms.ob) id=some x:=hx
     rw[lookO_app',lookK_un (λ_=>(none:Option Ob))] at hx
     cases hk:has s.ko id with
     |true=>rw[hk] at hx;cases hx
     |false=>
      rw[hk] at hx
      have hx:lookO base.ms.ob id=some x:=hx
      have hlt:id<nx:=(hb.ox.objs id x hx).1
      refine .inr (.inr ⟨hlt,(hb.ox.objs id x hx).2.1,?_,rfl⟩)
      show lookO st.ms.ob id=some x
      rw[hlo id]
      cases hn:lookK lO id with
      |none=>exact hx
      |some v=>
       have:=List.all_eq_true.1 k2 (id,v) (lookK_mem hn)
       simp only[Bool.or_eq_true] at this
       rcases this with ((e|e)|e)|e
       ·have e:=Nat.le_of_ble_eq_true e
        have hlt:id<base.ms.nx:=hlt
        omega
       ·rw[hbxk] at e;cases e
       ·rw[hk] at e;cases e
       ·rw[hrwk] at e;cases e
  have hnotfz:∀id,id<nx->has s.ko id=false->id ∉ g.fz:=λid hlt hk hm=>by
   have:=all_has k3 hm
   unfold oldOK at this
   rw[hk,Bool.or_false] at this
   have:=Nat.le_of_ble_eq_true this
   omega
  have ob1:∀id x,st.ms.obs id=some x->id ∉ g.fz->ovr st.ms.mem.ob (fzU st.ms.mem.ob g.fz) id=some x:=λid x hx hn=>by
   rcases fzU_at st.ms.mem.ob g.fz id with⟨e,_⟩|⟨_,_,_,_,_,e⟩|⟨_,_,_,_,_,_,_,_,e⟩
   ·exact e.trans hx
   ·exact absurd e hn
   ·exact absurd e hn
  have obx:∀id cs,st.ms.obs id=some (.box cs)->ovr st.ms.mem.ob (fzU st.ms.mem.ob g.fz) id=some (.box cs):=λid cs hx=>by
   rcases fzU_at st.ms.mem.ob g.fz id with⟨e,_⟩|⟨e1,e2,e3,e4,_⟩|⟨e1,e2,e3,e5,e6,e7,e4,_⟩
   ·exact e.trans hx
   ·have:st.ms.obs id=_:=e4
    rw[hx] at this;cases this
   ·have:st.ms.obs id=_:=e4
    rw[hx] at this;cases this
  have bxlt:∀(i:Nat)(p:Nat×List Sh),s.bx[i]? =some p->p.1<nx:=λi p hp=>by
   have:=(Bool.and_eq_true_iff.1 (List.all_eq_true.1 k5 p (List.mem_of_getElem? hp))).1
   exact Nat.le_of_ble_eq_true this
  have tupy:∀(i:Nat)(p:Nat×List Sh)(y:SV),s.bx[i]? =some p->ys[s.sl.length+i]? =some y->∃zs,y= .tup zs:=λi p y hp hy=>by
   have e:s.all[s.sl.length+i]? =some (.tup p.2):=by
    unfold Shape.all
    rw[List.getElem?_append_right (by simp),List.length_map,show s.sl.length+i-s.sl.length=i by omega,List.getElem?_append_left (by simpa using (List.getElem?_eq_some_iff.1 hp).1),List.getElem?_map,hp];rfl
   exact instL_tup s.all [] g.v base.ms.nx _ e (by rw[hI];exact hy)
  have src:∀id x,(s.inst base g.v).ms.obs id=some x->x.own=true->(∀b,c2.F id b->∃id' x',ovr st.ms.mem.ob (fzU st.ms.mem.ob g.fz) id'=some x'/\x'.own=true/\c1.F id' b/\((id'=id/\id<nx/\(has s.ko id=false\/∃cs,st.ms.obs id=some (.box cs)))\/∃j,id=nx+j/\g.own[j]? =some (some id'))):=by
   intro id x hx hox b hb2
   rcases hob id x hx with⟨i,p,y,cs,h1,h2,h3,h4,h5,h6⟩|⟨j,r,o,h1,h2,h3,h4⟩|⟨h1,h2,h3,h4⟩
   ·have hlt:id<nx:=h2 ▸ bxlt i p h1
    rw[(hH2 id hlt).2] at hb2
    exact⟨id,_,obx id cs h5,rfl,hb2,.inl ⟨rfl,hlt,.inr ⟨cs,h5⟩⟩⟩
   ·subst h1
    rw[(hN2 j o h3).2] at hb2
    cases o with
    |none=>exact hb2.elim
    |some id'=>
     have hrow:=q2.2 j (some id') r h3 h2
     have hnf:id' ∉ g.fz:=λhm=>by have:=(ow1 j id' h3).2;rw[has_mem hm] at this;cases this
     exact⟨id',_,ob1 id' _ hrow hnf,rowOb_own r,hb2,.inr ⟨j,rfl,h3⟩⟩
   ·rw[(hH2 id h1).2] at hb2
    exact⟨id,x,ob1 id x h3 (hnotfz id h1 h4),hox,hb2,.inl ⟨rfl,h1,.inl h4⟩⟩
  have hU2:∀{x:SV},x.inU (λi=>i<base.ms.nx\/base.ms.nx<=i/\i<base.ms.nx+g.own.length)->x.inU (s.inst base g.v).ms.U:=λ{x} hx=>by
   refine SV.inU_mono (λi hi=> ?_) x hx
   show i<base.ms.nx+(instL s.all [] g.v base.ms.nx).2.1.length
   rw[hI]
   show i<base.ms.nx+rs.length
   omega
  have hnxi:(s.inst base g.v).ms.nx=base.ms.nx+rs.length:=by
   show base.ms.nx+(instL s.all [] g.v base.ms.nx).2.1.length=_
   rw[hI]
  have hUb:∀i,base.ms.U i->(s.inst base g.v).ms.U i:=λi hi=>by
   show i<(s.inst base g.v).ms.nx
   rw[hnxi]
   have hi:i<base.ms.nx:=hi
   omega
  have oxI:OXM (s.inst base g.v).ms w c2:=by
   refine⟨ox1.sb,λid x hx=> ?_,λid x hx hox b hb2=> ?_,λi j x y hx ox hy oy hne b hb2 hb3=> ?_,ox1.nT,λe=>ox1.tpe (htp e),λe=>ox1.tF (k7.trans e)⟩
   ·rcases hob id x hx with⟨i,p,y,cs,h1,h2,h3,h4,h5,h6⟩|⟨j,r,o,h1,h2,h3,h4⟩|⟨h1,h2,h3,h4⟩
    ·have hlt:id<nx:=h2 ▸ bxlt i p h1
     obtain⟨zs,hzs⟩:=tupy i p y h1 h3
     subst hzs h4
     have hyU:=inUL_get q3 h3
     refine⟨hUb id hlt,?_,?_⟩
     ·exact hU2 (x:= .tup zs) hyU
     ·obtain⟨b,arr,t,e1,e2,e3,e4,e5,e6⟩:=(hs.rx.ox.objs id _ h5).2.2
      have hrel:=h6 (.tuple arr.toArray) (.tup cs arr e4 e6)
      cases hrel with
      |tup _ us hl hu=>
       refine⟨b,arr,t,(hH2 id hlt).1.trans (by rw[hH1];exact e1),λx=> ?_,e3,hl,e5,hu⟩
       rw[(hH2 id hlt).2,(t1.hH id ((hs.rx.ox.objs id _ h5).1)).2];exact e2 x
    ·subst h1 h4
     refine⟨?_,rowOb_inU r _,?_⟩
     ·show nx+j<(s.inst base g.v).ms.nx
      rw[hnxi]
      have:=(List.getElem?_eq_some_iff.1 h2).1
      show base.ms.nx+j<_
      omega
     ·rw[obAt_rowOb,(hN2 j o h3).1,(hN2 j o h3).2]
      have hrow:=q2.2 j o r h3 h2
      cases o with
      |none=>
       obtain⟨e1,e2⟩:=hrow
       exact RwAt.nil e1 e2
      |some id'=>
       have hnf:id' ∉ g.fz:=λhm=>by have:=(ow1 j id' h3).2;rw[has_mem hm] at this;cases this
       have hq:=(ox1.objs id' _ (ob1 id' _ hrow hnf)).2.2
       rw[obAt_rowOb] at hq
       exact hq
    ·have u1:base.ms.U id:=h1
     have u2:=h2
     have h3':=(ox1.objs id x (ob1 id x h3 (hnotfz id h1 h4))).2.2
     exact⟨hUb id u1,Ob.inU_mono hUb u2,h3'.keep (U:=base.ms.U) u2 (λ_ _ h=>h) (λ_ _ _=>rfl) (λ_ h=>h) (λi hi=>(hH2 i hi).1) (hH2 id h1) (λ_ _ _=>rfl)⟩
   ·obtain⟨id',x',e1,e2,e3,_⟩:=src id x hx hox b hb2
    exact ox1.fb id' x' e1 e2 b e3
   ·obtain⟨i',x',e1,e2,e3,e4⟩:=src i x hx ox b hb2
    obtain⟨j',y',d1,d2,d3,d4⟩:=src j y hy oy b hb3
    have hij:i'≠j':=λe=>by
     subst e
     rcases e4 with⟨a1,a2,a3⟩|⟨q,a1,a2⟩
     ·rcases d4 with⟨b1,b2,b3⟩|⟨q',b1,b2⟩
      ·exact hne (a1.symm.trans b1)
      ·subst a1
       have hrow:∃r:Row,st.ms.obs i'=some (rowOb r):=by
        have hql:q'<rs.length:=by rw[hrl];exact (List.getElem?_eq_some_iff.1 b2).1
        exact⟨rs[q'],q2.2 q' (some i') rs[q'] b2 (List.getElem?_eq_getElem hql)⟩
       obtain⟨r,hrow⟩:=hrow
       rcases a3 with a3|⟨cs,a3⟩
       ·have:=(ow1 q' i' b2).1
        unfold oldOK at this
        rw[a3,Bool.or_false] at this
        have:=Nat.le_of_ble_eq_true this
        omega
       ·rw[a3] at hrow;rcases rowOb_cases r with hq|hq<;>rw[hq] at hrow<;>cases hrow
     ·rcases d4 with⟨b1,b2,b3⟩|⟨q',b1,b2⟩
      ·subst b1
       have hrow:∃r:Row,st.ms.obs i'=some (rowOb r):=by
        have hql:q<rs.length:=by rw[hrl];exact (List.getElem?_eq_some_iff.1 a2).1
        exact⟨rs[q],q2.2 q (some i') rs[q] a2 (List.getElem?_eq_getElem hql)⟩
       obtain⟨r,hrow⟩:=hrow
       rcases b3 with b3|⟨cs,b3⟩
       ·have:=(ow1 q i' a2).1
        unfold oldOK at this
        rw[b3,Bool.or_false] at this
        have:=Nat.le_of_ble_eq_true this
        omega
       ·rw[b3] at hrow;rcases rowOb_cases r with hq|hq<;>rw[hq] at hrow<;>cases hrow
      ·by_cases hqq:q=q'
       ·subst hqq;exact hne (a1.trans b1.symm)
       ·exact ow2 q q' i' hqq a2 b2
    exact ox1.dj i' j' x' y' e1 e2 d1 d2 hij b e3 d3
  refine⟨c2,⟨oxI,hs.rx.sz.trans fr1,λx u hx=> ?_,λx=> ?_,λx q wt gg y hx=> ?_⟩,?_,hs.df,rfl,⟨_,(List.append_assoc _ _ _).symm⟩,⟨_,by
   show _++(_++(_++(_++base.ms.ob)))=_
   rw[<-List.append_assoc,<-List.append_assoc,<-List.append_assoc]⟩,id⟩
  ·have hu:=hs.rx.sl x u hx
   have hlk:look (s.inst base g.v).sl x=(lookK (zipS s.sl ys) x).getD ((lookK (s.kl.map λx=>(x,SV.un)) x).getD (look base.sl x)):=by
    show look (zipS s.sl (instL s.all [] g.v base.ms.nx).1++(s.kl.map (λx=>(x,SV.un))++base.sl)) x=_
    rw[hI,look_app,look_app]
   rw[hlk]
   cases hz:lookK (zipS s.sl ys) x with
   |some v=>
    obtain⟨i,p,h1,h2,h3⟩:=zipS_some hz
    have hxs:(s.sl.map (λp=>look st.sl p.1)++(s.bx.map (λb=>boxOf st.ms.mem b.1)++s.rw.map (λr=>rowW st.ms.mem r.1)))[i]? =some (look st.sl p.1):=by
     rw[List.getElem?_append_left (by simpa using (List.getElem?_eq_some_iff.1 h1).1),List.getElem?_map,h1];rfl
    rw[h2] at hxs
    exact q5 i _ v hxs h3 hu
   |none=>
    have hsl:memK s.sl x=false:=zipS_none (by
     have:ys.length=s.sl.length+(s.bx.length+s.rw.length):=by rw[<-q4];simp
     omega) hz
    show SRel c2 w ((lookK (s.kl.map λx=>(x,SV.un)) x).getD (look base.sl x)) u
    rw[lookK_un (λ_=>SV.un)]
    cases hk:has s.kl x with
    |true=>exact .un _
    |false=>
     show SRel c2 w (look base.sl x) u
     refine old (hb.us x) ?_
     rw[hlS,look_app] at hu
     cases hn:lookK lS x with
     |none=>rw[hn] at hu;exact hu
     |some v=>
      have:=List.all_eq_true.1 k1 (x,v) (lookK_mem hn)
      simp only[Bool.or_eq_true] at this
      rcases this with e|e
      ·rw[hsl] at e;cases e
      ·rw[hk] at e;cases e
  ·have hlk:look (s.inst base g.v).sl x=(lookK (zipS s.sl ys) x).getD ((lookK (s.kl.map λx=>(x,SV.un)) x).getD (look base.sl x)):=by
    show look (zipS s.sl (instL s.all [] g.v base.ms.nx).1++(s.kl.map (λx=>(x,SV.un))++base.sl)) x=_
    rw[hI,look_app,look_app]
   rw[hlk]
   cases hz:lookK (zipS s.sl ys) x with
   |some v=>
    obtain⟨i,p,h1,h2,h3⟩:=zipS_some hz
    exact hU2 (inUL_get q3 h3)
   |none=>
    show ((lookK (s.kl.map λx=>(x,SV.un)) x).getD (look base.sl x)).inU _
    rw[lookK_un (λ_=>SV.un)]
    cases hk:has s.kl x with
    |true=>trivial
    |false=>exact SV.inU_mono hUb _ (hb.us x)
  ·have hlk:look (s.inst base g.v).sl x=(lookK (zipS s.sl ys) x).getD ((lookK (s.kl.map λx=>(x,SV.un)) x).getD (look base.sl x)):=by
    show look (zipS s.sl (instL s.all [] g.v base.ms.nx).1++(s.kl.map (λx=>(x,SV.un))++base.sl)) x=_
    rw[hI,look_app,look_app]
   rw[hlk] at hx
   cases hz:lookK (zipS s.sl ys) x with
   |some v=>
    rw[hz] at hx
    obtain⟨i,p,h1,h2,h3⟩:=zipS_some hz
    have hx:v= .cnd q wt gg y:=hx
    rw[hx] at h3
    exact absurd (by rw[hI];exact h3) (instL_noC s.all [] g.v base.ms.nx i)
   |none=>
    rw[hz] at hx
    have hx:(lookK (s.kl.map λx=>(x,SV.un)) x).getD (look base.sl x)= .cnd q wt gg y:=hx
    rw[lookK_un (λ_=>SV.un)] at hx
    cases hk:has s.kl x with
    |true=>rw[hk] at hx;cases hx
    |false=>
     rw[hk] at hx
     have:=(hb.cn x q wt gg y hx).1
     rw[k6] at this;cases this
  ·refine⟨T1.os,T1.tape,T1.output,T1.sz,T1.tK,T1.tN,hUb,λi hi=> ?_,T1.sS,T1.sN,T1.blk,λb hb2=> ?_⟩
   ·have hi:i<nx:=hi
    exact⟨(hH2 i hi).1.trans (T1.hH i hi).1,(hH2 i hi).2.trans (T1.hH i hi).2⟩
   ·obtain⟨id,x,hx,hox,hb3⟩:=hb2
    obtain⟨id',x',e1,e2,e3,_⟩:=src id x hx hox b hb3
    exact T1.fp b ⟨id',x',e1,e2,e3⟩
def rowSt (st:St)(x id:Nat)(r:Ob):St:=⟨(x,.os st.ms.nx)::st.sl,⟨(st.ms.nx,some r)::(id,none)::st.ms.ob,st.ms.nx+1,st.ms.tp⟩,st.n,st.gs,st.gd⟩
theorem step_row {base st:St}{a0 a:Act}{w0 w:World}{c0 c:Cx}(hs:Step base a0 w0 c0 st a w c){x id:Nat}{h:Value}(hx:∀u,SRel c w (look st.sl x) u->u=h){X:Ob}(hid:st.ms.obs id=some X)(hown:X.own=true){S':Cells}{F':Nat->Prop}{e:TypeId}{t:Ty}{l:List (den t)}(h1:∀b o,c.S b o->S' b o)(h2:∀b o,S' b o->c.S b o\/c.F id b)(h3:∀b,F' b->c.F id b/\∀o,¬S' b o)(hrow:RowAt w S' h F' e t l):∃c',Step base a0 w0 c0 (rowSt st x id (.row e t l)) a w c':=by
 obtain⟨k,hk⟩:∃k,st.ms.nx=k:=⟨_,rfl⟩
 have eob:(rowSt st x id (.row e t l)).ms.obs=put (put st.ms.obs id none) k (some (.row e t l)):=by
  show lookO ((st.ms.nx,some (.row e t l))::(id,none)::st.ms.ob)=_
  rw[lookO_cons,lookO_cons,hk];rfl
 have hne:∀i,st.ms.U i->i≠k:=λi hi e=>by
  have hi:i<st.ms.nx:=hi
  omega
 have hfb:=hs.rx.ox.fb id X hid hown
 obtain⟨r1,r2⟩:=hs.rx.ox.upd (ob':=put (put st.ms.obs id none) k (some (.row e t l))) (U':=(rowSt st x id (.row e t l)).ms.U) (w':=w) (c':=⟨S',put c.H k h,put c.F k F',c.T⟩) k (.row e t l) (λi=>i≠id/\i≠k)
  (λi hi=>Nat.lt_succ_of_lt hi) (by show k<st.ms.nx+1;omega) (put_same _ _ _) (λi y hi e=>by
   rw[put_ne _ _ e] at hi
   by_cases e2:i=id
   ·subst e2;rw[put_same] at hi;cases hi
   ·rw[put_ne _ _ e2] at hi;exact⟨⟨e2,e⟩,hi⟩) (λh=>h.2 rfl) (λi hi=>⟨put_ne _ _ (hne i hi),put_ne _ _ (hne i hi)⟩) h1
  (λb o hb=>(h2 b o hb).imp (λh=>h) λh=> .inl ⟨id,X,hid,hown,λq=>q.1 rfl,h⟩)
  (λb o hb=>(h2 b o hb).elim (hs.rx.ox.sb b o) λh=>(hfb b h).1) rfl rfl rfl rfl (Nat.le_refl _) (λ_ _ _=>rfl)
  (by
   show RowAt w S' (put c.H k h k) (put c.F k F' k) e t l
   rw[put_same,put_same];exact hrow) trivial
  (λ_ b hb=>by
   have hb:put c.F k F' k b:=hb
   rw[put_same] at hb
   exact .inl ⟨id,X,hid,hown,λq=>q.1 rfl,(h3 b hb).1⟩)
  (λ_ b hb=>by
   have hb:put c.F k F' k b:=hb
   rw[put_same] at hb
   exact⟨(hfb b (h3 b hb).1).1,(h3 b hb).2⟩)
 have hox:OXM (rowSt st x id (.row e t l)).ms w ⟨S',put c.H k h,put c.F k F',c.T⟩:=by
  show OX _ _ _ _ _
  rw[eob];exact r1
 have htr:TrM st.ms w c (rowSt st x id (.row e t l)).ms w ⟨S',put c.H k h,put c.F k F',c.T⟩:=by
  show Tr _ _ _ _ _ _ _ _
  rw[eob];exact r2
 refine⟨⟨S',put c.H k h,put c.F k F',c.T⟩,⟨hox,hs.rx.sz,λy u hy=> ?_,λy=> ?_,λy q wt g z hy=> ?_⟩,hs.tr.trans htr,hs.df,hs.fr.trans ⟨rfl,⟨[_],rfl⟩,⟨[_,_],rfl⟩,λh=>h⟩⟩
 ·show SRel _ w (look ((x,.os st.ms.nx)::st.sl) y) u
  rw[look_cons]
  split
  ·rename_i e
   subst e
   rw[hx u (hs.rx.sl x u hy),hk]
   have:=SRel.os (c:=⟨S',put c.H k h,put c.F k F',c.T⟩) (w:=w) k
   have e:(Cx.mk S' (put c.H k h) (put c.F k F') c.T).H k=h:=put_same _ _ _
   rw[e] at this
   exact this
  ·exact htr.srel hs.rx.ox (hs.rx.sl y u hy) (hs.rx.us y)
 ·show (look ((x,.os st.ms.nx)::st.sl) y).inU _
  rw[look_cons]
  split
  ·show st.ms.nx<st.ms.nx+1;omega
  ·exact SV.inU_mono (λi hi=>Nat.lt_succ_of_lt hi) _ (hs.rx.us y)
 ·have hy:look ((x,.os st.ms.nx)::st.sl) y= .cnd q wt g z:=hy
  rw[look_cons] at hy
  split at hy
  ·cases hy
  ·obtain⟨g1,g2,g3⟩:=hs.rx.cn y q wt g z hy
   refine⟨g1,g2,λG hG=> ?_⟩
   have hG:guardG wt (look ((x,.os st.ms.nx)::st.sl) q)=some G:=hG
   rw[look_cons] at hG
   split at hG
   ·cases hG
   ·exact g3 G hG
theorem DpAt.row {w:World}{S:Cells}{v:Value}{F:Nat->Prop}{e:TypeId}{t:Ty}{l:List (den t)}(h:DpAt w S v F e t l)(hS:∀b,F b->∀o,¬S b o):∃(S':Cells)(F':Nat->Prop),(∀b o,S b o->S' b o)/\(∀b o,S' b o->S b o\/F b)/\(∀b,F' b->F b/\∀o,¬S' b o)/\RowAt w S' v F' e t l:=by
 obtain⟨h0,⟨hl,hv,hF⟩|⟨g,cap,cur,Fi,hv,hF,hg1,hg2,hg,h1,h2,h3,h4⟩⟩:=h
 ·exact⟨S,F,λ_ _ h=>h,λ_ _ h=> .inl h,λb hb=>absurd hb (hF b),h0,.inl ⟨hl,hv,hF⟩⟩
 ·refine⟨λb o=>S b o\/(F b/\b≠g),λb=>b=g,λ_ _ h=> .inl h,λb o h=>h.imp (λh=>h) (·.1),λb hb=>⟨(hF b).2 (.inl hb),λo h=> ?_⟩,h0,.inr ⟨g,cap,cur,hv,λ_=>Iff.rfl,hg,h1,h2,h3,λi x hx j d hd=> ?_⟩⟩
  ·rcases h with h|h
   ·exact hS b ((hF b).2 (.inl hb)) o h
   ·exact h.2 hb
  ·obtain⟨u,u1,u2,u3⟩:=h4 i x hx j d hd
   have hi:i<l.length:=(List.getElem?_eq_some_iff.1 hx).1
   refine⟨u,u1,u2,?_⟩
   unfold CellD at u3
   split at u3
   ·exact Rd.mono (λ_ _ h=> .inl h) (λ_ _ _=>rfl) u3
   ·obtain⟨li,hd',hrow⟩:=u3
    rw[hd']
    exact hrow.rd (λ_ _ h=> .inl h) λb hb o=> .inr ⟨(hF b).2 (.inr ⟨i,j,hi,hb⟩),λe=>hg1 i j hi (e ▸ hb)⟩
theorem NstAt.row {w:World}{S:Cells}{v:Value}{vs:List Value}{F:Nat->Prop}{e:TypeId}{t:Ty}{k:Nat}{e':TypeId}{t':Ty}{l:List (den t)}(h:NstAt w S (.tuple (v::vs).toArray) F e t k e' t' l)(hS:∀b,F b->∀o,¬S b o):∃(S':Cells)(F':Nat->Prop),(∀b o,S b o->S' b o)/\(∀b o,S' b o->S b o\/F b)/\(∀b,F' b->F b/\∀o,¬S' b o)/\RowAt w S' v F' e t l:=by
 obtain⟨h0,hk,v1,vs1,Fi,hH,hvl,⟨hl,hv,hF⟩|⟨g,cap,cur,hv,hF,hg1,hg2,hg,h1,h2,h3,h4⟩⟩:=h
 all_goals
  injection hH with hH
  have hH:v::vs=v1::vs1:=by simpa using congrArg Array.toList hH
  injection hH with e1 e2
  subst e1 e2
 ·exact⟨S,F,λ_ _ h=>h,λ_ _ h=> .inl h,λb hb=>absurd hb (hF b),h0,.inl ⟨hl,hv,hF⟩⟩
 ·refine⟨λb o=>S b o\/(F b/\b≠g),λb=>b=g,λ_ _ h=> .inl h,λb o h=>h.imp (λh=>h) (·.1),λb hb=>⟨(hF b).2 (.inl hb),λo h=> ?_⟩,h0,.inr ⟨g,cap,cur,hv,λ_=>Iff.rfl,hg,h1,h2,h3,λi x hx j d hd=> ?_⟩⟩
  ·rcases h with h|h
   ·exact hS b ((hF b).2 (.inl hb)) o h
   ·exact h.2 hb
  ·have hi:i<l.length:=(List.getElem?_eq_some_iff.1 hx).1
   obtain⟨g1,li,u,u1,u2,u3,u4⟩:=h4 i x hx
   by_cases e:j=k
   ·subst e
    rw[u1] at hd
    injection hd with hd
    subst hd
    have hr:=u4.rd (S':=λb o=>S b o\/(F b/\b≠g)) (λ_ _ h=> .inl h) λb hb o=> .inr ⟨(hF b).2 (.inr ⟨i,hi,hb⟩),λe=>hg1 i (e ▸ hb)⟩
    refine⟨u,u3,?_,hr⟩
    obtain⟨ad,cap,_,_,_,e,_⟩:=hr.slInv
    rw[e];rfl
   ·obtain⟨u,v1,v2,v3⟩:=g1 j d e hd
    exact⟨u,v1,v2,Rd.mono (λ_ _ h=> .inl h) (λ_ _ _=>rfl) v3⟩
def wordH (ob:Obs):SV->Option D
 | .d d=>some d
 | .os id=>match ob id with
  |some (.fro t l)=>some (.sl t l)
  |_=>none
 |_=>none
def wordsH (ob:Obs):List SV->Option (List D)
 |[]=>some []
 |s::r=>match wordH ob s,wordsH ob r with
  |some d,some ds=>some (d::ds)
  |_,_=>none
theorem wordsH_spec {ob:Obs}:∀{cs:List SV}{ds:List D},wordsH ob cs=some ds->ds.length=cs.length/\∀(j:Nat)(s:SV)(d:D),cs[j]? =some s->ds[j]? =some d->wordH ob s=some d
 |[],ds,h=>by
  injection h with h
  subst h
  exact⟨rfl,λj s d hs=>by simp at hs⟩
 |s::r,ds,h=>by
  unfold wordsH at h
  split at h
  ·rename_i d ds' h1 h2
   injection h with h
   subst h
   obtain⟨k1,k2⟩:=wordsH_spec h2
   refine⟨by simp[k1],λj s' d' hs hd=> ?_⟩
   cases j with
   |zero=>simp at hs hd;subst hs hd;exact h1
   |succ j=>simp at hs hd;exact k2 j s' d' hs hd
  ·cases h
theorem wordH_rd {ob:Obs}{U:Nat->Prop}{tp:Bool}{w:World}{c:Cx}(h:OX ob U tp w c){s:SV}{d:D}(hd:wordH ob s=some d){u:Value}(hr:SRel c w s u):Rd c.S w d u:=by
 unfold wordH at hd
 split at hd
 ·injection hd with hd;subst hd;exact srel_d hr
 ·rename_i id
  split at hd
  ·rename_i t l hob
   injection hd with hd
   subst hd
   rw[srel_os hr]
   exact (h.objs id _ hob).2.2.1
  ·cases hd
 ·cases hd
theorem FocAt.row {ob:Obs}{U:Nat->Prop}{tp:Bool}{w:World}{c:Cx}(h:OX ob U tp w c){id:Nat}{e:TypeId}{t:Ty}{l:List (den t)}{k:Int}{cs:List SV}(hf:FocAt w c id e t l k cs){ds:List D}(hw:wordsH ob cs=some ds){x:den t}(hx:dec t ds=some x):RowAt w c.S (c.H id) (c.F id) e t (l.set k.toNat x):=by
 obtain⟨h0,h1,h2,h3,g,cap,cur,q1,q2,q3,q4,q5,q6,q7,q8⟩:=hf
 have hkl:k.toNat<l.length:=by omega
 have hlen:(l.set k.toNat x).length=l.length:=List.length_set ..
 refine⟨h0,.inr ⟨g,cap,cur,by rw[hlen];exact q1,q2,q3,by rw[hlen];exact q4,q5,q6,λi y hy j d hd=> ?_⟩⟩
 rw[List.getElem?_set] at hy
 by_cases e:k.toNat=i
 ·subst e
  rw[if_pos rfl,if_pos hkl] at hy
  injection hy with hy
  subst hy
  obtain⟨w1,w2⟩:=wordsH_spec hw
  obtain⟨d1,d2⟩:=dec_rd hx
  have hjl:=enc_lt hd
  have hjc:j<cs.length:=by rw[h3];exact hjl
  have hjd:j<ds.length:=by rw[w1];exact hjc
  obtain⟨u,u1,u2,u3⟩:=q8 j cs[j] (List.getElem?_eq_getElem hjc)
  refine⟨u,u1,u2,?_⟩
  have:=wordH_rd h (w2 j cs[j] ds[j] (List.getElem?_eq_getElem hjc) (List.getElem?_eq_getElem hjd)) u3
  exact d2 j d ds[j] hd (List.getElem?_eq_getElem hjd) this
 ·rw[if_neg e] at hy
  exact q7 i y hy (λe'=>e e'.symm) j d hd
def rowIdsH:List SV->List Nat
 |[]=>[]
 | .os id::r=>id::rowIdsH r
 |_::r=>rowIdsH r
def fzSt (st:St)(ids:List Nat):St:=⟨st.sl,⟨fzU st.ms.obs ids++st.ms.ob,st.ms.nx,st.ms.tp⟩,st.n,st.gs,st.gd⟩
theorem step_fz {base st:St}{a0 a:Act}{w0 w:World}{c0 c:Cx}(hs:Step base a0 w0 c0 st a w c)(ids:List Nat):∃c',Step base a0 w0 c0 (fzSt st ids) a w c':=by
 obtain⟨c1,ox1,t1,hH1,_⟩:=hs.rx.ox.freezes ids
 have ho:(fzSt st ids).ms.obs=ovr st.ms.obs (fzU st.ms.obs ids):=lookO_app _ _
 have hox:OXM (fzSt st ids).ms w c1:=by
  show OX _ _ _ _ _
  rw[ho];exact ox1
 have htr:TrM st.ms w c (fzSt st ids).ms w c1:=by
  show Tr _ _ _ _ _ _ _ _
  rw[ho];exact t1
 exact⟨c1,⟨hox,hs.rx.sz,λy u hy=>htr.srel hs.rx.ox (hs.rx.sl y u hy) (hs.rx.us y),hs.rx.us,hs.rx.cn⟩,hs.tr.trans htr,hs.df,hs.fr.trans ⟨rfl,⟨[],rfl⟩,⟨_,rfl⟩,λh=>h⟩⟩
def halfF (x:Nat)(e:TypeId)(st:St):St:=match look st.sl x with
 | .os id=>match st.ms.obs id with
  |some (.foc e' _ _ _ cs)=>bif Nat.beq e e' then fzSt st (rowIdsH cs) else st
  |_=>st
 |_=>st
def half1 (x:Nat)(e:TypeId)(st:St):St:=match look st.sl x with
 | .os id=>match st.ms.obs id with
  |some (.dp e' t l)=>bif Nat.beq e e' then rowSt st x id (.row e' t l) else st
  |some (.foc e' t l k cs)=>bif Nat.beq e e' then match wordsH st.ms.obs cs with
   |some ds=>match dec t ds with
    |some y=>rowSt st x id (.row e' t (l.set k.toNat y))
    |none=>st
   |none=>st
   else st
  |_=>st
 | .ns id=>match st.ms.obs id with
  |some (.nst e' t _ _ _ l)=>bif Nat.beq e e' then rowSt st x id (.row e' t l) else st
  |_=>st
 |_=>st
theorem halfF_ok {base st:St}{a0 a:Act}{w0 w:World}{c0 c:Cx}(hs:Step base a0 w0 c0 st a w c)(x:Nat)(e:TypeId):∃c',Step base a0 w0 c0 (halfF x e st) a w c':=by
 unfold halfF
 split
 ·split
  ·rename_i e' _ _ _ cs _
   cases Nat.beq e e' with
   |true=>exact step_fz hs _
   |false=>exact⟨c,hs⟩
  ·exact⟨c,hs⟩
 ·exact⟨c,hs⟩
theorem half1_ok {base st:St}{a0 a:Act}{w0 w:World}{c0 c:Cx}(hs:Step base a0 w0 c0 st a w c)(x:Nat)(e:TypeId):∃c',Step base a0 w0 c0 (half1 x e st) a w c':=by
 unfold half1
 split
 ·rename_i id hx
  split
  ·rename_i e' t l hob
   cases Nat.beq e e' with
   |false=>exact⟨c,hs⟩
   |true=>
    have hat:DpAt w c.S (c.H id) (c.F id) e' t l:=(hs.rx.ox.objs id _ hob).2.2
    obtain⟨S',F',h1,h2,h3,h4⟩:=hat.row λb hb=>(hs.rx.ox.fb id _ hob rfl b hb).2.1
    exact step_row hs (h:=c.H id) (λu hu=>by rw[hx] at hu;exact srel_os hu) hob rfl h1 h2 h3 h4
  ·rename_i e' t l k cs hob
   cases Nat.beq e e' with
   |false=>exact⟨c,hs⟩
   |true=>
    simp only[cond_true]
    split
    ·rename_i ds hw
     split
     ·rename_i y hy
      have hat:FocAt w c id e' t l k cs:=(hs.rx.ox.objs id _ hob).2.2
      exact step_row hs (h:=c.H id) (λu hu=>by rw[hx] at hu;exact srel_os hu) hob rfl (λ_ _ h=>h) (λ_ _ h=> .inl h) (λb hb=>⟨hb,(hs.rx.ox.fb id _ hob rfl b hb).2.1⟩) (hat.row hs.rx.ox hw hy)
     ·exact⟨c,hs⟩
    ·exact⟨c,hs⟩
  ·exact⟨c,hs⟩
 ·rename_i id hx
  split
  ·rename_i e' t k e2 t2 l hob
   cases Nat.beq e e' with
   |false=>exact⟨c,hs⟩
   |true=>
    have hat:NstAt w c.S (c.H id) (c.F id) e' t k e2 t2 l:=(hs.rx.ox.objs id _ hob).2.2
    obtain⟨v,vs,hH⟩:∃v vs,c.H id= .tuple (v::vs).toArray:=by
     obtain⟨_,_,v,vs,_,hH,_⟩:=hat
     exact⟨v,vs,hH⟩
    rw[hH] at hat
    obtain⟨S',F',h1,h2,h3,h4⟩:=hat.row λb hb=>(hs.rx.ox.fb id _ hob rfl b hb).2.1
    refine step_row hs (h:=v) (λu hu=> ?_) hob rfl h1 h2 h3 h4
    rw[hx] at hu
    cases hu with
    |ns _ _ vs' h=>
     rw[hH] at h
     injection h with h
     have h:v::vs=u::vs':=by simpa using congrArg Array.toList h
     injection h with h _
     exact h.symm
  ·exact⟨c,hs⟩
 ·exact⟨c,hs⟩
def halfs:List (Nat×Sh)->St->St
 |[],st=>st
 |(x,.own e _)::r,st=>halfs r (half1 x e (halfF x e st))
 |(_,.dat _)::r,st=>halfs r st
 |(_,.bx _ _)::r,st=>halfs r st
 |(_,.rf _)::r,st=>halfs r st
 |(_,.tp)::r,st=>halfs r st
 |(_,.un)::r,st=>halfs r st
 |(_,.agg _)::r,st=>halfs r st
 |(_,.tup _)::r,st=>halfs r st
theorem halfs_ok {base:St}{a0 a:Act}{w0 w:World}{c0:Cx}:∀(l:List (Nat×Sh)){st:St}{c:Cx},Step base a0 w0 c0 st a w c->∃c',Step base a0 w0 c0 (halfs l st) a w c'
 |[],st,c,hs=>⟨c,hs⟩
 |(x,.own e _)::r,st,c,hs=>by
  obtain⟨c1,h1⟩:=halfF_ok hs x e
  obtain⟨c2,h2⟩:=half1_ok h1 x e
  exact halfs_ok r h2
 |(_,.dat _)::r,st,c,hs=>halfs_ok r (st:=st) hs
 |(_,.bx _ _)::r,st,c,hs=>halfs_ok r (st:=st) hs
 |(_,.rf _)::r,st,c,hs=>halfs_ok r (st:=st) hs
 |(_,.tp)::r,st,c,hs=>halfs_ok r (st:=st) hs
 |(_,.un)::r,st,c,hs=>halfs_ok r (st:=st) hs
 |(_,.agg _)::r,st,c,hs=>halfs_ok r (st:=st) hs
 |(_,.tup _)::r,st,c,hs=>halfs_ok r (st:=st) hs
def Shape.fit (s:Shape)(base st:St):Option (dens s.tys):=s.fit0 base (halfs s.sl st)
theorem Shape.fit_ok {s:Shape}{base st:St}{v:dens s.tys}(hf:s.fit base st=some v){a0 a:Act}{w0 w:World}{c0 c:Cx}(hb:RX base a0 w0 c0)(hs:Step base a0 w0 c0 st a w c):∃c',Step base a0 w0 c0 (s.inst base v) a w c':=by
 obtain⟨c1,h1⟩:=halfs_ok s.sl hs
 exact Shape.fit0_ok hf hb h1
def St.endR (st:St):St:=⟨st.gd.map (λd=>(d,SV.un))++st.sl,st.ms,st.n,[],[]⟩
theorem RX.endR {st:St}{a:Act}{w:World}{c:Cx}(h:RX st a w c):Step st a w c st.endR a w c:=by
 have hl:∀x,look st.endR.sl x=if has st.gd x=true then .un else look st.sl x:=λx=>by
  show look (st.gd.map (λd=>(d,SV.un))++st.sl) x=_
  rw[look_app,lookK_un (λ_=>SV.un)]
  by_cases hx:has st.gd x=true
  ·rw[if_pos hx,if_pos hx];rfl
  ·rw[if_neg hx,if_neg hx];rfl
 refine⟨⟨h.ox,h.sz,λx u hu=> ?_,λx=> ?_,λx q wt g y hx=> ?_⟩,.refl,rfl,rfl,⟨_,rfl⟩,.refl _⟩
 ·rw[hl]
  split
  ·exact .un u
  ·exact h.sl x u hu
 ·rw[hl]
  split
  ·trivial
  ·exact h.us x
 ·rw[hl] at hx
  split at hx
  ·cases hx
  ·rename_i hn;exact absurd (h.cn x q wt g y hx).2.1 hn
def aops (P:Program)(τ:TypeId->Option Ty)(cp:Nat->CP)(all:Array Oper):Nat->List Oper->St->(St->Prop)->Prop
 |_,[],st,K=>K st.endR
 |i,o::r,st,K=>match o.guard with
  |none=>aop P τ (cp i) o st λst'=>aops P τ cp all (i+1) r st' K
  |some (j,want)=>match (all[j]?).bind (·.dst),o.dst with
   |some q,some d=>aopG P τ (cp i) o d q want st λst'=>aops P τ cp all (i+1) r st' K
   |_,_=>False
theorem aops_ok {τ:TypeId->Option Ty}{cp:Nat->CP}(hcp:∀i,CallOK P (cp i)){all:Array Oper}:∀(ops:List Oper)(i:Nat)(st:St)(K:St->Prop),aops P τ cp all i ops st K->
 ∀a w c,RX st a w c->∀Qx:Exit->Act->World->Prop,(∀st' a' w' c',Step st a w c st' a' w' c'->K st'->Qx .normal a' w')->wpList P all Qx ops a w
 |[],i,st,K,h,a,w,c,hr,Qx,hQ=>hQ _ a w c hr.endR h
 |o::r,i,st,K,h,a,w,c,hr,Qx,hQ=>by
  unfold aops at h
  split at h
  ·rename_i hg
   refine wpList_plain hg λKK hK=> ?_
   exact aop_ok (hcp i) h a w c hr KK Qx λst' a' w' c' hs hq=>hK _ _ (aops_ok hcp r (i+1) st' K hq a' w' c' hs.rx Qx λst2 a2 w2 c2 hs2 k=>hQ _ _ _ _ (hs.trans hs2) k)
  ·rename_i j want hg
   split at h
   ·rename_i q d hq hd
    obtain⟨G,h1,h2,h3⟩:=aopG_ok (hcp i) hd h
    refine wpList_step λKK hK=> ?_
    rw[wanted_of hg hq h1 hr h2]
    exact h3 a w c hr KK Qx λst' a' w' c' hs hq=>hK _ _ (aops_ok hcp r (i+1) st' K hq a' w' c' hs.rx Qx λst2 a2 w2 c2 hs2 k=>hQ _ _ _ _ (hs.trans hs2) k)
   ·exact h.elim
def AC (P:Program)(x:Code)(st:St)(Q:Exit->St->Prop):Prop:=
 ∀a w c,RX st a w c->x.wp P (λe a' w'=>∃st' c',Step st a w c st' a' w' c'/\Q e st') a w
def thenQ (K:St->Prop)(Q:Exit->St->Prop):Exit->St->Prop
 | .normal,st=>K st
 |e,st=>Q e st
def blockQ (id:Nat)(Q:Exit->St->Prop):Exit->St->Prop
 | .exit i,st=>bif Nat.beq i id then Q .normal st else Q (.exit i) st
 |e,st=>Q e st
theorem AC.seq {x y:Code}{st:St}{Q:Exit->St->Prop}(h:AC P x st (thenQ (λst'=>AC P y st' Q) Q)):AC P (.seq x y) st Q:=by
 intro a w c hr
 refine wp_seq (wp_mono (h a w c hr) ?_)
 rintro e a' w' ⟨st',c',h1,h2⟩
 cases e with
 |normal=>
  refine wp_mono (h2 a' w' c' h1.rx) ?_
  rintro e a2 w2 ⟨st2,c2,k1,k2⟩
  exact⟨st2,c2,h1.trans k1,k2⟩
 |_=>exact⟨st',c',h1,h2⟩
theorem AC.block {id:Nat}{x:Code}{st:St}{Q:Exit->St->Prop}(h:AC P x st (blockQ id Q)):AC P (.block id x) st Q:=by
 intro a w c hr
 refine wp_block (wp_mono (h a w c hr) ?_)
 rintro e a' w' ⟨st',c',h1,h2⟩
 cases e with
 |exit i=>
  have h2':bif Nat.beq i id then Q .normal st' else Q (.exit i) st':=h2
  show if i=id then _ else _
  by_cases hi:i=id
  ·subst hi
   rw[if_pos rfl]
   simp only[Nat.beq_refl,cond_true] at h2'
   exact⟨st',c',h1,h2'⟩
  ·rw[if_neg hi]
   rw[beq_ne hi] at h2'
   exact⟨st',c',h1,h2'⟩
 |_=>exact⟨st',c',h1,h2⟩
theorem AC.mono {x:Code}{st:St}{Q Q':Exit->St->Prop}(h:AC P x st Q)(hq:∀e st',Q e st'->Q' e st'):AC P x st Q':=by
 intro a w c hr
 refine wp_mono (h a w c hr) ?_
 rintro e a' w' ⟨st',c',h1,h2⟩
 exact⟨st',c',h1,hq e st' h2⟩
theorem AC.join {x y:Code}{st:St}{Q:Exit->St->Prop}{s:Shape}(J:dens s.tys->Prop)(h1:AC P x st (thenQ (λst'=>∃v,s.fit st st'=some v/\J v) Q))(h2:∀v,J v->AC P y (s.inst st v) Q):AC P (.seq x y) st Q:=by
 intro a w c hr
 refine wp_seq (wp_mono (h1 a w c hr) ?_)
 rintro e a' w' ⟨st',c',k1,k2⟩
 cases e with
 |normal=>
  obtain⟨v,hv,hJ⟩:=k2
  obtain⟨c2,k3⟩:=s.fit_ok hv hr k1
  refine wp_mono (h2 v hJ a' w' c2 k3.rx) ?_
  rintro e a2 w2 ⟨st2,c3,q1,q2⟩
  exact⟨st2,c3,k3.trans q1,q2⟩
 |_=>exact⟨st',c',k1,k2⟩
theorem AC.loop {x:Code}{st:St}{Q:Exit->St->Prop}{s:Shape}(I:dens s.tys->Prop)(μ:dens s.tys->Nat){v0:dens s.tys}(hv0:s.fit st st=some v0)(hI:I v0)
 (h:∀v,I v->AC P x (s.inst st v) (thenQ (λst'=>∃v',s.fit st st'=some v'/\I v'/\μ v'<μ v) Q)):AC P (.loop x) st Q:=by
 intro a0 w0 c0 hr0
 have key:∀n v,μ v<n->I v->∀a w c,Step st a0 w0 c0 (s.inst st v) a w c->Code.rounds P x (λe a' w'=>∃st' c',Step st a0 w0 c0 st' a' w' c'/\Q e st') n a w:=by
  intro n
  induction n with
  |zero=>intro v hn;omega
  |succ n ih=>
   intro v hn hi a w c hs
   refine wp_mono (h v hi a w c hs.rx) ?_
   rintro e a' w' ⟨st',c',h1,h2⟩
   cases e with
   |normal=>
    obtain⟨v',hv',hi',hlt⟩:=h2
    obtain⟨c2,k3⟩:=s.fit_ok hv' hr0 (hs.trans h1)
    exact ih v' (by omega) hi' a' w' c2 k3
   |_=>exact⟨st',c',hs.trans h1,h2⟩
 obtain⟨c1,h1⟩:=s.fit_ok hv0 hr0 (Step.refl hr0)
 exact wp_loop_rounds (μ v0+1) (key _ v0 (Nat.lt_succ_self _) hI a0 w0 c1 h1)
def firstR:Code->Option Nat
 | .region id _ _=>some id
 | .seq x y=>match firstR x with
  |some i=>some i
  |none=>firstR y
 | .cond _ x y=>match firstR x with
  |some i=>some i
  |none=>firstR y
 | .block _ x=>firstR x
 | .loop x=>firstR x
 | .scope x=>firstR x
 |_=>none
abbrev RG:=Nat->Array Oper->Bool->St->(St->Prop)->Prop
def aeval (rg:RG)(jn:Nat->Option Shape):Code->St->(Exit->St->Prop)->Prop
 | .skip,st,K=>K .normal st
 | .label _,st,K=>K .normal st
 | .exit i,st,K=>K (.exit i) st
 | .ret,st,K=>K .ret st
 | .region id ops dr,st,K=>match (bif dr then jn (1000000+id) else none) with
  |none=>rg id ops dr st (K .normal)
  |some s=>JOIN s.tys (lam s.tys λv=>K .normal (s.inst st v)) λJ=>rg id ops dr st λst'=>match s.fit st st' with
   |some v=>app s.tys J v
   |none=>False
 | .seq x y,st,K=>match (match firstR y with|some i=>jn (2 * i)|none=>none) with
  |none=>aeval rg jn x st (thenQ (λst'=>aeval rg jn y st' K) K)
  |some s=>JOIN s.tys (lam s.tys λv=>aeval rg jn y (s.inst st v) K) λJ=>aeval rg jn x st (thenQ (λst'=>match s.fit st st' with
   |some v=>app s.tys J v
   |none=>False) K)
 | .cond q x y,st,K=>match st.ev q with
  | .d (.v (.bool b))=>IFB b (aeval rg jn x st K) (aeval rg jn y st K)
  |_=>False
 | .block i x,st,K=>aeval rg jn x st (blockQ i K)
 | .loop x,st,K=>match (match firstR x with|some i=>jn (2 * i+1)|none=>none) with
  |none=>False
  |some s=>match s.fit st st with
   |some v0=>LOOP s.tys (λrec=>lam s.tys λv=>aeval rg jn x (s.inst st v) (thenQ (λst'=>match s.fit st st' with
    |some v'=>app s.tys rec v'
    |none=>False) K)) v0
   |none=>False
 |_,_,_=>False
def RegOK (P:Program)(rg:RG):Prop:=∀id ops dr st K,rg id ops dr st K->AC P (.region id ops dr) st λe st'=>e= .normal/\K st'
theorem aeval_ok {rg:RG}{jn:Nat->Option Shape}(hrg:RegOK P rg):∀(x:Code)(st:St)(K:Exit->St->Prop),aeval rg jn x st K->AC P x st K:=by
 intro x
 induction x with
 |skip=>exact λst K h a w c hr=>wp_skip ⟨st,c,.refl hr,h⟩
 |label l=>exact λst K h a w c hr=>wp_label ⟨st,c,.refl hr,h⟩
 |exit i=>exact λst K h a w c hr=>wp_exit ⟨st,c,.refl hr,h⟩
 |ret=>exact λst K h a w c hr=>wp_ret ⟨st,c,.refl hr,h⟩
 |region id ops dr=>
  intro st K h
  unfold aeval at h
  split at h
  ·exact (hrg id ops dr st _ h).mono λe st' ⟨he,hk⟩=>by subst he;exact hk
  ·rename_i s _
   obtain⟨h⟩:=h
   intro a w c hr
   refine wp_mono (hrg id ops dr st _ h a w c hr) ?_
   rintro e a' w' ⟨st',c',k1,rfl,hk⟩
   split at hk
   ·rename_i v hv
    rw[app_lam] at hk
    obtain⟨c2,k3⟩:=s.fit_ok hv hr k1
    exact⟨_,c2,k3,hk⟩
   ·exact hk.elim
 |seq x y ihx ihy=>
  intro st K h
  unfold aeval at h
  split at h
  ·refine AC.seq ((ihx st _ h).mono λe st' hk=> ?_)
   cases e with
   |normal=>exact ihy st' K hk
   |_=>exact hk
  ·rename_i s _
   obtain⟨h⟩:=h
   refine AC.join (s:=s) (λv=>aeval rg jn y (s.inst st v) K) ((ihx st _ h).mono λe st' hk=> ?_) λv hv=>ihy _ K hv
   cases e with
   |normal=>
    have hk:(match s.fit st st' with|some v=>app s.tys (lam s.tys λv=>aeval rg jn y (s.inst st v) K) v|none=>False):=hk
    split at hk
    ·rename_i v hv
     rw[app_lam] at hk
     exact⟨v,hv,hk⟩
    ·exact hk.elim
   |_=>exact hk
 |cond q x y ihx ihy=>
  intro st K h
  unfold aeval at h
  split at h
  ·rename_i b hb
   intro a w c hr
   have hv:=hr.ev q
   rw[hb] at hv
   exact wp_cond_split (srel_v hv) (λe=>ihx st K (h.t e) a w c hr) (λe=>ihy st K (h.f e) a w c hr)
  ·exact h.elim
 |block i x ih=>
  intro st K h
  exact AC.block (ih st _ h)
 |loop x ih=>
  intro st K h
  unfold aeval at h
  split at h
  ·exact h.elim
  ·rename_i s _
   split at h
   ·rename_i v0 hv0
    obtain⟨I,μ,h1,h2⟩:=h.h
    refine AC.loop (s:=s) I μ hv0 h1 λv hv=> ?_
    have hk:=h2 v hv
    rw[app_lam] at hk
    refine (ih _ _ hk).mono λe st' hq=> ?_
    cases e with
    |normal=>
     have hq:(match s.fit st st' with|some v'=>app s.tys (lam s.tys λy=>I y/\μ y<μ v) v'|none=>False):=hq
     split at hq
     ·rename_i v' hv'
      rw[app_lam] at hq
      exact⟨v',hv',hq⟩
     ·exact hq.elim
    |_=>exact hq
   ·exact h.elim
 |rangeFunc f ps a b iha ihb=>exact λst K h=>h.elim
 |scope x ih=>exact λst K h=>h.elim
 |goto l=>exact λst K h=>h.elim
 |refuse y=>exact λst K h=>h.elim
def resV (P:Program)(st:St):ResultVar->Option SV
 | .tmp t=>some (st.ev (.tmp t))
 | .cell x t=>pLoad P st.ms.mem t (st.ev (.tmp x))
def resL (P:Program)(st:St):List ResultVar->Option (List SV)
 |[]=>some []
 |r::rs=>match resV P st r,resL P st rs with
  |some x,some xs=>some (x::xs)
  |_,_=>none
def resS (P:Program)(st:St)(rs:List ResultVar):Option SV:=match resL P st rs with
 |some [x]=>some x
 |some xs=>some (.tup xs)
 |none=>none
def gotV (P:Program)(a:Act)(w:World)(v:Value):ResultVar->Prop
 | .tmp t=>a.tmps.getD t undef=v
 | .cell x t=>∃ad,a.tmps.getD x undef= .pointer (some ad)/\(loadVar t ad).run P w= .ok v w
theorem resV_ok {st:St}{rv:ResultVar}{s:SV}(h:resV P st rv=some s){a:Act}{w:World}{c:Cx}(hr:RX st a w c):∃v,gotV P a w v rv/\SRel c w s v/\s.inU st.ms.U:=by
 cases rv with
 |tmp t=>
  injection h with h
  subst h
  exact⟨_,rfl,hr.ev (.tmp t),hr.evU (.tmp t)⟩
 |cell x t=>
  have h:pLoad P st.ms.mem t (st.ev (.tmp x))=some s:=h
  obtain⟨v,h1,h2,h3⟩:=pLoad_run (P:=P) h hr.ox (hr.ev (.tmp x)) (hr.evU (.tmp x))
  have hp:∃ad,a.eval (.tmp x)= .pointer (some ad):=by
   have hv:=hr.ev (.tmp x)
   generalize a.eval (.tmp x)=av at hv ⊢
   unfold pLoad at h
   split at h
   ·rename_i cs e;rw[e] at hv;cases srel_d hv;exact⟨_,rfl⟩
   ·rename_i id off e;rw[e] at hv;obtain⟨b,_,hb⟩:=srel_bx hv;exact⟨_,hb⟩
   ·rename_i id z sz j e;rw[e] at hv;obtain⟨g,n,cap,_,hb,_⟩:=srel_op hv;exact⟨_,hb⟩
   ·rename_i id z sz j e;rw[e] at hv;obtain⟨g,n,cap,vs,_,hb,_⟩:=srel_np hv;exact⟨_,hb⟩
   ·rename_i id i z sz j e;rw[e] at hv;obtain⟨v,vs,g,n,cap,_,_,_,hb,_⟩:=srel_ip hv;exact⟨_,hb⟩
   ·cases h
  obtain⟨ad,hp⟩:=hp
  refine⟨v,⟨ad,hp,?_⟩,h2,h3⟩
  rw[hp] at h1
  simpa [Instr.loadAt,Instr.sureAddr] using h1
theorem mapM_ok {α:Type}(f:α->Sem Value)(w:World):∀(l:List α)(vs:List Value),l.length=vs.length->(∀(i:Nat)(x:α)(v:Value),l[i]? =some x->vs[i]? =some v->(f x).run P w= .ok v w)->(l.mapM f).run P w= .ok vs w
 |[],[],_,_=>by simp
 |[],_::_,h,_=>by simp at h
 |_::_,[],h,_=>by simp at h
 |x::l,v::vs,h,k=>by
  have h1:=k 0 x v rfl rfl
  have h2:=mapM_ok f w l vs (by simpa using h) (λi x v hx hv=>k (i+1) x v hx hv)
  simp[List.mapM_cons,h1,h2]
theorem resL_ok {st:St}:∀{rs:List ResultVar}{ss:List SV},resL P st rs=some ss->∀{a:Act}{w:World}{c:Cx},RX st a w c->∃vs:List Value,rs.length=vs.length/\vs.length=ss.length/\(∀(i:Nat)(r:ResultVar)(v:Value),rs[i]? =some r->vs[i]? =some v->gotV P a w v r)/\(∀(i:Nat)(s:SV)(v:Value),ss[i]? =some s->vs[i]? =some v->SRel c w s v)/\inUL st.ms.U ss
 |[],ss,h,a,w,c,hr=>by
  simp only[resL,Option.some.injEq] at h
  subst h
  exact⟨[],rfl,rfl,λi r v h=>by simp at h,λi s v h=>by simp at h,trivial⟩
 |r::rs,ss,h,a,w,c,hr=>by
  unfold resL at h
  split at h
  ·rename_i x xs h1 h2
   injection h with h
   subst h
   obtain⟨v,g1,g2,g3⟩:=resV_ok h1 hr
   obtain⟨vs,k1,k2,k3,k4,k5⟩:=resL_ok h2 hr
   refine⟨v::vs,by simp[k1],by simp[k2],λi r' v' hr' hv'=> ?_,λi s v' hs hv'=> ?_,⟨g3,k5⟩⟩
   ·cases i with
    |zero=>simp at hr' hv';subst hr' hv';exact g1
    |succ i=>exact k3 i r' v' (by simpa using hr') (by simpa using hv')
   ·cases i with
    |zero=>simp at hs hv';subst hs hv';exact g2
    |succ i=>exact k4 i s v' (by simpa using hs) (by simpa using hv')
  ·cases h
theorem resS_ok {st:St}{fn:Func}{s:SV}(h:resS P st fn.results.toList=some s){a:Act}{w:World}{c:Cx}(hr:RX st a w c):∃v,(results fn a.tmps).run P w= .ok v w/\SRel c w s v/\s.inU st.ms.U:=by
 have main:∀{ss:List SV},resL P st fn.results.toList=some ss->∃vs:List Value,(results fn a.tmps).run P w= .ok (if h:vs.toArray.size=1 then vs.toArray[0] else .tuple vs.toArray) w/\vs.length=ss.length/\(∀(i:Nat)(s:SV)(v:Value),ss[i]? =some s->vs[i]? =some v->SRel c w s v)/\inUL st.ms.U ss:=by
  intro ss hss
  obtain⟨vs,k1,k2,k3,k4,k5⟩:=resL_ok hss hr
  refine⟨vs,?_,k2,k4,k5⟩
  have e:fn.results=fn.results.toList.toArray:=by simp
  unfold results
  rw[e,List.mapM_toArray]
  simp only[Sem.run_bind,Sem.run_map]
  rw[mapM_ok (P:=P) _ w _ vs k1 (λi r v hr hv=>by
   have hg:=k3 i r v hr hv
   cases r with
   |tmp t=>have hg:a.tmps.getD t undef=v:=hg;simpa using hg
   |cell x t=>
    obtain⟨ad,e1,e2⟩:=hg
    simp only[e1]
    simp[asAddr,e2])]
  simp
 unfold resS at h
 split at h
 ·rename_i x hss
  injection h with h
  subst h
  obtain⟨vs,k1,k2,k3,k4⟩:=main hss
  match vs,k2 with
  |[v],_=>exact⟨v,by simpa using k1,k3 0 _ v rfl rfl,k4.1⟩
 ·rename_i xs hn hss
  injection h with h
  subst h
  obtain⟨vs,k1,k2,k3,k4⟩:=main hss
  have hne:¬vs.toArray.size=1:=λe=>by
   have e:vs.length=1:=by simpa using e
   rw[k2] at e
   match xs,e with
   |[x],_=>exact hn x rfl
  rw[dif_neg hne] at k1
  exact⟨_,k1,.tup _ vs k2 k3,k4⟩
 ·cases h
def enumS:Nat->List SV->List (Nat×SV)
 |_,[]=>[]
 |k,s::r=>(k,s)::enumS (k+1) r
theorem look_enumS:∀(l:List SV)(k x:Nat),look (enumS k l) x=if k<=x then (l[x-k]?).getD .un else .un
 |[],k,x=>by simp[enumS,look]
 |s::r,k,x=>by
  rw[enumS,look_cons]
  by_cases h:k=x
  ·subst h;rw[if_pos rfl,if_pos (Nat.le_refl _),Nat.sub_self];rfl
  ·rw[if_neg h,look_enumS r (k+1) x]
   by_cases h2:k+1<=x
   ·rw[if_pos h2,if_pos (by omega),show x-k=(x-(k+1))+1 by omega,List.getElem?_cons_succ]
   ·rw[if_neg h2,if_neg (by omega)]
def entry (ss:List SV)(m:MS)(n:Nat):St:=⟨enumS 0 (ss.map noC),m,n,[],[]⟩
theorem entry_rx {ss:List SV}{m:MS}{n:Nat}{us:List Value}{w:World}{c:Cx}(hox:OXM m w c)(hl:us.length=ss.length)(hn:ss.length<=n)(hr:∀(i:Nat)(s:SV)(u:Value),ss[i]? =some s->us[i]? =some u->SRel c w s u/\s.inU m.U):
 RX (entry ss m n) {tmps:=us.toArray++Array.replicate (n-us.toArray.size) undef,defers:=[]} w c:=by
 have hlk:∀x,look (entry ss m n).sl x=((ss.map noC)[x]?).getD .un:=λx=>by
  show look (enumS 0 (ss.map noC)) x=_
  rw[look_enumS,if_pos (Nat.zero_le _),Nat.sub_zero]
 refine⟨hox,?_,λx u hx=> ?_,λx=> ?_,λx q wt g y hx=> ?_⟩
 ·simp only[Array.size_append,List.size_toArray,Array.size_replicate]
  show us.length+(n-us.length)=n
  omega
 ·rw[hlk]
  cases hs:(ss.map noC)[x]? with
  |none=>exact .un u
  |some s=>
   rw[List.getElem?_map,Option.map_eq_some_iff] at hs
   obtain⟨s0,hs0,rfl⟩:=hs
   have hxl:=(List.getElem?_eq_some_iff.1 hs0).1
   have hu:us[x]? =some u:=by
    have hx:(us.toArray++Array.replicate (n-us.toArray.size) undef)[x]? =some u:=hx
    rw[Array.getElem?_append_left (by simp;omega)] at hx
    simpa using hx
   exact noC_rel (hr x s0 u hs0 hu).1
 ·rw[hlk]
  cases hs:(ss.map noC)[x]? with
  |none=>trivial
  |some s=>
   rw[List.getElem?_map,Option.map_eq_some_iff] at hs
   obtain⟨s0,hs0,rfl⟩:=hs
   have hxl:=(List.getElem?_eq_some_iff.1 hs0).1
   exact noC_inU (hr x s0 us[x] hs0 (List.getElem?_eq_getElem (by omega))).2
 ·rw[hlk] at hx
  cases hs:(ss.map noC)[x]? with
  |none=>rw[hs] at hx;cases hx
  |some s=>
   rw[hs] at hx
   have hx:s= .cnd q wt g y:=hx
   rw[List.getElem?_map,Option.map_eq_some_iff] at hs
   obtain⟨s0,hs0,rfl⟩:=hs
   exact absurd hx noC_ne
def isZ:Int->Bool
 | .ofNat 0=>true
 |_=>false
theorem isZ_eq {a:Int}(h:isZ a=true):a=0:=by
 unfold isZ at h
 split at h
 ·rfl
 ·cases h
def trunc (r:SV)(m:MS):SV×MS:=match r with
 | .sub id sz a b=>match m.obs id with
  |some (.row e ty l)=>bif isZ a&&Nat.beq sz (size ty) then (.os m.nx,⟨(m.nx,some (.row e ty (l.take b.toNat)))::(id,none)::m.ob,m.nx+1,m.tp⟩) else (r,m)
  |_=>(r,m)
 |_=>(r,m)
theorem trunc_ok {r:SV}{m:MS}{w:World}{c:Cx}{v:Value}(hox:OXM m w c)(hs:SRel c w r v)(hu:r.inU m.U):
 ∃c',OXM (trunc r m).2 w c'/\TrM m w c (trunc r m).2 w c'/\SRel c' w (trunc r m).1 v/\(trunc r m).1.inU (trunc r m).2.U/\FrM m (trunc r m).2:=by
 have triv:∃c',OXM m w c'/\TrM m w c m w c'/\SRel c' w r v/\r.inU m.U/\FrM m m:=⟨c,hox,.refl,hs,hu,.refl _⟩
 unfold trunc
 split
 ·rename_i id sz a b
  split
  ·rename_i e ty l hob
   cases hb:(isZ a&&Nat.beq sz (size ty)) with
   |false=>exact triv
   |true=>
    obtain⟨b1,b2⟩:=Bool.and_eq_true_iff.1 hb
    have b1:=isZ_eq b1
    have b2:=beq_eq b2
    subst b1 b2
    obtain⟨ad,n,cap,hH,hv,hab1,hab2,hab3⟩:=srel_sub hs
    have hid:id<m.nx:=hu
    have hne:id≠m.nx:=by omega
    have eob:lookO ((m.nx,some (.row e ty (l.take b.toNat)))::(id,none)::m.ob)=put (put m.obs id none) m.nx (some (.row e ty (l.take b.toNat))):=by
     rw[lookO_cons,lookO_cons];rfl
    have e0:(if cap=0 then ad else ad.map (·.add 0))=ad:=by split<;>cases ad<;>simp[Addr.add]
    rw[subV_len,Int.toNat_zero,Nat.zero_mul,Nat.sub_zero,Nat.sub_zero,e0] at hv
    obtain⟨_,_,hrow⟩:=hox.objs id _ hob
    have hrow':RowAt w c.S v (c.F id) e ty (l.take b.toNat):=by
     obtain⟨h0,⟨e1,⟨ad',e2⟩,e3⟩|⟨g,cap',cur,e2,e3,e4,e5,e6,e7,e8⟩⟩:=hrow
     ·rw[hH] at e2
      injection e2 with q1 q2 q3
      subst q1 q2 q3
      refine⟨h0,.inl ⟨by rw[e1];simp,⟨ad,?_⟩,e3⟩⟩
      rw[hv];congr 1;omega
     ·rw[hH] at e2
      injection e2 with q1 q2 q3
      subst q1 q2 q3
      have hl:(l.take b.toNat).length=b.toNat:=by rw[List.length_take];omega
      refine⟨h0,.inr ⟨g,cap,cur,by rw[hv,hl],e3,e4,by rw[hl];omega,e6,e7,λi x hx j d hd=>e8 i x ?_ j d hd⟩⟩
      rw[List.getElem?_take] at hx
      split at hx
      ·exact hx
      ·cases hx
    have main:=hox.upd (c':=⟨c.S,put c.H m.nx v,put c.F m.nx (c.F id),c.T⟩) (w':=w) (ob':=put (put m.obs id none) m.nx (some (.row e ty (l.take b.toNat)))) (U':=λi=>i<m.nx+1) m.nx (.row e ty (l.take b.toNat)) (λi=>i≠id/\i≠m.nx)
     (λi (hi:i<m.nx)=>(by omega:i<m.nx+1)) (Nat.lt_succ_self _) (put_same _ _ _) (λi y hi e1=>by
      rw[put_ne _ _ e1] at hi
      by_cases e2:i=id
      ·subst e2;rw[put_same] at hi;cases hi
      ·rw[put_ne _ _ e2] at hi;exact⟨⟨e2,e1⟩,hi⟩) (λe1=>e1.2 rfl) (λi (hi:i<m.nx)=>⟨put_ne _ _ (by omega),put_ne _ _ (by omega)⟩) (λ_ _ h=>h) (λ_ _ h=> .inl h) (λb o hb=>hox.sb b o hb)
     rfl rfl rfl rfl (Nat.le_refl _) (λ_ _ _=>rfl) (by
      show RowAt w c.S (put c.H m.nx v m.nx) (put c.F m.nx (c.F id) m.nx) e ty (l.take b.toNat)
      rw[put_same,put_same];exact hrow') trivial (λ_ k hk=>by
      have hk:put c.F m.nx (c.F id) m.nx k:=hk
      rw[put_same] at hk
      exact .inl ⟨id,_,hob,rfl,λq=>q.1 rfl,hk⟩) (λ_ k hk=>by
      have hk:put c.F m.nx (c.F id) m.nx k:=hk
      rw[put_same] at hk
      exact⟨(hox.fb id _ hob rfl k hk).1,(hox.fb id _ hob rfl k hk).2.1⟩)
    refine⟨⟨c.S,put c.H m.nx v,put c.F m.nx (c.F id),c.T⟩,?_,?_,?_,Nat.lt_succ_self _,⟨⟨[_,_],rfl⟩,λh=>h⟩⟩
    ·show OX (lookO _) _ _ _ _
     rw[cond_true,eob];exact main.1
    ·show Tr _ _ _ _ (lookO _) _ _ _
     rw[cond_true,eob];exact main.2
    ·have:=SRel.os (c:=(⟨c.S,put c.H m.nx v,put c.F m.nx (c.F id),c.T⟩:Cx)) (w:=w) m.nx
     have e1:put c.H m.nx v m.nx=v:=put_same _ _ _
     rw[show (⟨c.S,put c.H m.nx v,put c.F m.nx (c.F id),c.T⟩:Cx).H m.nx=v from e1] at this
     exact this
  ·exact triv
 ·exact triv
def kT (k:SV->MS->Prop)(r:SV)(m:MS):Prop:=k (trunc r m).1 (trunc r m).2
def retK (P:Program)(rs:List ResultVar)(k:SV->MS->Prop):Exit->St->Prop
 | .normal,st=>match resS P st rs with
  |some r=>kT k r st.ms
  |none=>False
 | .ret,st=>match resS P st rs with
  |some r=>kT k r st.ms
  |none=>False
 |_,_=>False
def purL (P:Program):List Oper->St->Option St
 |[],st=>some st
 |o::r,st=>match o.guard,pop P st.ms.mem st.ev o with
  |none,some R=>bif dstOK st o.dst&&R.ps.isEmpty then purL P r (st.set o.dst R.r st.ms) else none
  |_,_=>none
theorem purL_ok {all:Array Oper}{Q:Exit->Act->World->Prop}{od:Oper}:∀{ops:List Oper}{st st':St},purL P ops st=some st'->∀{a:Act}{w:World}{c:Cx},RX st a w c->(∀a',Step st a w c st' a' w c->wpList P all Q [od] a' w)->wpList P all Q (ops++[od]) a w
 |[],st,st',h,a,w,c,hr,hq=>by
  simp only[purL,Option.some.injEq] at h
  subst h
  exact hq a (.refl hr)
 |o::r,st,st',h,a,w,c,hr,hq=>by
  unfold purL at h
  split at h
  ·rename_i R hg hR
   cases hb:(dstOK st o.dst&&R.ps.isEmpty) with
   |false=>rw[hb] at h;cases h
   |true=>
    rw[hb] at h
    obtain⟨b1,b2⟩:=Bool.and_eq_true_iff.1 hb
    have b2:R.ps=[]:=by simpa using b2
    obtain⟨v,h1,h2,h3,h4⟩:=pop_run (P:=P) hR hr.rels (by rw[b2];trivial)
    refine wpList_plain hg λK hK=> ?_
    have hs:Step st a w c (st.set o.dst R.r st.ms) (a.put o.dst v) w c:=⟨hr.set .refl hr.ox b1 h2 h3,.refl,defers_put a o.dst v,Fr.set (.refl _)⟩
    have:=hK (a.put o.dst v) w (purL_ok h hs.rx λa' hs'=>hq a' (hs.trans hs'))
    unfold Oper.wp
    rw[h1]
    exact this
  ·cases h
def deferOf (od:Oper):Option (Operand×Array Operand):=match od.guard,od.op,od.dst with
 |none,.defer ⟨.value v,args,_⟩,none=>some (v,args)
 |_,_,_=>none
def deferParts:Code->Option (Code×Array Oper×List Oper×Oper×Code)
 | .seq x (.seq (.region _ ops false) y)=>match ops.toList.reverse with
  |od::pre=>match deferOf od with
   |some _=>some (x,ops,pre.reverse,od,y)
   |none=>none
  |[]=>none
 |_=>none
theorem deferParts_spec {c x y:Code}{ops:Array Oper}{pre:List Oper}{od:Oper}(h:deferParts c=some (x,ops,pre,od,y)):∃id,c= .seq x (.seq (.region id ops false) y)/\ops.toList=pre++[od]:=by
 unfold deferParts at h
 split at h
 ·rename_i x' id ops' y'
  split at h
  ·rename_i od' pre' hrev
   split at h
   ·injection h with h
    injection h with h1 h
    injection h with h2 h
    injection h with h3 h
    injection h with h4 h5
    subst h1 h2 h3 h4 h5
    refine⟨id,rfl,?_⟩
    have:=congrArg List.reverse hrev
    simpa using this
   ·cases h
  ·cases h
 ·cases h
def defK (P:Program)(rg:RG)(fn fg:Func)(cg:Code)(ss:List SV)(k:SV->MS->Prop)(st3:St):Prop:=
 aeval rg (λ_=>none) cg (entry ss st3.ms fg.ntmps) λe st4=>match e with
  | .normal=>match resS P st4 fg.results.toList,resS P (st3.set none .un st4.ms) fn.results.toList with
   |some _,some r=>kT k r st4.ms
   |_,_=>False
  | .ret=>match resS P st4 fg.results.toList,resS P (st3.set none .un st4.ms) fn.results.toList with
   |some _,some r=>kT k r st4.ms
   |_,_=>False
  |_=>False
def bodyK (P:Program)(rg:RG)(jn:Nat->Option Shape)(fn:Func)(c:Code)(st0:St)(k:SV->MS->Prop):Prop:=
 match deferParts c with
 |none=>aeval rg jn c st0 (retK P fn.results.toList k)
 |some (x,ops,pre,od,y)=>aeval rg jn x st0 λe st1=>match e with
  | .normal=>match purL P pre st1,deferOf od with
   |some st2,some (v,args)=>match fnOf (st2.ev v) with
    |some (g,cs)=>match P.funcs[g]? with
     |some fg=>match fg.body with
      |some cg=>bif Nat.ble (args.toList.map st2.ev++cs).length fg.ntmps&&callable P g then aeval rg jn y st2 λe st3=>match e with
       | .normal=>defK P rg fn fg cg (args.toList.map st2.ev++cs) k st3
       | .ret=>defK P rg fn fg cg (args.toList.map st2.ev++cs) k st3
       |_=>False
       else False
      |none=>False
     |none=>False
    |none=>False
   |_,_=>False
  |_=>False
def inline (P:Program)(rg:RG)(jn:Nat->Option Shape)(f:FuncId)(ss:List SV)(m:MS)(k:SV->MS->Prop):Prop:=
 match P.funcs[f]? with
 |some fn=>match fn.body with
  |some c=>bif Nat.ble ss.length fn.ntmps then match jn 0 with
   |none=>bodyK P rg jn fn c (entry ss m fn.ntmps) k
   |some s=>JOIN s.tys (lam s.tys λv=>k (look (s.inst ⟨[],m,1,[],[]⟩ v).sl 0) (s.inst ⟨[],m,1,[],[]⟩ v).ms) λJ=>bodyK P rg jn fn c (entry ss m fn.ntmps) λr m'=>match s.fit ⟨[],m,1,[],[]⟩ ⟨[(0,noC r)],m',1,[],[]⟩ with
    |some v=>app s.tys J v
    |none=>False
   else False
  |none=>False
 |none=>False
theorem resS_fin {st:St}{fn:Func}{r:SV}(hres:resS P st fn.results.toList=some r){a:Act}{w w0:World}{c c0:Cx}{m:MS}(hr:RX st a w c)(htr:TrM m w0 c0 st.ms w c)(hfr:FrM m st.ms){k:SV->MS->Prop}(hk:kT k r st.ms):
 ∃v,(results fn a.tmps).run P w= .ok v w/\∃v' r m' c',Ending.returned v= .returned v'/\k r m'/\FrM m m'/\OXM m' w c'/\TrM m w0 c0 m' w c'/\SRel c' w r v'/\r.inU m'.U:=by
 obtain⟨v,h1,h2,h3⟩:=resS_ok hres hr
 obtain⟨c',k1,k2,k3,k4,k5⟩:=trunc_ok hr.ox h2 h3
 exact⟨v,h1,v,_,_,c',rfl,hk,hfr.trans k5,k1,htr.trans k2,k3,k4⟩
theorem inline_ok {rg:RG}{jn:Nat->Option Shape}(hrg:RegOK P rg):CallOK P (inline P rg jn):=by
 intro f ss m k h us w c hox hl hr
 unfold inline at h
 split at h
 ·rename_i fn hf
  split at h
  ·rename_i body hb
   cases hn:Nat.ble ss.length fn.ntmps with
   |false=>rw[hn] at h;exact h.elim
   |true=>
    rw[hn] at h
    have hn:=Nat.le_of_ble_eq_true hn
    have main:∀(k':SV->MS->Prop),bodyK P rg jn fn body (entry ss m fn.ntmps) k'->Calls P f us.toArray w λe w'=>∃v r m' c',e= .returned v/\k' r m'/\FrM m m'/\OXM m' w' c'/\TrM m w c m' w' c'/\SRel c' w' r v/\r.inU m'.U:=by
     intro k' h
     unfold bodyK at h
     split at h
     ·refine calls_of_wp hf hb (wp_mono (aeval_ok hrg body _ _ h _ w c (entry_rx hox hl hn hr)) ?_)
      rintro e a' w' ⟨st',c',hs,hq⟩
      have fin:(match resS P st' fn.results.toList with|some r=>kT k' r st'.ms|none=>False)->a'.defers=[]/\∃v,(results fn a'.tmps).run P w'= .ok v w'/\∃v' r m' c',Ending.returned v= .returned v'/\k' r m'/\FrM m m'/\OXM m' w' c'/\TrM m w c m' w' c'/\SRel c' w' r v'/\r.inU m'.U:=by
       intro hq
       split at hq
       ·rename_i r hres
        exact⟨hs.df,resS_fin hres hs.rx hs.tr hs.fr.2.2 hq⟩
       ·exact hq.elim
      cases e with
      |normal=>exact fin hq
      |ret=>exact fin hq
      |_=>exact hq.elim
     ·rename_i x ops pre od y hdp
      obtain⟨id,hbody,hops⟩:=deferParts_spec hdp
      have hA:=h
      clear h
      have hb':=hb
      rw[hbody] at hb'
      refine calls_of_wp_defers hf hb' (wp_seq (wp_mono (aeval_ok hrg x _ _ hA _ w c (entry_rx hox hl hn hr)) ?_))
      rintro e a1 w1 ⟨st1,c1,hs1,hq⟩
      cases e with
      |normal=>
       simp only at hq
       split at hq
       ·rename_i st2 v args hpu hdo
        split at hq
        ·rename_i g cs hfn
         split at hq
         ·rename_i fg hfg
          split at hq
          ·rename_i cg hcg
           cases hb2:(Nat.ble (args.toList.map st2.ev++cs).length fg.ntmps&&callable P g) with
           |false=>rw[hb2] at hq;exact hq.elim
           |true=>
            rw[hb2] at hq
            simp only[cond_true] at hq
            obtain⟨b1,b2⟩:=Bool.and_eq_true_iff.1 hb2
            have b1:=Nat.le_of_ble_eq_true b1
            refine wp_seq (wp_region_list ?_)
            rw[hops]
            refine purL_ok hpu hs1.rx λa2 hs2=> ?_
            unfold deferOf at hdo
            split at hdo
            ·rename_i v' args' tys hgd hop hdst
             injection hdo with hdo
             injection hdo with q1 q2
             subst q1 q2
             obtain⟨us2,hu2,hl2,hr2⟩:=fnOf_rel hfn (hs2.rx.ev v') (hs2.rx.evU v')
             refine wpList_plain hgd λK hK=> ?_
             have hrun:(execOp a2.eval od).run P w1= .ok (.defer ⟨.fn (.func g) us2.toArray,args'.map a2.eval⟩) w1:=by
              simp[execOp,hop,resolve,hu2,Deferred.ofValue]
             have hd0:a2.defers=[]:=hs2.df.trans hs1.df
             unfold Oper.wp
             rw[hrun,Oper.upon_defer,hdst]
             refine hK _ _ (wpList_nil ?_)
             obtain⟨a3,ha3⟩:∃a3,a3=Act.put {a2 with defers:=⟨.fn (.func g) us2.toArray,args'.map a2.eval⟩::a2.defers} none undef:=⟨_,rfl⟩
             have e3t:a3.tmps=a2.tmps:=by rw[ha3];rfl
             have e3d:a3.defers=[⟨.fn (.func g) us2.toArray,args'.map a2.eval⟩]:=by rw[ha3];show _::a2.defers=_;rw[hd0]
             rw[<-ha3]
             have hrx3:RX st2 a3 w1 c1:=⟨hs2.rx.ox,by rw[e3t];exact hs2.rx.sz,λx u hx=>hs2.rx.sl x u (by rw[<-e3t];exact hx),hs2.rx.us,hs2.rx.cn⟩
             show y.wp P _ a3 w1
             refine wp_mono (aeval_ok hrg y _ _ hq a3 w1 c1 hrx3) ?_
             rintro e a4 w4 ⟨st3,c3,hs3,hq⟩
             have fin:defK P rg fn fg cg (args'.toList.map st2.ev++cs) k' st3->Leaves P fn a4.tmps (λe w'=>∃v r m' c',e= .returned v/\k' r m'/\FrM m m'/\OXM m' w' c'/\TrM m w c m' w' c'/\SRel c' w' r v/\r.inU m'.U) a4.defers .returning w4:=by
              intro hq
              rw[hs3.df,e3d]
              refine leaves_cons (f:=g) (args:=args'.map a2.eval++us2.toArray) (by intro h;cases h) (by simp[invoke,run_call b2]) ?_
              have hargs:∀(i:Nat)(s:SV)(u:Value),(args'.toList.map st2.ev++cs)[i]? =some s->(args'.toList.map a2.eval++us2)[i]? =some u->SRel c3 w4 s u/\s.inU st3.ms.U:=λi s u hi hu=>by
               have base:SRel c1 w1 s u/\s.inU st2.ms.U:=by
                by_cases hil:i<args'.toList.length
                ·rw[List.getElem?_append_left (by simpa using hil)] at hi hu
                 rw[List.getElem?_map,Option.map_eq_some_iff] at hi hu
                 obtain⟨z,hz,rfl⟩:=hi
                 obtain⟨z',hz',rfl⟩:=hu
                 rw[hz] at hz'
                 injection hz' with hz'
                 subst hz'
                 exact⟨hs2.rx.ev z,hs2.rx.evU z⟩
                ·rw[List.getElem?_append_right (by simpa using hil)] at hi hu
                 simp only[List.length_map] at hi hu
                 exact hr2 _ s u hi hu
               exact⟨hs3.tr.srel hrx3.ox base.1 base.2,SV.inU_mono hs3.tr.uU _ base.2⟩
              have ent:=entry_rx (us:=args'.toList.map a2.eval++us2) hs3.rx.ox (by simp[hl2]) b1 hargs
              have e5:(args'.toList.map a2.eval++us2).toArray=args'.map a2.eval++us2.toArray:=by apply Array.ext';simp
              rw[e5] at ent
              refine CallsD.mono (callsD_of_wp (R:=λe w5=>∃v c5 st5,e= .returned v/\OXM st5 w5 c5/\TrM st3.ms w4 c3 st5 w5 c5/\FrM st3.ms st5/\∃r,resS P (st3.set none .un st5) fn.results.toList=some r/\kT k' r st5) hfg hcg (wp_mono (aeval_ok hrg cg _ _ hq _ w4 c3 ent) ?_)) ?_
              ·rintro e a5 w5 ⟨st4,c4,hs4,hq4⟩
               have fin4:(match resS P st4 fg.results.toList,resS P (st3.set none .un st4.ms) fn.results.toList with|some _,some r=>kT k' r st4.ms|_,_=>False)->a5.defers=[]/\∃v,(results fg a5.tmps).run P w5= .ok v w5/\∃v' c5 st5,Ending.returned v= .returned v'/\OXM st5 w5 c5/\TrM st3.ms w4 c3 st5 w5 c5/\FrM st3.ms st5/\∃r,resS P (st3.set none .un st5) fn.results.toList=some r/\kT k' r st5:=by
                intro hq4
                split at hq4
                ·rename_i r4 r h4 h5
                 obtain⟨v4,g1,g2,g3⟩:=resS_ok h4 hs4.rx
                 exact⟨hs4.df,v4,g1,v4,c4,st4.ms,rfl,hs4.rx.ox,hs4.tr,hs4.fr.2.2,r,h5,hq4⟩
                ·exact hq4.elim
               cases e with
               |normal=>exact fin4 hq4
               |ret=>exact fin4 hq4
               |_=>exact hq4.elim
              ·rintro e u' w5 ⟨rfl,v5,c5,st5,rfl,k1,k2,k3,r,k4,k5⟩
               have hrx:RX (st3.set none .un st5) (a4.put none undef) w5 c5:=hs3.rx.set k2 k1 (d:=none) rfl (.un _) trivial
               exact resS_fin (m:=m) (w0:=w) (c0:=c) k4 hrx (((hs1.tr.trans hs2.tr).trans hs3.tr).trans k2) (((hs1.fr.2.2.trans hs2.fr.2.2).trans hs3.fr.2.2).trans k3) k5
             cases e with
             |normal=>exact fin hq
             |ret=>exact fin hq
             |_=>exact hq.elim
            ·cases hdo
          ·exact hq.elim
         ·exact hq.elim
        ·exact hq.elim
       ·exact hq.elim
      |_=>exact hq.elim
    simp only[cond_true] at h
    split at h
    ·exact main k h
    ·rename_i s _
     obtain⟨h⟩:=h
     refine (main _ h).mono ?_
     rintro e w' ⟨v,r,m',c',rfl,hq,hfr,hox',htr,hs,hu⟩
     split at hq
     ·rename_i y hy
      rw[app_lam] at hq
      have hb0:RX ⟨[],m,1,[],[]⟩ {tmps:= #[undef],defers:=[]} w c:=⟨hox,rfl,λx u _=> .un u,λx=>trivial,λx q wt g y hx=>by cases hx⟩
      have hst:Step ⟨[],m,1,[],[]⟩ {tmps:= #[undef],defers:=[]} w c ⟨[(0,noC r)],m',1,[],[]⟩ {tmps:= #[v],defers:=[]} w' c':=by
       refine⟨⟨hox',rfl,λx u hx=> ?_,λx=> ?_,λx q wt g y hx=> ?_⟩,htr,rfl,rfl,⟨[(0,noC r)],rfl⟩,hfr⟩
       ·show SRel c' w' (look [(0,noC r)] x) u
        rw[look_cons]
        split
        ·rename_i e
         subst e
         have:v=u:=by simpa using hx
         subst this
         exact noC_rel hs
        ·exact .un u
       ·show (look [(0,noC r)] x).inU _
        rw[look_cons]
        split
        ·exact noC_inU hu
        ·trivial
       ·have hx:look [(0,noC r)] x= .cnd q wt g y:=hx
        rw[look_cons] at hx
        split at hx
        ·exact absurd hx noC_ne
        ·cases hx
      obtain⟨c2,h2⟩:=s.fit_ok hy hb0 hst
      exact⟨v,_,_,c2,rfl,hq,h2.fr.2.2,h2.rx.ox,h2.tr,h2.rx.sl 0 v rfl,h2.rx.us 0⟩
     ·exact hq.elim
  ·exact h.elim
 ·exact h.elim
mutual
def D.flat:D->Bool
 | .v _=>true
 | .agg cs=>flatL cs
 | .tup cs=>flatL cs
 |_=>false
def flatL:List D->Bool
 |[]=>true
 |x::r=>x.flat&&flatL r
end
theorem flatL_get:∀{cs:List D},flatL cs=true->∀{i:Nat}{c:D},cs[i]? =some c->c.flat=true
 |[],_,i,c,h=>by simp at h
 |x::r,hf,i,c,h=>by
  simp only[flatL,Bool.and_eq_true] at hf
  cases i with
  |zero=>simp at h;subst h;exact hf.1
  |succ i=>simp at h;exact flatL_get hf.2 h
theorem Rd.flat {S S':Cells}{w w':World}{x:D}{u:Value}(h:Rd S w x u):x.flat=true->Rd S' w' x u:=by
 induction h with
 |v x=>exact λ_=> .v x
 |fn f cs us hl h ih=>exact λhf=>by simp[D.flat] at hf
 |agg cs us hl h1 h ih=>exact λhf=> .agg cs us hl h1 λi c u hc hu=>ih i c u hc hu (flatL_get (by simpa [D.flat] using hf) hc)
 |tup cs us hl h ih=>exact λhf=> .tup cs us hl λi c u hc hu=>ih i c u hc hu (flatL_get (by simpa [D.flat] using hf) hc)
 |sl=>exact λhf=>by simp[D.flat] at hf
 |p=>exact λhf=>by simp[D.flat] at hf
def flatA:Ty->Bool
 | .sl _=>false
 | .st _=>false
 |_=>true
def flatT:Ty->Bool
 | .st s=>(flds s).all flatA
 |t=>flatA t
theorem encA_flat:∀{t:Ty}{x:den t},flatA t=true->(encA t x).flat=true
 | .int _,_,_=>rfl
 | .bool,_,_=>rfl
 | .str,_,_=>rfl
 | .sl _,_,h=>by cases h
 | .st _,_,h=>by cases h
theorem encs_flat:∀{ts:List Ty}{x:dens ts},ts.all flatA=true->flatL (encs ts x)=true
 |[],_,_=>rfl
 |t::ts,x,h=>by
  obtain⟨h1,h2⟩:=Bool.and_eq_true_iff.1 (show (flatA t&&ts.all flatA)=true by simpa using h)
  show (_&&_)=true
  rw[encA_flat h1,encs_flat h2];rfl
theorem tv_flat:∀{t:Ty}{x:den t},flatT t=true->(tv t x).flat=true
 | .st s,x,h=>encs_flat (ts:=flds s) h
 | .int _,_,_=>rfl
 | .bool,_,_=>rfl
 | .str,_,_=>rfl
 | .sl _,_,h=>by cases h
theorem enc_flat:∀{t:Ty}{x:den t},flatT t=true->flatL (enc t x)=true
 | .st s,x,h=>encs_flat (ts:=flds s) h
 | .int _,_,_=>rfl
 | .bool,_,_=>rfl
 | .str,_,_=>rfl
 | .sl _,_,h=>by cases h
mutual
def shFlat:Sh->Bool
 | .dat t=>flatT t
 | .own _ t=>flatT t
 | .agg cs=>shFlatL cs
 | .tup cs=>shFlatL cs
 | .un=>true
 |_=>false
def shFlatL:List Sh->Bool
 |[]=>true
 |s::r=>shFlat s&&shFlatL r
end
mutual
def shPure:Sh->Bool
 | .dat _=>true
 | .own _ _=>true
 | .agg cs=>shPureL cs
 | .tup cs=>shPureL cs
 | .un=>true
 |_=>false
def shPureL:List Sh->Bool
 |[]=>true
 |s::r=>shPure s&&shPureL r
end
mutual
theorem instS_rows:∀(s:Sh)(acc:List Ty)(v:dens (shT s acc))(k k':Nat),(instS s acc v k).2=(instS s acc v k').2
 | .dat t,acc,v,k,k'=>rfl
 | .own e t,acc,v,k,k'=>rfl
 | .bx id off,acc,v,k,k'=>rfl
 | .rf id,acc,v,k,k'=>rfl
 | .tp,acc,v,k,k'=>rfl
 | .un,acc,v,k,k'=>rfl
 | .agg cs,acc,v,k,k'=>instL_rows cs acc v k k'
 | .tup cs,acc,v,k,k'=>instL_rows cs acc v k k'
theorem instL_rows:∀(ss:List Sh)(acc:List Ty)(v:dens (shTL ss acc))(k k':Nat),(instL ss acc v k).2=(instL ss acc v k').2
 |[],acc,v,k,k'=>rfl
 |s::ss,acc,v,k,k'=>by
  have h1:=instS_rows s (shTL ss acc) v k k'
  have hA:∀k,(instL (s::ss) acc v k).2=((instS s (shTL ss acc) v k).2.1++(instL ss acc (instS s (shTL ss acc) v k).2.2 (k+(instS s (shTL ss acc) v k).2.1.length)).2.1,(instL ss acc (instS s (shTL ss acc) v k).2.2 (k+(instS s (shTL ss acc) v k).2.1.length)).2.2):=λ_=>rfl
  rw[hA,hA,h1,instL_rows ss acc _ (k+(instS s (shTL ss acc) v k').2.1.length) (k'+(instS s (shTL ss acc) v k').2.1.length)]
end
mutual
theorem instS_shift {c c2:Cx}{w:World}{n:Nat}{al:Bool}(hS:al=true->∀b o,c.S b o->c2.S b o)(hH:∀i,c2.H (n+i)=c.H i):∀(s:Sh)(acc:List Ty)(v:dens (shT s acc))(k:Nat),shPure s=true->(al||shFlat s)=true->∀{u:Value},SRel c w (instS s acc v k).1 u->SRel c2 w (instS s acc v (n+k)).1 u
 | .dat t,acc,v,k,_,hf,u,hr=>by
  refine .d _ _ ?_
  have hr:=srel_d hr
  cases al with
  |true=>exact hr.mono (hS rfl) (λ_ _ _=>rfl)
  |false=>exact hr.flat (tv_flat (show flatT t=true from by simpa [shFlat] using hf))
 | .own e t,acc,v,k,_,hf,u,hr=>by
  rw[srel_os hr,<-hH]
  exact .os _
 | .bx id off,acc,v,k,hp,_,u,hr=>by cases hp
 | .rf id,acc,v,k,hp,_,u,hr=>by cases hp
 | .tp,acc,v,k,hp,_,u,hr=>by cases hp
 | .un,acc,v,k,_,_,u,hr=> .un u
 | .agg cs,acc,v,k,hp,hf,u,hr=>by
  have hr:SRel c w (mkAgg (instL cs acc v k).1) u:=hr
  obtain⟨us,rfl,hl,h1,h2,_⟩:∃us:List Value,u= .agg us.toArray/\us.length=(instL cs acc v k).1.length/\(∀u∈us,u.oneCell'=true)/\(∀(i:Nat)(s:SV)(u:Value),(instL cs acc v k).1[i]? =some s->us[i]? =some u->SRel c w s u)/\True:=by
   unfold mkAgg at hr
   split at hr
   ·rename_i ds hd
    have hd:=dOf_spec hd
    cases srel_d hr with
    |agg _ us hl h1 h2=>
     refine⟨us,rfl,by rw[hd];simp[hl],h1,λi s u hs hu=> ?_,trivial⟩
     rw[hd,List.getElem?_map,Option.map_eq_some_iff] at hs
     obtain⟨x,hx,rfl⟩:=hs
     exact .d _ _ (h2 i x u hx hu)
   ·obtain⟨us,e1,e2,e3,e4⟩:=srel_agg hr
    exact⟨us,e1,e2,e3,e4,trivial⟩
  obtain⟨k1,k2⟩:=instL_shift hS hH cs acc v k hp hf
  show SRel c2 w (mkAgg (instL cs acc v (n+k)).1) _
  exact srel_mkAgg (by omega) h1 λi s u hs hu=>by
   have hi:i<(instL cs acc v k).1.length:=by have:=(List.getElem?_eq_some_iff.1 hu).1;omega
   exact k2 i _ s (List.getElem?_eq_getElem hi) hs (h2 i _ u (List.getElem?_eq_getElem hi) hu)
 | .tup cs,acc,v,k,hp,hf,u,hr=>by
  have hr:SRel c w (.tup (instL cs acc v k).1) u:=hr
  obtain⟨k1,k2⟩:=instL_shift hS hH cs acc v k hp hf
  cases hr with
  |tup _ us hl h2=>
   show SRel c2 w (.tup (instL cs acc v (n+k)).1) _
   exact .tup _ us (by omega) λi s u hs hu=>by
    have hi:i<(instL cs acc v k).1.length:=by have:=(List.getElem?_eq_some_iff.1 hu).1;omega
    exact k2 i _ s (List.getElem?_eq_getElem hi) hs (h2 i _ u (List.getElem?_eq_getElem hi) hu)
theorem instL_shift {c c2:Cx}{w:World}{n:Nat}{al:Bool}(hS:al=true->∀b o,c.S b o->c2.S b o)(hH:∀i,c2.H (n+i)=c.H i):∀(ss:List Sh)(acc:List Ty)(v:dens (shTL ss acc))(k:Nat),shPureL ss=true->(al||shFlatL ss)=true->(instL ss acc v k).1.length=(instL ss acc v (n+k)).1.length/\∀(i:Nat)(x y:SV),(instL ss acc v k).1[i]? =some x->(instL ss acc v (n+k)).1[i]? =some y->∀{u:Value},SRel c w x u->SRel c2 w y u
 |[],acc,v,k,_,_=>⟨rfl,λi x y h=>by simp[instL] at h⟩
 |s::ss,acc,v,k,hp,hf=>by
  obtain⟨p1,p2⟩:=Bool.and_eq_true_iff.1 (show (shPure s&&shPureL ss)=true from hp)
  have f12:(al||shFlat s)=true/\(al||shFlatL ss)=true:=by
   cases al with
   |true=>exact⟨rfl,rfl⟩
   |false=>
    have hf:(shFlat s&&shFlatL ss)=true:=by simpa [shFlatL] using hf
    obtain⟨a1,a2⟩:=Bool.and_eq_true_iff.1 hf
    exact⟨by simpa using a1,by simpa using a2⟩
  have e:=instS_rows s (shTL ss acc) v k (n+k)
  have e1:(instS s (shTL ss acc) v k).2.1=(instS s (shTL ss acc) v (n+k)).2.1:=by rw[e]
  have e2:(instS s (shTL ss acc) v k).2.2=(instS s (shTL ss acc) v (n+k)).2.2:=by rw[e]
  obtain⟨q1,q2⟩:=instL_shift hS hH ss acc (instS s (shTL ss acc) v k).2.2 (k+(instS s (shTL ss acc) v k).2.1.length) p2 f12.2
  have hA:(instL (s::ss) acc v k).1=(instS s (shTL ss acc) v k).1::(instL ss acc (instS s (shTL ss acc) v k).2.2 (k+(instS s (shTL ss acc) v k).2.1.length)).1:=rfl
  have hB:(instL (s::ss) acc v (n+k)).1=(instS s (shTL ss acc) v (n+k)).1::(instL ss acc (instS s (shTL ss acc) v k).2.2 (n+(k+(instS s (shTL ss acc) v k).2.1.length))).1:=by
   show _::(instL ss acc (instS s (shTL ss acc) v (n+k)).2.2 (n+k+(instS s (shTL ss acc) v (n+k)).2.1.length)).1=_
   rw[<-e2,<-e1,Nat.add_assoc]
  rw[hA,hB]
  refine⟨by simp[q1],λi x y hx hy u hr=> ?_⟩
  cases i with
  |zero=>simp at hx hy;subst hx hy;exact instS_shift hS hH s (shTL ss acc) v k p1 f12.1 hr
  |succ i=>simp at hx hy;exact q2 i x y hx hy hr
end
mutual
theorem instS_inU {n:Nat}:∀(s:Sh)(acc:List Ty)(v:dens (shT s acc))(k:Nat),shPure s=true->(instS s acc v k).1.inU λi=>k<=i/\i<k+(instS s acc v k).2.1.length
 | .dat t,acc,v,k,_=>trivial
 | .own e t,acc,v,k,_=>⟨Nat.le_refl _,by show k<k+1;omega⟩
 | .bx id off,acc,v,k,hp=>by cases hp
 | .rf id,acc,v,k,hp=>by cases hp
 | .tp,acc,v,k,hp=>by cases hp
 | .un,acc,v,k,_=>trivial
 | .agg cs,acc,v,k,hp=>mkAgg_inU (instL_inU (n:=n) cs acc v k hp)
 | .tup cs,acc,v,k,hp=>instL_inU (n:=n) cs acc v k hp
theorem instL_inU {n:Nat}:∀(ss:List Sh)(acc:List Ty)(v:dens (shTL ss acc))(k:Nat),shPureL ss=true->inUL (λi=>k<=i/\i<k+(instL ss acc v k).2.1.length) (instL ss acc v k).1
 |[],acc,v,k,_=>trivial
 |s::ss,acc,v,k,hp=>by
  obtain⟨p1,p2⟩:=Bool.and_eq_true_iff.1 (show (shPure s&&shPureL ss)=true from hp)
  have h1:=instS_inU (n:=n) s (shTL ss acc) v k p1
  have h2:=instL_inU (n:=n) ss acc (instS s (shTL ss acc) v k).2.2 (k+(instS s (shTL ss acc) v k).2.1.length) p2
  have e:(instL (s::ss) acc v k).2.1.length=(instS s (shTL ss acc) v k).2.1.length+(instL ss acc (instS s (shTL ss acc) v k).2.2 (k+(instS s (shTL ss acc) v k).2.1.length)).2.1.length:=by
   show ((instS s (shTL ss acc) v k).2.1++_).length=_
   rw[List.length_append]
  rw[e]
  exact⟨SV.inU_mono (λi hi=>by omega) _ h1,inUL_mono (λi hi=>by omega) _ h2⟩
end
structure Spec where
 f:FuncId
 tp:Bool
 al:Bool
 ts:List Ty
 rs:Sh
 pt:dens ts->(dens (shT rs [])->Prop)->Prop
def tvs:(ts:List Ty)->dens ts->List D
 |[],_=>[]
 |t::ts,x=>tv t x.1::tvs ts x.2
def undoL:(ts:List Ty)->List D->Option (dens ts)
 |[],[]=>some ()
 |t::ts,d::ds=>match undoT t d,undoL ts ds with
  |some x,some r=>some (x,r)
  |_,_=>none
 |_,_=>none
theorem undoL_rd:∀{ts:List Ty}{ds:List D}{x:dens ts},undoL ts ds=some x->ds.length=ts.length/\∀(i:Nat)(c d:D),(tvs ts x)[i]? =some c->ds[i]? =some d->∀{S:Cells}{w:World}{u:Value},Rd S w d u->Rd S w c u
 |[],[],x,_=>⟨rfl,λi c d h=>by simp[tvs] at h⟩
 |[],_::_,x,h=>by simp[undoL] at h
 |_::_,[],x,h=>by simp[undoL] at h
 |t::ts,d::ds,x,h=>by
  unfold undoL at h
  split at h
  ·rename_i y r h1 h2
   injection h with h
   subst h
   obtain⟨k1,k2⟩:=undoL_rd h2
   refine⟨by simp[k1],λi c d' hc hd S w u hr=> ?_⟩
   cases i with
   |zero=>simp[tvs] at hc hd;subst hc hd;exact undoT_rd h1 hr
   |succ i=>simp[tvs] at hc hd;exact k2 i c d' hc hd hr
  ·cases h
theorem tvs_len:∀(ts:List Ty)(x:dens ts),(tvs ts x).length=ts.length
 |[],_=>rfl
 |t::ts,x=>by simp[tvs,tvs_len ts x.2]
def MS.add (m:MS)(rows:List Row):MS:=⟨rowsOb m.nx rows++m.ob,m.nx+rows.length,m.tp⟩
def tpArg:Option Nat->List Value->List Value
 |some t,us=> .pointer (some ⟨t,0,none⟩)::us
 |none,us=>us
def TapeC (tp:Bool)(w:World)(S:Cells)(T:Option Nat):Prop:=match tp with
 |true=>∃t,T=some t/\TapeS w t S/\∀k,¬S t k
 |false=>T=none
def cx0 (S:Cells)(T:Option Nat):Cx:=⟨S,λ_=>undef,λ_ _=>False,T⟩
def SpecOK (P:Program)(s:Spec):Prop:=∀x post,s.pt x post->∀w (S:Cells)(T:Option Nat)(us:List Value),(∀b o,S b o->b<w.heap.size)->TapeC s.tp w S T->us.length=s.ts.length->
 (∀(i:Nat)(d:D)(u:Value),(tvs s.ts x)[i]? =some d->us[i]? =some u->Rd S w d u)->
 Calls P s.f (tpArg T us).toArray w λe w'=>∃v y c',e= .returned v/\post y/\OXM (MS.add ⟨[],0,s.tp⟩ (instS s.rs [] y 0).2.1) w' c'/\TrM ⟨[],0,s.tp⟩ w (cx0 S T) (MS.add ⟨[],0,s.tp⟩ (instS s.rs [] y 0).2.1) w' c'/\SRel c' w' (instS s.rs [] y 0).1 v
end RE
end Go.Proofs.YtjcjdgmojkkioaaGreatDoor
