/-
  Texts of the proof of TopAmended, part GW.
-/
import Derived.Test.YtjcjdgmojkkioaaGreatDoorDGC
import Derived.WalkKit
import Derived.WalkSpells
import Derived.WalkLawsBesides
import Derived.BigQuiet
import Derived.Deep.QuietTactic
set_option linter.unusedVariables false
noncomputable section
namespace Go.Proofs.YtjcjdgmojkkioaaGreatDoor
namespace RE
set_option maxRecDepth 100000
open Go.RowKit
open PL
def NewP (a:Option Addr)(len cap:Nat)(w:World)(e:Ending)(w':World):Prop:=∃m,m<=len/\m<=400/\e= .returned (.pointer (some ⟨w.heap.size,0,none⟩))/\w'=w.alloc (.cells #[.slice a m cap,.int .i64 0] 84)
theorem knew_any (a:Option Addr)(len cap:Nat)(w:World)(h1:len<=cap)(h2:cap<=9223372036854775807)(h3:a=none->len=0):Calls Tryz.prog 6 #[.slice a len cap] w (NewP a len cap w):=by
 cases a with
 |none=>
  have h3:=h3 rfl
  subst h3
  go_enter Tryz.func6,Tryz.ntmps6
  go_wp2
  go_ret
  exact⟨0,by omega,by omega,rfl,rfl⟩
 |some x=>
  by_cases hlt:(len:Int)<=400
  ·go_enter Tryz.func6,Tryz.ntmps6
   go_wp2
   go_ret
   refine⟨len,by omega,by omega,rfl,?_⟩
   first|rfl|rw[show (min (len:Int) 400).toNat=len by omega]
  ·have hcap:400<=cap:=by omega
   go_enter Tryz.func6,Tryz.ntmps6
   go_wp2
   go_ret
   refine⟨400,by omega,by omega,rfl,?_⟩
   first|rfl|rw[show (min (len:Int) 400).toNat=400 by omega]
theorem knew_ok:NewOK Tryz.prog 6:=by
 intro l w S u hS hr
 cases hr with
 |sl _ _ ad cap b off f hc hm ha hx h=>
  refine (knew_any ad l.length cap w hc (by unfold maxLen at hm;omega) (λe=> ?_)).mono ?_
  ·rcases ha with ha|ha
   ·rw[ha];rfl
   ·rw[e] at ha;cases ha
  ·rintro e w' ⟨m,hm1,hm2,rfl,rfl⟩
   refine⟨w.heap.size,rfl,Nat.le_refl _,⟨ad,m,cap,0,_,heap_alloc_new w _,Nat.zero_le _,hm2,λhl=> ?_⟩,(Below.refl _ _).alloc (Nat.le_refl _) _⟩
   rcases ha with ha|ha
   ·rw[ha] at hm1;have:m<=0:=hm1;omega
   ·refine⟨b,off,ha,λi hi=> ?_⟩
    have hil:i<l.length:=by omega
    obtain⟨k1,k2,k3⟩:=hx i hil 0 (by decide)
    have hsz:off+i * size (.int .i64)+0=off+i:=by show off+i * 1+0=_;omega
    rw[hsz] at k1 k2
    refine⟨k1,l[i],?_⟩
    rw[World.cell?_of_block (Below.heap_alloc w _ _ (hS _ _ k1)),k2]
    have:=h i l[i] 0 _ (List.getElem?_eq_getElem hil) rfl
    have this:Rd S w (.v (.int .i64 l[i])) (f i 0):=this
    rw[rd_v this]
end RE
end Go.Proofs.YtjcjdgmojkkioaaGreatDoor
