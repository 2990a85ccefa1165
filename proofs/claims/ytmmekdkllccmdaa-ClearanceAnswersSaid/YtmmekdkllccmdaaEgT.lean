/-
  The engine: the tape.
-/
import Derived.Test.YtmmekdkllccmdaaEgJ
import Derived.Test.YtmmekdkllccmdaaKeep
namespace Go.Proofs.Ytmmekdkllccmdaa
open Go.RowKit
set_option linter.unusedVariables false
namespace Eng
abbrev iD (n : Int) : D := .v (.int .i64 n)
abbrev bD (b : Bool) : D := .v (.bool b)
def NextS (S : Cells) (bt : Nat) (n : Int) (w : World) (e : Ending) (w' : World) : Prop :=
  ∃ r : Int, e = .returned (.int .i64 r) ∧ 0 ≤ r ∧ (r < n ∨ r = 0) ∧ TapeS w' bt S ∧ w.grownBy w' (some bt)
theorem tapeS_drewN {w : World} {bt : Nat} {S : Cells} (h : TapeS w bt S) (n : Nat) : TapeS (w.drewN n) bt S := h
set_option maxHeartbeats 400000 in
theorem next_s (S : Cells) (bt : Nat) (n : Int) (h3 : n ≤ 9223372036854775807) (w : World) (h : TapeS w bt S) (hS : ∀ o, ¬ S bt o) :
    Calls Try.prog 19 #[.pointer (some ⟨bt, 0, none⟩), .int .i64 n] w (NextS S bt n w) := by
  obtain ⟨a, len, cap, at_, hb, hat, hlen, hv⟩ := h
  have c0 : w.cell? ⟨bt, 0, none⟩ = some (.slice a len cap) := by simp [World.cell?, hb]
  have c1 : w.cell? ⟨bt, 1, none⟩ = some (.int .i64 (at_ : Nat)) := by simp [World.cell?, hb]
  have f1 : w.frozen? ⟨bt, 1, none⟩ = false := by simp [World.frozen?, hb]
  have hT : TapeS w bt S := ⟨a, len, cap, at_, hb, hat, hlen, hv⟩
  have hfin : ∀ n', NextS S bt n w (.returned (.int .i64 0)) (w.drewN n') := fun n' =>
    ⟨0, rfl, by omega, by omega, tapeS_drewN hT n', Keep.only_drewN (Keep.grownBy_refl w _) n'⟩
  have hmd : ∀ (z : Int) (W : World), TapeS W bt S → w.grownBy W (some bt) → NextS S bt n w (.returned (.int .i64 (Keep.md z n))) W := fun z W h1 h2 =>
    ⟨Keep.md z n, rfl, (Keep.md_bd z n).1, (Keep.md_bd z n).2, h1, h2⟩
  by_cases hlt : at_ < len
  · have hv2 := hv
    obtain ⟨bl, off, rfl, hc⟩ := hv (by omega)
    have hne : bl ≠ bt := fun e => hS _ (e ▸ (hc at_ hlt).1)
    obtain ⟨_, z, hz⟩ := hc at_ hlt
    have hno : ¬ len ≤ at_ := by omega
    have hT2 : ∀ nq n' : Nat, TapeS (((w.drewN nq).setCell ⟨bt, 1, none⟩ (.int .i64 ((at_ : Int) + 1))).drewN n') bt S := by
      intro nq n'
      refine ⟨some ⟨bl, off, none⟩, len, cap, at_ + 1, ?_, by omega, hlen, fun hl => ?_⟩
      · show ((w.drewN nq).setCell ⟨bt, 1, none⟩ (.int .i64 ((at_ : Int) + 1))).heap[bt]? = _
        have hb' : (w.drewN nq).heap[bt]? = some (.cells #[.slice (some ⟨bl, off, none⟩) len cap, .int .i64 (at_ : Nat)] 89 (0, 0)) := hb
        simp only [World.setCell, Array.getElem?_modify, if_true, hb']
        simp
      · obtain ⟨bl', off', ha, hc'⟩ := hv2 hl
        refine ⟨bl', off', ha, fun i hi => ⟨(hc' i hi).1, ?_⟩⟩
        obtain ⟨z', hz'⟩ := (hc' i hi).2
        exact ⟨z', (World.cell?_of_block (w := w.drewN nq) (Below.heap_setCell _ _ _ _ (fun e => hS (off' + i) (by have e' : bl' = bt := e; exact e' ▸ (hc' i hi).1)))).trans hz'⟩
    have hG : ∀ nq n' : Nat, w.grownBy (((w.drewN nq).setCell ⟨bt, 1, none⟩ (.int .i64 ((at_ : Int) + 1))).drewN n') (some bt) := fun nq n' =>
      Keep.only_drewN (Keep.grownBy_trans (Keep.only_drewN (Keep.grownBy_refl w _) nq) (Keep.grownBy_setCell _ bt 1 _)) n'
    have hW0 : ∀ nq : Nat, ((w.drewN nq).setCell ⟨bt, 1, none⟩ (.int .i64 ((at_ : Int) + 1))).cell? ⟨bt, 0, none⟩ = some (.slice (some ⟨bl, off, none⟩) len cap) := fun nq => by
      rw [World.cell?_setCell_other _ _ _ _ (by simp)]; exact c0
    have hW1 : ∀ nq : Nat, ((w.drewN nq).setCell ⟨bt, 1, none⟩ (.int .i64 ((at_ : Int) + 1))).cell? ⟨bt, 1, none⟩ = some (.int .i64 ((at_ : Int) + 1)) := fun nq =>
      World.cell?_setCell_same (u := .int .i64 (at_ : Nat)) _ _ _ c1
    have hWz : ∀ nq : Nat, ((w.drewN nq).setCell ⟨bt, 1, none⟩ (.int .i64 ((at_ : Int) + 1))).cell? ⟨bl, off + at_, none⟩ = some (.int .i64 z) := fun nq => by
      rw [World.cell?_of_block (w := w.drewN nq) (Below.heap_setCell _ _ _ _ hne)]; exact hz
    clear hb hc hfin hz hv hv2 hS hT
    have hmd' := Lib.hid hmd
    have hT2' := Lib.hid hT2
    have hG' := Lib.hid hG
    have hW0' := Lib.hid hW0
    have hW1' := Lib.hid hW1
    have hWz' := Lib.hid hWz
    clear hmd hT2 hG hW0 hW1 hWz
    go_enter Try.func19, Try.ntmps19
    go_wp2
    go_quiet (fail)
    rename_i nq
    go_wp2
    have k0 := hW0'.out nq
    have k1 := hW1'.out nq
    have kz := hWz'.out nq
    obtain ⟨W, hW⟩ : ∃ W, W = ((w.drewN nq).setCell ⟨bt, 1, none⟩ (.int .i64 ((at_ : Int) + 1))) := ⟨_, rfl⟩
    rw [← hW] at k0 k1 kz ⊢
    have hW2 := Lib.hid hW
    clear hW c0 c1 f1
    have ks : IntKind.i64.wrap ((at_ : Int) + 1 - 1) = at_ := by rw [IntWalk.i64_in _ (by omega)]; omega
    go_quiet ((go_at_call 25; exact Keep.quiet_left (Keep.mod_any _ _ (by omega) _)))
    go_wp2
    go_ret
    rw [hW2.out]
    exact hmd'.out z _ (hT2'.out _ _) (hG'.out _ _)
  · have hno : len ≤ at_ := by omega
    clear hb hat hlen hmd hv hS hT
    go_enter Try.func19, Try.ntmps19
    go_wp2
    go_quiet (fail)
    go_wp2
    go_ret
    exact hfin _
/-- What the tape hands out. -/
theorem next_c (n : Int) (h3 : n ≤ 9223372036854775807) : ACalls Try.prog 19 true true [.tp, .d (iD n)] (fun r => ∃ z : Int, r = iD z ∧ 0 ≤ z ∧ (z < n ∨ z = 0)) := by
  intro w S Sτ T vals hS hSτ hT _ hl hv
  obtain ⟨h1, h2⟩ := hT rfl
  match vals, hl with
  | [u, v], _ =>
    have e1 := srel_tp (hv 0 _ u rfl rfl)
    have e2 := srel_v (hv 1 _ v rfl rfl)
    subst e1 e2
    refine (next_s Sτ T n h3 w h1 (fun o ho => h2 o (hSτ _ _ ho))).mono ?_
    rintro e w' ⟨r, rfl, hr0, hr1, hT', hg⟩
    exact ⟨iD r, _, S, ⟨r, rfl, hr0, hr1⟩, rfl, hg, fun _ _ _ => Iff.rfl, fun b o hb => Nat.lt_of_lt_of_le (hS b o hb) hg.size, fun _ => hT', .v _⟩
/-! ### a new tape -/
theorem new_world2 (a : Option Addr) (len cap : Nat) (w : World) (h : Keep.IntsAt w a len cap) : Calls Try.prog 16 #[.slice a len cap] w
    fun e w' => ∃ m, m ≤ len ∧ m ≤ 400 ∧ e = .returned (.pointer (some ⟨w.heap.size, 0, none⟩)) ∧ w' = w.alloc (.cells #[.slice a m cap, .int .i64 0] 89) := by
  have h2 := h.2.1
  have h1 := h.1
  cases a with
  | none =>
    obtain ⟨rfl, rfl⟩ := h.2.2.1 rfl
    go_enter Try.func16, Try.ntmps16
    go_wp2
    go_ret
    exact ⟨0, by omega, by omega, rfl, rfl⟩
  | some x =>
    by_cases hlt : (len : Int) ≤ 400
    · clear h
      go_enter Try.func16, Try.ntmps16
      go_wp2
      go_ret
      exact ⟨len, by omega, by omega, rfl, rfl⟩
    · have hcap : 400 ≤ cap := by omega
      clear h
      go_enter Try.func16, Try.ntmps16
      go_wp2
      go_ret
      exact ⟨400, by omega, by omega, rfl, rfl⟩
/-- Of such a slot it does not matter where the tape is. -/
def SV.plain : SV → Bool
  | .d _ => true
  | .un => true
  | .bx _ _ => true
  | .os _ => true
  | .cnd _ (.d _) => true
  | _ => false
theorem SRel.plain {c : Cx} {w : World} {s : SV} {u : Value} (h : SRel c w s u) (hp : s.plain = true) (b : Nat) : SRel ⟨c.S, c.B, c.O, b⟩ w s u := by
  cases h with
  | d x u h => exact .d x u h
  | un u => exact .un u
  | bx id off => exact .bx (c := ⟨c.S, c.B, c.O, b⟩) id off
  | os id => exact .os (c := ⟨c.S, c.B, c.O, b⟩) id
  | cnd g x u h h' =>
    refine .cnd g x u (fun hg => ?_) h'
    cases x with
    | d x =>
      have h1 : SRel c w (.d x) u := h hg
      have h2 := srel_d h1
      exact .d x u h2
    | _ => simp [SV.plain] at hp
  | _ => simp [SV.plain] at hp
theorem look_plain : ∀ {l : List (Nat × SV)}, (l.all fun p => p.2.plain) = true → ∀ x, (look l x).plain = true
  | [], _, _ => rfl
  | (k, v) :: r, h, x => by
    simp only [List.all_cons, Bool.and_eq_true] at h
    rw [look_cons]
    split
    · exact h.1
    · exact look_plain h.2 x
theorem lookA_all {α : Type} {q : α → Bool} : ∀ {l : List (Nat × α)}, (l.all fun p => q p.2) = true → ∀ {i : Nat} {x : α}, lookA l i = some x → q x = true
  | [], _, i, x, hi => by simp [lookA] at hi
  | (k, v) :: r, h, i, x, hi => by
    simp only [List.all_cons, Bool.and_eq_true] at h
    rw [lookA_cons] at hi
    split at hi
    · injection hi with hi; exact hi ▸ h.1
    · exact lookA_all h.2 hi
section
variable {w0 : World} {S0 : Ev} {T : Nat → Prop} {ops : Array Oper} {rest : List Oper} {st : St} {Q : St → Prop}
theorem AO.newT {x : Operand} {a : Option Addr} {len cap : Nat} {tys : Array TypeId} {ty : TypeId} {pos : String} {aft : Array Edge} {d : Nat} (hx : SLe (st.ev x) (.d (.v (.slice a len cap)))) (hsrc : SrcAt w0 S0.St a len cap) (hT1 : ∀ b, w0.heap.size ≤ b → T b) (hT2 : ∀ b, T b → w0.heap.size ≤ b)
    (htp : st.tp = false) (hd : Nat.ble (d + 1) st.n = true) (hp1 : (st.sl.all fun p => p.2.plain) = true) (hp2 : (st.bx.all fun p => p.2.all SV.plain) = true)
    (h : AO Try.prog w0 S0 T ops rest ⟨(d, .tp) :: st.sl, st.bx, st.own, st.nx, true, st.n⟩ Q) : AO Try.prog w0 S0 T ops (⟨some d, .call ⟨.value (.func 16), #[x], tys⟩, ty, pos, aft, none⟩ :: rest) st Q := by
  rintro ac w ⟨c, hT, hr⟩ Qx hQ
  refine wpList_plain rfl fun K hK => ?_
  have hxv := srel_v (hx c w _ (ev_rel hr x))
  have hTb := hT2 _ hT
  have hcell : ∀ b o, S0.St b o → ∀ u, w0.cell? ⟨b, o, none⟩ = some u → w.cell? ⟨b, o, none⟩ = some u := fun b o hb u hu => by
    have hlt := World.block_lt_of_cell? w0 _ hu
    exact (World.cell?_of_block (hr.below.block b hlt (fun e => by have := Option.some.inj e; simp only at hlt; omega))).trans hu
  have s1 := hsrc.1
  have s2 := hsrc.2.1
  have s3 := hsrc.2.2.1
  have s4 := hsrc.2.2.2
  have hints : Keep.IntsAt w a len cap := ⟨s1, s2, s3, fun hl => by
    obtain ⟨bl, off, ha, hc⟩ := s4 hl
    exact ⟨bl, off, ha, fun i hi => by obtain ⟨k1, z, k2⟩ := hc i hi; exact ⟨z, hcell _ _ k1 _ k2⟩⟩⟩
  unfold Oper.wp
  have hfn : callable Try.prog 16 = true := by kernel_rfl
  rw [eval_fn (args := [x]) hfn]
  show Calls _ _ _ _ _
  rw [show (([x] : List Operand).map ac.eval).toArray = #[.slice a len cap] from by simp [hxv]]
  refine (new_world2 a len cap w hints).mono ?_
  rintro e w' ⟨m, hm1, hm2, rfl, rfl⟩
  have hB : Below w.heap.size w (w.alloc (.cells #[.slice a m cap, .int .i64 0] 89)) := (Below.refl _ _).alloc (Nat.le_refl _) _
  have k2 : ∀ b o, c.S b o → (w.alloc (.cells #[.slice a m cap, .int .i64 0] 89)).cell? ⟨b, o, none⟩ = w.cell? ⟨b, o, none⟩ := fun b o hb => hB.cell (p := ⟨b, o, none⟩) (hr.sb b o hb)
  have hsl : ∀ {s : SV} {u : Value}, SRel c w s u → s.plain = true → SRel ⟨c.S, c.B, c.O, w.heap.size⟩ (w.alloc (.cells #[.slice a m cap, .int .i64 0] 89)) s u := fun hs hp =>
    (hs.mono' (S' := c.S) (fun _ _ h => h) k2).plain hp w.heap.size
  have hrel : RelX w0 S0 ⟨st.sl, st.bx, st.own, st.nx, true, st.n⟩ ac (w.alloc (.cells #[.slice a m cap, .int .i64 0] 89)) ⟨c.S, c.B, c.O, w.heap.size⟩ := by
    refine ⟨⟨hB.os.trans hr.below.os, hB.tape.trans hr.below.tape, hB.output.trans hr.below.output, Nat.le_trans hr.below.size hB.size, fun k hk hne => ?_⟩, hr.df, hr.sz, fun y => hsl (hr.sl y) (look_plain hp1 y), hr.top, fun b o hb => Nat.lt_of_lt_of_le (hr.sb b o hb) hB.size,
      fun id cs hc => ?_, hr.bxd, fun id y hy => ?_, hr.owd, hr.owb, hr.old, hr.stt, fun _ => ⟨⟨a, m, cap, 0, heap_alloc_new w _, by omega, hm2, fun hl => ?_⟩, fun o ho => absurd (hr.sb w.heap.size o ho) (Nat.lt_irrefl _), fun id cs hc e => by have h1 : c.B id < w.heap.size := hr.bxlt hc; have h2 : c.B id = w.heap.size := e; omega, fun i y hy e => absurd (hr.owlt (b := w.heap.size) hy e).1 (Nat.lt_irrefl _)⟩⟩
    · exact (hB.block k (Nat.lt_of_lt_of_le hk hr.below.size)).trans (hr.below.block k hk (fun e => by have := Option.some.inj e; omega))
    · obtain ⟨q1, q2, q3, q4, arr, t, q5, q6, q7, q8⟩ := hr.bx id cs hc
      refine ⟨q1, q2, q3, q4, arr, t, (hB.block _ (hr.bxlt hc)).trans q5, q6, q7, fun j s u hj hu => hsl (q8 j s u hj hu) ?_⟩
      exact List.all_eq_true.1 (lookA_all (q := fun cs => cs.all SV.plain) hp2 hc) _ (List.mem_of_getElem? hj)
    · obtain ⟨q1, q2⟩ := hr.ow id y hy
      exact ⟨q1, q2.keep (fun _ _ h => h) k2 (fun b hb => ⟨hB.block b (hr.owlt hy hb).1, (hr.owlt hy hb).2⟩)⟩
    · obtain ⟨bl, off, ha, hc⟩ := s4 (by omega)
      exact ⟨bl, off, ha, fun i hi => by
        obtain ⟨k1, z, k3⟩ := hc i (by omega)
        exact ⟨k1, z, (k2 _ _ (hr.stt _ _ k1)).trans (hcell _ _ k1 _ k3)⟩⟩
  exact hK _ _ (h _ _ ⟨_, hT1 _ hr.below.size, hrel.put (d := d) (r := .tp) (Nat.le_of_ble_eq_true hd) (.tp (c := ⟨c.S, c.B, c.O, w.heap.size⟩)) (Nat.zero_le _)⟩ Qx hQ)
end
end Eng
end Go.Proofs.Ytmmekdkllccmdaa
