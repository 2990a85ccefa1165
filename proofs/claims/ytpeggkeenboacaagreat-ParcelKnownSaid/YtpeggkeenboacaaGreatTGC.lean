/-
  The engine: a state that fits a shape is a state of the shape.
-/
import Derived.Test.YtpeggkeenboacaaGreatTGB
import Derived.OrdersHeld
import Derived.RegionTactic
import Derived.ChangeArms
import Derived.ChangeSlices
namespace Go.Proofs.YtpeggkeenboacaaGreat
open Go.RowKit
set_option linter.unusedVariables false
namespace RE
variable {P : Program}
theorem Shape.fit_ok {s : Shape} {base st : St} {v : dens s.tys} (hf : s.fit base st = some v) {a0 a : Act} {w0 w : World} {c0 c : Cx} (hb : RX base a0 w0 c0) (hs : Step base a0 w0 c0 st a w c) : ∃ c', Step base a0 w0 c0 (s.inst base v) a w c' := by
  unfold Shape.fit at hf
  split at hf
  rotate_left
  · cases hf
  rename_i g hg
  generalize hck : ((newsS base st).all (fun p => memK s.sl p.1 || has s.kl p.1) && (news base.ms st.ms).all (fun p => Nat.ble base.ms.nx p.1 || memK s.bx p.1 || has s.ko p.1 || memK s.rw p.1) && g.fz.all (oldOK base.ms.nx s.ko) && ownOK base.ms.nx s.ko g.fz g.own && s.bx.all (fun b => Nat.blt b.1 base.ms.nx && isBox st.ms.mem b.1) && s.rw.all (fun r => Nat.blt r.1 base.ms.nx && !(has s.ko r.1) && isRow2 (base.ms.obs r.1) (st.ms.obs r.1) r.2.1 r.2.2) && base.gs.isEmpty && (st.ms.tp == base.ms.tp)) = ck at hf
  cases ck with
  | false => cases hf
  | true =>
    injection hf with hf
    subst hf
    simp only [Bool.and_eq_true] at hck
    obtain ⟨⟨⟨⟨⟨⟨⟨k1, k2⟩, k3⟩, k4⟩, k5⟩, k8⟩, k6⟩, k7⟩ := hck
    have k7 : st.ms.tp = base.ms.tp := by simpa using k7
    have k6 : base.gs = [] := by simpa using k6
    obtain ⟨ow1, ow2⟩ := ownOK_spec k4
    obtain ⟨fr1, ⟨lS, hlS⟩, ⟨lO, hlO⟩, htp⟩ := hs.fr
    have hnS : newsS base st = lS := by
      unfold newsS
      rw [hlS, List.length_append, show lS.length + base.sl.length - base.sl.length = lS.length by omega, List.take_left]
    have hnO : news base.ms st.ms = lO := by
      unfold news
      rw [hlO, List.length_append, show lO.length + base.ms.ob.length - base.ms.ob.length = lO.length by omega, List.take_left]
    rw [hnS] at k1
    rw [hnO] at k2
    -- rows become stable
    obtain ⟨c1, ox1, t1, hH1, hT1⟩ := hs.rx.ox.freezes g.fz
    have F : Fz st.ms.mem c c1 w g.fz := ⟨hs.rx.ox, ox1, t1, hH1⟩
    obtain ⟨_, q2, q3, q4, q5⟩ := fitL_ok F (k0 := base.ms.nx) (own0 := g.own) s.all [] _ () g hg (fun _ h => h) base.ms.nx (Nat.le_refl _) (fun j o h => by rw [Nat.sub_self, Nat.zero_add]; exact h)
    generalize hI : instL s.all [] g.v base.ms.nx = I at q2 q3 q4 q5
    obtain ⟨ys, rs, rest⟩ := I
    simp only at q2 q3 q4 q5
    have hrl : rs.length = g.own.length := q2.1
    have hnxm : base.ms.nx ≤ st.ms.nx := by
      rcases Nat.lt_or_ge st.ms.nx base.ms.nx with hlt | hge
      · have := hs.tr.uU st.ms.nx (show st.ms.nx < base.ms.nx from hlt)
        exact absurd (show st.ms.nx < st.ms.nx from this) (Nat.lt_irrefl _)
      · exact hge
    let nx := base.ms.nx
    let c2 := reCx c1 nx g.own
    have hH2 : ∀ i, i < nx → c2.H i = c1.H i ∧ c2.F i = c1.F i := fun i hi => ⟨if_pos hi, if_pos hi⟩
    have hN2 : ∀ j o, g.own[j]? = some o → c2.H (nx + j) = ownH c1.H o ∧ c2.F (nx + j) = ownF c1.F o := fun j o ho => by
      have e : nx + j - nx = j := by omega
      refine ⟨?_, ?_⟩
      · show (if nx + j < nx then _ else _) = _
        rw [if_neg (by omega), e, ho]; rfl
      · show (if nx + j < nx then _ else _) = _
        rw [if_neg (by omega), e, ho]; rfl
    have T1 : Tr base.ms.obs base.ms.U w0 c0 (ovr st.ms.mem.ob (fzU st.ms.mem.ob g.fz)) st.ms.mem.U w c1 := hs.tr.trans t1
    -- a slot's word of the base, under the new numbers
    have old : ∀ {x : SV} {u : Value}, x.inU base.ms.U → SRel c w x u → SRel c2 w x u := fun hu hr => by
      have h1 := t1.srel hs.rx.ox hr (SV.inU_mono hs.tr.uU _ hu)
      exact SRel.mono (c := c1) (c' := c2) (U := base.ms.U) (fun _ _ h => h) (fun _ _ _ => rfl) (fun _ h => h) (fun i hi => (hH2 i hi).1) h1 hu
    -- the objects
    have hlo : ∀ id, lookO st.ms.ob id = (lookK lO id).getD (lookO base.ms.ob id) := fun id => by rw [hlO]; exact lookO_app' _ _ _
    have hob : ∀ id x, (s.inst base g.v).ms.obs id = some x →
        (∃ i p y cs, s.bx[i]? = some p ∧ p.1 = id ∧ ys[s.sl.length + i]? = some y ∧ x = .box (tupL y) ∧ st.ms.obs id = some (.box cs) ∧ ∀ u, SRel c w (.tup cs) u → SRel c2 w y u) ∨
        (∃ j r o, id = nx + j ∧ rs[j]? = some r ∧ g.own[j]? = some o ∧ x = .row r.1 r.2.1 r.2.2) ∨
        (id < nx ∧ x.inU base.ms.U ∧ st.ms.obs id = some x ∧ has s.ko id = false) := by
      intro id x hx
      have hx : lookO (zipB s.bx ((instL s.all [] g.v base.ms.nx).1.drop s.sl.length) ++ (zipR base.ms.obs s.rw ((instL s.all [] g.v base.ms.nx).1.drop (s.sl.length + s.bx.length)) ++ (rowsOb base.ms.nx (instL s.all [] g.v base.ms.nx).2.1 ++ (s.ko.map (fun x => (x, none)) ++ base.ms.ob)))) id = some x := hx
      rw [hI] at hx
      simp only at hx
      rw [lookO_app'] at hx
      cases hz : lookK (zipB s.bx (ys.drop s.sl.length)) id with
      | some v =>
        rw [hz] at hx
        obtain ⟨i, p, y, h1, h2, h3, h4⟩ := zipB_some hz
        rw [List.getElem?_drop] at h3
        have hx : v = some x := hx
        rw [h4] at hx
        injection hx with hx
        have hxs : (s.sl.map (fun p => look st.sl p.1) ++ (s.bx.map (fun b => boxOf st.ms.mem b.1) ++ s.rw.map (fun r => rowW st.ms.mem r.1)))[s.sl.length + i]? = some (boxOf st.ms.mem p.1) := by
          rw [List.getElem?_append_right (by simp), List.length_map, show s.sl.length + i - s.sl.length = i by omega, List.getElem?_append_left (by simpa using (List.getElem?_eq_some_iff.1 h1).1), List.getElem?_map, h1]; rfl
        have hrel := fun u => @q5 _ _ _ hxs h3 u
        -- the box is a box
        have hbx : ∃ cs, st.ms.obs id = some (.box cs) := by
          have := (Bool.and_eq_true_iff.1 (List.all_eq_true.1 k5 p (List.mem_of_getElem? h1))).2
          rw [h2] at this
          have this : (match st.ms.obs id with | some (.box _) => true | _ => false) = true := this
          split at this
          · rename_i cs hcs; exact ⟨cs, hcs⟩
          · cases this
        obtain ⟨cs, hcs⟩ := hbx
        refine .inl ⟨i, p, y, cs, h1, h2, h3, hx.symm, hcs, fun u hu => hrel u ?_⟩
        have : boxOf st.ms.mem p.1 = .tup cs := by
          unfold boxOf
          rw [h2]
          show (match st.ms.obs id with | some (.box cs) => SV.tup cs | _ => .un) = _
          rw [hcs]
        rw [this]; exact hu
      | none =>
        rw [hz] at hx
        have hbxk : memK s.bx id = false := zipB_none (by
          rw [List.length_drop]
          have : ys.length = s.sl.length + (s.bx.length + s.rw.length) := by rw [← q4]; simp
          omega) hz
        have hx : lookO (zipR base.ms.obs s.rw (ys.drop (s.sl.length + s.bx.length)) ++ (rowsOb base.ms.nx rs ++ (s.ko.map (fun x => (x, none)) ++ base.ms.ob))) id = some x := hx
        rw [lookO_app'] at hx
        cases hzr : lookK (zipR base.ms.obs s.rw (ys.drop (s.sl.length + s.bx.length))) id with
        | some v =>
          rw [hzr] at hx
          obtain ⟨i, p, y, h1, h2, h3, h4⟩ := zipR_some hzr
          rw [List.getElem?_drop] at h3
          have hx : v = some x := hx
          rw [h4] at hx
          injection hx with hx
          have hck := List.all_eq_true.1 k8 p (List.mem_of_getElem? h1)
          simp only [Bool.and_eq_true, Bool.not_eq_true'] at hck
          obtain ⟨⟨c1', c2'⟩, c3'⟩ := hck
          obtain ⟨id0, e0, t0⟩ := p
          simp only at h2 c1' c2' c3' hx h4
          subst h2
          obtain ⟨l, hrow, hkind, hdat⟩ := isRow2_spec c3'
          have hxs : (s.sl.map (fun p => look st.sl p.1) ++ (s.bx.map (fun b => boxOf st.ms.mem b.1) ++ s.rw.map (fun r => rowW st.ms.mem r.1)))[s.sl.length + s.bx.length + i]? = some (.d (.sl t0 l)) := by
            rw [List.getElem?_append_right (by simp; omega), List.length_map, List.getElem?_append_right (by simp; omega), List.length_map, show s.sl.length + s.bx.length + i - s.sl.length - s.bx.length = i by omega, List.getElem?_map, h1]
            exact congrArg some hdat
          have hss : s.all[s.sl.length + s.bx.length + i]? = some (.dat (.sl t0)) := by
            unfold Shape.all
            rw [List.getElem?_append_right (by simp; omega), List.length_map, List.getElem?_append_right (by simp; omega), List.length_map, show s.sl.length + s.bx.length + i - s.sl.length - s.bx.length = i by omega, List.getElem?_map, h1]; rfl
          have hy := fitL_dat s.all [] _ () g hg _ base.ms.nx t0 l hss hxs
          rw [hI] at hy
          have hy : ys[s.sl.length + s.bx.length + i]? = some (.d (.sl t0 l)) := hy
          rw [hy] at h3
          injection h3 with h3
          subst h3
          have hlo2 : listOf t0 (.d (.sl t0 l)) = l := by
            show (castL t0 t0 l).getD [] = l
            rw [castL_same]; rfl
          rw [hlo2] at hx
          subst hx
          refine .inr (.inr ⟨Nat.le_of_ble_eq_true c1', ?_, hrow, c2'⟩)
          rcases hkind with ⟨l', e9⟩ | ⟨_, _, _, _, l', e9⟩
          · rw [hrow] at e9; injection e9 with e9; rw [e9]; trivial
          · rw [hrow] at e9; injection e9 with e9; rw [e9]; trivial
        | none =>
        rw [hzr] at hx
        have hrwk : memK s.rw id = false := zipR_none (by
          rw [List.length_drop]
          have : ys.length = s.sl.length + (s.bx.length + s.rw.length) := by rw [← q4]; simp
          omega) hzr
        have hx : lookO (rowsOb base.ms.nx rs ++ (s.ko.map (fun x => (x, none)) ++ base.ms.ob)) id = some x := hx
        rw [lookO_app'] at hx
        cases hr : lookK (rowsOb base.ms.nx rs) id with
        | some v =>
          rw [hr] at hx
          obtain ⟨j, r, h1, h2, h3⟩ := rowsOb_some hr
          have hx : v = some x := hx
          rw [h3] at hx
          injection hx with hx
          have hj : j < g.own.length := by rw [← hrl]; exact (List.getElem?_eq_some_iff.1 h2).1
          exact .inr (.inl ⟨j, r, g.own[j], h1, h2, List.getElem?_eq_getElem hj, hx.symm⟩)
        | none =>
          rw [hr] at hx
          have hx : lookO (s.ko.map (fun x => (x, none)) ++ base.ms.ob) id = some x := hx
          rw [lookO_app', lookK_un (fun _ => (none : Option Ob))] at hx
          cases hk : has s.ko id with
          | true => rw [hk] at hx; cases hx
          | false =>
            rw [hk] at hx
            have hx : lookO base.ms.ob id = some x := hx
            have hlt : id < nx := (hb.ox.objs id x hx).1
            refine .inr (.inr ⟨hlt, (hb.ox.objs id x hx).2.1, ?_, rfl⟩)
            show lookO st.ms.ob id = some x
            rw [hlo id]
            cases hn : lookK lO id with
            | none => exact hx
            | some v =>
              have := List.all_eq_true.1 k2 (id, v) (lookK_mem hn)
              simp only [Bool.or_eq_true] at this
              rcases this with ((e | e) | e) | e
              · have e := Nat.le_of_ble_eq_true e
                have hlt : id < base.ms.nx := hlt
                omega
              · rw [hbxk] at e; cases e
              · rw [hk] at e; cases e
              · rw [hrwk] at e; cases e
    have hnotfz : ∀ id, id < nx → has s.ko id = false → id ∉ g.fz := fun id hlt hk hm => by
      have := all_has k3 hm
      unfold oldOK at this
      rw [hk, Bool.or_false] at this
      have := Nat.le_of_ble_eq_true this
      omega
    have ob1 : ∀ id x, st.ms.obs id = some x → id ∉ g.fz → ovr st.ms.mem.ob (fzU st.ms.mem.ob g.fz) id = some x := fun id x hx hn => by
      rcases fzU_at st.ms.mem.ob g.fz id with ⟨e, _⟩ | ⟨_, _, _, _, _, e⟩ | ⟨_, _, _, _, _, _, _, _, e⟩
      · exact e.trans hx
      · exact absurd e hn
      · exact absurd e hn
    have obx : ∀ id cs, st.ms.obs id = some (.box cs) → ovr st.ms.mem.ob (fzU st.ms.mem.ob g.fz) id = some (.box cs) := fun id cs hx => by
      rcases fzU_at st.ms.mem.ob g.fz id with ⟨e, _⟩ | ⟨e1, e2, e3, e4, _⟩ | ⟨e1, e2, e3, e5, e6, e7, e4, _⟩
      · exact e.trans hx
      · have : st.ms.obs id = _ := e4
        rw [hx] at this; cases this
      · have : st.ms.obs id = _ := e4
        rw [hx] at this; cases this
    have bxlt : ∀ (i : Nat) (p : Nat × List Sh), s.bx[i]? = some p → p.1 < nx := fun i p hp => by
      have := (Bool.and_eq_true_iff.1 (List.all_eq_true.1 k5 p (List.mem_of_getElem? hp))).1
      exact Nat.le_of_ble_eq_true this
    have tupy : ∀ (i : Nat) (p : Nat × List Sh) (y : SV), s.bx[i]? = some p → ys[s.sl.length + i]? = some y → ∃ zs, y = .tup zs := fun i p y hp hy => by
      have e : s.all[s.sl.length + i]? = some (.tup p.2) := by
        unfold Shape.all
        rw [List.getElem?_append_right (by simp), List.length_map, show s.sl.length + i - s.sl.length = i by omega, List.getElem?_append_left (by simpa using (List.getElem?_eq_some_iff.1 hp).1), List.getElem?_map, hp]; rfl
      exact instL_tup s.all [] g.v base.ms.nx _ e (by rw [hI]; exact hy)
    -- where each object comes from
    have src : ∀ id x, (s.inst base g.v).ms.obs id = some x → x.own = true → (∀ b, c2.F id b → ∃ id' x', ovr st.ms.mem.ob (fzU st.ms.mem.ob g.fz) id' = some x' ∧ x'.own = true ∧ c1.F id' b ∧ ((id' = id ∧ id < nx ∧ (has s.ko id = false ∨ ∃ cs, st.ms.obs id = some (.box cs))) ∨ ∃ j, id = nx + j ∧ g.own[j]? = some (some id'))) := by
      intro id x hx hox b hb2
      rcases hob id x hx with ⟨i, p, y, cs, h1, h2, h3, h4, h5, h6⟩ | ⟨j, r, o, h1, h2, h3, h4⟩ | ⟨h1, h2, h3, h4⟩
      · have hlt : id < nx := h2 ▸ bxlt i p h1
        rw [(hH2 id hlt).2] at hb2
        exact ⟨id, _, obx id cs h5, rfl, hb2, .inl ⟨rfl, hlt, .inr ⟨cs, h5⟩⟩⟩
      · subst h1
        rw [(hN2 j o h3).2] at hb2
        cases o with
        | none => exact hb2.elim
        | some id' =>
          have hrow := q2.2 j (some id') r h3 h2
          have hnf : id' ∉ g.fz := fun hm => by have := (ow1 j id' h3).2; rw [has_mem hm] at this; cases this
          exact ⟨id', _, ob1 id' _ hrow hnf, rfl, hb2, .inr ⟨j, rfl, h3⟩⟩
      · rw [(hH2 id h1).2] at hb2
        exact ⟨id, x, ob1 id x h3 (hnotfz id h1 h4), hox, hb2, .inl ⟨rfl, h1, .inl h4⟩⟩
    have hU2 : ∀ {x : SV}, x.inU (fun i => i < base.ms.nx ∨ base.ms.nx ≤ i ∧ i < base.ms.nx + g.own.length) → x.inU (s.inst base g.v).ms.U := fun {x} hx => by
      refine SV.inU_mono (fun i hi => ?_) x hx
      show i < base.ms.nx + (instL s.all [] g.v base.ms.nx).2.1.length
      rw [hI]
      show i < base.ms.nx + rs.length
      omega
    have hnxi : (s.inst base g.v).ms.nx = base.ms.nx + rs.length := by
      show base.ms.nx + (instL s.all [] g.v base.ms.nx).2.1.length = _
      rw [hI]
    have hUb : ∀ i, base.ms.U i → (s.inst base g.v).ms.U i := fun i hi => by
      show i < (s.inst base g.v).ms.nx
      rw [hnxi]
      have hi : i < base.ms.nx := hi
      omega
    have oxI : OXM (s.inst base g.v).ms w c2 := by
      refine ⟨ox1.sb, fun id x hx => ?_, fun id x hx hox b hb2 => ?_, fun i j x y hx ox hy oy hne b hb2 hb3 => ?_, ox1.nT, fun e => ox1.tpe (htp e), fun e => ox1.tF (k7.trans e)⟩
      · rcases hob id x hx with ⟨i, p, y, cs, h1, h2, h3, h4, h5, h6⟩ | ⟨j, r, o, h1, h2, h3, h4⟩ | ⟨h1, h2, h3, h4⟩
        · have hlt : id < nx := h2 ▸ bxlt i p h1
          obtain ⟨zs, hzs⟩ := tupy i p y h1 h3
          subst hzs h4
          have hyU := inUL_get q3 h3
          refine ⟨hUb id hlt, ?_, ?_⟩
          · exact hU2 (x := .tup zs) hyU
          · obtain ⟨b, arr, t, e1, e2, e3, e4, e5, e6⟩ := (hs.rx.ox.objs id _ h5).2.2
            have hrel := h6 (.tuple arr.toArray) (.tup cs arr e4 e6)
            cases hrel with
            | tup _ us hl hu =>
              refine ⟨b, arr, t, (hH2 id hlt).1.trans (by rw [hH1]; exact e1), fun x => ?_, e3, hl, e5, hu⟩
              rw [(hH2 id hlt).2, (t1.hH id ((hs.rx.ox.objs id _ h5).1)).2]; exact e2 x
        · subst h1 h4
          refine ⟨?_, trivial, ?_⟩
          · show nx + j < (s.inst base g.v).ms.nx
            rw [hnxi]
            have := (List.getElem?_eq_some_iff.1 h2).1
            show base.ms.nx + j < _
            omega
          · show RowAt w c2.S (c2.H (nx + j)) (c2.F (nx + j)) _ _ _
            rw [(hN2 j o h3).1, (hN2 j o h3).2]
            have hrow := q2.2 j o r h3 h2
            cases o with
            | none =>
              obtain ⟨e1, e2⟩ := hrow
              rw [e1]
              exact ⟨e2, .inl ⟨rfl, ⟨none, rfl⟩, fun _ h => h⟩⟩
            | some id' =>
              have hnf : id' ∉ g.fz := fun hm => by have := (ow1 j id' h3).2; rw [has_mem hm] at this; cases this
              exact (ox1.objs id' _ (ob1 id' _ hrow hnf)).2.2
        · have u1 : base.ms.U id := h1
          have u2 := h2
          have h3' := (ox1.objs id x (ob1 id x h3 (hnotfz id h1 h4))).2.2
          exact ⟨hUb id u1, Ob.inU_mono hUb u2, h3'.keep (U := base.ms.U) u2 (fun _ _ h => h) (fun _ _ _ => rfl) (fun _ h => h) (fun i hi => (hH2 i hi).1) (hH2 id h1) (fun _ _ _ => rfl)⟩
      · obtain ⟨id', x', e1, e2, e3, _⟩ := src id x hx hox b hb2
        exact ox1.fb id' x' e1 e2 b e3
      · obtain ⟨i', x', e1, e2, e3, e4⟩ := src i x hx ox b hb2
        obtain ⟨j', y', d1, d2, d3, d4⟩ := src j y hy oy b hb3
        have hij : i' ≠ j' := fun e => by
          subst e
          rcases e4 with ⟨a1, a2, a3⟩ | ⟨q, a1, a2⟩
          · rcases d4 with ⟨b1, b2, b3⟩ | ⟨q', b1, b2⟩
            · exact hne (a1.symm.trans b1)
            · subst a1
              have hrow : ∃ r : Row, st.ms.obs i' = some (.row r.1 r.2.1 r.2.2) := by
                have hql : q' < rs.length := by rw [hrl]; exact (List.getElem?_eq_some_iff.1 b2).1
                exact ⟨rs[q'], q2.2 q' (some i') rs[q'] b2 (List.getElem?_eq_getElem hql)⟩
              obtain ⟨r, hrow⟩ := hrow
              rcases a3 with a3 | ⟨cs, a3⟩
              · have := (ow1 q' i' b2).1
                unfold oldOK at this
                rw [a3, Bool.or_false] at this
                have := Nat.le_of_ble_eq_true this
                omega
              · rw [a3] at hrow; cases hrow
          · rcases d4 with ⟨b1, b2, b3⟩ | ⟨q', b1, b2⟩
            · subst b1
              have hrow : ∃ r : Row, st.ms.obs i' = some (.row r.1 r.2.1 r.2.2) := by
                have hql : q < rs.length := by rw [hrl]; exact (List.getElem?_eq_some_iff.1 a2).1
                exact ⟨rs[q], q2.2 q (some i') rs[q] a2 (List.getElem?_eq_getElem hql)⟩
              obtain ⟨r, hrow⟩ := hrow
              rcases b3 with b3 | ⟨cs, b3⟩
              · have := (ow1 q i' a2).1
                unfold oldOK at this
                rw [b3, Bool.or_false] at this
                have := Nat.le_of_ble_eq_true this
                omega
              · rw [b3] at hrow; cases hrow
            · by_cases hqq : q = q'
              · subst hqq; exact hne (a1.trans b1.symm)
              · exact ow2 q q' i' hqq a2 b2
        exact ox1.dj i' j' x' y' e1 e2 d1 d2 hij b e3 d3
    refine ⟨c2, ⟨oxI, hs.rx.sz.trans fr1, fun x u hx => ?_, fun x => ?_, fun x q wt gg y hx => ?_⟩, ?_, hs.df, rfl, ⟨_, (List.append_assoc _ _ _).symm⟩, ⟨_, by
        show _ ++ (_ ++ (_ ++ (_ ++ base.ms.ob))) = _
        rw [← List.append_assoc, ← List.append_assoc, ← List.append_assoc]⟩, id⟩
    · have hu := hs.rx.sl x u hx
      have hlk : look (s.inst base g.v).sl x = (lookK (zipS s.sl ys) x).getD ((lookK (s.kl.map fun x => (x, SV.un)) x).getD (look base.sl x)) := by
        show look (zipS s.sl (instL s.all [] g.v base.ms.nx).1 ++ (s.kl.map (fun x => (x, SV.un)) ++ base.sl)) x = _
        rw [hI, look_app, look_app]
      rw [hlk]
      cases hz : lookK (zipS s.sl ys) x with
      | some v =>
        obtain ⟨i, p, h1, h2, h3⟩ := zipS_some hz
        have hxs : (s.sl.map (fun p => look st.sl p.1) ++ (s.bx.map (fun b => boxOf st.ms.mem b.1) ++ s.rw.map (fun r => rowW st.ms.mem r.1)))[i]? = some (look st.sl p.1) := by
          rw [List.getElem?_append_left (by simpa using (List.getElem?_eq_some_iff.1 h1).1), List.getElem?_map, h1]; rfl
        rw [h2] at hxs
        exact q5 i _ v hxs h3 hu
      | none =>
        have hsl : memK s.sl x = false := zipS_none (by
          have : ys.length = s.sl.length + (s.bx.length + s.rw.length) := by rw [← q4]; simp
          omega) hz
        show SRel c2 w ((lookK (s.kl.map fun x => (x, SV.un)) x).getD (look base.sl x)) u
        rw [lookK_un (fun _ => SV.un)]
        cases hk : has s.kl x with
        | true => exact .un _
        | false =>
          show SRel c2 w (look base.sl x) u
          refine old (hb.us x) ?_
          rw [hlS, look_app] at hu
          cases hn : lookK lS x with
          | none => rw [hn] at hu; exact hu
          | some v =>
            have := List.all_eq_true.1 k1 (x, v) (lookK_mem hn)
            simp only [Bool.or_eq_true] at this
            rcases this with e | e
            · rw [hsl] at e; cases e
            · rw [hk] at e; cases e
    · have hlk : look (s.inst base g.v).sl x = (lookK (zipS s.sl ys) x).getD ((lookK (s.kl.map fun x => (x, SV.un)) x).getD (look base.sl x)) := by
        show look (zipS s.sl (instL s.all [] g.v base.ms.nx).1 ++ (s.kl.map (fun x => (x, SV.un)) ++ base.sl)) x = _
        rw [hI, look_app, look_app]
      rw [hlk]
      cases hz : lookK (zipS s.sl ys) x with
      | some v =>
        obtain ⟨i, p, h1, h2, h3⟩ := zipS_some hz
        exact hU2 (inUL_get q3 h3)
      | none =>
        show ((lookK (s.kl.map fun x => (x, SV.un)) x).getD (look base.sl x)).inU _
        rw [lookK_un (fun _ => SV.un)]
        cases hk : has s.kl x with
        | true => trivial
        | false => exact SV.inU_mono hUb _ (hb.us x)
    · have hlk : look (s.inst base g.v).sl x = (lookK (zipS s.sl ys) x).getD ((lookK (s.kl.map fun x => (x, SV.un)) x).getD (look base.sl x)) := by
        show look (zipS s.sl (instL s.all [] g.v base.ms.nx).1 ++ (s.kl.map (fun x => (x, SV.un)) ++ base.sl)) x = _
        rw [hI, look_app, look_app]
      rw [hlk] at hx
      cases hz : lookK (zipS s.sl ys) x with
      | some v =>
        rw [hz] at hx
        obtain ⟨i, p, h1, h2, h3⟩ := zipS_some hz
        have hx : v = .cnd q wt gg y := hx
        rw [hx] at h3
        exact absurd (by rw [hI]; exact h3) (instL_noC s.all [] g.v base.ms.nx i)
      | none =>
        rw [hz] at hx
        have hx : (lookK (s.kl.map fun x => (x, SV.un)) x).getD (look base.sl x) = .cnd q wt gg y := hx
        rw [lookK_un (fun _ => SV.un)] at hx
        cases hk : has s.kl x with
        | true => rw [hk] at hx; cases hx
        | false =>
          rw [hk] at hx
          have := (hb.cn x q wt gg y hx).1
          rw [k6] at this; cases this
    · refine ⟨T1.os, T1.tape, T1.output, T1.sz, T1.tK, T1.tN, hUb, fun i hi => ?_, T1.sS, T1.sN, T1.blk, fun b hb2 => ?_⟩
      · have hi : i < nx := hi
        exact ⟨(hH2 i hi).1.trans (T1.hH i hi).1, (hH2 i hi).2.trans (T1.hH i hi).2⟩
      · obtain ⟨id, x, hx, hox, hb3⟩ := hb2
        obtain ⟨id', x', e1, e2, e3, _⟩ := src id x hx hox b hb3
        exact T1.fp b ⟨id', x', e1, e2, e3⟩
end RE
end Go.Proofs.YtpeggkeenboacaaGreat
namespace Go.Proofs.YtpeggkeenboacaaGreat
open Go.RowKit
set_option linter.unusedVariables false
namespace RE
variable {P : Program}
/-- At the end of a region nothing is known of what was under a guard. -/
def St.endR (st : St) : St := ⟨st.gd.map (fun d => (d, SV.un)) ++ st.sl, st.ms, st.n, [], []⟩
theorem RX.endR {st : St} {a : Act} {w : World} {c : Cx} (h : RX st a w c) : Step st a w c st.endR a w c := by
  have hl : ∀ x, look st.endR.sl x = if has st.gd x = true then .un else look st.sl x := fun x => by
    show look (st.gd.map (fun d => (d, SV.un)) ++ st.sl) x = _
    rw [look_app, lookK_un (fun _ => SV.un)]
    by_cases hx : has st.gd x = true
    · rw [if_pos hx, if_pos hx]; rfl
    · rw [if_neg hx, if_neg hx]; rfl
  refine ⟨⟨h.ox, h.sz, fun x u hu => ?_, fun x => ?_, fun x q wt g y hx => ?_⟩, .refl, rfl, rfl, ⟨_, rfl⟩, .refl _⟩
  · rw [hl]
    split
    · exact .un u
    · exact h.sl x u hu
  · rw [hl]
    split
    · trivial
    · exact h.us x
  · rw [hl] at hx
    split at hx
    · cases hx
    · rename_i hn; exact absurd (h.cn x q wt g y hx).2.1 hn
/-- Operations, in turn; the number says which. -/
def aops (P : Program) (τ : TypeId → Option Ty) (cp : Nat → CP) (all : Array Oper) : Nat → List Oper → St → (St → Prop) → Prop
  | _, [], st, K => K st.endR
  | i, o :: r, st, K => match o.guard with
    | none => aop P τ (cp i) o st fun st' => aops P τ cp all (i + 1) r st' K
    | some (j, want) => match (all[j]?).bind (·.dst), o.dst with
      | some q, some d => aopG P τ (cp i) o d q want st fun st' => aops P τ cp all (i + 1) r st' K
      | _, _ => False
theorem aops_ok {τ : TypeId → Option Ty} {cp : Nat → CP} (hcp : ∀ i, CallOK P (cp i)) {all : Array Oper} : ∀ (ops : List Oper) (i : Nat) (st : St) (K : St → Prop), aops P τ cp all i ops st K →
    ∀ a w c, RX st a w c → ∀ Qx : Exit → Act → World → Prop, (∀ st' a' w' c', Step st a w c st' a' w' c' → K st' → Qx .normal a' w') → wpList P all Qx ops a w
  | [], i, st, K, h, a, w, c, hr, Qx, hQ => hQ _ a w c hr.endR h
  | o :: r, i, st, K, h, a, w, c, hr, Qx, hQ => by
    unfold aops at h
    split at h
    · rename_i hg
      refine wpList_plain hg fun KK hK => ?_
      exact aop_ok (hcp i) h a w c hr KK Qx fun st' a' w' c' hs hq => hK _ _ (aops_ok hcp r (i + 1) st' K hq a' w' c' hs.rx Qx fun st2 a2 w2 c2 hs2 k => hQ _ _ _ _ (hs.trans hs2) k)
    · rename_i j want hg
      split at h
      · rename_i q d hq hd
        obtain ⟨G, h1, h2, h3⟩ := aopG_ok (hcp i) hd h
        refine wpList_step fun KK hK => ?_
        rw [wanted_of hg hq h1 hr h2]
        exact h3 a w c hr KK Qx fun st' a' w' c' hs hq => hK _ _ (aops_ok hcp r (i + 1) st' K hq a' w' c' hs.rx Qx fun st2 a2 w2 c2 hs2 k => hQ _ _ _ _ (hs.trans hs2) k)
      · exact h.elim
/-! ### code -/
def AC (P : Program) (x : Code) (st : St) (Q : Exit → St → Prop) : Prop :=
  ∀ a w c, RX st a w c → x.wp P (fun e a' w' => ∃ st' c', Step st a w c st' a' w' c' ∧ Q e st') a w
def thenQ (K : St → Prop) (Q : Exit → St → Prop) : Exit → St → Prop
  | .normal, st => K st
  | e, st => Q e st
def blockQ (id : Nat) (Q : Exit → St → Prop) : Exit → St → Prop
  | .exit i, st => bif Nat.beq i id then Q .normal st else Q (.exit i) st
  | e, st => Q e st
theorem AC.seq {x y : Code} {st : St} {Q : Exit → St → Prop} (h : AC P x st (thenQ (fun st' => AC P y st' Q) Q)) : AC P (.seq x y) st Q := by
  intro a w c hr
  refine wp_seq (wp_mono (h a w c hr) ?_)
  rintro e a' w' ⟨st', c', h1, h2⟩
  cases e with
  | normal =>
    refine wp_mono (h2 a' w' c' h1.rx) ?_
    rintro e a2 w2 ⟨st2, c2, k1, k2⟩
    exact ⟨st2, c2, h1.trans k1, k2⟩
  | _ => exact ⟨st', c', h1, h2⟩
theorem AC.block {id : Nat} {x : Code} {st : St} {Q : Exit → St → Prop} (h : AC P x st (blockQ id Q)) : AC P (.block id x) st Q := by
  intro a w c hr
  refine wp_block (wp_mono (h a w c hr) ?_)
  rintro e a' w' ⟨st', c', h1, h2⟩
  cases e with
  | exit i =>
    have h2' : bif Nat.beq i id then Q .normal st' else Q (.exit i) st' := h2
    show if i = id then _ else _
    by_cases hi : i = id
    · subst hi
      rw [if_pos rfl]
      simp only [Nat.beq_refl, cond_true] at h2'
      exact ⟨st', c', h1, h2'⟩
    · rw [if_neg hi]
      rw [beq_ne hi] at h2'
      exact ⟨st', c', h1, h2'⟩
  | _ => exact ⟨st', c', h1, h2⟩
theorem AC.mono {x : Code} {st : St} {Q Q' : Exit → St → Prop} (h : AC P x st Q) (hq : ∀ e st', Q e st' → Q' e st') : AC P x st Q' := by
  intro a w c hr
  refine wp_mono (h a w c hr) ?_
  rintro e a' w' ⟨st', c', h1, h2⟩
  exact ⟨st', c', h1, hq e st' h2⟩
/-- A shape where ways meet. -/
theorem AC.join {x y : Code} {st : St} {Q : Exit → St → Prop} {s : Shape} (J : dens s.tys → Prop) (h1 : AC P x st (thenQ (fun st' => ∃ v, s.fit st st' = some v ∧ J v) Q)) (h2 : ∀ v, J v → AC P y (s.inst st v) Q) : AC P (.seq x y) st Q := by
  intro a w c hr
  refine wp_seq (wp_mono (h1 a w c hr) ?_)
  rintro e a' w' ⟨st', c', k1, k2⟩
  cases e with
  | normal =>
    obtain ⟨v, hv, hJ⟩ := k2
    obtain ⟨c2, k3⟩ := s.fit_ok hv hr k1
    refine wp_mono (h2 v hJ a' w' c2 k3.rx) ?_
    rintro e a2 w2 ⟨st2, c3, q1, q2⟩
    exact ⟨st2, c3, k3.trans q1, q2⟩
  | _ => exact ⟨st', c', k1, k2⟩
theorem AC.loop {x : Code} {st : St} {Q : Exit → St → Prop} {s : Shape} (I : dens s.tys → Prop) (μ : dens s.tys → Nat) {v0 : dens s.tys} (hv0 : s.fit st st = some v0) (hI : I v0)
    (h : ∀ v, I v → AC P x (s.inst st v) (thenQ (fun st' => ∃ v', s.fit st st' = some v' ∧ I v' ∧ μ v' < μ v) Q)) : AC P (.loop x) st Q := by
  intro a0 w0 c0 hr0
  have key : ∀ n v, μ v < n → I v → ∀ a w c, Step st a0 w0 c0 (s.inst st v) a w c → Code.rounds P x (fun e a' w' => ∃ st' c', Step st a0 w0 c0 st' a' w' c' ∧ Q e st') n a w := by
    intro n
    induction n with
    | zero => intro v hn; omega
    | succ n ih =>
      intro v hn hi a w c hs
      refine wp_mono (h v hi a w c hs.rx) ?_
      rintro e a' w' ⟨st', c', h1, h2⟩
      cases e with
      | normal =>
        obtain ⟨v', hv', hi', hlt⟩ := h2
        obtain ⟨c2, k3⟩ := s.fit_ok hv' hr0 (hs.trans h1)
        exact ih v' (by omega) hi' a' w' c2 k3
      | _ => exact ⟨st', c', hs.trans h1, h2⟩
  obtain ⟨c1, h1⟩ := s.fit_ok hv0 hr0 (Step.refl hr0)
  exact wp_loop_rounds (μ v0 + 1) (key _ v0 (Nat.lt_succ_self _) hI a0 w0 c1 h1)
def firstR : Code → Option Nat
  | .region id _ _ => some id
  | .seq x y => match firstR x with
    | some i => some i
    | none => firstR y
  | .cond _ x y => match firstR x with
    | some i => some i
    | none => firstR y
  | .block _ x => firstR x
  | .loop x => firstR x
  | .scope x => firstR x
  | _ => none
abbrev RG := Nat → Array Oper → Bool → St → (St → Prop) → Prop
/-- Code, carried out. -/
def aeval (rg : RG) (jn : Nat → Option Shape) : Code → St → (Exit → St → Prop) → Prop
  | .skip, st, K => K .normal st
  | .label _, st, K => K .normal st
  | .exit i, st, K => K (.exit i) st
  | .ret, st, K => K .ret st
  | .region id ops dr, st, K => match (bif dr then jn (1000000 + id) else none) with
    | none => rg id ops dr st (K .normal)
    | some s => JOIN s.tys (lam s.tys fun v => K .normal (s.inst st v)) fun J => rg id ops dr st fun st' => match s.fit st st' with
        | some v => app s.tys J v
        | none => False
  | .seq x y, st, K => match (match firstR y with | some i => jn (2 * i) | none => none) with
    | none => aeval rg jn x st (thenQ (fun st' => aeval rg jn y st' K) K)
    | some s => JOIN s.tys (lam s.tys fun v => aeval rg jn y (s.inst st v) K) fun J => aeval rg jn x st (thenQ (fun st' => match s.fit st st' with
        | some v => app s.tys J v
        | none => False) K)
  | .cond q x y, st, K => match st.ev q with
    | .d (.v (.bool b)) => IFB b (aeval rg jn x st K) (aeval rg jn y st K)
    | _ => False
  | .block i x, st, K => aeval rg jn x st (blockQ i K)
  | .loop x, st, K => match (match firstR x with | some i => jn (2 * i + 1) | none => none) with
    | none => False
    | some s => match s.fit st st with
      | some v0 => LOOP s.tys (fun rec => lam s.tys fun v => aeval rg jn x (s.inst st v) (thenQ (fun st' => match s.fit st st' with
          | some v' => app s.tys rec v'
          | none => False) K)) v0
      | none => False
  | _, _, _ => False
def RegOK (P : Program) (rg : RG) : Prop := ∀ id ops dr st K, rg id ops dr st K → AC P (.region id ops dr) st fun e st' => e = .normal ∧ K st'
theorem aeval_ok {rg : RG} {jn : Nat → Option Shape} (hrg : RegOK P rg) : ∀ (x : Code) (st : St) (K : Exit → St → Prop), aeval rg jn x st K → AC P x st K := by
  intro x
  induction x with
  | skip => exact fun st K h a w c hr => wp_skip ⟨st, c, .refl hr, h⟩
  | label l => exact fun st K h a w c hr => wp_label ⟨st, c, .refl hr, h⟩
  | exit i => exact fun st K h a w c hr => wp_exit ⟨st, c, .refl hr, h⟩
  | ret => exact fun st K h a w c hr => wp_ret ⟨st, c, .refl hr, h⟩
  | region id ops dr =>
    intro st K h
    unfold aeval at h
    split at h
    · exact (hrg id ops dr st _ h).mono fun e st' ⟨he, hk⟩ => by subst he; exact hk
    · rename_i s _
      obtain ⟨h⟩ := h
      intro a w c hr
      refine wp_mono (hrg id ops dr st _ h a w c hr) ?_
      rintro e a' w' ⟨st', c', k1, rfl, hk⟩
      split at hk
      · rename_i v hv
        rw [app_lam] at hk
        obtain ⟨c2, k3⟩ := s.fit_ok hv hr k1
        exact ⟨_, c2, k3, hk⟩
      · exact hk.elim
  | seq x y ihx ihy =>
    intro st K h
    unfold aeval at h
    split at h
    · refine AC.seq ((ihx st _ h).mono fun e st' hk => ?_)
      cases e with
      | normal => exact ihy st' K hk
      | _ => exact hk
    · rename_i s _
      obtain ⟨h⟩ := h
      refine AC.join (s := s) (fun v => aeval rg jn y (s.inst st v) K) ((ihx st _ h).mono fun e st' hk => ?_) fun v hv => ihy _ K hv
      cases e with
      | normal =>
        have hk : (match s.fit st st' with | some v => app s.tys (lam s.tys fun v => aeval rg jn y (s.inst st v) K) v | none => False) := hk
        split at hk
        · rename_i v hv
          rw [app_lam] at hk
          exact ⟨v, hv, hk⟩
        · exact hk.elim
      | _ => exact hk
  | cond q x y ihx ihy =>
    intro st K h
    unfold aeval at h
    split at h
    · rename_i b hb
      intro a w c hr
      have hv := hr.ev q
      rw [hb] at hv
      exact wp_cond_split (srel_v hv) (fun e => ihx st K (h.t e) a w c hr) (fun e => ihy st K (h.f e) a w c hr)
    · exact h.elim
  | block i x ih =>
    intro st K h
    exact AC.block (ih st _ h)
  | loop x ih =>
    intro st K h
    unfold aeval at h
    split at h
    · exact h.elim
    · rename_i s _
      split at h
      · rename_i v0 hv0
        obtain ⟨I, μ, h1, h2⟩ := h.h
        refine AC.loop (s := s) I μ hv0 h1 fun v hv => ?_
        have hk := h2 v hv
        rw [app_lam] at hk
        refine (ih _ _ hk).mono fun e st' hq => ?_
        cases e with
        | normal =>
          have hq : (match s.fit st st' with | some v' => app s.tys (lam s.tys fun y => I y ∧ μ y < μ v) v' | none => False) := hq
          split at hq
          · rename_i v' hv'
            rw [app_lam] at hq
            exact ⟨v', hv', hq⟩
          · exact hq.elim
        | _ => exact hq
      · exact h.elim
  | rangeFunc f ps a b iha ihb => exact fun st K h => h.elim
  | scope x ih => exact fun st K h => h.elim
  | goto l => exact fun st K h => h.elim
  | refuse y => exact fun st K h => h.elim
end RE
end Go.Proofs.YtpeggkeenboacaaGreat
namespace Go.Proofs.YtpeggkeenboacaaGreat
open Go.RowKit
set_option linter.unusedVariables false
namespace RE
variable {P : Program}
/-- A result, read off the state. -/
def resV (P : Program) (st : St) : ResultVar → Option SV
  | .tmp t => some (st.ev (.tmp t))
  | .cell x t => pLoad P st.ms.mem t (st.ev (.tmp x))
def resL (P : Program) (st : St) : List ResultVar → Option (List SV)
  | [] => some []
  | r :: rs => match resV P st r, resL P st rs with
    | some x, some xs => some (x :: xs)
    | _, _ => none
def resS (P : Program) (st : St) (rs : List ResultVar) : Option SV := match resL P st rs with
  | some [x] => some x
  | some xs => some (.tup xs)
  | none => none
def gotV (P : Program) (a : Act) (w : World) (v : Value) : ResultVar → Prop
  | .tmp t => a.tmps.getD t undef = v
  | .cell x t => ∃ ad, a.tmps.getD x undef = .pointer (some ad) ∧ (loadVar t ad).run P w = .ok v w
theorem resV_ok {st : St} {rv : ResultVar} {s : SV} (h : resV P st rv = some s) {a : Act} {w : World} {c : Cx} (hr : RX st a w c) : ∃ v, gotV P a w v rv ∧ SRel c w s v ∧ s.inU st.ms.U := by
  cases rv with
  | tmp t =>
    injection h with h
    subst h
    exact ⟨_, rfl, hr.ev (.tmp t), hr.evU (.tmp t)⟩
  | cell x t =>
    have h : pLoad P st.ms.mem t (st.ev (.tmp x)) = some s := h
    obtain ⟨v, h1, h2, h3⟩ := pLoad_run (P := P) h hr.ox (hr.ev (.tmp x)) (hr.evU (.tmp x))
    have hp : ∃ ad, a.eval (.tmp x) = .pointer (some ad) := by
      have hv := hr.ev (.tmp x)
      generalize a.eval (.tmp x) = av at hv ⊢
      unfold pLoad at h
      split at h
      · rename_i cs e; rw [e] at hv; cases srel_d hv; exact ⟨_, rfl⟩
      · rename_i id off e; rw [e] at hv; obtain ⟨b, _, hb⟩ := srel_bx hv; exact ⟨_, hb⟩
      · rename_i id z sz j e; rw [e] at hv; obtain ⟨g, n, cap, _, hb, _⟩ := srel_op hv; exact ⟨_, hb⟩
      · rename_i id z sz j e; rw [e] at hv; obtain ⟨g, n, cap, vs, _, hb, _⟩ := srel_np hv; exact ⟨_, hb⟩
      · rename_i id i z sz j e; rw [e] at hv; obtain ⟨v, vs, g, n, cap, _, _, _, hb, _⟩ := srel_ip hv; exact ⟨_, hb⟩
      · cases h
    obtain ⟨ad, hp⟩ := hp
    refine ⟨v, ⟨ad, hp, ?_⟩, h2, h3⟩
    rw [hp] at h1
    simpa [Instr.loadAt, Instr.sureAddr] using h1
theorem mapM_ok {α : Type} (f : α → Sem Value) (w : World) : ∀ (l : List α) (vs : List Value), l.length = vs.length → (∀ (i : Nat) (x : α) (v : Value), l[i]? = some x → vs[i]? = some v → (f x).run P w = .ok v w) → (l.mapM f).run P w = .ok vs w
  | [], [], _, _ => by simp
  | [], _ :: _, h, _ => by simp at h
  | _ :: _, [], h, _ => by simp at h
  | x :: l, v :: vs, h, k => by
    have h1 := k 0 x v rfl rfl
    have h2 := mapM_ok f w l vs (by simpa using h) (fun i x v hx hv => k (i + 1) x v hx hv)
    simp [List.mapM_cons, h1, h2]
theorem resL_ok {st : St} : ∀ {rs : List ResultVar} {ss : List SV}, resL P st rs = some ss → ∀ {a : Act} {w : World} {c : Cx}, RX st a w c → ∃ vs : List Value, rs.length = vs.length ∧ vs.length = ss.length ∧ (∀ (i : Nat) (r : ResultVar) (v : Value), rs[i]? = some r → vs[i]? = some v → gotV P a w v r) ∧ (∀ (i : Nat) (s : SV) (v : Value), ss[i]? = some s → vs[i]? = some v → SRel c w s v) ∧ inUL st.ms.U ss
  | [], ss, h, a, w, c, hr => by
    simp only [resL, Option.some.injEq] at h
    subst h
    exact ⟨[], rfl, rfl, fun i r v h => by simp at h, fun i s v h => by simp at h, trivial⟩
  | r :: rs, ss, h, a, w, c, hr => by
    unfold resL at h
    split at h
    · rename_i x xs h1 h2
      injection h with h
      subst h
      obtain ⟨v, g1, g2, g3⟩ := resV_ok h1 hr
      obtain ⟨vs, k1, k2, k3, k4, k5⟩ := resL_ok h2 hr
      refine ⟨v :: vs, by simp [k1], by simp [k2], fun i r' v' hr' hv' => ?_, fun i s v' hs hv' => ?_, ⟨g3, k5⟩⟩
      · cases i with
        | zero => simp at hr' hv'; subst hr' hv'; exact g1
        | succ i => exact k3 i r' v' (by simpa using hr') (by simpa using hv')
      · cases i with
        | zero => simp at hs hv'; subst hs hv'; exact g2
        | succ i => exact k4 i s v' (by simpa using hs) (by simpa using hv')
    · cases h
theorem resS_ok {st : St} {fn : Func} {s : SV} (h : resS P st fn.results.toList = some s) {a : Act} {w : World} {c : Cx} (hr : RX st a w c) : ∃ v, (results fn a.tmps).run P w = .ok v w ∧ SRel c w s v ∧ s.inU st.ms.U := by
  have main : ∀ {ss : List SV}, resL P st fn.results.toList = some ss → ∃ vs : List Value, (results fn a.tmps).run P w = .ok (if h : vs.toArray.size = 1 then vs.toArray[0] else .tuple vs.toArray) w ∧ vs.length = ss.length ∧ (∀ (i : Nat) (s : SV) (v : Value), ss[i]? = some s → vs[i]? = some v → SRel c w s v) ∧ inUL st.ms.U ss := by
    intro ss hss
    obtain ⟨vs, k1, k2, k3, k4, k5⟩ := resL_ok hss hr
    refine ⟨vs, ?_, k2, k4, k5⟩
    have e : fn.results = fn.results.toList.toArray := by simp
    unfold results
    rw [e, List.mapM_toArray]
    simp only [Sem.run_bind, Sem.run_map]
    rw [mapM_ok (P := P) _ w _ vs k1 (fun i r v hr hv => by
      have hg := k3 i r v hr hv
      cases r with
      | tmp t => have hg : a.tmps.getD t undef = v := hg; simpa using hg
      | cell x t =>
        obtain ⟨ad, e1, e2⟩ := hg
        simp only [e1]
        simp [asAddr, e2])]
    simp
  unfold resS at h
  split at h
  · rename_i x hss
    injection h with h
    subst h
    obtain ⟨vs, k1, k2, k3, k4⟩ := main hss
    match vs, k2 with
    | [v], _ => exact ⟨v, by simpa using k1, k3 0 _ v rfl rfl, k4.1⟩
  · rename_i xs hn hss
    injection h with h
    subst h
    obtain ⟨vs, k1, k2, k3, k4⟩ := main hss
    have hne : ¬ vs.toArray.size = 1 := fun e => by
      have e : vs.length = 1 := by simpa using e
      rw [k2] at e
      match xs, e with
      | [x], _ => exact hn x rfl
    rw [dif_neg hne] at k1
    exact ⟨_, k1, .tup _ vs k2 k3, k4⟩
  · cases h
def enumS : Nat → List SV → List (Nat × SV)
  | _, [] => []
  | k, s :: r => (k, s) :: enumS (k + 1) r
theorem look_enumS : ∀ (l : List SV) (k x : Nat), look (enumS k l) x = if k ≤ x then (l[x - k]?).getD .un else .un
  | [], k, x => by simp [enumS, look]
  | s :: r, k, x => by
    rw [enumS, look_cons]
    by_cases h : k = x
    · subst h; rw [if_pos rfl, if_pos (Nat.le_refl _), Nat.sub_self]; rfl
    · rw [if_neg h, look_enumS r (k + 1) x]
      by_cases h2 : k + 1 ≤ x
      · rw [if_pos h2, if_pos (by omega), show x - k = (x - (k + 1)) + 1 by omega, List.getElem?_cons_succ]
      · rw [if_neg h2, if_neg (by omega)]
/-- A frame that begins. -/
def entry (ss : List SV) (m : MS) (n : Nat) : St := ⟨enumS 0 (ss.map noC), m, n, [], []⟩
theorem entry_rx {ss : List SV} {m : MS} {n : Nat} {us : List Value} {w : World} {c : Cx} (hox : OXM m w c) (hl : us.length = ss.length) (hn : ss.length ≤ n) (hr : ∀ (i : Nat) (s : SV) (u : Value), ss[i]? = some s → us[i]? = some u → SRel c w s u ∧ s.inU m.U) :
    RX (entry ss m n) { tmps := us.toArray ++ Array.replicate (n - us.toArray.size) undef, defers := [] } w c := by
  have hlk : ∀ x, look (entry ss m n).sl x = ((ss.map noC)[x]?).getD .un := fun x => by
    show look (enumS 0 (ss.map noC)) x = _
    rw [look_enumS, if_pos (Nat.zero_le _), Nat.sub_zero]
  refine ⟨hox, ?_, fun x u hx => ?_, fun x => ?_, fun x q wt g y hx => ?_⟩
  · simp only [Array.size_append, List.size_toArray, Array.size_replicate]
    show us.length + (n - us.length) = n
    omega
  · rw [hlk]
    cases hs : (ss.map noC)[x]? with
    | none => exact .un u
    | some s =>
      rw [List.getElem?_map, Option.map_eq_some_iff] at hs
      obtain ⟨s0, hs0, rfl⟩ := hs
      have hxl := (List.getElem?_eq_some_iff.1 hs0).1
      have hu : us[x]? = some u := by
        have hx : (us.toArray ++ Array.replicate (n - us.toArray.size) undef)[x]? = some u := hx
        rw [Array.getElem?_append_left (by simp; omega)] at hx
        simpa using hx
      exact noC_rel (hr x s0 u hs0 hu).1
  · rw [hlk]
    cases hs : (ss.map noC)[x]? with
    | none => trivial
    | some s =>
      rw [List.getElem?_map, Option.map_eq_some_iff] at hs
      obtain ⟨s0, hs0, rfl⟩ := hs
      have hxl := (List.getElem?_eq_some_iff.1 hs0).1
      exact noC_inU (hr x s0 us[x] hs0 (List.getElem?_eq_getElem (by omega))).2
  · rw [hlk] at hx
    cases hs : (ss.map noC)[x]? with
    | none => rw [hs] at hx; cases hx
    | some s =>
      rw [hs] at hx
      have hx : s = .cnd q wt g y := hx
      rw [List.getElem?_map, Option.map_eq_some_iff] at hs
      obtain ⟨s0, hs0, rfl⟩ := hs
      exact absurd hx noC_ne
/-- A front part of a row of one's own, given back: from then on a row of its own. -/
def isZ : Int → Bool
  | .ofNat 0 => true
  | _ => false
theorem isZ_eq {a : Int} (h : isZ a = true) : a = 0 := by
  unfold isZ at h
  split at h
  · rfl
  · cases h
def trunc (r : SV) (m : MS) : SV × MS := match r with
  | .sub id sz a b => match m.obs id with
    | some (.row e ty l) => bif isZ a && Nat.beq sz (size ty) then (.os m.nx, ⟨(m.nx, some (.row e ty (l.take b.toNat))) :: (id, none) :: m.ob, m.nx + 1, m.tp⟩) else (r, m)
    | _ => (r, m)
  | _ => (r, m)
theorem trunc_ok {r : SV} {m : MS} {w : World} {c : Cx} {v : Value} (hox : OXM m w c) (hs : SRel c w r v) (hu : r.inU m.U) :
    ∃ c', OXM (trunc r m).2 w c' ∧ TrM m w c (trunc r m).2 w c' ∧ SRel c' w (trunc r m).1 v ∧ (trunc r m).1.inU (trunc r m).2.U ∧ FrM m (trunc r m).2 := by
  have triv : ∃ c', OXM m w c' ∧ TrM m w c m w c' ∧ SRel c' w r v ∧ r.inU m.U ∧ FrM m m := ⟨c, hox, .refl, hs, hu, .refl _⟩
  unfold trunc
  split
  · rename_i id sz a b
    split
    · rename_i e ty l hob
      cases hb : (isZ a && Nat.beq sz (size ty)) with
      | false => exact triv
      | true =>
        obtain ⟨b1, b2⟩ := Bool.and_eq_true_iff.1 hb
        have b1 := isZ_eq b1
        have b2 := beq_eq b2
        subst b1 b2
        obtain ⟨ad, n, cap, hH, hv, hab1, hab2, hab3⟩ := srel_sub hs
        have hid : id < m.nx := hu
        have hne : id ≠ m.nx := by omega
        have eob : lookO ((m.nx, some (.row e ty (l.take b.toNat))) :: (id, none) :: m.ob) = put (put m.obs id none) m.nx (some (.row e ty (l.take b.toNat))) := by
          rw [lookO_cons, lookO_cons]; rfl
        have e0 : (if cap = 0 then ad else ad.map (·.add 0)) = ad := by split <;> cases ad <;> simp [Addr.add]
        rw [subV_len, Int.toNat_zero, Nat.zero_mul, Nat.sub_zero, Nat.sub_zero, e0] at hv
        obtain ⟨_, _, hrow⟩ := hox.objs id _ hob
        have hrow' : RowAt w c.S v (c.F id) e ty (l.take b.toNat) := by
          obtain ⟨h0, ⟨e1, ⟨ad', e2⟩, e3⟩ | ⟨g, cap', cur, e2, e3, e4, e5, e6, e7, e8⟩⟩ := hrow
          · rw [hH] at e2
            injection e2 with q1 q2 q3
            subst q1 q2 q3
            refine ⟨h0, .inl ⟨by rw [e1]; simp, ⟨ad, ?_⟩, e3⟩⟩
            rw [hv]; congr 1; omega
          · rw [hH] at e2
            injection e2 with q1 q2 q3
            subst q1 q2 q3
            have hl : (l.take b.toNat).length = b.toNat := by rw [List.length_take]; omega
            refine ⟨h0, .inr ⟨g, cap, cur, by rw [hv, hl], e3, e4, by rw [hl]; omega, e6, e7, fun i x hx j d hd => e8 i x ?_ j d hd⟩⟩
            rw [List.getElem?_take] at hx
            split at hx
            · exact hx
            · cases hx
        have main := hox.upd (c' := ⟨c.S, put c.H m.nx v, put c.F m.nx (c.F id), c.T⟩) (w' := w) (ob' := put (put m.obs id none) m.nx (some (.row e ty (l.take b.toNat)))) (U' := fun i => i < m.nx + 1) m.nx (.row e ty (l.take b.toNat)) (fun i => i ≠ id ∧ i ≠ m.nx)
          (fun i (hi : i < m.nx) => (by omega : i < m.nx + 1)) (Nat.lt_succ_self _) (put_same _ _ _) (fun i y hi e1 => by
            rw [put_ne _ _ e1] at hi
            by_cases e2 : i = id
            · subst e2; rw [put_same] at hi; cases hi
            · rw [put_ne _ _ e2] at hi; exact ⟨⟨e2, e1⟩, hi⟩) (fun e1 => e1.2 rfl) (fun i (hi : i < m.nx) => ⟨put_ne _ _ (by omega), put_ne _ _ (by omega)⟩) (fun _ _ h => h) (fun _ _ h => .inl h) (fun b o hb => hox.sb b o hb)
          rfl rfl rfl rfl (Nat.le_refl _) (fun _ _ _ => rfl) (by
            show RowAt w c.S (put c.H m.nx v m.nx) (put c.F m.nx (c.F id) m.nx) e ty (l.take b.toNat)
            rw [put_same, put_same]; exact hrow') trivial (fun _ k hk => by
            have hk : put c.F m.nx (c.F id) m.nx k := hk
            rw [put_same] at hk
            exact .inl ⟨id, _, hob, rfl, fun q => q.1 rfl, hk⟩) (fun _ k hk => by
            have hk : put c.F m.nx (c.F id) m.nx k := hk
            rw [put_same] at hk
            exact ⟨(hox.fb id _ hob rfl k hk).1, (hox.fb id _ hob rfl k hk).2.1⟩)
        refine ⟨⟨c.S, put c.H m.nx v, put c.F m.nx (c.F id), c.T⟩, ?_, ?_, ?_, Nat.lt_succ_self _, ⟨⟨[_, _], rfl⟩, fun h => h⟩⟩
        · show OX (lookO _) _ _ _ _
          rw [cond_true, eob]; exact main.1
        · show Tr _ _ _ _ (lookO _) _ _ _
          rw [cond_true, eob]; exact main.2
        · have := SRel.os (c := (⟨c.S, put c.H m.nx v, put c.F m.nx (c.F id), c.T⟩ : Cx)) (w := w) m.nx
          have e1 : put c.H m.nx v m.nx = v := put_same _ _ _
          rw [show (⟨c.S, put c.H m.nx v, put c.F m.nx (c.F id), c.T⟩ : Cx).H m.nx = v from e1] at this
          exact this
    · exact triv
  · exact triv
def kT (k : SV → MS → Prop) (r : SV) (m : MS) : Prop := k (trunc r m).1 (trunc r m).2
/-- How a callee ends. -/
def retK (P : Program) (rs : List ResultVar) (k : SV → MS → Prop) : Exit → St → Prop
  | .normal, st => match resS P st rs with
    | some r => kT k r st.ms
    | none => False
  | .ret, st => match resS P st rs with
    | some r => kT k r st.ms
    | none => False
  | _, _ => False
/-! ### a deferred call -/
/-- Pure operations that ask for nothing. -/
def purL (P : Program) : List Oper → St → Option St
  | [], st => some st
  | o :: r, st => match o.guard, pop P st.ms.mem st.ev o with
    | none, some R => bif dstOK st o.dst && R.ps.isEmpty then purL P r (st.set o.dst R.r st.ms) else none
    | _, _ => none
theorem purL_ok {all : Array Oper} {Q : Exit → Act → World → Prop} {od : Oper} : ∀ {ops : List Oper} {st st' : St}, purL P ops st = some st' → ∀ {a : Act} {w : World} {c : Cx}, RX st a w c → (∀ a', Step st a w c st' a' w c → wpList P all Q [od] a' w) → wpList P all Q (ops ++ [od]) a w
  | [], st, st', h, a, w, c, hr, hq => by
    simp only [purL, Option.some.injEq] at h
    subst h
    exact hq a (.refl hr)
  | o :: r, st, st', h, a, w, c, hr, hq => by
    unfold purL at h
    split at h
    · rename_i R hg hR
      cases hb : (dstOK st o.dst && R.ps.isEmpty) with
      | false => rw [hb] at h; cases h
      | true =>
        rw [hb] at h
        obtain ⟨b1, b2⟩ := Bool.and_eq_true_iff.1 hb
        have b2 : R.ps = [] := by simpa using b2
        obtain ⟨v, h1, h2, h3, h4⟩ := pop_run (P := P) hR hr.rels (by rw [b2]; trivial)
        refine wpList_plain hg fun K hK => ?_
        have hs : Step st a w c (st.set o.dst R.r st.ms) (a.put o.dst v) w c := ⟨hr.set .refl hr.ox b1 h2 h3, .refl, defers_put a o.dst v, Fr.set (.refl _)⟩
        have := hK (a.put o.dst v) w (purL_ok h hs.rx fun a' hs' => hq a' (hs.trans hs'))
        unfold Oper.wp
        rw [h1]
        exact this
    · cases h
def deferOf (od : Oper) : Option (Operand × Array Operand) := match od.guard, od.op, od.dst with
  | none, .defer ⟨.value v, args, _⟩, none => some (v, args)
  | _, _, _ => none
def deferParts : Code → Option (Code × Array Oper × List Oper × Oper × Code)
  | .seq x (.seq (.region _ ops false) y) => match ops.toList.reverse with
    | od :: pre => match deferOf od with
      | some _ => some (x, ops, pre.reverse, od, y)
      | none => none
    | [] => none
  | _ => none
theorem deferParts_spec {c x y : Code} {ops : Array Oper} {pre : List Oper} {od : Oper} (h : deferParts c = some (x, ops, pre, od, y)) : ∃ id, c = .seq x (.seq (.region id ops false) y) ∧ ops.toList = pre ++ [od] := by
  unfold deferParts at h
  split at h
  · rename_i x' id ops' y'
    split at h
    · rename_i od' pre' hrev
      split at h
      · injection h with h
        injection h with h1 h
        injection h with h2 h
        injection h with h3 h
        injection h with h4 h5
        subst h1 h2 h3 h4 h5
        refine ⟨id, rfl, ?_⟩
        have := congrArg List.reverse hrev
        simpa using this
      · cases h
    · cases h
  · cases h
/-- How a callee with a deferred call (function fg, arguments ss) ends. -/
def defK (P : Program) (rg : RG) (fn fg : Func) (cg : Code) (ss : List SV) (k : SV → MS → Prop) (st3 : St) : Prop :=
  aeval rg (fun _ => none) cg (entry ss st3.ms fg.ntmps) fun e st4 => match e with
    | .normal => match resS P st4 fg.results.toList, resS P (st3.set none .un st4.ms) fn.results.toList with
      | some _, some r => kT k r st4.ms
      | _, _ => False
    | .ret => match resS P st4 fg.results.toList, resS P (st3.set none .un st4.ms) fn.results.toList with
      | some _, some r => kT k r st4.ms
      | _, _ => False
    | _ => False
/-- A body, whole. -/
def bodyK (P : Program) (rg : RG) (jn : Nat → Option Shape) (fn : Func) (c : Code) (st0 : St) (k : SV → MS → Prop) : Prop :=
  match deferParts c with
  | none => aeval rg jn c st0 (retK P fn.results.toList k)
  | some (x, ops, pre, od, y) => aeval rg jn x st0 fun e st1 => match e with
    | .normal => match purL P pre st1, deferOf od with
      | some st2, some (v, args) => match fnOf (st2.ev v) with
        | some (g, cs) => match P.funcs[g]? with
          | some fg => match fg.body with
            | some cg => bif Nat.ble (args.toList.map st2.ev ++ cs).length fg.ntmps && callable P g then aeval rg jn y st2 fun e st3 => match e with
                | .normal => defK P rg fn fg cg (args.toList.map st2.ev ++ cs) k st3
                | .ret => defK P rg fn fg cg (args.toList.map st2.ev ++ cs) k st3
                | _ => False
              else False
            | none => False
          | none => False
        | none => False
      | _, _ => False
    | _ => False
/-- A call in place. -/
def inline (P : Program) (rg : RG) (jn : Nat → Option Shape) (f : FuncId) (ss : List SV) (m : MS) (k : SV → MS → Prop) : Prop :=
  match P.funcs[f]? with
  | some fn => match fn.body with
    | some c => bif Nat.ble ss.length fn.ntmps then match jn 0 with
        | none => bodyK P rg jn fn c (entry ss m fn.ntmps) k
        | some s => JOIN s.tys (lam s.tys fun v => k (look (s.inst ⟨[], m, 1, [], []⟩ v).sl 0) (s.inst ⟨[], m, 1, [], []⟩ v).ms) fun J => bodyK P rg jn fn c (entry ss m fn.ntmps) fun r m' => match s.fit ⟨[], m, 1, [], []⟩ ⟨[(0, noC r)], m', 1, [], []⟩ with
            | some v => app s.tys J v
            | none => False
      else False
    | none => False
  | none => False
theorem resS_fin {st : St} {fn : Func} {r : SV} (hres : resS P st fn.results.toList = some r) {a : Act} {w w0 : World} {c c0 : Cx} {m : MS} (hr : RX st a w c) (htr : TrM m w0 c0 st.ms w c) (hfr : FrM m st.ms) {k : SV → MS → Prop} (hk : kT k r st.ms) :
    ∃ v, (results fn a.tmps).run P w = .ok v w ∧ ∃ v' r m' c', Ending.returned v = .returned v' ∧ k r m' ∧ FrM m m' ∧ OXM m' w c' ∧ TrM m w0 c0 m' w c' ∧ SRel c' w r v' ∧ r.inU m'.U := by
  obtain ⟨v, h1, h2, h3⟩ := resS_ok hres hr
  obtain ⟨c', k1, k2, k3, k4, k5⟩ := trunc_ok hr.ox h2 h3
  exact ⟨v, h1, v, _, _, c', rfl, hk, hfr.trans k5, k1, htr.trans k2, k3, k4⟩
theorem inline_ok {rg : RG} {jn : Nat → Option Shape} (hrg : RegOK P rg) : CallOK P (inline P rg jn) := by
  intro f ss m k h us w c hox hl hr
  unfold inline at h
  split at h
  · rename_i fn hf
    split at h
    · rename_i body hb
      cases hn : Nat.ble ss.length fn.ntmps with
      | false => rw [hn] at h; exact h.elim
      | true =>
        rw [hn] at h
        have hn := Nat.le_of_ble_eq_true hn
        have main : ∀ (k' : SV → MS → Prop), bodyK P rg jn fn body (entry ss m fn.ntmps) k' → Calls P f us.toArray w fun e w' => ∃ v r m' c', e = .returned v ∧ k' r m' ∧ FrM m m' ∧ OXM m' w' c' ∧ TrM m w c m' w' c' ∧ SRel c' w' r v ∧ r.inU m'.U := by
          intro k' h
          unfold bodyK at h
          split at h
          · refine calls_of_wp hf hb (wp_mono (aeval_ok hrg body _ _ h _ w c (entry_rx hox hl hn hr)) ?_)
            rintro e a' w' ⟨st', c', hs, hq⟩
            have fin : (match resS P st' fn.results.toList with | some r => kT k' r st'.ms | none => False) → a'.defers = [] ∧ ∃ v, (results fn a'.tmps).run P w' = .ok v w' ∧ ∃ v' r m' c', Ending.returned v = .returned v' ∧ k' r m' ∧ FrM m m' ∧ OXM m' w' c' ∧ TrM m w c m' w' c' ∧ SRel c' w' r v' ∧ r.inU m'.U := by
              intro hq
              split at hq
              · rename_i r hres
                exact ⟨hs.df, resS_fin hres hs.rx hs.tr hs.fr.2.2 hq⟩
              · exact hq.elim
            cases e with
            | normal => exact fin hq
            | ret => exact fin hq
            | _ => exact hq.elim
          · rename_i x ops pre od y hdp
            obtain ⟨id, hbody, hops⟩ := deferParts_spec hdp
            have hA := h
            clear h
            have hb' := hb
            rw [hbody] at hb'
            refine calls_of_wp_defers hf hb' (wp_seq (wp_mono (aeval_ok hrg x _ _ hA _ w c (entry_rx hox hl hn hr)) ?_))
            rintro e a1 w1 ⟨st1, c1, hs1, hq⟩
            cases e with
            | normal =>
              simp only at hq
              split at hq
              · rename_i st2 v args hpu hdo
                split at hq
                · rename_i g cs hfn
                  split at hq
                  · rename_i fg hfg
                    split at hq
                    · rename_i cg hcg
                      cases hb2 : (Nat.ble (args.toList.map st2.ev ++ cs).length fg.ntmps && callable P g) with
                      | false => rw [hb2] at hq; exact hq.elim
                      | true =>
                        rw [hb2] at hq
                        simp only [cond_true] at hq
                        obtain ⟨b1, b2⟩ := Bool.and_eq_true_iff.1 hb2
                        have b1 := Nat.le_of_ble_eq_true b1
                        refine wp_seq (wp_region_list ?_)
                        rw [hops]
                        refine purL_ok hpu hs1.rx fun a2 hs2 => ?_
                        unfold deferOf at hdo
                        split at hdo
                        · rename_i v' args' tys hgd hop hdst
                          injection hdo with hdo
                          injection hdo with q1 q2
                          subst q1 q2
                          obtain ⟨us2, hu2, hl2, hr2⟩ := fnOf_rel hfn (hs2.rx.ev v') (hs2.rx.evU v')
                          refine wpList_plain hgd fun K hK => ?_
                          have hrun : (execOp a2.eval od).run P w1 = .ok (.defer ⟨.fn (.func g) us2.toArray, args'.map a2.eval⟩) w1 := by
                            simp [execOp, hop, resolve, hu2, Deferred.ofValue]
                          have hd0 : a2.defers = [] := hs2.df.trans hs1.df
                          unfold Oper.wp
                          rw [hrun, Oper.upon_defer, hdst]
                          refine hK _ _ (wpList_nil ?_)
                          obtain ⟨a3, ha3⟩ : ∃ a3, a3 = Act.put { a2 with defers := ⟨.fn (.func g) us2.toArray, args'.map a2.eval⟩ :: a2.defers } none undef := ⟨_, rfl⟩
                          have e3t : a3.tmps = a2.tmps := by rw [ha3]; rfl
                          have e3d : a3.defers = [⟨.fn (.func g) us2.toArray, args'.map a2.eval⟩] := by rw [ha3]; show _ :: a2.defers = _; rw [hd0]
                          rw [← ha3]
                          have hrx3 : RX st2 a3 w1 c1 := ⟨hs2.rx.ox, by rw [e3t]; exact hs2.rx.sz, fun x u hx => hs2.rx.sl x u (by rw [← e3t]; exact hx), hs2.rx.us, hs2.rx.cn⟩
                          show y.wp P _ a3 w1
                          refine wp_mono (aeval_ok hrg y _ _ hq a3 w1 c1 hrx3) ?_
                          rintro e a4 w4 ⟨st3, c3, hs3, hq⟩
                          have fin : defK P rg fn fg cg (args'.toList.map st2.ev ++ cs) k' st3 → Leaves P fn a4.tmps (fun e w' => ∃ v r m' c', e = .returned v ∧ k' r m' ∧ FrM m m' ∧ OXM m' w' c' ∧ TrM m w c m' w' c' ∧ SRel c' w' r v ∧ r.inU m'.U) a4.defers .returning w4 := by
                            intro hq
                            rw [hs3.df, e3d]
                            refine leaves_cons (f := g) (args := args'.map a2.eval ++ us2.toArray) (by intro h; cases h) (by simp [invoke, run_call b2]) ?_
                            have hargs : ∀ (i : Nat) (s : SV) (u : Value), (args'.toList.map st2.ev ++ cs)[i]? = some s → (args'.toList.map a2.eval ++ us2)[i]? = some u → SRel c3 w4 s u ∧ s.inU st3.ms.U := fun i s u hi hu => by
                              have base : SRel c1 w1 s u ∧ s.inU st2.ms.U := by
                                by_cases hil : i < args'.toList.length
                                · rw [List.getElem?_append_left (by simpa using hil)] at hi hu
                                  rw [List.getElem?_map, Option.map_eq_some_iff] at hi hu
                                  obtain ⟨z, hz, rfl⟩ := hi
                                  obtain ⟨z', hz', rfl⟩ := hu
                                  rw [hz] at hz'
                                  injection hz' with hz'
                                  subst hz'
                                  exact ⟨hs2.rx.ev z, hs2.rx.evU z⟩
                                · rw [List.getElem?_append_right (by simpa using hil)] at hi hu
                                  simp only [List.length_map] at hi hu
                                  exact hr2 _ s u hi hu
                              exact ⟨hs3.tr.srel hrx3.ox base.1 base.2, SV.inU_mono hs3.tr.uU _ base.2⟩
                            have ent := entry_rx (us := args'.toList.map a2.eval ++ us2) hs3.rx.ox (by simp [hl2]) b1 hargs
                            have e5 : (args'.toList.map a2.eval ++ us2).toArray = args'.map a2.eval ++ us2.toArray := by apply Array.ext'; simp
                            rw [e5] at ent
                            refine CallsD.mono (callsD_of_wp (R := fun e w5 => ∃ v c5 st5, e = .returned v ∧ OXM st5 w5 c5 ∧ TrM st3.ms w4 c3 st5 w5 c5 ∧ FrM st3.ms st5 ∧ ∃ r, resS P (st3.set none .un st5) fn.results.toList = some r ∧ kT k' r st5) hfg hcg (wp_mono (aeval_ok hrg cg _ _ hq _ w4 c3 ent) ?_)) ?_
                            · rintro e a5 w5 ⟨st4, c4, hs4, hq4⟩
                              have fin4 : (match resS P st4 fg.results.toList, resS P (st3.set none .un st4.ms) fn.results.toList with | some _, some r => kT k' r st4.ms | _, _ => False) → a5.defers = [] ∧ ∃ v, (results fg a5.tmps).run P w5 = .ok v w5 ∧ ∃ v' c5 st5, Ending.returned v = .returned v' ∧ OXM st5 w5 c5 ∧ TrM st3.ms w4 c3 st5 w5 c5 ∧ FrM st3.ms st5 ∧ ∃ r, resS P (st3.set none .un st5) fn.results.toList = some r ∧ kT k' r st5 := by
                                intro hq4
                                split at hq4
                                · rename_i r4 r h4 h5
                                  obtain ⟨v4, g1, g2, g3⟩ := resS_ok h4 hs4.rx
                                  exact ⟨hs4.df, v4, g1, v4, c4, st4.ms, rfl, hs4.rx.ox, hs4.tr, hs4.fr.2.2, r, h5, hq4⟩
                                · exact hq4.elim
                              cases e with
                              | normal => exact fin4 hq4
                              | ret => exact fin4 hq4
                              | _ => exact hq4.elim
                            · rintro e u' w5 ⟨rfl, v5, c5, st5, rfl, k1, k2, k3, r, k4, k5⟩
                              have hrx : RX (st3.set none .un st5) (a4.put none undef) w5 c5 := hs3.rx.set k2 k1 (d := none) rfl (.un _) trivial
                              exact resS_fin (m := m) (w0 := w) (c0 := c) k4 hrx (((hs1.tr.trans hs2.tr).trans hs3.tr).trans k2) (((hs1.fr.2.2.trans hs2.fr.2.2).trans hs3.fr.2.2).trans k3) k5
                          cases e with
                          | normal => exact fin hq
                          | ret => exact fin hq
                          | _ => exact hq.elim
                        · cases hdo
                    · exact hq.elim
                  · exact hq.elim
                · exact hq.elim
              · exact hq.elim
            | _ => exact hq.elim
        simp only [cond_true] at h
        split at h
        · exact main k h
        · rename_i s _
          obtain ⟨h⟩ := h
          refine (main _ h).mono ?_
          rintro e w' ⟨v, r, m', c', rfl, hq, hfr, hox', htr, hs, hu⟩
          split at hq
          · rename_i y hy
            rw [app_lam] at hq
            have hb0 : RX ⟨[], m, 1, [], []⟩ { tmps := #[undef], defers := [] } w c := ⟨hox, rfl, fun x u _ => .un u, fun x => trivial, fun x q wt g y hx => by cases hx⟩
            have hst : Step ⟨[], m, 1, [], []⟩ { tmps := #[undef], defers := [] } w c ⟨[(0, noC r)], m', 1, [], []⟩ { tmps := #[v], defers := [] } w' c' := by
              refine ⟨⟨hox', rfl, fun x u hx => ?_, fun x => ?_, fun x q wt g y hx => ?_⟩, htr, rfl, rfl, ⟨[(0, noC r)], rfl⟩, hfr⟩
              · show SRel c' w' (look [(0, noC r)] x) u
                rw [look_cons]
                split
                · rename_i e
                  subst e
                  have : v = u := by simpa using hx
                  subst this
                  exact noC_rel hs
                · exact .un u
              · show (look [(0, noC r)] x).inU _
                rw [look_cons]
                split
                · exact noC_inU hu
                · trivial
              · have hx : look [(0, noC r)] x = .cnd q wt g y := hx
                rw [look_cons] at hx
                split at hx
                · exact absurd hx noC_ne
                · cases hx
            obtain ⟨c2, h2⟩ := s.fit_ok hy hb0 hst
            exact ⟨v, _, _, c2, rfl, hq, h2.fr.2.2, h2.rx.ox, h2.tr, h2.rx.sl 0 v rfl, h2.rx.us 0⟩
          · exact hq.elim
    · exact h.elim
  · exact h.elim
end RE
end Go.Proofs.YtpeggkeenboacaaGreat
namespace Go.Proofs.YtpeggkeenboacaaGreat
open Go.RowKit
set_option linter.unusedVariables false
namespace RE
variable {P : Program}
mutual
/-- Data that no memory stands behind. -/
def D.flat : D → Bool
  | .v _ => true
  | .agg cs => flatL cs
  | .tup cs => flatL cs
  | _ => false
def flatL : List D → Bool
  | [] => true
  | x :: r => x.flat && flatL r
end
theorem flatL_get : ∀ {cs : List D}, flatL cs = true → ∀ {i : Nat} {c : D}, cs[i]? = some c → c.flat = true
  | [], _, i, c, h => by simp at h
  | x :: r, hf, i, c, h => by
    simp only [flatL, Bool.and_eq_true] at hf
    cases i with
    | zero => simp at h; subst h; exact hf.1
    | succ i => simp at h; exact flatL_get hf.2 h
theorem Rd.flat {S S' : Cells} {w w' : World} {x : D} {u : Value} (h : Rd S w x u) : x.flat = true → Rd S' w' x u := by
  induction h with
  | v x => exact fun _ => .v x
  | fn f cs us hl h ih => exact fun hf => by simp [D.flat] at hf
  | agg cs us hl h1 h ih => exact fun hf => .agg cs us hl h1 fun i c u hc hu => ih i c u hc hu (flatL_get (by simpa [D.flat] using hf) hc)
  | tup cs us hl h ih => exact fun hf => .tup cs us hl fun i c u hc hu => ih i c u hc hu (flatL_get (by simpa [D.flat] using hf) hc)
  | sl => exact fun hf => by simp [D.flat] at hf
  | p => exact fun hf => by simp [D.flat] at hf
def flatA : Ty → Bool
  | .sl _ => false
  | .st _ => false
  | _ => true
def flatT : Ty → Bool
  | .st s => (flds s).all flatA
  | t => flatA t
theorem encA_flat : ∀ {t : Ty} {x : den t}, flatA t = true → (encA t x).flat = true
  | .int _, _, _ => rfl
  | .bool, _, _ => rfl
  | .str, _, _ => rfl
  | .sl _, _, h => by cases h
  | .st _, _, h => by cases h
theorem encs_flat : ∀ {ts : List Ty} {x : dens ts}, ts.all flatA = true → flatL (encs ts x) = true
  | [], _, _ => rfl
  | t :: ts, x, h => by
    obtain ⟨h1, h2⟩ := Bool.and_eq_true_iff.1 (show (flatA t && ts.all flatA) = true by simpa using h)
    show (_ && _) = true
    rw [encA_flat h1, encs_flat h2]; rfl
theorem tv_flat : ∀ {t : Ty} {x : den t}, flatT t = true → (tv t x).flat = true
  | .st s, x, h => encs_flat (ts := flds s) h
  | .int _, _, _ => rfl
  | .bool, _, _ => rfl
  | .str, _, _ => rfl
  | .sl _, _, h => by cases h
theorem enc_flat : ∀ {t : Ty} {x : den t}, flatT t = true → flatL (enc t x) = true
  | .st s, x, h => encs_flat (ts := flds s) h
  | .int _, _, _ => rfl
  | .bool, _, _ => rfl
  | .str, _, _ => rfl
  | .sl _, _, h => by cases h
mutual
def shFlat : Sh → Bool
  | .dat t => flatT t
  | .own _ t => flatT t
  | .agg cs => shFlatL cs
  | .tup cs => shFlatL cs
  | .un => true
  | _ => false
def shFlatL : List Sh → Bool
  | [] => true
  | s :: r => shFlat s && shFlatL r
end
mutual
/-- A result's shape names no object of the caller's. -/
def shPure : Sh → Bool
  | .dat _ => true
  | .own _ _ => true
  | .agg cs => shPureL cs
  | .tup cs => shPureL cs
  | .un => true
  | _ => false
def shPureL : List Sh → Bool
  | [] => true
  | s :: r => shPure s && shPureL r
end
mutual
theorem instS_rows : ∀ (s : Sh) (acc : List Ty) (v : dens (shT s acc)) (k k' : Nat), (instS s acc v k).2 = (instS s acc v k').2
  | .dat t, acc, v, k, k' => rfl
  | .own e t, acc, v, k, k' => rfl
  | .bx id off, acc, v, k, k' => rfl
  | .rf id, acc, v, k, k' => rfl
  | .tp, acc, v, k, k' => rfl
  | .un, acc, v, k, k' => rfl
  | .agg cs, acc, v, k, k' => instL_rows cs acc v k k'
  | .tup cs, acc, v, k, k' => instL_rows cs acc v k k'
theorem instL_rows : ∀ (ss : List Sh) (acc : List Ty) (v : dens (shTL ss acc)) (k k' : Nat), (instL ss acc v k).2 = (instL ss acc v k').2
  | [], acc, v, k, k' => rfl
  | s :: ss, acc, v, k, k' => by
    have h1 := instS_rows s (shTL ss acc) v k k'
    have hA : ∀ k, (instL (s :: ss) acc v k).2 = ((instS s (shTL ss acc) v k).2.1 ++ (instL ss acc (instS s (shTL ss acc) v k).2.2 (k + (instS s (shTL ss acc) v k).2.1.length)).2.1, (instL ss acc (instS s (shTL ss acc) v k).2.2 (k + (instS s (shTL ss acc) v k).2.1.length)).2.2) := fun _ => rfl
    rw [hA, hA, h1, instL_rows ss acc _ (k + (instS s (shTL ss acc) v k').2.1.length) (k' + (instS s (shTL ss acc) v k').2.1.length)]
end
mutual
theorem instS_shift {c c2 : Cx} {w : World} {n : Nat} {al : Bool} (hS : al = true → ∀ b o, c.S b o → c2.S b o) (hH : ∀ i, c2.H (n + i) = c.H i) : ∀ (s : Sh) (acc : List Ty) (v : dens (shT s acc)) (k : Nat), shPure s = true → (al || shFlat s) = true → ∀ {u : Value}, SRel c w (instS s acc v k).1 u → SRel c2 w (instS s acc v (n + k)).1 u
  | .dat t, acc, v, k, _, hf, u, hr => by
    refine .d _ _ ?_
    have hr := srel_d hr
    cases al with
    | true => exact hr.mono (hS rfl) (fun _ _ _ => rfl)
    | false => exact hr.flat (tv_flat (show flatT t = true from by simpa [shFlat] using hf))
  | .own e t, acc, v, k, _, hf, u, hr => by
    rw [srel_os hr, ← hH]
    exact .os _
  | .bx id off, acc, v, k, hp, _, u, hr => by cases hp
  | .rf id, acc, v, k, hp, _, u, hr => by cases hp
  | .tp, acc, v, k, hp, _, u, hr => by cases hp
  | .un, acc, v, k, _, _, u, hr => .un u
  | .agg cs, acc, v, k, hp, hf, u, hr => by
    have hr : SRel c w (mkAgg (instL cs acc v k).1) u := hr
    obtain ⟨us, rfl, hl, h1, h2, _⟩ : ∃ us : List Value, u = .agg us.toArray ∧ us.length = (instL cs acc v k).1.length ∧ (∀ u ∈ us, u.oneCell' = true) ∧ (∀ (i : Nat) (s : SV) (u : Value), (instL cs acc v k).1[i]? = some s → us[i]? = some u → SRel c w s u) ∧ True := by
      unfold mkAgg at hr
      split at hr
      · rename_i ds hd
        have hd := dOf_spec hd
        cases srel_d hr with
        | agg _ us hl h1 h2 =>
          refine ⟨us, rfl, by rw [hd]; simp [hl], h1, fun i s u hs hu => ?_, trivial⟩
          rw [hd, List.getElem?_map, Option.map_eq_some_iff] at hs
          obtain ⟨x, hx, rfl⟩ := hs
          exact .d _ _ (h2 i x u hx hu)
      · obtain ⟨us, e1, e2, e3, e4⟩ := srel_agg hr
        exact ⟨us, e1, e2, e3, e4, trivial⟩
    obtain ⟨k1, k2⟩ := instL_shift hS hH cs acc v k hp hf
    show SRel c2 w (mkAgg (instL cs acc v (n + k)).1) _
    exact srel_mkAgg (by omega) h1 fun i s u hs hu => by
      have hi : i < (instL cs acc v k).1.length := by have := (List.getElem?_eq_some_iff.1 hu).1; omega
      exact k2 i _ s (List.getElem?_eq_getElem hi) hs (h2 i _ u (List.getElem?_eq_getElem hi) hu)
  | .tup cs, acc, v, k, hp, hf, u, hr => by
    have hr : SRel c w (.tup (instL cs acc v k).1) u := hr
    obtain ⟨k1, k2⟩ := instL_shift hS hH cs acc v k hp hf
    cases hr with
    | tup _ us hl h2 =>
      show SRel c2 w (.tup (instL cs acc v (n + k)).1) _
      exact .tup _ us (by omega) fun i s u hs hu => by
        have hi : i < (instL cs acc v k).1.length := by have := (List.getElem?_eq_some_iff.1 hu).1; omega
        exact k2 i _ s (List.getElem?_eq_getElem hi) hs (h2 i _ u (List.getElem?_eq_getElem hi) hu)
theorem instL_shift {c c2 : Cx} {w : World} {n : Nat} {al : Bool} (hS : al = true → ∀ b o, c.S b o → c2.S b o) (hH : ∀ i, c2.H (n + i) = c.H i) : ∀ (ss : List Sh) (acc : List Ty) (v : dens (shTL ss acc)) (k : Nat), shPureL ss = true → (al || shFlatL ss) = true → (instL ss acc v k).1.length = (instL ss acc v (n + k)).1.length ∧ ∀ (i : Nat) (x y : SV), (instL ss acc v k).1[i]? = some x → (instL ss acc v (n + k)).1[i]? = some y → ∀ {u : Value}, SRel c w x u → SRel c2 w y u
  | [], acc, v, k, _, _ => ⟨rfl, fun i x y h => by simp [instL] at h⟩
  | s :: ss, acc, v, k, hp, hf => by
    obtain ⟨p1, p2⟩ := Bool.and_eq_true_iff.1 (show (shPure s && shPureL ss) = true from hp)
    have f12 : (al || shFlat s) = true ∧ (al || shFlatL ss) = true := by
      cases al with
      | true => exact ⟨rfl, rfl⟩
      | false =>
        have hf : (shFlat s && shFlatL ss) = true := by simpa [shFlatL] using hf
        obtain ⟨a1, a2⟩ := Bool.and_eq_true_iff.1 hf
        exact ⟨by simpa using a1, by simpa using a2⟩
    have e := instS_rows s (shTL ss acc) v k (n + k)
    have e1 : (instS s (shTL ss acc) v k).2.1 = (instS s (shTL ss acc) v (n + k)).2.1 := by rw [e]
    have e2 : (instS s (shTL ss acc) v k).2.2 = (instS s (shTL ss acc) v (n + k)).2.2 := by rw [e]
    obtain ⟨q1, q2⟩ := instL_shift hS hH ss acc (instS s (shTL ss acc) v k).2.2 (k + (instS s (shTL ss acc) v k).2.1.length) p2 f12.2
    have hA : (instL (s :: ss) acc v k).1 = (instS s (shTL ss acc) v k).1 :: (instL ss acc (instS s (shTL ss acc) v k).2.2 (k + (instS s (shTL ss acc) v k).2.1.length)).1 := rfl
    have hB : (instL (s :: ss) acc v (n + k)).1 = (instS s (shTL ss acc) v (n + k)).1 :: (instL ss acc (instS s (shTL ss acc) v k).2.2 (n + (k + (instS s (shTL ss acc) v k).2.1.length))).1 := by
      show _ :: (instL ss acc (instS s (shTL ss acc) v (n + k)).2.2 (n + k + (instS s (shTL ss acc) v (n + k)).2.1.length)).1 = _
      rw [← e2, ← e1, Nat.add_assoc]
    rw [hA, hB]
    refine ⟨by simp [q1], fun i x y hx hy u hr => ?_⟩
    cases i with
    | zero => simp at hx hy; subst hx hy; exact instS_shift hS hH s (shTL ss acc) v k p1 f12.1 hr
    | succ i => simp at hx hy; exact q2 i x y hx hy hr
end
mutual
theorem instS_inU {n : Nat} : ∀ (s : Sh) (acc : List Ty) (v : dens (shT s acc)) (k : Nat), shPure s = true → (instS s acc v k).1.inU fun i => k ≤ i ∧ i < k + (instS s acc v k).2.1.length
  | .dat t, acc, v, k, _ => trivial
  | .own e t, acc, v, k, _ => ⟨Nat.le_refl _, by show k < k + 1; omega⟩
  | .bx id off, acc, v, k, hp => by cases hp
  | .rf id, acc, v, k, hp => by cases hp
  | .tp, acc, v, k, hp => by cases hp
  | .un, acc, v, k, _ => trivial
  | .agg cs, acc, v, k, hp => mkAgg_inU (instL_inU (n := n) cs acc v k hp)
  | .tup cs, acc, v, k, hp => instL_inU (n := n) cs acc v k hp
theorem instL_inU {n : Nat} : ∀ (ss : List Sh) (acc : List Ty) (v : dens (shTL ss acc)) (k : Nat), shPureL ss = true → inUL (fun i => k ≤ i ∧ i < k + (instL ss acc v k).2.1.length) (instL ss acc v k).1
  | [], acc, v, k, _ => trivial
  | s :: ss, acc, v, k, hp => by
    obtain ⟨p1, p2⟩ := Bool.and_eq_true_iff.1 (show (shPure s && shPureL ss) = true from hp)
    have h1 := instS_inU (n := n) s (shTL ss acc) v k p1
    have h2 := instL_inU (n := n) ss acc (instS s (shTL ss acc) v k).2.2 (k + (instS s (shTL ss acc) v k).2.1.length) p2
    have e : (instL (s :: ss) acc v k).2.1.length = (instS s (shTL ss acc) v k).2.1.length + (instL ss acc (instS s (shTL ss acc) v k).2.2 (k + (instS s (shTL ss acc) v k).2.1.length)).2.1.length := by
      show ((instS s (shTL ss acc) v k).2.1 ++ _).length = _
      rw [List.length_append]
    rw [e]
    exact ⟨SV.inU_mono (fun i hi => by omega) _ h1, inUL_mono (fun i hi => by omega) _ h2⟩
end
/-- A contract: of the arguments, what must hold so that a statement of the results holds behind the call. -/
structure Spec where
  f : FuncId
  tp : Bool
  al : Bool
  ts : List Ty
  rs : Sh
  pt : dens ts → (dens (shT rs []) → Prop) → Prop
def tvs : (ts : List Ty) → dens ts → List D
  | [], _ => []
  | t :: ts, x => tv t x.1 :: tvs ts x.2
def undoL : (ts : List Ty) → List D → Option (dens ts)
  | [], [] => some ()
  | t :: ts, d :: ds => match undoT t d, undoL ts ds with
    | some x, some r => some (x, r)
    | _, _ => none
  | _, _ => none
theorem undoL_rd : ∀ {ts : List Ty} {ds : List D} {x : dens ts}, undoL ts ds = some x → ds.length = ts.length ∧ ∀ (i : Nat) (c d : D), (tvs ts x)[i]? = some c → ds[i]? = some d → ∀ {S : Cells} {w : World} {u : Value}, Rd S w d u → Rd S w c u
  | [], [], x, _ => ⟨rfl, fun i c d h => by simp [tvs] at h⟩
  | [], _ :: _, x, h => by simp [undoL] at h
  | _ :: _, [], x, h => by simp [undoL] at h
  | t :: ts, d :: ds, x, h => by
    unfold undoL at h
    split at h
    · rename_i y r h1 h2
      injection h with h
      subst h
      obtain ⟨k1, k2⟩ := undoL_rd h2
      refine ⟨by simp [k1], fun i c d' hc hd S w u hr => ?_⟩
      cases i with
      | zero => simp [tvs] at hc hd; subst hc hd; exact undoT_rd h1 hr
      | succ i => simp [tvs] at hc hd; exact k2 i c d' hc hd hr
    · cases h
theorem tvs_len : ∀ (ts : List Ty) (x : dens ts), (tvs ts x).length = ts.length
  | [], _ => rfl
  | t :: ts, x => by simp [tvs, tvs_len ts x.2]
def MS.add (m : MS) (rows : List Row) : MS := ⟨rowsOb m.nx rows ++ m.ob, m.nx + rows.length, m.tp⟩
def tpArg : Option Nat → List Value → List Value
  | some t, us => .pointer (some ⟨t, 0, none⟩) :: us
  | none, us => us
def TapeC (tp : Bool) (w : World) (S : Cells) (T : Option Nat) : Prop := match tp with
  | true => ∃ t, T = some t ∧ TapeS w t S ∧ ∀ k, ¬ S t k
  | false => T = none
def cx0 (S : Cells) (T : Option Nat) : Cx := ⟨S, fun _ => undef, fun _ _ => False, T⟩
def SpecOK (P : Program) (s : Spec) : Prop := ∀ x post, s.pt x post → ∀ w (S : Cells) (T : Option Nat) (us : List Value), (∀ b o, S b o → b < w.heap.size) → TapeC s.tp w S T → us.length = s.ts.length →
  (∀ (i : Nat) (d : D) (u : Value), (tvs s.ts x)[i]? = some d → us[i]? = some u → Rd S w d u) →
  Calls P s.f (tpArg T us).toArray w fun e w' => ∃ v y c', e = .returned v ∧ post y ∧ OXM (MS.add ⟨[], 0, s.tp⟩ (instS s.rs [] y 0).2.1) w' c' ∧ TrM ⟨[], 0, s.tp⟩ w (cx0 S T) (MS.add ⟨[], 0, s.tp⟩ (instS s.rs [] y 0).2.1) w' c' ∧ SRel c' w' (instS s.rs [] y 0).1 v
end RE
end Go.Proofs.YtpeggkeenboacaaGreat
namespace Go.Proofs.YtpeggkeenboacaaGreat
open Go.RowKit
set_option linter.unusedVariables false
namespace RE
variable {P : Program}
/-- All cells that a callee may read. -/
def lentS (ob : Obs) (c : Cx) : Cells := fun b o => c.S b o ∨ FP ob c b
theorem rows_obs (m : MS) (rows : List Row) (id : Nat) (x : Ob) (h : (m.add rows).obs id = some x) : (∃ j r, id = m.nx + j ∧ rows[j]? = some r ∧ x = .row r.1 r.2.1 r.2.2) ∨ m.obs id = some x := by
  have h : lookO (rowsOb m.nx rows ++ m.ob) id = some x := h
  rw [lookO_app'] at h
  cases hr : lookK (rowsOb m.nx rows) id with
  | some v =>
    rw [hr] at h
    obtain ⟨j, r, h1, h2, h3⟩ := rowsOb_some hr
    have h : v = some x := h
    rw [h3] at h
    injection h with h
    exact .inl ⟨j, r, h1, h2, h.symm⟩
  | none => rw [hr] at h; exact .inr h
theorem lookK_rows : ∀ (rows : List Row) (k j : Nat) (r : Row), rows[j]? = some r → lookK (rowsOb k rows) (k + j) = some (some (.row r.1 r.2.1 r.2.2))
  | [], k, j, r, h => by simp at h
  | q :: rows, k, 0, r, h => by
    simp at h
    subst h
    rw [rowsOb, lookK_cons, if_pos (by simp)]
  | q :: rows, k, j + 1, r, h => by
    rw [rowsOb, lookK_cons, if_neg (by simp), show k + (j + 1) = k + 1 + j by omega]
    exact lookK_rows rows (k + 1) j r (by simpa using h)
/-- Behind a call: the callee's rows are the caller's. -/
theorem call_back {m : MS} {w w' : World} {c c' : Cx} {rows : List Row} {S0 : Cells} {T0 : Option Nat} {tp al : Bool} (hox : OXM m w c) (hT : (tp = true ∧ al = true ∧ T0 = c.T) ∨ T0 = none) (hS0 : al = true → ∀ b o, S0 b o → c.S b o)
    (hflat : al = true ∨ ∀ r ∈ rows, flatT r.2.1 = true) (hox' : OXM (MS.add ⟨[], 0, tp⟩ rows) w' c') (ht : TrM ⟨[], 0, tp⟩ w (cx0 S0 T0) (MS.add ⟨[], 0, tp⟩ rows) w' c') (htpm : tp = true → T0 = c.T) :
    ∃ c2, OXM (m.add rows) w' c2 ∧ TrM m w c (m.add rows) w' c2 ∧ (∀ i, c2.H (m.nx + i) = c'.H i) ∧ (al = true → ∀ b o, c'.S b o → c2.S b o) := by
  have hnoFP : ∀ b, ¬ FP (MS.obs ⟨[], 0, tp⟩) (cx0 S0 T0) b := fun b ⟨id, x, h, _⟩ => by cases h
  have hfpnew : ∀ j r b, rows[j]? = some r → c'.F j b → w.heap.size ≤ b := fun j r b hr hb => by
    have : (MS.add ⟨[], 0, tp⟩ rows).obs j = some (.row r.1 r.2.1 r.2.2) := by
      show lookO (rowsOb 0 rows ++ []) j = _
      rw [lookO_app']
      have := lookK_rows rows 0 j r hr
      rw [Nat.zero_add] at this
      rw [this]; rfl
    rcases ht.fp b ⟨j, _, this, rfl, hb⟩ with e | e
    · exact absurd e (hnoFP b)
    · exact e
  have hrow : ∀ j r, rows[j]? = some r → (MS.add ⟨[], 0, tp⟩ rows).obs j = some (.row r.1 r.2.1 r.2.2) := fun j r hr => by
    show lookO (rowsOb 0 rows ++ []) j = _
    rw [lookO_app']
    have := lookK_rows rows 0 j r hr
    rw [Nat.zero_add] at this
    rw [this]; rfl
  -- blocks of the caller's stay, but for the tape's
  have hblk : ∀ b, b < w.heap.size → (tp = true → c.T ≠ some b) → w'.heap[b]? = w.heap[b]? := fun b hb hTb => by
    refine ht.blk b hb (hnoFP b) ?_
    show T0 ≠ some b
    rcases hT with ⟨e1, _, e2⟩ | e
    · rw [e2]; exact hTb e1
    · rw [e]; exact fun h => by cases h
  have hcell : ∀ b o, c.S b o → w'.cell? ⟨b, o, none⟩ = w.cell? ⟨b, o, none⟩ := fun b o hs => World.cell?_of_block (hblk b (hox.sb b o hs) fun _ e => (hox.nT b e).2 o hs)
  let c2 : Cx := ⟨fun b o => c.S b o ∨ (c'.S b o ∧ w.heap.size ≤ b), fun i => if i < m.nx then c.H i else c'.H (i - m.nx), fun i => if i < m.nx then c.F i else c'.F (i - m.nx), c.T⟩
  have h2o : ∀ i, i < m.nx → c2.H i = c.H i ∧ c2.F i = c.F i := fun i hi => ⟨if_pos hi, if_pos hi⟩
  have h2n : ∀ i, c2.H (m.nx + i) = c'.H i ∧ c2.F (m.nx + i) = c'.F i := fun i => by
    refine ⟨?_, ?_⟩
    · show (if m.nx + i < m.nx then _ else _) = _
      rw [if_neg (by omega), show m.nx + i - m.nx = i by omega]
    · show (if m.nx + i < m.nx then _ else _) = _
      rw [if_neg (by omega), show m.nx + i - m.nx = i by omega]
  have hSal : al = true → ∀ b o, c'.S b o → c2.S b o := fun ha b o hb => by
    rcases ht.sN b o hb with e | e | e
    · exact .inl (hS0 ha b o e)
    · exact absurd e (hnoFP b)
    · exact .inr ⟨hb, e⟩
  have hS2 : ∀ b o, c2.S b o → c.S b o ∨ w.heap.size ≤ b := fun b o hb => hb.imp id (·.2)
  refine ⟨c2, ⟨fun b o hb => ?_, fun id x hx => ?_, fun id x hx hox2 b hb => ?_, fun i j x y hx ox2 hy oy2 hne b hb hb' => ?_, fun T hTs => ?_, fun htp => ?_, hox.tF⟩, ⟨ht.os, ht.tape, ht.output, ht.sz, fun _ h => h, fun _ h => .inl h, fun i hi => ?_, fun i hi => h2o i hi, fun _ _ h => .inl h, fun b o hb => ?_, fun b hb hf hTb => ?_, fun b hb => ?_⟩, fun i => (h2n i).1, hSal⟩
  · rcases hb with hb | ⟨hb, _⟩
    · exact Nat.lt_of_lt_of_le (hox.sb b o hb) ht.sz
    · exact hox'.sb b o hb
  · rcases rows_obs m rows id x hx with ⟨j, r, rfl, hr, rfl⟩ | hx
    · refine ⟨?_, trivial, ?_⟩
      · show m.nx + j < m.nx + rows.length
        have := (List.getElem?_eq_some_iff.1 hr).1; omega
      · show RowAt w' c2.S (c2.H (m.nx + j)) (c2.F (m.nx + j)) _ _ _
        rw [(h2n j).1, (h2n j).2]
        obtain ⟨h0, h | ⟨g, cap, cur, hv, hF, hg, q1, q2, q3, q4⟩⟩ := (hox'.objs j _ (hrow j r hr)).2.2
        · exact ⟨h0, .inl h⟩
        · refine ⟨h0, .inr ⟨g, cap, cur, hv, hF, hg, q1, q2, q3, fun i x hi jj d hd => ?_⟩⟩
          obtain ⟨u, u1, u2, u3⟩ := q4 i x hi jj d hd
          refine ⟨u, u1, u2, ?_⟩
          rcases hflat with ha | hf
          · exact u3.mono (hSal ha) (fun _ _ _ => rfl)
          · exact u3.flat (flatL_get (enc_flat (hf r (List.mem_of_getElem? hr))) hd)
    · obtain ⟨u1, u2, u3⟩ := hox.objs id x hx
      have hid : id < m.nx := u1
      refine ⟨?_, Ob.inU_mono (fun i hi => ?_) u2, u3.keep (U := m.U) u2 (fun _ _ h => .inl h) hcell (fun _ h => h) (fun i hi => (h2o i hi).1) (h2o id hid) fun ho b hb => ?_⟩
      · show id < m.nx + rows.length; omega
      · have hi : i < m.nx := hi
        show i < m.nx + rows.length; omega
      · obtain ⟨p1, p2, p3⟩ := hox.fb id x hx ho b hb
        exact hblk b p1 fun _ => p3
  · rcases rows_obs m rows id x hx with ⟨j, r, rfl, hr, rfl⟩ | hx
    · rw [(h2n j).2] at hb
      have hnew := hfpnew j r b hr hb
      obtain ⟨p1, p2, p3⟩ := hox'.fb j _ (hrow j r hr) rfl b hb
      refine ⟨p1, fun k hk => ?_, fun e => ?_⟩
      · rcases hk with hk | ⟨hk, _⟩
        · have := hox.sb b k hk; omega
        · exact p2 k hk
      · have := (hox.nT b e).1; omega
    · rw [(h2o id (hox.objs id x hx).1).2] at hb
      obtain ⟨p1, p2, p3⟩ := hox.fb id x hx hox2 b hb
      refine ⟨Nat.lt_of_lt_of_le p1 ht.sz, fun k hk => ?_, p3⟩
      rcases hS2 b k hk with e | e
      · exact p2 k e
      · omega
  · rcases rows_obs m rows i x hx with ⟨p, r, rfl, hr, rfl⟩ | hx
    · rw [(h2n p).2] at hb
      have hnew := hfpnew p r b hr hb
      rcases rows_obs m rows j y hy with ⟨q, r', rfl, hr', rfl⟩ | hy
      · rw [(h2n q).2] at hb'
        exact hox'.dj p q _ _ (hrow p r hr) rfl (hrow q r' hr') rfl (fun e => hne (by rw [e])) b hb hb'
      · rw [(h2o j (hox.objs j y hy).1).2] at hb'
        have := (hox.fb j y hy oy2 b hb').1; omega
    · rw [(h2o i (hox.objs i x hx).1).2] at hb
      have hlt := (hox.fb i x hx ox2 b hb).1
      rcases rows_obs m rows j y hy with ⟨q, r', rfl, hr', rfl⟩ | hy
      · rw [(h2n q).2] at hb'
        have := hfpnew q r' b hr' hb'; omega
      · rw [(h2o j (hox.objs j y hy).1).2] at hb'
        exact hox.dj i j x y hx ox2 hy oy2 hne b hb hb'
  · obtain ⟨p1, p2⟩ := hox.nT T hTs
    refine ⟨Nat.lt_of_lt_of_le p1 ht.sz, fun k hk => ?_⟩
    rcases hS2 T k hk with e | e
    · exact p2 k e
    · omega
  · obtain ⟨T, hTs, hta⟩ := hox.tpe htp
    refine ⟨T, hTs, ?_⟩
    cases htt : tp with
    | true =>
      rcases hT with ⟨_, ha, e2⟩ | e
      · obtain ⟨T', hT', hta'⟩ := hox'.tpe htt
        have : c'.T = some T := ht.tK T (by show T0 = some T; rw [e2]; exact hTs)
        rw [this] at hT'
        injection hT' with hT'
        subst hT'
        exact hta'.mono (hSal ha) (fun _ _ _ => rfl) rfl
      · have := htpm htt
        rw [e, hTs] at this
        cases this
    | false => exact hta.mono (fun _ _ h => .inl h) hcell (hblk T hta.lt fun e => by rw [htt] at e; cases e)
  · have hi : i < m.nx := hi
    show i < m.nx + rows.length; omega
  · rcases hb with hb | ⟨_, hb⟩
    · exact .inl hb
    · exact .inr (.inr hb)
  · exact hblk b hb fun _ => hTb
  · obtain ⟨id, x, hx, ho, hb⟩ := hb
    rcases rows_obs m rows id x hx with ⟨j, r, rfl, hr, rfl⟩ | hx
    · rw [(h2n j).2] at hb
      exact .inr (hfpnew j r b hr hb)
    · rw [(h2o id (hox.objs id x hx).1).2] at hb
      exact .inl ⟨id, x, hx, ho, hb⟩
mutual
/-- A word as a callee may read it. -/
def viewOf (m : Mem) : SV → Option D
  | .d x => some x
  | .os id => match rowOf m id with
    | some ⟨t, l⟩ => some (.sl t l)
    | none => none
  | .sub id sz a b => match rowOf m id with
    | some ⟨t, l⟩ => bif Nat.beq sz (size t) then some (.sl t (sub l a b)) else none
    | none => none
  | .ns id => match m.ob id with
    | some (.nst _ t _ _ _ l) => some (.sl t l)
    | some (.nfr t l) => some (.sl t l)
    | _ => none
  | .agg cs => match viewL m cs with
    | some ds => some (.agg ds)
    | none => none
  | .fn f cs => match viewL m cs with
    | some ds => some (.fn f ds)
    | none => none
  | _ => none
def viewL (m : Mem) : List SV → Option (List D)
  | [] => some []
  | s :: r => match viewOf m s, viewL m r with
    | some d, some ds => some (d :: ds)
    | _, _ => none
end
theorem row_view {m : Mem} {w : World} {c : Cx} (ox : OX m.ob m.U m.tp w c) {id : Nat} {t : Ty} {l : List (den t)} (h : rowOf m id = some ⟨t, l⟩) : Rd (lentS m.ob c) w (.sl t l) (c.H id) := by
  unfold rowOf at h
  split at h
  · rename_i e t' l' hr
    injection h with h
    cases h
    obtain ⟨h0, ⟨hl, ⟨ad, hv⟩, _⟩ | ⟨g, cap, cur, hv, hF, hg, h1, h2, h3, h4⟩⟩ := (ox.objs id _ hr).2.2
    · subst hl
      rw [hv]; exact Rd.nil _ _ _ (Nat.zero_le _)
    · rw [hv]
      obtain ⟨f, f1, f2⟩ := rowCells (w := w) (S := c.S) (l := l) (g := g) (fun i x hi j d hd => by
        obtain ⟨u, u1, u2, u3⟩ := h4 i x hi j d hd
        exact ⟨u, by rw [cell_row hg]; exact u1, u2, u3⟩)
      exact Rd.sl t l _ cap g 0 f h1 h2 (.inr rfl) (fun i hi j hj => ⟨.inr ⟨id, _, hr, rfl, (hF g).2 rfl⟩, by rw [Nat.zero_add]; exact f1 i hi j hj⟩) (fun i x j d hi hd => (f2 i x j d hi hd).mono (fun _ _ h => .inl h) (fun _ _ _ => rfl))
  · rename_i t' l' hr
    injection h with h
    cases h
    exact ((ox.objs id _ hr).2.2.1).mono (fun _ _ h => .inl h) (fun _ _ _ => rfl)
  · cases h
mutual
theorem viewOf_rel {m : Mem} {c : Cx} {w : World} (ox : OX m.ob m.U m.tp w c) : ∀ (s : SV) {x : D}, viewOf m s = some x → ∀ {u : Value}, SRel c w s u → Rd (lentS m.ob c) w x u
  | .d y, x, hd, u, hr => by
    simp only [viewOf, Option.some.injEq] at hd
    rw [← hd]; exact (srel_d hr).mono (fun _ _ h => .inl h) (fun _ _ _ => rfl)
  | .os id, x, hd, u, hr => by
    unfold viewOf at hd
    split at hd
    · rename_i t l hrow
      injection hd with hd
      subst hd
      rw [srel_os hr]; exact row_view ox hrow
    · cases hd
  | .sub id sz a b, x, hd, u, hr => by
    unfold viewOf at hd
    split at hd
    · rename_i t l hrow
      cases hb : Nat.beq sz (size t) with
      | false => rw [hb] at hd; cases hd
      | true =>
        rw [hb] at hd
        have hb := beq_eq hb
        subst hb
        injection hd with hd
        subst hd
        obtain ⟨ad, n, cap, hv, rfl, hab⟩ := srel_sub hr
        have hrd := row_view ox hrow
        rw [hv] at hrd
        have hn : n = l.length := by
          obtain ⟨_, _, _, _, _, e, _⟩ := hrd.slInv
          injection e
        subst hn
        exact hrd.sub hab
    · cases hd
  | .ns id, x, hd, u, hr => by
    unfold viewOf at hd
    obtain ⟨vs0, hH0⟩ := srel_ns hr
    have fin : ∀ {t : Ty} {l : List (den t)} {v : Value} {vs : List Value}, c.H id = .tuple (List.toArray (v :: vs)) → Rd (lentS m.ob c) w (.sl t l) v → Rd (lentS m.ob c) w (.sl t l) u := fun h1 h2 => by
      rw [hH0] at h1
      injection h1 with h1
      have h1 := congrArg Array.toList h1
      simp only [List.cons.injEq] at h1
      rw [h1.1]; exact h2
    split at hd
    · rename_i e t k e' t' l hob
      injection hd with hd
      subst hd
      have hn : NstAt w c.S (c.H id) (c.F id) e t k e' t' l := (ox.objs id _ hob).2.2
      obtain ⟨v, vs, h1, h2⟩ := hn.rd (S' := lentS m.ob c) (fun _ _ h => .inl h) fun b hb o => .inr ⟨id, _, hob, rfl, hb⟩
      exact fin h1 h2
    · rename_i t l hob
      injection hd with hd
      subst hd
      obtain ⟨v, vs, h1, h2⟩ := (ox.objs id _ hob).2.2
      exact fin h1 (h2.mono (fun _ _ h => .inl h) (fun _ _ _ => rfl))
    · cases hd
  | .agg cs, x, hd, u, hr => by
    unfold viewOf at hd
    split at hd
    · rename_i ds hl
      injection hd with hd
      subst hd
      obtain ⟨us, rfl, h1, h2, h3⟩ := srel_agg hr
      obtain ⟨k1, k2⟩ := viewL_rel ox cs hl
      exact Rd.agg ds us (by omega) h2 fun i d u hd hu => by
        have hil : i < cs.length := by have := (List.getElem?_eq_some_iff.1 hd).1; omega
        exact k2 i cs[i] d (List.getElem?_eq_getElem hil) hd (h3 i cs[i] u (List.getElem?_eq_getElem hil) hu)
    · cases hd
  | .fn f cs, x, hd, u, hr => by
    unfold viewOf at hd
    split at hd
    · rename_i ds hl
      injection hd with hd
      subst hd
      obtain ⟨k1, k2⟩ := viewL_rel ox cs hl
      cases hr with
      | fn _ _ us h1 h3 =>
        exact Rd.fn f ds us (by omega) fun i d u hd hu => by
          have hil : i < cs.length := by have := (List.getElem?_eq_some_iff.1 hd).1; omega
          exact k2 i cs[i] d (List.getElem?_eq_getElem hil) hd (h3 i cs[i] u (List.getElem?_eq_getElem hil) hu)
    · cases hd
  | .bx _ _, _, hd, _, _ | .op _ _ _ _, _, hd, _, _ | .tup _, _, hd, _, _ | .cnd _ _ _ _, _, hd, _, _ | .tp, _, hd, _, _ | .un, _, hd, _, _ | .np _ _ _ _, _, hd, _, _ | .inn _ _, _, hd, _, _ | .ip _ _ _ _ _, _, hd, _, _ => by simp [viewOf] at hd
theorem viewL_rel {m : Mem} {c : Cx} {w : World} (ox : OX m.ob m.U m.tp w c) : ∀ (ss : List SV) {ds : List D}, viewL m ss = some ds → ss.length = ds.length ∧ ∀ (i : Nat) (s : SV) (d : D), ss[i]? = some s → ds[i]? = some d → ∀ {u : Value}, SRel c w s u → Rd (lentS m.ob c) w d u
  | [], ds, hd => by
    simp only [viewL, Option.some.injEq] at hd
    rw [← hd]
    exact ⟨rfl, fun i s d h => by simp at h⟩
  | s :: r, ds, hd => by
    unfold viewL at hd
    split at hd
    · rename_i d ds' h1 h2
      injection hd with hd
      subst hd
      obtain ⟨k1, k2⟩ := viewL_rel ox r h2
      refine ⟨by simp [k1], fun i s' d' hs hd u hr => ?_⟩
      cases i with
      | zero => simp at hs hd; subst hs hd; exact viewOf_rel ox s h1 hr
      | succ i => simp at hs hd; exact k2 i s' d' hs hd hr
    · cases hd
end
/-- The tape, if it is an argument; the others. -/
def tapeArg (tp mtp : Bool) (ss : List SV) : Option (List SV) := match tp with
  | true => match ss with
    | .tp :: r => bif mtp then some r else none
    | _ => none
  | false => some ss
/-- A call by contract. -/
def byCon (s : Spec) (ss : List SV) (m : MS) (k : SV → MS → Prop) : Prop :=
  match tapeArg s.tp m.tp ss with
  | none => False
  | some ss => bif s.al then match dataL m.mem ss with
      | some (ds, ids) => match undoL s.ts ds with
        | some x => bif shPure s.rs then s.pt x fun y => k (instS s.rs [] y m.nx).1 (MS.add ⟨fzU m.obs ids ++ m.ob, m.nx, m.tp⟩ (instS s.rs [] y 0).2.1) else False
        | none => False
      | none => False
    else match viewL m.mem ss with
      | some ds => match undoL s.ts ds with
        | some x => bif shPure s.rs && shFlat s.rs && !s.tp then s.pt x fun y => k (instS s.rs [] y m.nx).1 (m.add (instS s.rs [] y 0).2.1) else False
        | none => False
      | none => False
end RE
end Go.Proofs.YtpeggkeenboacaaGreat
namespace Go.Proofs.YtpeggkeenboacaaGreat
open Go.RowKit
set_option linter.unusedVariables false
namespace RE
variable {P : Program}
mutual
theorem instS_flat : ∀ (s : Sh) (acc : List Ty) (v : dens (shT s acc)) (k : Nat), shFlat s = true → ∀ r ∈ (instS s acc v k).2.1, flatT r.2.1 = true
  | .dat t, acc, v, k, _ => fun r h => by cases h
  | .own e t, acc, v, k, hf => fun r h => by
    have h : r ∈ [((e, ⟨t, v.1⟩) : Row)] := h
    simp at h
    subst h
    exact hf
  | .bx id off, acc, v, k, _ => fun r h => by cases h
  | .rf id, acc, v, k, _ => fun r h => by cases h
  | .tp, acc, v, k, _ => fun r h => by cases h
  | .un, acc, v, k, _ => fun r h => by cases h
  | .agg cs, acc, v, k, hf => instL_flat cs acc v k hf
  | .tup cs, acc, v, k, hf => instL_flat cs acc v k hf
theorem instL_flat : ∀ (ss : List Sh) (acc : List Ty) (v : dens (shTL ss acc)) (k : Nat), shFlatL ss = true → ∀ r ∈ (instL ss acc v k).2.1, flatT r.2.1 = true
  | [], acc, v, k, _ => fun r h => by cases h
  | s :: ss, acc, v, k, hf => fun r h => by
    obtain ⟨p1, p2⟩ := Bool.and_eq_true_iff.1 (show (shFlat s && shFlatL ss) = true from hf)
    have h : r ∈ (instS s (shTL ss acc) v k).2.1 ++ (instL ss acc (instS s (shTL ss acc) v k).2.2 (k + (instS s (shTL ss acc) v k).2.1.length)).2.1 := h
    rcases List.mem_append.1 h with h | h
    · exact instS_flat s (shTL ss acc) v k p1 r h
    · exact instL_flat ss acc _ _ p2 r h
end
theorem byCon_ok {s : Spec} (hs : SpecOK P s) {ss : List SV} {m : MS} {k : SV → MS → Prop} (h : byCon s ss m k) {us : List Value} {w : World} {c : Cx} (hox : OXM m w c) (hl : us.length = ss.length) (hr : ∀ (i : Nat) (x : SV) (u : Value), ss[i]? = some x → us[i]? = some u → SRel c w x u ∧ x.inU m.U) :
    Calls P s.f us.toArray w fun e w' => ∃ v r m' c', e = .returned v ∧ k r m' ∧ FrM m m' ∧ OXM m' w' c' ∧ TrM m w c m' w' c' ∧ SRel c' w' r v ∧ r.inU m'.U := by
  unfold byCon at h
  split at h
  · exact h.elim
  · rename_i ss' hta
    -- the tape, and the others
    have harg : ∃ (us' : List Value) (T0 : Option Nat), us = tpArg T0 us' ∧ us'.length = ss'.length ∧ (∀ (i : Nat) (x : SV) (u : Value), ss'[i]? = some x → us'[i]? = some u → SRel c w x u ∧ x.inU m.U) ∧ ((s.tp = true ∧ T0 = c.T ∧ m.tp = true ∧ ∃ t, c.T = some t) ∨ (s.tp = false ∧ T0 = none)) := by
      cases htp : s.tp with
      | false =>
        rw [htp] at hta
        injection hta with hta
        subst hta
        exact ⟨us, none, rfl, hl, hr, .inr ⟨rfl, rfl⟩⟩
      | true =>
        rw [htp] at hta
        unfold tapeArg at hta
        split at hta
        · split at hta
          · rename_i r
            cases hm : m.tp with
            | false => rw [hm] at hta; cases hta
            | true =>
              rw [hm] at hta
              injection hta with hta
              subst hta
              match us, hl, hr with
              | u :: us', hl, hr =>
                obtain ⟨T, hT, rfl⟩ := srel_tp (hr 0 .tp u rfl rfl).1
                exact ⟨us', some T, rfl, by simpa using hl, fun i x u hx hu => hr (i + 1) x u hx hu, .inl ⟨rfl, hT.symm, rfl, T, hT⟩⟩
          · cases hta
        · rename_i he; cases he
    obtain ⟨us', T0, rfl, hl', hr', hT⟩ := harg
    have hTC : ∀ S : Cells, (∀ b o, c.S b o → S b o) → (s.tp = true → S = c.S) → TapeC s.tp w S T0 := fun S hS hSe => by
      rcases hT with ⟨e1, e2, e3, t, e4⟩ | ⟨e1, e2⟩
      · rw [e1]
        obtain ⟨T, h1, h2⟩ := hox.tpe e3
        refine ⟨T, e2.trans h1, ?_, ?_⟩
        · rw [hSe e1]; exact h2
        · rw [hSe e1]; exact (hox.nT T h1).2
      · rw [e1]; exact e2
    cases hal : s.al with
    | true =>
      rw [hal] at h
      simp only [cond_true] at h
      split at h
      · rename_i ds ids hd
        split at h
        · rename_i x hx
          cases hp : shPure s.rs with
          | false => rw [hp] at h; exact h.elim
          | true =>
            rw [hp] at h
            simp only [cond_true] at h
            obtain ⟨c1, ox1, t1, hH1, hT1⟩ := hox.freezes ids
            have ob1 : MS.obs ⟨fzU m.obs ids ++ m.ob, m.nx, m.tp⟩ = ovr m.obs (fzU m.obs ids) := lookO_app _ _
            have ox1' : OXM ⟨fzU m.obs ids ++ m.ob, m.nx, m.tp⟩ w c1 := by show OX (MS.obs _) _ _ _ _; rw [ob1]; exact ox1
            have t1' : TrM m w c ⟨fzU m.obs ids ++ m.ob, m.nx, m.tp⟩ w c1 := by show Tr _ _ _ _ (MS.obs ⟨_, _, _⟩) _ _ _; rw [ob1]; exact t1
            obtain ⟨d1, d2⟩ := dataL_rel (m := m.mem) hox ox1 t1 hH1 ss' hd (fun _ h => h)
            obtain ⟨x1, x2⟩ := undoL_rd hx
            have hTC' : TapeC s.tp w c1.S T0 := by
              rcases hT with ⟨e1, e2, e3, t, e4⟩ | ⟨e1, e2⟩
              · rw [e1]
                obtain ⟨T, h1, h2⟩ := ox1'.tpe e3
                exact ⟨T, e2.trans (by rw [← hT1]; exact h1), h2, (ox1'.nT T h1).2⟩
              · rw [e1]; exact e2
            refine (hs x _ h w c1.S T0 us' ox1.sb hTC' (by omega) (fun i d u hdi hu => ?_)).mono ?_
            · have hi : i < ds.length := by have := (List.getElem?_eq_some_iff.1 hdi).1; rw [tvs_len] at this; omega
              have his : i < ss'.length := by omega
              exact x2 i d ds[i] hdi (List.getElem?_eq_getElem hi) (d2 i ss'[i] ds[i] (List.getElem?_eq_getElem his) (List.getElem?_eq_getElem hi) (hr' i _ u (List.getElem?_eq_getElem his) hu).1)
            · rintro e w' ⟨v, y, c', rfl, hy, oxr, tr, hsr⟩
              have hTT : (s.tp = true ∧ true = true ∧ T0 = c1.T) ∨ T0 = none := by
                rcases hT with ⟨e1, e2, _⟩ | ⟨_, e2⟩
                · exact .inl ⟨e1, rfl, by rw [hT1]; exact e2⟩
                · exact .inr e2
              obtain ⟨c2, b1, b2, b3, b4⟩ := call_back (al := true) ox1' hTT (fun _ _ _ h => h) (.inl rfl) oxr tr (fun e => by
                rcases hT with ⟨_, e2, _⟩ | ⟨e2, _⟩
                · rw [hT1]; exact e2
                · rw [e] at e2; cases e2)
              have hsh := instS_shift (c := c') (c2 := c2) (w := w') (n := m.nx) (al := true) (fun _ => b4 rfl) b3 s.rs [] y 0 hp rfl hsr
              refine ⟨v, _, _, c2, rfl, hy, ⟨⟨_, by show rowsOb _ _ ++ (fzU m.obs ids ++ m.ob) = _; rw [← List.append_assoc]⟩, id⟩, b1, t1'.trans b2, by rw [Nat.add_zero] at hsh; exact hsh, ?_⟩
              refine SV.inU_mono (fun i hi => ?_) _ (instS_inU (n := 0) s.rs [] y m.nx hp)
              show i < m.nx + _
              rw [instS_rows s.rs [] y m.nx 0] at hi
              exact hi.2
        · exact h.elim
      · exact h.elim
    | false =>
      rw [hal] at h
      simp only [cond_false] at h
      split at h
      · rename_i ds hd
        split at h
        · rename_i x hx
          cases hp : (shPure s.rs && shFlat s.rs && !s.tp) with
          | false => rw [hp] at h; exact h.elim
          | true =>
            rw [hp] at h
            simp only [cond_true] at h
            simp only [Bool.and_eq_true, Bool.not_eq_true'] at hp
            obtain ⟨⟨p1, p2⟩, p3⟩ := hp
            have hT0 : T0 = none := by
              rcases hT with ⟨e1, _⟩ | ⟨_, e2⟩
              · rw [p3] at e1; cases e1
              · exact e2
            obtain ⟨d1, d2⟩ := viewL_rel (m := m.mem) hox ss' hd
            obtain ⟨x1, x2⟩ := undoL_rd hx
            refine (hs x _ h w (lentS m.obs c) T0 us' (fun b o hb => ?_) (by rw [p3]; exact hT0) (by omega) (fun i d u hdi hu => ?_)).mono ?_
            · rcases hb with hb | ⟨id, y, hy, ho, hb⟩
              · exact hox.sb b o hb
              · exact (hox.fb id y hy ho b hb).1
            · have hi : i < ds.length := by have := (List.getElem?_eq_some_iff.1 hdi).1; rw [tvs_len] at this; omega
              have his : i < ss'.length := by omega
              exact x2 i d ds[i] hdi (List.getElem?_eq_getElem hi) (d2 i ss'[i] ds[i] (List.getElem?_eq_getElem his) (List.getElem?_eq_getElem hi) (hr' i _ u (List.getElem?_eq_getElem his) hu).1)
            · rintro e w' ⟨v, y, c', rfl, hy, oxr, tr, hsr⟩
              obtain ⟨c2, b1, b2, b3, b4⟩ := call_back (al := false) hox (.inr hT0) (fun e => by cases e) (.inr (instS_flat s.rs [] y 0 p2)) oxr tr (fun e => by rw [p3] at e; cases e)
              have hsh := instS_shift (c := c') (c2 := c2) (w := w') (n := m.nx) (al := false) (fun e => by cases e) b3 s.rs [] y 0 p1 (by simpa using p2) hsr
              refine ⟨v, _, _, c2, rfl, hy, ⟨⟨_, rfl⟩, id⟩, b1, b2, by rw [Nat.add_zero] at hsh; exact hsh, ?_⟩
              refine SV.inU_mono (fun i hi => ?_) _ (instS_inU (n := 0) s.rs [] y m.nx p1)
              show i < m.nx + _
              rw [instS_rows s.rs [] y m.nx 0] at hi
              exact hi.2
        · exact h.elim
      · exact h.elim
/-- The contracts at hand. -/
inductive SpecsOK (P : Program) : List Spec → Prop
  | nil : SpecsOK P []
  | cons {s : Spec} {l : List Spec} (h : SpecOK P s) (t : SpecsOK P l) : SpecsOK P (s :: l)
def findS : List Spec → FuncId → Option Spec
  | [], _ => none
  | s :: r, f => bif Nat.beq s.f f then some s else findS r f
/-- What a walk needs: the program's types as types of data; contracts; the shapes of joins, loops and calls, by the frame's word and the place in it. -/
structure Ctx where
  τ : TypeId → Option Ty
  sp : List Spec
  jn : Nat → Nat → Option Shape
/-- The word of a callee's frame. -/
def subK (fk id i : Nat) : Nat := (fk * 1021 + id) * 1021 + i + 1
abbrev DR := Nat → (Nat → CP) → Array Oper → St → (St → Prop) → Prop
/-- Calls: by contract, or walked in place, as deep as n. -/
def callF (P : Program) (C : Ctx) (dr : DR) : Nat → Nat → CP
  | 0, _ => fun _ _ _ _ => False
  | n + 1, fk => fun f ss m k => match findS C.sp f with
    | some s => byCon s ss m k
    | none => inline P (fun id ops d st K => bif d then dr id (fun i => callF P C dr n (subK fk id i)) ops st K else aops P C.τ (fun i => callF P C dr n (subK fk id i)) ops 0 ops.toList st K) (C.jn fk) f ss m k
def DrOK (P : Program) (dr : DR) : Prop := ∀ id cp ops st K, (∀ i, CallOK P (cp i)) → dr id cp ops st K → AC P (.region id ops true) st fun e st' => e = .normal ∧ K st'
theorem reg_ok {τ : TypeId → Option Ty} {dr : DR} (hdr : DrOK P dr) {cp : Nat → Nat → CP} (hcp : ∀ id i, CallOK P (cp id i)) : RegOK P (fun id ops d st K => bif d then dr id (cp id) ops st K else aops P τ (cp id) ops 0 ops.toList st K) := by
  intro id ops d st K h
  cases d with
  | true => exact hdr id (cp id) ops st K (hcp id) h
  | false =>
    have h : aops P τ (cp id) ops 0 ops.toList st K := h
    intro a w c hr
    exact wp_region_list (aops_ok (hcp id) ops.toList 0 st K h a w c hr _ fun st' a' w' c' hs hk => ⟨st', c', hs, rfl, hk⟩)
end RE
end Go.Proofs.YtpeggkeenboacaaGreat
namespace Go.Proofs.YtpeggkeenboacaaGreat
open Go.RowKit
set_option linter.unusedVariables false
namespace RE
variable {P : Program}
def regF (P : Program) (C : Ctx) (dr : DR) (n fk : Nat) : RG := fun id ops d st K => bif d then dr id (fun i => callF P C dr n (subK fk id i)) ops st K else aops P C.τ (fun i => callF P C dr n (subK fk id i)) ops 0 ops.toList st K
def baseOf (tp : Bool) : St := ⟨[], ⟨[], 0, tp⟩, 1, [], []⟩
def shOf (rs : Sh) : Shape := ⟨[(0, rs)], [], [], [], []⟩
def argsOf (tp : Bool) (ds : List D) : List SV := bif tp then .tp :: ds.map SV.d else ds.map SV.d
def fitR (rs : Sh) (tp : Bool) (r : SV) (m : MS) (post : dens (shT rs []) → Prop) : Prop := match (shOf rs).fit (baseOf tp) ⟨[(0, noC r)], m, 1, [], []⟩ with
  | some y => post y
  | none => False
/-- A function, walked: of its arguments, what must hold so that 'post' holds of its result. -/
def walk (P : Program) (C : Ctx) (dr : DR) (n fk : Nat) (f : FuncId) (tp : Bool) (ds : List D) (rs : Sh) (post : dens (shT rs []) → Prop) : Prop :=
  inline P (regF P C dr n fk) (C.jn fk) f (argsOf tp ds) ⟨[], 0, tp⟩ fun r m => fitR rs tp r m post
theorem ox_base {tp : Bool} {w : World} {S : Cells} {T : Option Nat} (h1 : ∀ b o, S b o → b < w.heap.size) (h2 : TapeC tp w S T) : OXM ⟨[], 0, tp⟩ w (cx0 S T) := by
  refine ⟨h1, fun id x hx => (by cases hx), fun id x hx => (by cases hx), fun i j x y hx => (by cases hx), fun T' hT => ?_, fun htp => ?_, fun htp => ?_⟩
  · cases tp with
    | true =>
      obtain ⟨t, e, ht, hn⟩ := h2
      have hT : T = some T' := hT
      rw [e] at hT
      injection hT with hT
      subst hT
      exact ⟨ht.lt, hn⟩
    | false =>
      have h2 : T = none := h2
      have hT : T = some T' := hT
      rw [h2] at hT
      cases hT
  · cases tp with
    | true =>
      obtain ⟨t, e, ht, hn⟩ := h2
      exact ⟨t, e, ht⟩
    | false => cases htp
  · cases tp with
    | true => cases htp
    | false => exact h2
/-- The same, by whatever rule of calls. -/
def walkG (cp : CP) (f : FuncId) (tp : Bool) (ds : List D) (rs : Sh) (post : dens (shT rs []) → Prop) : Prop :=
  cp f (argsOf tp ds) ⟨[], 0, tp⟩ fun r m => fitR rs tp r m post
theorem walkG_ok {cp : CP} (hcp : CallOK P cp) {f : FuncId} {tp : Bool} {ds : List D} {rs : Sh} {post : dens (shT rs []) → Prop} (h : walkG cp f tp ds rs post)
    {w : World} {S : Cells} {T : Option Nat} {us : List Value} (h1 : ∀ b o, S b o → b < w.heap.size) (h2 : TapeC tp w S T) (h3 : us.length = ds.length) (h4 : ∀ (i : Nat) (d : D) (u : Value), ds[i]? = some d → us[i]? = some u → Rd S w d u) :
    Calls P f (tpArg T us).toArray w fun e w' => ∃ v y c', e = .returned v ∧ post y ∧ OXM (MS.add ⟨[], 0, tp⟩ (instS rs [] y 0).2.1) w' c' ∧ TrM ⟨[], 0, tp⟩ w (cx0 S T) (MS.add ⟨[], 0, tp⟩ (instS rs [] y 0).2.1) w' c' ∧ SRel c' w' (instS rs [] y 0).1 v := by
  have hox := ox_base h1 h2
  have hargs : (tpArg T us).length = (argsOf tp ds).length ∧ ∀ (i : Nat) (s : SV) (u : Value), (argsOf tp ds)[i]? = some s → (tpArg T us)[i]? = some u → SRel (cx0 S T) w s u ∧ s.inU (MS.U ⟨[], 0, tp⟩) := by
    have hd : ∀ (i : Nat) (s : SV) (u : Value), (ds.map SV.d)[i]? = some s → us[i]? = some u → SRel (cx0 S T) w s u ∧ s.inU (MS.U ⟨[], 0, tp⟩) := fun i s u hs hu => by
      rw [List.getElem?_map, Option.map_eq_some_iff] at hs
      obtain ⟨d, hd, rfl⟩ := hs
      exact ⟨.d _ _ (h4 i d u hd hu), trivial⟩
    cases tp with
    | true =>
      obtain ⟨t, e, ht, hn⟩ := h2
      subst e
      refine ⟨by simp [tpArg, argsOf, h3], fun i s u hs hu => ?_⟩
      cases i with
      | zero =>
        simp [tpArg, argsOf] at hs hu
        subst hs hu
        exact ⟨.tp t rfl, trivial⟩
      | succ i => exact hd i s u (by simpa [argsOf] using hs) (by simpa [tpArg] using hu)
    | false =>
      have h2 : T = none := h2
      subst h2
      exact ⟨by simp [tpArg, argsOf, h3], hd⟩
  refine (hcp f _ _ _ h _ w _ hox hargs.1 hargs.2).mono ?_
  rintro e w' ⟨v, r, m', c', rfl, hq, hfr, hox', htr, hs, hu⟩
  unfold fitR at hq
  split at hq
  · rename_i y hy
    have hb0 : RX (baseOf tp) { tmps := #[undef], defers := [] } w (cx0 S T) := ⟨hox, rfl, fun x u _ => .un u, fun x => trivial, fun x q wt g y hx => by cases hx⟩
    have hst : Step (baseOf tp) { tmps := #[undef], defers := [] } w (cx0 S T) ⟨[(0, noC r)], m', 1, [], []⟩ { tmps := #[v], defers := [] } w' c' := by
      refine ⟨⟨hox', rfl, fun x u hx => ?_, fun x => ?_, fun x q wt g y hx => ?_⟩, htr, rfl, rfl, ⟨[(0, noC r)], rfl⟩, hfr⟩
      · show SRel c' w' (look [(0, noC r)] x) u
        rw [look_cons]
        split
        · rename_i e
          subst e
          have : v = u := by simpa using hx
          subst this
          exact noC_rel hs
        · exact .un u
      · show (look [(0, noC r)] x).inU _
        rw [look_cons]
        split
        · exact noC_inU hu
        · trivial
      · have hx : look [(0, noC r)] x = .cnd q wt g y := hx
        rw [look_cons] at hx
        split at hx
        · exact absurd hx noC_ne
        · cases hx
    obtain ⟨c2, k⟩ := Shape.fit_ok hy hb0 hst
    have e : ((shOf rs).inst (baseOf tp) y).ms = MS.add ⟨[], 0, tp⟩ (instS rs [] y 0).2.1 := by
      show MS.mk _ _ _ = MS.mk _ _ _
      have e1 : (instL (shOf rs).all [] y 0).2.1 = (instS rs [] y 0).2.1 := List.append_nil _
      show MS.mk ([] ++ ([] ++ (rowsOb 0 (instL (shOf rs).all [] y 0).2.1 ++ ([] ++ [])))) (0 + (instL (shOf rs).all [] y 0).2.1.length) tp = _
      rw [e1]; rfl
    refine ⟨v, y, c2, rfl, hq, ?_, ?_, k.rx.sl 0 v rfl⟩
    · have := k.rx.ox; rw [e] at this; exact this
    · have := k.tr; rw [e] at this; exact this
  · exact hq.elim
theorem SpecOK.of_walkG {cp : CP} (hcp : CallOK P cp) {s : Spec} (h : ∀ x post, s.pt x post → walkG cp s.f s.tp (tvs s.ts x) s.rs post) : SpecOK P s :=
  fun x post hp w S T us h1 h2 h3 h4 => walkG_ok hcp (h x post hp) h1 h2 (by rw [h3, tvs_len]) h4
def lookJ : List (Nat × Nat × Shape) → Nat → Nat → Option Shape
  | [], _, _ => none
  | (a, b, s) :: r, x, y => bif Nat.beq a x && Nat.beq b y then some s else lookJ r x y
end RE
end Go.Proofs.YtpeggkeenboacaaGreat
namespace Go.Proofs.YtpeggkeenboacaaGreat
open Go.RowKit
set_option linter.unusedVariables false
namespace RE
section
variable {P : Program} {ops : Array Oper} {Q : Exit → Act → World → Prop} {md : Region.Mode} {S : Nat → World → Prop} {B : Nat → Nat → Bool}
/-- Any order from here on; behind each of B's operations S holds. -/
def wpT (P : Program) (md : Region.Mode) (ops : Array Oper) (Q : Exit → Act → World → Prop) (S : Nat → World → Prop) (B : Nat → Nat → Bool) : Nat → Array Bool → Act → World → Prop
  | 0, L, a, w => Region.ready md ops L = [] ∧ Q .normal a w
  | n + 1, L, a, w => (Region.ready md ops L = [] → Q .normal a w) ∧ ∀ i ∈ Region.ready md ops L, wpOp P ops Q i (fun a' w' => (∀ p, B i p = true → S p w → S p w') ∧ wpT P md ops Q S B n (L.setIfInBounds i true) a' w') a w
theorem wpAny_of_T : ∀ (n : Nat) (L : Array Bool) (a : Act) (w : World), wpT P md ops Q S B n L a w → wpAny P md ops Q n L a w
  | 0, _, _, _, h => h
  | n + 1, _, _, _, h => ⟨h.1, fun i hi => wpOp_mono (fun a' w' h' => wpAny_of_T n _ a' w' h'.2) (h.2 i hi)⟩
/-- Operation j waits for operation i, perhaps by way of others. -/
def waitsT (md : Region.Mode) (ops : Array Oper) : Nat → Nat → Nat → Bool
  | 0, _, _ => false
  | n + 1, j, i => match ops[j]? with
    | some o => o.after.any fun e => Region.binds md e && (e.on == i || waitsT md ops n e.on i)
    | none => false
theorem waits_one {j i : Nat} {oj : Oper} (hj : ops[j]? = some oj) (h : waitsT md ops 1 j i = false) : ∀ e ∈ oj.after, Region.binds md e = true → e.on ≠ i := fun e he hb heq => by
  unfold waitsT at h
  rw [hj] at h
  simp only [waitsT, Bool.or_false] at h
  rw [Array.any_eq_false] at h
  obtain ⟨k, hk, rfl⟩ := Array.getElem_of_mem he
  exact h k hk (by simp [hb, heq])
def Closed (md : Region.Mode) (ops : Array Oper) (L : Array Bool) : Prop := ∀ k ok, ops[k]? = some ok → L.getD k true = true → ∀ e ∈ ok.after, Region.binds md e = true → L.getD e.on true = true
theorem Closed.waits {L : Array Bool} (hc : Closed md ops L) {i : Nat} : ∀ (n j : Nat), (∀ oj, ops[j]? = some oj → ∀ e ∈ oj.after, Region.binds md e = true → L.getD e.on true = true) → waitsT md ops n j i = true → L.getD i true = true
  | 0, j, _, h => by cases h
  | n + 1, j, hj, h => by
    unfold waitsT at h
    split at h
    · rename_i o ho
      rw [Array.any_eq_true] at h
      obtain ⟨x, hx, hb⟩ := h
      obtain ⟨b1, b2⟩ := Bool.and_eq_true_iff.1 hb
      have h1 := hj o ho _ (Array.getElem_mem hx) b1
      rcases Bool.or_eq_true_iff.1 b2 with b2 | b2
      · have e : (o.after[x]).on = i := by simpa using b2
        rw [← e]; exact h1
      · exact Closed.waits hc n _ (fun oj hoj e he hbe => hc _ oj hoj h1 e he hbe) b2
    · cases h
theorem getD_true_set {L : Array Bool} {i k : Nat} (h : L.getD k true = true) : (L.setIfInBounds i true).getD k true = true := by
  by_cases e : i = k
  · subst e
    rcases Nat.lt_or_ge i L.size with h' | h'
    · simp [h']
    · simp []
  · rw [getD_set_ne true e]; exact h
theorem ready_deps {L : Array Bool} {i : Nat} (h : i ∈ Region.ready md ops L) {oi : Oper} (ho : ops[i]? = some oi) : ∀ e ∈ oi.after, Region.binds md e = true → L.getD e.on true = true := fun e he hb => by
  obtain ⟨_, o', ho', hall⟩ := mem_ready.1 h
  rw [ho] at ho'
  cases ho'
  have h1 := hall e he hb
  rcases Nat.lt_or_ge e.on L.size with h' | h'
  · simp [h'] at h1 ⊢; exact h1
  · simp [Array.getElem?_eq_none h']
theorem Closed.set {L : Array Bool} (hc : Closed md ops L) {i : Nat} (hi : i ∈ Region.ready md ops L) : Closed md ops (L.setIfInBounds i true) := fun k ok hk hL e he hb => by
  by_cases hki : i = k
  · subst hki; exact getD_true_set (ready_deps hi hk e he hb)
  · rw [getD_set_ne true hki] at hL
    exact getD_true_set (hc k ok hk hL e he hb)
theorem Closed.start : Closed md ops (Array.replicate ops.size false) := fun k ok hk hL => by
  obtain ⟨h, _⟩ := Array.getElem?_eq_some_iff.1 hk
  simp [h] at hL
theorem ready_not {L : Array Bool} {i : Nat} (h : i ∈ Region.ready md ops L) : L.getD i true = false := (mem_ready.1 h).1
theorem wpT_first {i : Nat} {oi : Oper} {v : Value} {S' : World → Prop} (hi : ops[i]? = some oi) (hsel : ∀ (j : Nat) (o : Oper) cs b, ops[j]? = some o → o.op ≠ .select cs b)
    (hQ : ∀ c a w, Q (.panic c) (a.put oi.dst v) w → Q (.panic c) a w) :
    ∀ (n : Nat) (L : Array Bool) (a : Act) (w : World),
      (∀ j oj, ops[j]? = some oj → j ≠ i → L.getD j true = false → (∀ n, waitsT md ops n j i = false) → oi.apart ops oj = true ∧ ∀ w w', S' w → (∀ p, B j p = true → S p w → S p w') → S' w') →
      Closed md ops L → i ∈ Region.ready md ops L → YieldsIf P ops S' oi v a → S' w →
      wpT P md ops Q S B n (L.setIfInBounds i true) (a.put oi.dst v) w → wpT P md ops Q S B (n + 1) L a w := by
  intro n
  induction n with
  | zero =>
    intro L a w hfree hcl hr hy hS H
    refine ⟨fun h => (by rw [h] at hr; cases hr), fun j hj => ?_⟩
    by_cases hji : j = i
    · subst hji; exact hy.wpOp hi hS ⟨fun _ _ h => h, H⟩
    · have := ready_mono hj hji
      rw [H.1] at this
      cases this
  | succ n ih =>
    intro L a w hfree hcl hr hy hS H
    refine ⟨fun h => (by rw [h] at hr; cases hr), fun j hj => ?_⟩
    by_cases hji : j = i
    · subst hji; exact hy.wpOp hi hS ⟨fun _ _ h => h, H⟩
    · have h1 := H.2 j (ready_mono hj hji)
      obtain ⟨hjun, oj, hoj, hall⟩ := mem_ready.1 hj
      have hnot : ∀ n, waitsT md ops n j i = false := fun n => by
        cases hw : waitsT md ops n j i with
        | false => rfl
        | true =>
          have := hcl.waits n j (fun o' ho' e he hb => ready_deps hj ho' e he hb) hw
          rw [ready_not hr] at this
          cases this
      obtain ⟨hap, hst⟩ := hfree j oj hoj hji hjun hnot
      have h2 := wpOp_putIf hoj hap (fun cs b => hsel i oi cs b hi) (fun cs b => hsel j oj cs b hoj) hQ hy h1
      have hfree' : ∀ k ok, ops[k]? = some ok → k ≠ i → (L.setIfInBounds j true).getD k true = false →
          (∀ n, waitsT md ops n k i = false) → oi.apart ops ok = true ∧ ∀ w w', S' w → (∀ p, B k p = true → S p w → S p w') → S' w' := fun k ok hk hki hun hno => by
        refine hfree k ok hk hki ?_ hno
        by_cases hjk : j = k
        · subst hjk; exact hjun
        · rw [getD_set_ne true hjk] at hun; exact hun
      refine wpOp_mono (fun a' w' h3 => ⟨h3.2.1, ih (L.setIfInBounds j true) a' w' hfree' (hcl.set hj) (ready_mono hr (Ne.symm hji)) h3.1 (hst w w' hS h3.2.1) ?_⟩) h2
      rw [Array.setIfInBounds_comm _ _ hji]
      exact h3.2.2
end
end RE
end Go.Proofs.YtpeggkeenboacaaGreat
namespace Go.Proofs.YtpeggkeenboacaaGreat
open Go.RowKit
set_option linter.unusedVariables false
namespace RE
variable {P : Program}
/-- What it yields, it yields in every world, and leaves the world as it is. -/
def WF (P : Program) {α : Type} (s : Sem α) : Prop := ∀ w v w1, s.run P w = .ok v w1 → w1 = w ∧ ∀ w', s.run P w' = .ok v w'
theorem WF.pure {α : Type} (x : α) : WF P (Pure.pure x : Sem α) := fun w v w1 h => by
  simp only [Sem.run_pure, Result.ok.injEq] at h
  obtain ⟨rfl, rfl⟩ := h
  exact ⟨rfl, fun w' => rfl⟩
theorem WF.halt {α : Type} (x : Halt) : WF P (.halt x : Sem α) := fun w v w1 h => by simp at h
theorem WF.bind {α β : Type} {x : Sem α} {f : α → Sem β} (hx : WF P x) (hf : ∀ a, WF P (f a)) : WF P (x >>= f) := fun w v w1 h => by
  rw [Sem.run_bind] at h
  cases hr : x.run P w with
  | ok y w2 =>
    rw [hr] at h
    obtain ⟨rfl, h2⟩ := hx w y w2 hr
    obtain ⟨rfl, h4⟩ := hf y w2 v w1 h
    refine ⟨rfl, fun w' => ?_⟩
    rw [Sem.run_bind, h2 w']
    exact h4 w'
  | halt y w2 => rw [hr] at h; cases h
theorem WF.map {α β : Type} {x : Sem α} {f : α → β} (hx : WF P x) : WF P (f <$> x) := fun w v w1 h => by
  rw [Sem.run_map] at h
  cases hr : x.run P w with
  | ok y w2 =>
    rw [hr] at h
    obtain ⟨rfl, h2⟩ := hx w y w2 hr
    simp only [Result.andThen_ok, Result.ok.injEq] at h
    obtain ⟨rfl, rfl⟩ := h
    refine ⟨rfl, fun w' => ?_⟩
    rw [Sem.run_map, h2 w']; rfl
  | halt y w2 => rw [hr] at h; cases h
theorem WF.program : WF P program := fun w v w1 h => by
  simp only [run_program, Result.ok.injEq] at h
  obtain ⟨rfl, rfl⟩ := h
  exact ⟨rfl, fun w' => rfl⟩
theorem WF.never {α : Type} {x : Sem α} (h : ∀ w v w1, x.run P w ≠ .ok v w1) : WF P x := fun w v w1 e => absurd e (h w v w1)
theorem WF.stuck {α : Type} (s : String) : WF P (stuck s : Sem α) := .halt _
theorem WF.unsupported {α : Type} (s : Unsupported) : WF P (unsupported s : Sem α) := .halt _
theorem WF.typeInfo (t : TypeId) : WF P (typeInfo t) := WF.bind .program fun p => by split <;> first | exact .pure _ | exact .stuck _
theorem WF.underlying (t : TypeId) : WF P (underlying t) := WF.bind .program fun p => by split <;> first | exact .pure _ | exact .stuck _
theorem WF.sizeOf (t : TypeId) : WF P (sizeOf t) := WF.bind (.typeInfo t) fun _ => .pure _
theorem WF.zeroValue (t : TypeId) : WF P (zeroValue t) := WF.bind (.typeInfo t) fun _ => by split <;> first | exact .pure _ | exact .unsupported _
theorem WF.asBool (v : Value) : WF P (asBool v) := by unfold Go.asBool; split <;> first | exact .pure _ | exact .stuck _
theorem WF.asIntOf (v : Value) : WF P (asIntOf v) := by unfold Go.asIntOf; split <;> first | exact .pure _ | exact .stuck _ | exact .unsupported _
theorem WF.sureAddr (v : Value) : WF P (Instr.sureAddr v) := by unfold Instr.sureAddr; split <;> first | exact .pure _ | exact .stuck _
theorem WF.extract (v : Value) (i : Nat) : WF P (Instr.extract v i) := by unfold Instr.extract; (repeat' split) <;> first | exact .pure _ | exact .stuck _
theorem boundsRun_never {α : Type} (x y : Int) (s : Bool) (c : BoundsCode) : ∀ w (v : α) w1, (runtimePanic (.bounds x y s c) : Sem α).run P w ≠ .ok v w1 := fun w v w1 => by
  unfold runtimePanic
  simp [goPanic]
theorem boundsPanic_never {α : Type} (k : IntKind) (x y : Int) (c : BoundsCode) : ∀ w (v : α) w1, (boundsPanic k x y c : Sem α).run P w ≠ .ok v w1 := fun w v w1 h => by
  unfold boundsPanic at h
  simp only [] at h
  split at h
  · rw [Sem.run_bind] at h
    generalize ((fun x => x == 1) <$> choose (.extern "runtime.boundsError.signed" 2) : Sem Bool).run P w = r at h
    cases r with
    | ok b w2 => exact boundsRun_never _ _ _ _ _ _ _ h
    | halt _ _ => cases h
  · rw [Sem.run_bind] at h
    exact boundsRun_never _ _ _ _ _ _ _ h
theorem WF.bounds {α : Type} (k : IntKind) (x y : Int) (c : BoundsCode) : WF P (boundsPanic k x y c : Sem α) := .never (boundsPanic_never k x y c)
theorem run_fieldAt {s f k : Nat} (h : fldOff P s f = some k) (v : Value) (w : World) : (Instr.fieldAt s v f).run P w = match v with | .pointer (some a) => .ok (.pointer (some (a.add k))) w | _ => .halt (.stuck "an address expected (no nilCheck in front?)") w := by
  obtain ⟨fs, fd, i, hu', hf, hk, hi, hz⟩ := fldOff_spec h
  unfold Instr.fieldAt
  simp only [Sem.run_bind, run_underlying hu', Result.andThen_ok, hf]
  unfold Instr.sureAddr
  subst hk
  split <;> simp_all [fieldPlace, Go.sizeOf, Go.typeInfo]
theorem WF.fieldAt {s f k : Nat} (h : fldOff P s f = some k) (v : Value) : WF P (Instr.fieldAt s v f) := by
  intro w r w1 e
  rw [run_fieldAt h] at e
  split at e
  · injection e with e1 e2
    subst e1 e2
    exact ⟨rfl, fun w' => by rw [run_fieldAt h]⟩
  · cases e
theorem WF.indexAt (t : TypeId) (u v : Value) : WF P (Instr.indexAt t u v) := by
  unfold Instr.indexAt
  refine WF.bind (.asIntOf _) fun x => ?_
  repeat' first | exact WF.pure _ | exact WF.stuck _ | exact WF.unsupported _ | exact WF.bounds _ _ _ _ | exact WF.underlying _ | exact WF.sureAddr _ | exact WF.sizeOf _ | refine WF.bind ?_ fun _ => ?_ | split | (show WF P (Bind.bind _ _)) | (dsimp only)
theorem nilRun_never {α : Type} : ∀ w (v : α) w1, (runtimePanic .nilDeref : Sem α).run P w ≠ .ok v w1 := fun w v w1 => by
  unfold runtimePanic
  simp [goPanic]
theorem WF.asAddr (v : Value) : WF P (asAddr v) := by
  unfold Go.asAddr
  split
  · exact .pure _
  · exact .never nilRun_never
  · exact .stuck _
theorem WF.sliceAt (t : TypeId) (x : Value) (lo hi : Option Value) : WF P (Instr.sliceAt t x lo hi none) := by
  unfold Instr.sliceAt Instr.slice Instr.sliceBounds Instr.sliceBound
  refine WF.bind (.underlying _) fun u => ?_
  repeat' first | exact WF.pure _ | exact WF.stuck _ | exact WF.unsupported _ | exact WF.bounds _ _ _ _ | exact WF.underlying _ | exact WF.sureAddr _ | exact WF.sizeOf _ | exact WF.asIntOf _ | exact WF.asAddr _ | refine WF.bind ?_ fun _ => ?_ | split | (show WF P (Bind.bind _ _)) | (dsimp only)
/-- Which operations do not look. -/
def wfree (P : Program) (o : Oper) : Bool := match o.op with
  | .move _ => true
  | .assign _ => true
  | .pick _ _ _ => true
  | .extract _ _ => true
  | .fieldAddr s _ f => (fldOff P s f).isSome
  | .indexAddr _ _ _ => true
  | .slice _ _ _ _ none => true
  | _ => false
def valS (s : Sem Value) : Sem Next := s >>= fun x => Pure.pure (.value x)
theorem wfree_ok {o : Oper} (h : wfree P o = true) (ev : Operand → Value) : ∃ s, execOp ev o = valS s ∧ WF P s := by
  unfold wfree at h
  split at h <;> rename_i he
  · exact ⟨Pure.pure _, by simp only [execOp, he]; rfl, .pure _⟩
  · exact ⟨Pure.pure _, by simp only [execOp, he]; rfl, .pure _⟩
  · rename_i q x y
    exact ⟨do Pure.pure (if ← asBool (ev q) then ev x else ev y), by simp only [execOp, he, valS]; simp, WF.bind (.asBool _) fun b => .pure _⟩
  · exact ⟨_, by simp only [execOp, he]; rfl, .extract _ _⟩
  · obtain ⟨k, hk⟩ := Option.isSome_iff_exists.1 h
    exact ⟨_, by simp only [execOp, he]; rfl, .fieldAt hk _⟩
  · exact ⟨_, by simp only [execOp, he]; rfl, .indexAt _ _ _⟩
  · exact ⟨_, by simp only [execOp, he]; rfl, .sliceAt _ _ _ _⟩
  · cases h
/-! ### loads -/
theorem cell_block {w w' : World} {a : Addr} (h : w'.heap[a.block]? = w.heap[a.block]?) : w'.cell? a = w.cell? a := by
  unfold World.cell?
  rw [h]
end RE
end Go.Proofs.YtpeggkeenboacaaGreat
namespace Go.Proofs.YtpeggkeenboacaaGreat
open Go.RowKit
set_option linter.unusedVariables false
namespace RE
variable {P : Program}
/-- The cells of block b are the same. -/
def CB (w w' : World) (b : Nat) : Prop := ∀ o, w'.cell? ⟨b, o, none⟩ = w.cell? ⟨b, o, none⟩
theorem pCells_blk {t : TypeId} {cs : List SV} {r : SV} (h : pCells P t cs = some r) {w : World} {b o : Nat} {us : List Value} (hl : us.length = cs.length) (hc : ∀ j u, us[j]? = some u → w.cell? ⟨b, o + j, none⟩ = some u) :
    ∃ v, ∀ w' : World, CB w w' b → (Instr.loadAt t (.pointer (some ⟨b, o, none⟩))).run P w' = .ok v w' := by
  have hc' : ∀ w' : World, CB w w' b → ∀ j u, us[j]? = some u → w'.cell? ⟨b, o + j, none⟩ = some u := fun w' hw j u hj => by
    rw [hw (o + j)]; exact hc j u hj
  unfold pCells at h
  cases ho : oneTy P t with
  | true =>
    rw [ho] at h
    simp only [cond_true] at h
    have h0 : 0 < us.length := by rw [hl]; exact (List.getElem?_eq_some_iff.1 h).1
    exact ⟨us[0], fun w' hw => run_load_one ho (by simpa using hc' w' hw 0 us[0] (List.getElem?_eq_getElem h0))⟩
  | false =>
    rw [ho] at h
    simp only [cond_false] at h
    cases hb : (rowTy P t && hasTy P t && Nat.ble (tsz P t) cs.length) with
    | false => rw [hb] at h; cases h
    | true =>
      rw [hb] at h
      simp only [cond_true, Option.some.injEq] at h
      simp only [Bool.and_eq_true] at hb
      obtain ⟨⟨k1, k2⟩, k3⟩ := hb
      have k3 := Nat.le_of_ble_eq_true k3
      refine ⟨.agg (us.take (tsz P t)).toArray, fun w' hw => run_load_agg k1 k2 (by rw [List.length_take]; omega) (fun j u hj => ?_)⟩
      rw [List.getElem?_take] at hj
      split at hj
      · exact hc' w' hw j u hj
      · cases hj
/-- A load that reads what is stable, or an object that is set aside. -/
def okLoad (ob : Obs) (pr : List Nat) : SV → Bool
  | .d (.p cs) => !cs.isEmpty
  | .bx id _ => has pr id
  | .op id _ _ _ => match ob id with
    | some (.row _ _ _) => has pr id
    | some (.fro t _) => Nat.ble 1 (size t)
    | _ => false
  | .np id _ _ _ => has pr id
  | .ip id _ _ _ _ => has pr id
  | _ => false
def Keeps (c : Cx) (ob : Obs) (pr : List Nat) (b : Nat) : Prop := (∃ o, c.S b o) ∨ ∃ id x, has pr id = true ∧ ob id = some x ∧ x.own = true ∧ c.F id b
theorem pLoad_blk {m : Mem} {t : TypeId} {s r : SV} (h : pLoad P m t s = some r) {c : Cx} {w : World} {u : Value} (ox : OX m.ob m.U m.tp w c) (hs : SRel c w s u) {pr : List Nat} (hk : okLoad m.ob pr s = true) :
    ∃ v b, Keeps c m.ob pr b ∧ ∀ w' : World, CB w w' b → (Instr.loadAt t u).run P w' = .ok v w' := by
  unfold pLoad at h
  split at h
  · rename_i cs
    have hrd := srel_d hs
    cases hrd with
    | p _ b off f h1 h2 =>
      obtain ⟨v, hv⟩ := pCells_blk (w := w) (b := b) (o := off) h (us := (List.range cs.length).map f) (by simp) (fun j u hj => by
        have hjl : j < cs.length := by have := (List.getElem?_eq_some_iff.1 hj).1; simpa using this
        simp [hjl] at hj; subst hj; exact (h1 j hjl).2.1)
      have h0 : 0 < cs.length := by
        cases cs with
        | nil => simp [okLoad] at hk
        | cons _ _ => simp
      exact ⟨v, b, .inl ⟨_, (h1 0 h0).1⟩, hv⟩
  · rename_i id off
    split at h
    · rename_i cs hob
      obtain ⟨b, hb, rfl⟩ := srel_bx hs
      obtain ⟨_, hU, b', arr, t', h1, h2, h3, h4, h5, h6⟩ := ox.objs id _ hob
      rw [h1] at hb
      injection hb with hb
      injection hb with hb
      injection hb with hb
      subst hb
      obtain ⟨v, hv⟩ := pCells_blk (w := w) (b := b') (o := off) h (us := arr.drop off) (by simp [h4]) (fun j u hj => by
        rw [List.getElem?_drop] at hj
        rw [cell_row h3]; simpa using hj)
      exact ⟨v, b', .inr ⟨id, _, hk, hob, rfl, (h2 b').2 rfl⟩, hv⟩
    · cases h
  · rename_i id z sz j
    split at h
    · rename_i ty l hrow
      cases hb : (Nat.beq sz (size ty) && Nat.ble j sz) with
      | false => rw [hb] at h; cases h
      | true =>
        rw [hb] at h
        simp only [cond_true] at h
        obtain ⟨k1, k2⟩ := Bool.and_eq_true_iff.1 hb
        have k1 := beq_eq k1
        subst k1
        obtain ⟨g, n, cap, hH, rfl, hz⟩ := srel_op hs
        obtain ⟨ad, cap', hv, hc, hm, hcell⟩ := rowOf_rel ox hrow
        rw [hH] at hv
        injection hv with e1 e2 e3
        subst e1 e2 e3
        obtain ⟨g', hg', hcc⟩ := hcell z.toNat _ (ix_get (l := l) (i := z) ⟨hz.1, hz.2⟩)
        injection hg' with hg'
        injection hg' with hg'
        subst hg'
        obtain ⟨us, u1, u2, u3, u4⟩ := load_cells (c := c) (w := w) (g := ⟨g, 0, none⟩) (off := z.toNat * size ty + j) (cs := (enc ty (ix l z)).drop j) rfl (fun j' d hd => by
          rw [List.getElem?_drop] at hd
          have := hcc _ d hd
          rw [← Nat.add_assoc] at this
          rw [addr_add, Nat.zero_add]; exact this)
        obtain ⟨v, hv⟩ := pCells_blk (w := w) (b := g) (o := z.toNat * size ty + j) h (us := us) (by simp [u1]) (fun j' u hj' => by
          have := u2 j' u hj'
          simpa using this)
        refine ⟨v, g, ?_, hv⟩
        unfold rowOf at hrow
        split at hrow
        · rename_i e t' l' hob
          injection hrow with hrow
          cases hrow
          have hk : (match m.ob id with | some (.row _ _ _) => has pr id | some (.fro t _) => Nat.ble 1 (size t) | _ => false) = true := hk
          rw [hob] at hk
          obtain ⟨h0, h | ⟨g2, cap2, cur, hv2, hF, _⟩⟩ := (ox.objs id _ hob).2.2
          · obtain ⟨hl, ⟨ad, hv3⟩, _⟩ := h
            subst hl
            simp at hz; omega
          · rw [hH] at hv2
            injection hv2 with e1 _ _
            injection e1 with e1
            injection e1 with e1
            subst e1
            exact .inr ⟨id, _, hk, hob, rfl, (hF g).2 rfl⟩
        · rename_i t' l' hob
          injection hrow with hrow
          cases hrow
          have hk : (match m.ob id with | some (.row _ _ _) => has pr id | some (.fro t _) => Nat.ble 1 (size t) | _ => false) = true := hk
          rw [hob] at hk
          have hsz : 0 < size ty := Nat.le_of_ble_eq_true hk
          obtain ⟨ad, cap2, b, off, f, e0, _, _, ha, q1, q2⟩ := ((ox.objs id _ hob).2.2.1).slInv
          rw [hH] at e0
          injection e0 with e1 _ _
          rcases ha with ha | ha
          · rw [ha] at hz; simp at hz; omega
          · rw [ha] at e1
            injection e1 with e1
            injection e1 with e1 e2
            subst e1
            exact .inl ⟨_, (q1 0 (by obtain ⟨z1, z2⟩ := hz; omega) 0 hsz).1⟩
        · cases hrow
    · cases h
  · rename_i id z sz j
    split at h
    · rename_i ty k t' l hn
      cases hb : (Nat.beq sz (size ty) && Nat.ble j sz) with
      | false => rw [hb] at h; cases h
      | true =>
        rw [hb] at h
        simp only [cond_true] at h
        have k1 := beq_eq (Bool.and_eq_true_iff.1 hb).1
        subst k1
        obtain ⟨b, o, us, rfl, hF, u1, u2, u3, u4⟩ := np_cells ox hn hs
        obtain ⟨v, hv⟩ := pCells_blk (w := w) (b := b) (o := o) h (us := us) u1 u2
        have hob : ∃ e f, m.ob id = some (.nst e ty k f t' l) := by
          unfold nstOf at hn
          split at hn
          · rename_i hr; injection hn with hn; cases hn; exact ⟨_, _, hr⟩
          · cases hn
        obtain ⟨e, f, hob⟩ := hob
        exact ⟨v, b, .inr ⟨id, _, hk, hob, rfl, hF⟩, hv⟩
    · cases h
  · rename_i id i z sz j
    split at h
    · rename_i ty k t' l hn
      cases hb : (Nat.beq sz (size t') && Nat.ble j sz) with
      | false => rw [hb] at h; cases h
      | true =>
        rw [hb] at h
        simp only [cond_true] at h
        have k1 := beq_eq (Bool.and_eq_true_iff.1 hb).1
        subst k1
        obtain ⟨b, o, us, rfl, hF, u1, u2, u3, u4⟩ := ip_cells ox hn hs
        obtain ⟨v, hv⟩ := pCells_blk (w := w) (b := b) (o := o) h (us := us) u1 u2
        have hob : ∃ e f, m.ob id = some (.nst e ty k f t' l) := by
          unfold nstOf at hn
          split at hn
          · rename_i hr; injection hn with hn; cases hn; exact ⟨_, _, hr⟩
          · cases hn
        obtain ⟨e, f, hob⟩ := hob
        exact ⟨v, b, .inr ⟨id, _, hk, hob, rfl, hF⟩, hv⟩
    · cases h
  · cases h
end RE
end Go.Proofs.YtpeggkeenboacaaGreat
namespace Go.Proofs.YtpeggkeenboacaaGreat
open Go.RowKit
set_option linter.unusedVariables false
namespace RE
variable {P : Program}
def m0 : Mem := ⟨fun _ => none, fun _ => False, false⟩
def flatS : SV → SV
  | .d x => bif x.flat then .d x else .un
  | _ => .un
def Looks (c : Cx) (ob : Obs) (pr : List Nat) (w w' : World) : Prop := ∀ b, Keeps c ob pr b → CB w w' b
/-- May it be done ahead? What must hold besides; does it look at the world? -/
def flK (P : Program) (m : Mem) (pr : List Nat) (ρ : Operand → SV) (o : Oper) : Option (List Prop × Bool) :=
  bif wfree P o then some ([], false) else match o.op with
    | .load _ x => bif okLoad m.ob pr (ρ x) then some ([], true) else none
    | .nilCheck x => bif isPtr (ρ x) then some ([], false) else none
    | _ => match pop P m0 (fun x => flatS (ρ x)) o with
      | some R => match R.r with
        | .d (.v _) => some (R.ps, false)
        | _ => none
      | none => none
theorem ox0 (w : World) : OX m0.ob m0.U m0.tp w (cx0 (fun _ _ => False) none) :=
  ⟨fun _ _ h => h.elim, fun id x hx => (by cases hx), fun id x hx => (by cases hx), fun i j x y hx => (by cases hx), fun T h => (by cases h), fun h => (by cases h), fun _ => rfl⟩
theorem rels0 {ρ : Operand → SV} {a : Act} {w : World} {c : Cx} (hr : ∀ x, SRel c w (ρ x) (a.eval x)) (w' : World) : RelsC m0 (fun x => flatS (ρ x)) a w' (cx0 (fun _ _ => False) none) := by
  refine ⟨⟨ox0 w', fun x => ?_, fun x => ?_⟩, fun x q1 w1 g1 y1 b hx hq => ?_⟩
  · have h := hr x
    generalize ρ x = s at h
    unfold flatS
    split
    · rename_i d
      cases hf : d.flat with
      | false => exact .un _
      | true => exact .d _ _ ((srel_d h).flat hf)
    · exact .un _
  · generalize ρ x = s
    unfold flatS
    split
    · rename_i d
      cases d.flat <;> exact trivial
    · exact trivial
  · exfalso
    generalize ρ x = s at hx
    unfold flatS at hx
    split at hx
    · rename_i d
      cases hd : d.flat with
      | false => rw [hd] at hx; cases hx
      | true => rw [hd] at hx; cases hx
    · cases hx
theorem flK_ok {m : Mem} {pr : List Nat} {ρ : Operand → SV} {o : Oper} {ps : List Prop} {lk : Bool} (h : flK P m pr ρ o = some (ps, lk)) {R : PRes} (hp : popS P m ρ o = some R) {a : Act} {w : World} {c : Cx} (hr : RelsC m ρ a w c) (h1 : allL ps) (h2 : allL R.ps) :
    ∃ v, SRel c w R.r v ∧ R.r.inU m.U ∧ allL R.fs ∧ ∀ w', (lk = true → Looks c m.ob pr w w') → (execOp a.eval o).run P w' = .ok (.value v) w' := by
  obtain ⟨v, k1, k2, k3, k4⟩ := popS_run hp hr h2
  unfold flK at h
  cases hw : wfree P o with
  | true =>
    obtain ⟨s, e1, e2⟩ := wfree_ok hw a.eval
    refine ⟨v, k2, k3, k4, fun w' _ => ?_⟩
    rw [e1] at k1 ⊢
    have hv : WF P (valS s) := WF.bind e2 fun _ => .pure _
    exact (hv w _ _ k1).2 w'
  | false =>
    rw [hw] at h
    simp only [cond_false] at h
    split at h
    · rename_i t x he
      cases hk : okLoad m.ob pr (ρ x) with
      | false => rw [hk] at h; cases h
      | true =>
        rw [hk] at h
        simp only [cond_true, Option.some.injEq, Prod.mk.injEq] at h
        obtain ⟨rfl, rfl⟩ := h
        have hpl : pLoad P m t (ρ x) = some R.r := by
          have hp := popS_pop hp (fun t x lo hi e => by rw [he] at e; cases e)
          unfold pop at hp
          rw [he] at hp
          have hp : liftS (pLoad P m t (ρ x)) = some R := hp
          unfold liftS at hp
          split at hp
          · rename_i r hr'
            injection hp with hp
            rw [hr', ← hp]
          · cases hp
        obtain ⟨v', b, b1, b2⟩ := pLoad_blk hpl hr.ox (hr.op x) hk
        have hrun : ∀ w', CB w w' b → (execOp a.eval o).run P w' = .ok (.value v') w' := fun w' hw' => by
          simp [execOp, he, b2 w' hw']
        have : v = v' := by
          have := hrun w fun _ => rfl
          rw [k1] at this
          injection this with this
          injection this
        subst this
        exact ⟨v, k2, k3, k4, fun w' hl => hrun w' (hl rfl b b1)⟩
    · rename_i x he
      cases hk : isPtr (ρ x) with
      | false => rw [hk] at h; cases h
      | true =>
        rw [hk] at h
        simp only [cond_true, Option.some.injEq, Prod.mk.injEq] at h
        obtain ⟨rfl, rfl⟩ := h
        obtain ⟨ad, had⟩ := isPtr_rel hk (hr.op x)
        have hrun : ∀ w', (execOp a.eval o).run P w' = .ok (.value (a.eval x)) w' := fun w' => by simp [execOp, he, had]
        have : v = a.eval x := by
          have := hrun w
          rw [k1] at this
          injection this with this
          injection this
        subst this
        exact ⟨_, k2, k3, k4, fun w' _ => hrun w'⟩
    · split at h
      · rename_i R' hR'
        split at h
        · rename_i x hx
          simp only [Option.some.injEq, Prod.mk.injEq] at h
          obtain ⟨rfl, rfl⟩ := h
          have key : ∀ w', (execOp a.eval o).run P w' = .ok (.value x) w' := fun w' => by
            obtain ⟨v', q1, q2, _, _⟩ := pop_run hR' (rels0 hr.op w') h1
            rw [hx] at q2
            rw [← srel_v q2]; exact q1
          have : v = x := by
            have := key w
            rw [k1] at this
            injection this with this
            injection this
          subst this
          exact ⟨v, k2, k3, k4, fun w' _ => key w'⟩
        · cases h
      · cases h
/-- An operation that is done ahead. -/
def fstep (P : Program) (pr : List Nat) (all : Array Oper) (o : Oper) (st : St) : Option (Bool × ((St → Prop) → Prop)) :=
  match o.guard with
  | none => match popS P st.ms.mem st.ev o, flK P st.ms.mem pr st.ev o with
    | some R, some (ps, lk) => bif dstOK st o.dst then some (lk, fun K => andL ps (andL R.ps (impL R.fs (K (st.set o.dst R.r st.ms))))) else none
    | _, _ => none
  | some (j, want) => match (all[j]?).bind (·.dst), o.dst with
    | some q, some d => match guardG want (look st.sl q) with
      | some G => bif dstOK st (some d) && !(Nat.beq q d) && Nat.blt q st.n then match popS P st.ms.mem (fun x => stripS q want (st.ev x)) o, flK P st.ms.mem pr (fun x => stripS q want (st.ev x)) o with
          | some R, some (ps, lk) => bif R.r.lowN st.ms.nx then some (lk, fun K => andL (ps.map (G = true → ·)) (andL (R.ps.map (G = true → ·)) (impL (R.fs.map (G = true → ·)) (K (st.setG d q want G R.r))))) else none
          | _, _ => none
        else none
      | none => none
    | _, _ => none
theorem fstep_ok {pr : List Nat} {all : Array Oper} {o : Oper} {st : St} {lk : Bool} {T : (St → Prop) → Prop} (h : fstep P pr all o st = some (lk, T)) {K : St → Prop} (hT : T K) {a : Act} {w : World} {c : Cx} (hr : RX st a w c) :
    ∃ v st', YieldsIf P all (fun w' => lk = true → Looks c st.ms.obs pr w w') o v a ∧ RX st' (a.put o.dst v) w c ∧ st'.ms = st.ms ∧ Fr st st' ∧ K st' := by
  unfold fstep at h
  split at h
  · rename_i hg
    split at h
    · rename_i R ps lk' hp hf
      cases hd : dstOK st o.dst with
      | false => rw [hd] at h; cases h
      | true =>
        rw [hd] at h
        simp only [cond_true, Option.some.injEq, Prod.mk.injEq] at h
        obtain ⟨rfl, rfl⟩ := h
        obtain ⟨t1, hT⟩ := andL_spec hT
        obtain ⟨t2, hT⟩ := andL_spec hT
        obtain ⟨v, k1, k2, k3, k4⟩ := flK_ok hf hp hr.rels t1 t2
        exact ⟨v, _, .inl ⟨by simp [Region.wanted, hg], k4⟩, hr.set .refl hr.ox hd k1 k2, by cases o.dst <;> rfl, .set (.refl _), impL_spec hT k3⟩
    · cases h
  · rename_i j want hg
    split at h
    · rename_i q d hq hdst
      split at h
      · rename_i G hG
        cases hb : (dstOK st (some d) && !(Nat.beq q d) && Nat.blt q st.n) with
        | false => rw [hb] at h; cases h
        | true =>
          rw [hb] at h
          simp only [Bool.and_eq_true, Bool.not_eq_true'] at hb
          obtain ⟨⟨b1, b2⟩, b3⟩ := hb
          have hqd : q ≠ d := fun e => by rw [e] at b2; simp at b2
          have hlt : q < st.n := Nat.le_of_ble_eq_true b3
          simp only [cond_true] at h
          split at h
          · rename_i R ps lk' hp hf
            cases hl : R.r.lowN st.ms.nx with
            | false => rw [hl] at h; cases h
            | true =>
              rw [hl] at h
              simp only [cond_true, Option.some.injEq, Prod.mk.injEq] at h
              obtain ⟨rfl, rfl⟩ := h
              obtain ⟨t1, hT⟩ := andL_spec hT
              obtain ⟨t2, hT⟩ := andL_spec hT
              have hwt : Region.wanted o (yielded all a.tmps) = G := wanted_of hg hq hlt hr hG
              rw [hdst]
              cases hGv : G with
              | true =>
                obtain ⟨v, k1, k2, k3, k4⟩ := flK_ok hf hp (stripS_rel hr hlt hG hGv) (andL_map hGv t1) (andL_map hGv t2)
                refine ⟨v, st.setG d q want true R.r, .inl ⟨by rw [hwt, hGv], k4⟩, hr.setG .refl hr.ox b1 hqd (by rw [hG, hGv]) (fun _ => k1) (fun e => by cases e) k2, rfl, .setG, ?_⟩
                have := impL_spec hT (allL_map fun _ => k3)
                rw [hGv] at this; exact this
              | false =>
                refine ⟨undef, st.setG d q want false R.r, .inr ⟨by rw [hwt, hGv], rfl⟩, hr.setG .refl hr.ox b1 hqd (by rw [hG, hGv]) (fun e => by cases e) (fun _ => rfl) (SV.lowN_inU _ hl), rfl, .setG, ?_⟩
                have := impL_spec hT (allL_map fun e => by rw [hGv] at e; cases e)
                rw [hGv] at this; exact this
          · cases h
      · cases h
    · cases h
end RE
end Go.Proofs.YtpeggkeenboacaaGreat
namespace Go.Proofs.YtpeggkeenboacaaGreat
open Go.RowKit
set_option linter.unusedVariables false
namespace RE
variable {P : Program}
def banL (pr : List Nat) : List (Nat × Option Ob) := pr.map fun i => (i, none)
def MS.ban (pr : List Nat) (m : MS) : MS := ⟨banL pr ++ m.ob, m.nx, m.tp⟩
def St.ban (pr : List Nat) (st : St) : St := ⟨st.sl, st.ms.ban pr, st.n, st.gs, st.gd⟩
def unban (pr : List Nat) (st st1 : St) : Option St :=
  bif (news (st.ms.ban pr) st1.ms).all (fun p => !(has pr p.1)) then some ⟨st1.sl, ⟨news (st.ms.ban pr) st1.ms ++ st.ms.ob, st1.ms.nx, st1.ms.tp⟩, st1.n, st1.gs, st1.gd⟩ else none
theorem lookK_ban (pr : List Nat) (x : Nat) : lookK (banL pr) x = if has pr x = true then some none else none := lookK_un (fun _ => (none : Option Ob)) pr x
theorem obs_ban (pr : List Nat) (m : MS) (x : Nat) : (m.ban pr).obs x = if has pr x = true then none else m.obs x := by
  show lookO (banL pr ++ m.ob) x = _
  rw [lookO_app', lookK_ban]
  split <;> rfl
theorem ban_sub (pr : List Nat) (m : MS) : ∀ id x, (m.ban pr).obs id = some x → m.obs id = some x := fun id x h => by
  rw [obs_ban] at h
  split at h
  · cases h
  · exact h
theorem RX.ban {st : St} {a : Act} {w : World} {c : Cx} (h : RX st a w c) (pr : List Nat) : RX (st.ban pr) a w c :=
  ⟨OX.sub h.ox (ban_sub pr st.ms), h.sz, h.sl, h.us, h.cn⟩
theorem lookK_all {α : Type} {l : List (Nat × α)} {p : Nat → Bool} (h : l.all (fun q => p q.1) = true) {x : Nat} {v : α} (hx : lookK l x = some v) : p x = true := List.all_eq_true.1 h _ (lookK_mem hx)
/-- A step with some objects set aside is a step. -/
theorem unban_ok {pr : List Nat} {st st1 st2 : St} {a a' : Act} {w w' : World} {c c' : Cx} (hu : unban pr st st1 = some st2) (hr : RX st a w c) (hs : Step (st.ban pr) a w c st1 a' w' c') : Step st a w c st2 a' w' c' ∧ TrM (st.ms.ban pr) w c (st2.ms.ban pr) w' c' := by
  unfold unban at hu
  cases hb : (news (st.ms.ban pr) st1.ms).all (fun p => !(has pr p.1)) with
  | false => rw [hb] at hu; cases hu
  | true =>
    rw [hb] at hu
    simp only [cond_true, Option.some.injEq] at hu
    subst hu
    obtain ⟨hn, ⟨l', hl'⟩, ⟨⟨l, hl⟩, htp⟩⟩ := hs.fr
    have hl : st1.ms.ob = l ++ (st.ms.ban pr).ob := hl
    have hnews : news (st.ms.ban pr) st1.ms = l := by
      unfold news
      rw [hl, List.length_append, show l.length + (st.ms.ban pr).ob.length - (st.ms.ban pr).ob.length = l.length by omega, List.take_left]
    rw [hnews] at hb ⊢
    have hno : ∀ x v, lookK l x = some v → has pr x = false := fun x v hx => by
      have := lookK_all (p := fun x => !(has pr x)) hb hx
      simpa using this
    have e1 : ∀ x, st1.ms.obs x = (lookK l x).getD ((st.ms.ban pr).obs x) := fun x => by
      show lookO st1.ms.ob x = _
      rw [hl]
      exact lookO_app' _ _ x
    have e2 : ∀ x, (MS.obs ⟨l ++ st.ms.ob, st1.ms.nx, st1.ms.tp⟩) x = (lookK l x).getD (st.ms.obs x) := fun x => lookO_app' _ _ x
    have e3 : MS.obs ⟨l ++ st.ms.ob, st1.ms.nx, st1.ms.tp⟩ = over st1.ms.obs (st.ms.ban pr).obs st.ms.obs := by
      funext x
      rw [e2]
      unfold over
      rw [e1, obs_ban]
      cases hk : lookK l x with
      | some v =>
        have := hno x v hk
        simp only [Option.getD_some, this]
        cases v with
        | some y => rfl
        | none =>
          simp only [Bool.false_eq_true, if_false]
          cases st.ms.obs x <;> rfl
      | none =>
        simp only [Option.getD_none]
        cases hp : has pr x with
        | true => simp
        | false =>
          simp only [Bool.false_eq_true, if_false]
          cases st.ms.obs x <;> rfl
    have e4 : (MS.ban pr ⟨l ++ st.ms.ob, st1.ms.nx, st1.ms.tp⟩).obs = st1.ms.obs := by
      funext x
      rw [obs_ban, e2, e1, obs_ban]
      cases hk : lookK l x with
      | some v => simp [hno x v hk]
      | none => cases hp : has pr x <;> simp
    obtain ⟨q1, q2⟩ := OX.lift hr.ox (ban_sub pr st.ms) hs.tr hs.rx.ox
    refine ⟨⟨⟨?_, hs.rx.sz, hs.rx.sl, hs.rx.us, hs.rx.cn⟩, ?_, hs.df, ⟨hn, ⟨l', hl'⟩, ⟨⟨l, rfl⟩, htp⟩⟩⟩, ?_⟩
    · show OX (MS.obs _) _ _ _ _
      rw [e3]; exact q1
    · show Tr _ _ _ _ (MS.obs _) _ _ _
      rw [e3]; exact q2
    · show Tr _ _ _ _ (MS.obs _) _ _ _
      rw [e4]; exact hs.tr
/-- One operation, with its guard. -/
def aop1 (P : Program) (τ : TypeId → Option Ty) (cp : CP) (all : Array Oper) (o : Oper) (st : St) (K : St → Prop) : Prop := match o.guard with
  | none => aop P τ cp o st K
  | some (j, want) => match (all[j]?).bind (·.dst), o.dst with
    | some q, some d => aopG P τ cp o d q want st K
    | _, _ => False
theorem aop1_ok {τ : TypeId → Option Ty} {cp : CP} (hcp : CallOK P cp) {all : Array Oper} {i : Nat} {o : Oper} (ho : all[i]? = some o) {st : St} {K : St → Prop} (h : aop1 P τ cp all o st K) {a : Act} {w : World} {c : Cx} (hr : RX st a w c) {KK : Act → World → Prop} {Qx : Exit → Act → World → Prop}
    (hQ : ∀ st' a' w' c', Step st a w c st' a' w' c' → K st' → KK a' w') : wpOp P all Qx i KK a w := by
  unfold aop1 at h
  split at h
  · rename_i hg
    refine wpOp_step ho fun K' hK => ?_
    rw [if_pos (by simp [Region.wanted, hg])]
    exact aop_ok hcp h a w c hr K' Qx fun st' a' w' c' hs hq => hK _ _ (hQ _ _ _ _ hs hq)
  · rename_i j want hg
    split at h
    · rename_i q d hq hd
      obtain ⟨G, h1, h2, h3⟩ := aopG_ok hcp hd h
      refine wpOp_step ho fun K' hK => ?_
      rw [wanted_of hg hq h1 hr h2]
      exact h3 a w c hr K' Qx fun st' a' w' c' hs hq => hK _ _ (hQ _ _ _ _ hs hq)
    · exact h.elim
def isLoad (o : Oper) : Bool := match o.op with
  | .load _ _ => true
  | _ => false
/-- What it does it does without a change of the world. -/
def KWd (P : Program) {α : Type} (s : Sem α) : Prop := ∀ w v w1, s.run P w = .ok v w1 → w1 = w
theorem WF.kw {α : Type} {s : Sem α} (h : WF P s) : KWd P s := fun w v w1 e => (h w v w1 e).1
theorem KWd.bind {α β : Type} {x : Sem α} {f : α → Sem β} (hx : KWd P x) (hf : ∀ a, KWd P (f a)) : KWd P (x >>= f) := fun w v w1 h => by
  rw [Sem.run_bind] at h
  cases hr : x.run P w with
  | ok y w2 =>
    rw [hr] at h
    have e := hx w y w2 hr
    subst e
    exact hf y _ v w1 h
  | halt y w2 => rw [hr] at h; cases h
theorem KWd.load (a : Addr) : KWd P (load a) := fun w v w1 h => by
  simp only [Go.load, Sem.run] at h
  cases hc : w.cell? a with
  | none =>
    rw [hc] at h
    dsimp only at h
    split at h
    · injection h with _ h; exact h.symm
    · cases h
  | some x =>
    rw [hc] at h
    dsimp only at h
    injection h with _ h
    exact h.symm
theorem KWd.cells (a : Addr) : ∀ (n i : Nat) (acc : Array Value), KWd P (loadCellsFrom a i n acc)
  | 0, i, acc => (WF.pure acc).kw
  | n + 1, i, acc => by
    unfold loadCellsFrom
    exact KWd.bind (.load _) fun x => KWd.cells a n (i + 1) _
theorem KWd.loadAt (t : TypeId) (u : Value) : KWd P (Instr.loadAt t u) := by
  unfold Instr.loadAt
  refine KWd.bind (WF.sureAddr u).kw fun a => ?_
  unfold loadVar
  refine KWd.bind ?_ fun b => ?_
  · unfold isAgg
    refine KWd.bind (WF.underlying t).kw fun d => ?_
    repeat' first | exact (WF.pure _).kw | split
  · split
    · refine KWd.bind (WF.sizeOf t).kw fun n => ?_
      refine KWd.bind (KWd.cells _ _ _ _) fun vs => (WF.pure _).kw
    · exact KWd.load _
theorem load_upon {o : Oper} (hl : isLoad o = true) {all : Array Oper} {i : Nat} (ho : all[i]? = some o) {Qx : Exit → Act → World → Prop} {KK : Act → World → Prop} {a : Act} {w : World} (h : wpOp P all Qx i (fun a' w' => w' = w → KK a' w') a w) : wpOp P all Qx i KK a w := by
  unfold wpOp at h ⊢
  rw [ho] at h ⊢
  dsimp only at h ⊢
  split at h
  · rename_i hw
    rw [if_pos hw]
    refine h.imp (fun h => ?_) id
    unfold Oper.wp at h ⊢
    unfold isLoad at hl
    split at hl
    · rename_i t x hop
      have e : execOp a.eval o = (Instr.loadAt t (a.eval x) >>= fun v => Pure.pure (.value v)) := by simp only [execOp, hop]
      rw [e] at h ⊢
      have hk : KWd P (Instr.loadAt t (a.eval x) >>= fun v => (Pure.pure (.value v) : Sem Next)) := KWd.bind (.loadAt _ _) fun v => (WF.pure _).kw
      rw [Sem.run_bind] at h ⊢
      have hk2 := KWd.loadAt (P := P) t (a.eval x) w
      cases hr : (Instr.loadAt t (a.eval x)).run P w with
      | ok v w1 =>
        rw [hr] at h
        have e1 := hk2 v w1 hr
        subst e1
        exact h rfl
      | halt y w1 =>
        rw [hr] at h
        cases y <;> exact h
    · cases hl
  · rename_i hw
    rw [if_neg hw]
    exact h rfl
/-- Operation j may come up ahead of load p. -/
def befQ (all : Array Oper) (j p : Nat) : Bool := match all[j]?, all[p]? with
  | some oj, some op => isLoad op && !(Nat.beq p j) && !(waitsT .any all 6 j p) && !(waitsT .any all 6 p j)
  | _, _ => false
theorem befQ_of {all : Array Oper} {i j : Nat} {oi oj : Oper} (hi : all[i]? = some oi) (hj : all[j]? = some oj) (hl : isLoad oi = true) (hne : j ≠ i) (hno : waitsT .any all 6 j i = false) (hno2 : waitsT .any all 6 i j = false) : befQ all j i = true := by
  unfold befQ
  rw [hi, hj]
  simp only [hl, hno, hno2, Bool.true_and, Bool.and_eq_true, Bool.not_eq_true', Bool.not_false, and_true]
  exact beq_ne (fun e => hne e.symm)
def prB (all : Array Oper) (prL : Nat → List Nat) (j : Nat) : List Nat → List Nat
  | [] => []
  | p :: r => bif befQ all j p then prL p ++ prB all prL j r else prB all prL j r
theorem has_app {l r : List Nat} {x : Nat} : has (l ++ r) x = (has l x || has r x) := by
  induction l with
  | nil => rfl
  | cons y l ih =>
    show (Nat.beq y x || has (l ++ r) x) = ((Nat.beq y x || has l x) || has r x)
    rw [ih, Bool.or_assoc]
theorem prB_of {all : Array Oper} {prL : Nat → List Nat} {j p id : Nat} (hb : befQ all j p = true) (hi : has (prL p) id = true) : ∀ {l : List Nat}, p ∈ l → has (prB all prL j l) id = true
  | q :: l, h => by
    unfold prB
    rcases List.mem_cons.1 h with rfl | h
    · rw [hb, cond_true, has_app, hi]; rfl
    · have ih := prB_of hb hi h
      cases befQ all j q with
      | true => rw [cond_true, has_app, ih, Bool.or_true]
      | false => exact ih
def prJ (all : Array Oper) (prL : Nat → List Nat) (j : Nat) : List Nat := prB all prL j (List.range all.size)
theorem prJ_of {all : Array Oper} {prL : Nat → List Nat} {j p id : Nat} (hb : befQ all j p = true) (hi : has (prL p) id = true) : has (prJ all prL j) id = true := by
  refine prB_of hb hi (List.mem_range.2 ?_)
  unfold befQ at hb
  split at hb
  · rename_i op _ hp
    exact (Array.getElem?_eq_some_iff.1 hp).1
  · cases hb
def ownAt (ob : Obs) : List Nat → Bool
  | [] => true
  | id :: r => (match ob id with
    | some x => x.own
    | none => false) && ownAt ob r
theorem ownAt_spec {ob : Obs} : ∀ {l : List Nat}, ownAt ob l = true → ∀ {id : Nat}, has l id = true → ∃ x, ob id = some x ∧ x.own = true
  | k :: r, h, id, hi => by
    obtain ⟨h1, h2⟩ := Bool.and_eq_true_iff.1 h
    rcases has_cons.1 hi with rfl | hi
    · split at h1
      · rename_i x hx; exact ⟨x, hx, h1⟩
      · cases h1
    · exact ownAt_spec h2 hi
def isBx : SV → Bool
  | .bx _ _ => true
  | _ => false
/-- A box of pointers alone. -/
def rigid (ob : Obs) (id : Nat) : Bool := match ob id with
  | some (.box cs) => cs.all isBx
  | _ => false
def softL (ob : Obs) : List Nat → List Nat
  | [] => []
  | id :: r => bif rigid ob id then softL ob r else id :: softL ob r
theorem softL_has {ob : Obs} : ∀ {l : List Nat} {id : Nat}, has l id = true → rigid ob id = false → has (softL ob l) id = true
  | k :: r, id, h, hr => by
    unfold softL
    rcases has_cons.1 h with rfl | h
    · rw [hr, cond_false]; exact has_cons.2 (.inl rfl)
    · have ih := softL_has h hr
      cases rigid ob k with
      | true => exact ih
      | false => exact has_cons.2 (.inr ih)
theorem rigid_cells {st st2 : St} {a a1 : Act} {w w1 : World} {c c1 : Cx} {id : Nat} (hg : rigid st.ms.obs id = true) (hr : RX st a w c) (hs : Step st a w c st2 a1 w1 c1) (he : st2.ms.obs id = st.ms.obs id) {b : Nat} (hF : c.F id b) : CB w w1 b := by
  unfold rigid at hg
  split at hg
  · rename_i cs hob
    obtain ⟨hU, hiU, b0, arr, t, h1, h2, h3, h4, h5, h6⟩ := hr.ox.objs id _ hob
    obtain ⟨_, _, b1, arr1, t1, g1, g2, g3, g4, g5, g6⟩ := hs.rx.ox.objs id _ (he.trans hob)
    have e := (hs.tr.hH id hU).1
    rw [e, h1] at g1
    injection g1 with g1
    injection g1 with g1
    injection g1 with g1
    subst g1
    have hb := (h2 b).1 hF
    subst hb
    have hl : arr1 = arr := List.ext_getElem? fun j => by
      rcases Nat.lt_or_ge j cs.length with hj | hj
      · have hcs := List.getElem?_eq_getElem hj
        have ha := List.getElem?_eq_getElem (h4 ▸ hj : j < arr.length)
        have ha1 := List.getElem?_eq_getElem (g4 ▸ hj : j < arr1.length)
        have r := h6 j _ _ hcs ha
        have r1 := g6 j _ _ hcs ha1
        have hbx := List.all_eq_true.1 hg _ (List.getElem_mem hj)
        have hin := inUL_get hiU hcs
        rw [ha, ha1]
        generalize cs[j] = s at r r1 hbx hin
        cases s with
        | bx k off =>
          obtain ⟨p, q1, q2⟩ := srel_bx r
          obtain ⟨p1, q3, q4⟩ := srel_bx r1
          have e' := (hs.tr.hH k hin).1
          rw [e', q1] at q3
          injection q3 with q3
          injection q3 with q3
          injection q3 with q3
          subst q3
          rw [q2, q4]
        | _ => cases hbx
      · rw [List.getElem?_eq_none (by omega), List.getElem?_eq_none (by omega)]
    subst hl
    exact fun o => by rw [cell_row h3, cell_row g3]
  · cases hg
theorem news_obs {m m' : MS} (hx : FrM m m') {id : Nat} {l : List Nat} (hn : (news m m').all (fun p => !(has l p.1)) = true) (hi : has l id = true) : m'.obs id = m.obs id := by
  obtain ⟨⟨k, hk⟩, _⟩ := hx
  have e : news m m' = k := by
    unfold news
    rw [hk, List.length_append, show k.length + m.ob.length - m.ob.length = k.length by omega, List.take_left]
  rw [e] at hn
  show lookO m'.ob id = lookO m.ob id
  rw [hk, lookO_app']
  cases hq : lookK k id with
  | none => rfl
  | some v =>
    have := lookK_all (p := fun x => !(has l x)) hn hq
    simp [hi] at this
abbrev FS := Oper → St → Option (Bool × ((St → Prop) → Prop))
abbrev AO := Nat → Oper → St → (St → Prop) → Prop
/-- What an operation must leave alone: of a load, nothing. -/
def prX (all : Array Oper) (prL : Nat → List Nat) (o : Oper) (j : Nat) : List Nat := bif isLoad o then [] else prJ all prL j
def pickF (fs : Nat → FS) (all : Array Oper) (L : Array Bool) (fr : Bool) (st : St) : List Nat → Option (Nat × Oper × ((St → Prop) → Prop))
  | [] => none
  | i :: r => match all[i]? with
    | some o => match (bif Region.free .any all L i then fs i o st else none) with
      | some (lk, T) => bif !lk || (fr && isLoad o) then some (i, o, T) else pickF fs all L fr st r
      | none => pickF fs all L fr st r
    | none => pickF fs all L fr st r
def conjL : List Nat → (Nat → Prop) → Prop
  | [], _ => True
  | [i], f => f i
  | i :: r, f => f i ∧ conjL r f
theorem conjL_get : ∀ {l : List Nat} {f : Nat → Prop}, conjL l f → ∀ i ∈ l, f i
  | [], _, _, i, h => by cases h
  | [j], f, hf, i, h => by rw [List.mem_singleton.1 h]; exact hf
  | j :: k :: r, f, hf, i, h => by
    rcases List.mem_cons.1 h with rfl | h
    · exact hf.1
    · exact conjL_get hf.2 i h
/-- A region whose order is drawn: what may be done ahead is done ahead; of the rest, every order. -/
def deval (fs : Nat → FS) (ao : AO) (all : Array Oper) (prL : Nat → List Nat) : Nat → Array Bool → Bool → St → (St → Prop) → Prop
  | 0, L, fr, st, K => match Region.ready .any all L with
    | [] => K st.endR
    | _ => False
  | n + 1, L, fr, st, K => match Region.ready .any all L with
    | [] => K st.endR
    | rs => match pickF fs all L fr st rs with
      | some (i, o, T) => T fun st' => deval fs ao all prL n (L.setIfInBounds i true) fr st' K
      | none => conjL rs fun i => match all[i]? with
        | some o => bif ownAt st.ms.obs (prX all prL o i) then ao i o (st.ban (softL st.ms.obs (prX all prL o i))) fun st1 => match unban (softL st.ms.obs (prX all prL o i)) st st1 with
            | some st' => bif (news st.ms st'.ms).all (fun p => !(has (prX all prL o i) p.1)) then deval fs ao all prL n (L.setIfInBounds i true) false st' K else False
            | none => False
          else False
        | none => False
theorem pickF_spec {fs : Nat → FS} {all : Array Oper} {L : Array Bool} {fr : Bool} {st : St} : ∀ {rs : List Nat} {i : Nat} {o : Oper} {T : (St → Prop) → Prop}, pickF fs all L fr st rs = some (i, o, T) → i ∈ rs ∧ all[i]? = some o ∧ Region.free .any all L i = true ∧ ∃ lk, fs i o st = some (lk, T) ∧ (lk = true → fr = true ∧ isLoad o = true)
  | [], i, o, T, h => by cases h
  | k :: r, i, o, T, h => by
    have tail : pickF fs all L fr st r = some (i, o, T) → i ∈ k :: r ∧ all[i]? = some o ∧ Region.free .any all L i = true ∧ ∃ lk, fs i o st = some (lk, T) ∧ (lk = true → fr = true ∧ isLoad o = true) := fun h => by
      obtain ⟨h1, h2⟩ := pickF_spec h
      exact ⟨List.mem_cons_of_mem _ h1, h2⟩
    unfold pickF at h
    split at h
    · rename_i o' ho
      split at h
      · rename_i lk T' hf
        cases hb : (!lk || (fr && isLoad o')) with
        | false => rw [hb] at h; exact tail h
        | true =>
          rw [hb] at h
          simp only [cond_true, Option.some.injEq, Prod.mk.injEq] at h
          obtain ⟨rfl, rfl, rfl⟩ := h
          cases hfr : Region.free .any all L k with
          | false => rw [hfr] at hf; cases hf
          | true =>
            rw [hfr] at hf
            refine ⟨List.mem_cons_self, ho, rfl, lk, hf, fun e => ?_⟩
            rw [e] at hb
            simpa using hb
      · exact tail h
    · exact tail h
theorem yields_weak {ops : Array Oper} {S S' : World → Prop} {o : Oper} {v : Value} {a : Act} (h : YieldsIf P ops S o v a) (k : ∀ w, S' w → S w) : YieldsIf P ops S' o v a := h.imp (fun ⟨h1, h2⟩ => ⟨h1, fun w hw => h2 w (k w hw)⟩) id
def FSOK (P : Program) (all : Array Oper) (prL : Nat → List Nat) (fs : Nat → FS) : Prop := ∀ {i : Nat} {o : Oper} {st : St} {lk : Bool} {T : (St → Prop) → Prop}, fs i o st = some (lk, T) → ∀ {K : St → Prop}, T K → ∀ {a : Act} {w : World} {c : Cx}, RX st a w c →
    ∃ v st', YieldsIf P all (fun w' => lk = true → Looks c st.ms.obs (prL i) w w') o v a ∧ RX st' (a.put o.dst v) w c ∧ st'.ms = st.ms ∧ Fr st st' ∧ K st'
def AOOK (P : Program) (all : Array Oper) (ao : AO) : Prop := ∀ {i : Nat} {o : Oper}, all[i]? = some o → ∀ {st : St} {K : St → Prop}, ao i o st K → ∀ {a : Act} {w : World} {c : Cx}, RX st a w c → ∀ {KK : Act → World → Prop} {Qx : Exit → Act → World → Prop},
    (∀ st' a' w' c', Step st a w c st' a' w' c' → K st' → KK a' w') → wpOp P all Qx i KK a w
theorem deval_ok {fs : Nat → FS} {ao : AO} {all : Array Oper} {prL : Nat → List Nat} (hfs : FSOK P all prL fs) (hao : AOOK P all ao) (hns : Region.noSelect all = true) {st0 : St} {a0 : Act} {w0 : World} {c0 : Cx} (h0 : RX st0 a0 w0 c0) :
    ∀ (n : Nat) (L : Array Bool) (fr : Bool) (st : St) (K : St → Prop), Closed .any all L → deval fs ao all prL n L fr st K → ∀ a w c, RX st a w c → (fr = true → w = w0 ∧ c = c0 ∧ st.ms = st0.ms) → TrM st0.ms w0 c0 st.ms w c →
    ∀ Qx : Exit → Act → World → Prop, (∀ ch a w, ¬ Qx (.panic ch) a w) → (∀ st' a' w' c', Step st a w c st' a' w' c' → K st' → Qx .normal a' w') → wpT P .any all Qx (fun p w' => Looks c0 st0.ms.obs (prL p) w0 w') (befQ all) n L a w := by
  intro n
  induction n with
  | zero =>
    intro L fr st K hcl h a w c hr hfr hT Qx hnp hQ
    unfold deval at h
    split at h
    · rename_i hrd; exact ⟨hrd, hQ _ _ _ _ hr.endR h⟩
    · exact h.elim
  | succ n ih =>
    intro L fr st K hcl h a w c hr hfr hT Qx hnp hQ
    unfold deval at h
    split at h
    · rename_i hrd; exact ⟨fun _ => hQ _ _ _ _ hr.endR h, fun i hi => by rw [hrd] at hi; cases hi⟩
    · rename_i hne
      split at h
      · rename_i i o T hp
        obtain ⟨p1, p2, p3, lk, p4, p5⟩ := pickF_spec hp
        obtain ⟨v, st', q1, q2, q3, q4, q5⟩ := hfs p4 h hr
        refine wpT_first (S' := fun w' => lk = true → Looks c0 st0.ms.obs (prL i) w0 w') p2 (Region.noSelect_spec hns) (fun ch a w hh => absurd hh (hnp _ _ _)) n L a w (fun j oj hj hji hun hno => ⟨Region.free_spec p2 p3 j oj hj hji hun (waits_one hj (hno 1)), fun w1 w2 h1 h2 e => h2 i (befQ_of p2 hj (p5 e).2 hji (hno 6) (by
          cases hw : waitsT .any all 6 i j with
          | false => rfl
          | true =>
            have := hcl.waits 6 i (fun o' ho' e' he' hb' => ready_deps p1 ho' e' he' hb') hw
            rw [hun] at this; cases this)) (h1 e)⟩) hcl p1 (yields_weak q1 fun w' hw' e => ?_) (fun e => ?_) ?_
        · obtain ⟨e1, e2, e3⟩ := hfr (p5 e).1
          rw [e1, e2, e3]
          exact hw' e
        · obtain ⟨e1, _⟩ := hfr (p5 e).1
          rw [e1]
          exact fun b _ _ => rfl
        · refine ih _ _ _ _ (hcl.set p1) q5 _ w c q2 (fun e => ?_) ?_ Qx hnp fun st2 a2 w2 c2 hs hk => hQ _ _ _ _ (Step.trans ⟨q2, ?_, defers_put _ _ _, q4⟩ hs) hk
          · obtain ⟨e1, e2, e3⟩ := hfr e
            exact ⟨e1, e2, q3.trans e3⟩
          · rw [q3]; exact hT
          · rw [q3]; exact .refl
      · refine ⟨fun e => absurd e hne, fun i hi => ?_⟩
        have h := conjL_get h i hi
        split at h
        · rename_i o ho
          cases hld : isLoad o with
          | true =>
            have hX : prX all prL o i = [] := by unfold prX; rw [hld]; rfl
            rw [hX] at h
            simp only [ownAt, cond_true] at h
            refine load_upon hld ho (hao ho h (hr.ban _) fun st1 a1 w1 c1 hs hq hww => ?_)
            split at hq
            · rename_i st2 hu
              obtain ⟨u1, u2⟩ := unban_ok hu hr hs
              cases hN : (news st.ms st2.ms).all (fun p => !(has [] p.1)) with
              | false => rw [hN] at hq; exact hq.elim
              | true =>
              rw [hN] at hq
              simp only [cond_true] at hq
              refine ⟨fun p hp hS b hb o' => ?_, ih _ _ _ _ (hcl.set hi) hq a1 w1 c1 u1.rx (fun e => by cases e) (hT.trans u1.tr) Qx hnp fun st3 a3 w3 c3 hs3 hk3 => hQ _ _ _ _ (u1.trans hs3) hk3⟩
              rw [hww]
              exact hS b hb o'
            · exact hq.elim
          | false =>
          have hX : prX all prL o i = prJ all prL i := by unfold prX; rw [hld]; rfl
          rw [hX] at h
          cases hB : ownAt st.ms.obs (prJ all prL i) with
          | false => rw [hB] at h; exact h.elim
          | true =>
            rw [hB] at h
            simp only [cond_true] at h
            refine hao ho h (hr.ban _) fun st1 a1 w1 c1 hs hq => ?_
            split at hq
            · rename_i st2 hu
              obtain ⟨u1, u2⟩ := unban_ok hu hr hs
              cases hN : (news st.ms st2.ms).all (fun p => !(has (prJ all prL i) p.1)) with
              | false => rw [hN] at hq; exact hq.elim
              | true =>
              rw [hN] at hq
              simp only [cond_true] at hq
              refine ⟨fun p hp hS b hb o => ?_, ih _ _ _ _ (hcl.set hi) hq a1 w1 c1 u1.rx (fun e => by cases e) (hT.trans u1.tr) Qx hnp fun st3 a3 w3 c3 hs3 hk3 => hQ _ _ _ _ (u1.trans hs3) hk3⟩
              refine Eq.trans ?_ (hS b hb o)
              have hsub := ban_sub (softL st.ms.obs (prJ all prL i)) st.ms
              rcases hb with ⟨o', hS0⟩ | ⟨id, x, hpi, hx, hxo, hF⟩
              · have hcS := hT.sS b o' hS0
                exact cell_block (a := ⟨b, o, none⟩) (u2.blk b (hr.ox.sb b o' hcS) (fun ⟨j, y, hy, oy, hj⟩ => (hr.ox.fb j y (hsub j y hy) oy b hj).2.1 o' hcS) fun e => (hr.ox.nT b e).2 o' hcS)
              · have hidU := (h0.ox.objs id x hx).1
                have hban := prJ_of (all := all) (prL := prL) hp hpi
                obtain ⟨x', hx', hxo'⟩ := ownAt_spec hB hban
                have hF' : c.F id b := by rw [(hT.hH id hidU).2]; exact hF
                cases hrg : rigid st.ms.obs id with
                | true => exact rigid_cells hrg hr u1 (news_obs u1.fr.2.2 hN hban) hF' o
                | false =>
                have hban := softL_has (ob := st.ms.obs) hban hrg
                obtain ⟨k1, k2, k3⟩ := hr.ox.fb id x' hx' hxo' b hF'
                refine cell_block (a := ⟨b, o, none⟩) (u2.blk b k1 (fun ⟨j, y, hy, oy, hj⟩ => ?_) k3)
                have hne : id ≠ j := fun e => by
                  subst e
                  have hy : (st.ms.ban (softL st.ms.obs (prJ all prL i))).obs id = some y := hy
                  rw [obs_ban, hban] at hy
                  cases hy
                exact hr.ox.dj id j x' y hx' hxo' (hsub j y hy) oy hne b hF' hj
            · exact hq.elim
        · exact h.elim
/-- Objects that the region's loads read. -/
def scanQ (P : Program) (m : MS) (n : Nat) : List Oper → Nat → List (Nat × SV) → List (Nat × Nat)
  | [], _, _ => []
  | o :: r, i, sl =>
    let ρ : Operand → SV := fun x => noC (St.ev ⟨sl, m, n, [], []⟩ x)
    let v := match popS P m.mem ρ o with
      | some R => R.r
      | none => .un
    let rest := scanQ P m n r (i + 1) (match o.dst with | some d => (d, v) :: sl | none => sl)
    match o.op with
    | .load _ x => match ρ x with
      | .bx id _ => (i, id) :: rest
      | .op id _ _ _ => match m.obs id with
        | some (.row _ _ _) => (i, id) :: rest
        | _ => rest
      | .np id _ _ _ => (i, id) :: rest
      | .ip id _ _ _ _ => (i, id) :: rest
      | _ => rest
    | _ => rest
def prOf : List (Nat × Nat) → Nat → List Nat
  | [], _ => []
  | (p, id) :: r, i => bif Nat.beq p i then id :: prOf r i else prOf r i
def drawR (P : Program) (τ : TypeId → Option Ty) : DR := fun id cp ops st K =>
  bif P.follows .mixedOrders && Region.noSelect ops then deval (fun i => fstep P (prOf (scanQ P st.ms st.n ops.toList 0 st.sl) i) ops) (fun i o => aop1 P τ (cp i) ops o) ops (prOf (scanQ P st.ms st.n ops.toList 0 st.sl)) ops.size (Array.replicate ops.size false) true st K else False
/-- A draw more. -/
theorem RX.drew {st : St} {a : Act} {w : World} {c : Cx} (h : RX st a w c) : RX st a { w with drawn := w.drawn + 1 } c ∧ TrM st.ms w c st.ms { w with drawn := w.drawn + 1 } c := by
  have t : Tr (fun _ => none) st.ms.U w c (fun _ => none) st.ms.U { w with drawn := w.drawn + 1 } c :=
    ⟨rfl, rfl, rfl, Nat.le_refl _, fun _ h => h, fun _ h => .inl h, fun _ h => h, fun _ _ => ⟨rfl, rfl⟩, fun _ _ h => h, fun _ _ h => .inl h, fun _ _ _ _ => rfl, fun _ h => .inl h⟩
  have h' : OX (fun _ => none) st.ms.U st.ms.tp { w with drawn := w.drawn + 1 } c :=
    ⟨h.ox.sb, fun id x hx => (by cases hx), fun id x hx => (by cases hx), fun i j x y hx => (by cases hx), h.ox.nT, fun e => by
      obtain ⟨T, h1, h2⟩ := h.ox.tpe e
      exact ⟨T, h1, h2.mono (fun _ _ h => h) (fun _ _ _ => rfl) rfl⟩, h.ox.tF⟩
  obtain ⟨q1, q2⟩ := OX.lift (ob := fun _ => none) (ob' := fun _ => none) h.ox (fun id x hx => by cases hx) t h'
  have e : over (fun _ => none) (fun _ => none) st.ms.obs = st.ms.obs := by funext x; rfl
  rw [e] at q1 q2
  exact ⟨⟨q1, h.sz, fun x u hu => q2.srel h.ox (h.sl x u hu) (h.us x), h.us, h.cn⟩, q2⟩
theorem drawR_ok (τ : TypeId → Option Ty) : DrOK P (drawR P τ) := by
  intro id cp ops st K hcp h a w c hr
  unfold drawR at h
  cases hb : (P.follows .mixedOrders && Region.noSelect ops) with
  | false => rw [hb] at h; exact h.elim
  | true =>
    rw [hb] at h
    obtain ⟨b1, b2⟩ := Bool.and_eq_true_iff.1 hb
    obtain ⟨hr1, t1⟩ := hr.drew
    let Qx : Exit → Act → World → Prop := fun e a' w' => e = .normal ∧ ∃ st' c', Step st a w c st' a' w' c' ∧ K st'
    refine wp_mono (Q := Qx) ?_ (fun e a' w' ⟨he, st', c', k1, k2⟩ => ⟨st', c', k1, he, k2⟩)
    refine wp_region_any b1 (wpAny_of_T _ _ _ _ (deval_ok (fs := fun i => fstep P (prOf (scanQ P st.ms st.n ops.toList 0 st.sl) i) ops) (ao := fun i o => aop1 P τ (cp i) ops o) (prL := prOf (scanQ P st.ms st.n ops.toList 0 st.sl)) (fun h _ hT _ _ _ hr => fstep_ok h hT hr) (fun ho _ _ h _ _ _ hr _ _ hQ => aop1_ok (hcp _) ho h hr hQ) b2 hr1 _ _ _ _ _ .start h _ _ _ hr1 (fun _ => ⟨rfl, rfl, rfl⟩) .refl Qx (fun ch a w hh => by cases hh.1) fun st' a' w' c' hs hk => ⟨rfl, st', c', Step.trans ⟨hr1, t1, rfl, .refl _⟩ hs, hk⟩))
end RE
end Go.Proofs.YtpeggkeenboacaaGreat
namespace Go.Proofs.YtpeggkeenboacaaGreat
open Go.RowKit
set_option linter.unusedVariables false
namespace RE
variable {P : Program}
end RE
end Go.Proofs.YtpeggkeenboacaaGreat
namespace Go.Proofs.YtpeggkeenboacaaGreat
open Go.RowKit
set_option linter.unusedVariables false
namespace RE
variable {P : Program}
def goneL : List (Option Nat) → List (Nat × Option Ob)
  | [] => []
  | some id :: r => (id, none) :: goneL r
  | none :: r => goneL r
def Gone (own : List (Option Nat)) (id : Nat) : Prop := ∃ j : Nat, own[j]? = some (some id)
theorem goneL_look : ∀ {own : List (Option Nat)} {id : Nat} {v : Option Ob}, lookK (goneL own) id = some v → v = none ∧ Gone own id
  | [], id, v, h => by simp [goneL, lookK] at h
  | some k :: r, id, v, h => by
    rw [goneL, lookK_cons] at h
    split at h
    · rename_i e
      injection h with h
      have e : k = id := e
      subst e
      exact ⟨h.symm, 0, rfl⟩
    · obtain ⟨h1, j, h2⟩ := goneL_look h
      exact ⟨h1, j + 1, h2⟩
  | none :: r, id, v, h => by
    obtain ⟨h1, j, h2⟩ := goneL_look (own := r) h
    exact ⟨h1, j + 1, h2⟩
theorem goneL_none : ∀ {own : List (Option Nat)} {id : Nat}, lookK (goneL own) id = none → ¬ Gone own id
  | [], id, h, ⟨j, hj⟩ => by simp at hj
  | some k :: r, id, h, ⟨j, hj⟩ => by
    rw [goneL, lookK_cons] at h
    split at h
    · cases h
    · rename_i e
      cases j with
      | zero => simp at hj; exact e hj
      | succ j => exact goneL_none h ⟨j, hj⟩
  | none :: r, id, h, ⟨j, hj⟩ => by
    cases j with
    | zero => simp at hj
    | succ j => exact goneL_none (own := r) h ⟨j, hj⟩
def MS.take (m : MS) (own : List (Option Nat)) (rows : List Row) : MS := ⟨rowsOb m.nx rows ++ (goneL own ++ m.ob), m.nx + rows.length, m.tp⟩
theorem take_obs (m : MS) (own : List (Option Nat)) (rows : List Row) (id : Nat) (x : Ob) (h : (m.take own rows).obs id = some x) : (∃ j r, id = m.nx + j ∧ rows[j]? = some r ∧ x = .row r.1 r.2.1 r.2.2) ∨ (¬ Gone own id ∧ m.obs id = some x) := by
  have h : lookO (rowsOb m.nx rows ++ (goneL own ++ m.ob)) id = some x := h
  rw [lookO_app'] at h
  cases hz : lookK (rowsOb m.nx rows) id with
  | some v =>
    rw [hz] at h
    obtain ⟨j, r, h1, h2, h3⟩ := rowsOb_some hz
    have h : v = some x := h
    rw [h3] at h
    injection h with h
    exact .inl ⟨j, r, h1, h2, h.symm⟩
  | none =>
    rw [hz] at h
    have h : lookO (goneL own ++ m.ob) id = some x := h
    rw [lookO_app'] at h
    cases hy : lookK (goneL own) id with
    | some v =>
      rw [hy] at h
      have h : v = some x := h
      rw [(goneL_look hy).1] at h
      cases h
    | none =>
      rw [hy] at h
      exact .inr ⟨goneL_none hy, h⟩
theorem call_back2 {m : MS} {w w' : World} {c c0 c' : Cx} {own : List (Option Nat)} {rows : List Row} {n : Nat} {ob0 obR : Obs} {U0 UR : Nat → Prop} (hox : OXM m w c)
    (hrow : ∀ id, Gone own id → ∃ e t l, m.obs id = some (.row e t l)) (hfp : ∀ b, FP ob0 c0 b → ∃ id, Gone own id ∧ c.F id b) (hS : c0.S = c.S) (hT0 : c0.T = none)
    (hox' : OX obR UR false w' c') (ht : Tr ob0 U0 w c0 obR UR w' c') (hR : ∀ (j : Nat) (r : Row), rows[j]? = some r → obR (n + j) = some (.row r.1 r.2.1 r.2.2)) :
    ∃ c2, OXM (m.take own rows) w' c2 ∧ TrM m w c (m.take own rows) w' c2 ∧ (∀ i, c2.H (m.nx + i) = c'.H (n + i)) ∧ c2.S = c'.S := by
  have hgF : ∀ id b, Gone own id → c.F id b → b < w.heap.size ∧ (∀ k, ¬ c.S b k) ∧ c.T ≠ some b := fun id b hg hb => by
    obtain ⟨e, t, l, h⟩ := hrow id hg
    exact hox.fb id _ h rfl b hb
  have hoth : ∀ i y b, m.obs i = some y → y.own = true → ¬ Gone own i → c.F i b → ¬ FP ob0 c0 b := fun i y b hi oi hg hb hf => by
    obtain ⟨id, hg', hb'⟩ := hfp b hf
    obtain ⟨e, t, l, h⟩ := hrow id hg'
    exact hox.dj i id y _ hi oi h rfl (fun e => hg (e ▸ hg')) b hb hb'
  have hblk : ∀ b, b < w.heap.size → ¬ FP ob0 c0 b → w'.heap[b]? = w.heap[b]? := fun b hb hf => ht.blk b hb hf (by rw [hT0]; exact fun h => by cases h)
  have hSnF : ∀ b o, c.S b o → ¬ FP ob0 c0 b := fun b o hs hf => by
    obtain ⟨id, hg, hb⟩ := hfp b hf
    exact (hgF id b hg hb).2.1 o hs
  have hcell : ∀ b o, c.S b o → w'.cell? ⟨b, o, none⟩ = w.cell? ⟨b, o, none⟩ := fun b o hs => World.cell?_of_block (hblk b (hox.sb b o hs) (hSnF b o hs))
  have hsS : ∀ b o, c.S b o → c'.S b o := fun b o hs => ht.sS b o (by rw [hS]; exact hs)
  have hsN : ∀ b o, c'.S b o → c.S b o ∨ FP ob0 c0 b ∨ w.heap.size ≤ b := fun b o hs => by
    have := ht.sN b o hs
    rwa [hS] at this
  have hTn : ∀ T, c.T = some T → ¬ FP ob0 c0 T := fun T hT hf => by
    obtain ⟨id, hg, hb⟩ := hfp T hf
    exact (hgF id T hg hb).2.2 hT
  have hnew : ∀ j r b, rows[j]? = some r → c'.F (n + j) b → FP ob0 c0 b ∨ w.heap.size ≤ b := fun j r b hr hb => ht.fp b ⟨n + j, _, hR j r hr, rfl, hb⟩
  let c2 : Cx := ⟨c'.S, fun i => if i < m.nx then c.H i else c'.H (n + (i - m.nx)), fun i => if i < m.nx then c.F i else c'.F (n + (i - m.nx)), c.T⟩
  have h2o : ∀ i, i < m.nx → c2.H i = c.H i ∧ c2.F i = c.F i := fun i hi => ⟨if_pos hi, if_pos hi⟩
  have h2n : ∀ i, c2.H (m.nx + i) = c'.H (n + i) ∧ c2.F (m.nx + i) = c'.F (n + i) := fun i => by
    refine ⟨?_, ?_⟩
    · show (if m.nx + i < m.nx then _ else _) = _
      rw [if_neg (by omega), show m.nx + i - m.nx = i by omega]
    · show (if m.nx + i < m.nx then _ else _) = _
      rw [if_neg (by omega), show m.nx + i - m.nx = i by omega]
  refine ⟨c2, ⟨fun b o hb => hox'.sb b o hb, fun id x hx => ?_, fun id x hx hox2 b hb => ?_, fun i j x y hx ox2 hy oy2 hne b hb hb' => ?_, fun T hTs => ?_, fun htp => ?_, hox.tF⟩, ⟨ht.os, ht.tape, ht.output, ht.sz, fun _ h => h, fun _ h => .inl h, fun i hi => ?_, fun i hi => h2o i hi, hsS, fun b o hb => ?_, fun b hb hf hTb => ?_, fun b hb => ?_⟩, fun i => (h2n i).1, rfl⟩
  · rcases take_obs m own rows id x hx with ⟨j, r, rfl, hr, rfl⟩ | ⟨hg, hx⟩
    · refine ⟨?_, trivial, ?_⟩
      · show m.nx + j < m.nx + rows.length
        have := (List.getElem?_eq_some_iff.1 hr).1; omega
      · show RowAt w' c'.S (c2.H (m.nx + j)) (c2.F (m.nx + j)) _ _ _
        rw [(h2n j).1, (h2n j).2]
        exact (hox'.objs (n + j) _ (hR j r hr)).2.2
    · obtain ⟨u1, u2, u3⟩ := hox.objs id x hx
      have hid : id < m.nx := u1
      refine ⟨?_, Ob.inU_mono (fun i hi => ?_) u2, u3.keep (U := m.U) u2 hsS hcell (fun _ h => h) (fun i hi => (h2o i hi).1) (h2o id hid) fun ho b hb => ?_⟩
      · show id < m.nx + rows.length; omega
      · have hi : i < m.nx := hi
        show i < m.nx + rows.length; omega
      · exact hblk b (hox.fb id x hx ho b hb).1 (hoth id x b hx ho hg hb)
  · rcases take_obs m own rows id x hx with ⟨j, r, rfl, hr, rfl⟩ | ⟨hg, hx⟩
    · rw [(h2n j).2] at hb
      obtain ⟨p1, p2, p3⟩ := hox'.fb (n + j) _ (hR j r hr) rfl b hb
      refine ⟨p1, p2, fun e => ?_⟩
      rcases hnew j r b hr hb with q | q
      · exact hTn b e q
      · have := (hox.nT b e).1; omega
    · rw [(h2o id (hox.objs id x hx).1).2] at hb
      obtain ⟨p1, p2, p3⟩ := hox.fb id x hx hox2 b hb
      refine ⟨Nat.lt_of_lt_of_le p1 ht.sz, fun k hk => ?_, p3⟩
      rcases hsN b k hk with e | e | e
      · exact p2 k e
      · exact hoth id x b hx hox2 hg hb e
      · omega
  · rcases take_obs m own rows i x hx with ⟨p, r, rfl, hr, rfl⟩ | ⟨hg, hx⟩
    · rw [(h2n p).2] at hb
      rcases take_obs m own rows j y hy with ⟨q, r', rfl, hr', rfl⟩ | ⟨hg', hy⟩
      · rw [(h2n q).2] at hb'
        exact hox'.dj (n + p) (n + q) _ _ (hR p r hr) rfl (hR q r' hr') rfl (fun e => hne (by omega)) b hb hb'
      · rw [(h2o j (hox.objs j y hy).1).2] at hb'
        rcases hnew p r b hr hb with e | e
        · exact hoth j y b hy oy2 hg' hb' e
        · have := (hox.fb j y hy oy2 b hb').1; omega
    · rw [(h2o i (hox.objs i x hx).1).2] at hb
      rcases take_obs m own rows j y hy with ⟨q, r', rfl, hr', rfl⟩ | ⟨hg', hy⟩
      · rw [(h2n q).2] at hb'
        rcases hnew q r' b hr' hb' with e | e
        · exact hoth i x b hx ox2 hg hb e
        · have := (hox.fb i x hx ox2 b hb).1; omega
      · rw [(h2o j (hox.objs j y hy).1).2] at hb'
        exact hox.dj i j x y hx ox2 hy oy2 hne b hb hb'
  · obtain ⟨p1, p2⟩ := hox.nT T hTs
    refine ⟨Nat.lt_of_lt_of_le p1 ht.sz, fun k hk => ?_⟩
    rcases hsN T k hk with e | e | e
    · exact p2 k e
    · exact hTn T hTs e
    · omega
  · obtain ⟨T, hTs, hta⟩ := hox.tpe htp
    exact ⟨T, hTs, hta.mono hsS hcell (hblk T hta.lt (hTn T hTs))⟩
  · have hi : i < m.nx := hi
    show i < m.nx + rows.length; omega
  · rcases hsN b o hb with e | e | e
    · exact .inl e
    · obtain ⟨id, hg, hb'⟩ := hfp b e
      obtain ⟨e1, t, l, h⟩ := hrow id hg
      exact .inr (.inl ⟨id, _, h, rfl, hb'⟩)
    · exact .inr (.inr e)
  · refine hblk b hb fun hf' => ?_
    obtain ⟨id, hg, hb'⟩ := hfp b hf'
    obtain ⟨e1, t, l, h⟩ := hrow id hg
    exact hf ⟨id, _, h, rfl, hb'⟩
  · obtain ⟨id, x, hx, ho, hb⟩ := hb
    rcases take_obs m own rows id x hx with ⟨j, r, rfl, hr, rfl⟩ | ⟨hg, hx⟩
    · rw [(h2n j).2] at hb
      rcases hnew j r b hr hb with e | e
      · obtain ⟨id, hg, hb'⟩ := hfp b e
        obtain ⟨e1, t, l, h⟩ := hrow id hg
        exact .inl ⟨id, _, h, rfl, hb'⟩
      · exact .inr e
    · rw [(h2o id (hox.objs id x hx).1).2] at hb
      exact .inl ⟨id, x, hx, ho, hb⟩
mutual
theorem instS_move {c c2 : Cx} {w : World} {n n1 : Nat} {al : Bool} (hS : al = true → ∀ b o, c.S b o → c2.S b o) (hH : ∀ i, c2.H (n + i) = c.H (n1 + i)) : ∀ (s : Sh) (acc : List Ty) (v : dens (shT s acc)) (k : Nat), shPure s = true → (al || shFlat s) = true → ∀ {u : Value}, SRel c w (instS s acc v (n1 + k)).1 u → SRel c2 w (instS s acc v (n + k)).1 u
  | .dat t, acc, v, k, _, hf, u, hr => by
    refine .d _ _ ?_
    have hr := srel_d hr
    cases al with
    | true => exact hr.mono (hS rfl) (fun _ _ _ => rfl)
    | false => exact hr.flat (tv_flat (show flatT t = true from by simpa [shFlat] using hf))
  | .own e t, acc, v, k, _, hf, u, hr => by
    rw [srel_os hr, ← hH]
    exact .os _
  | .bx id off, acc, v, k, hp, _, u, hr => by cases hp
  | .rf id, acc, v, k, hp, _, u, hr => by cases hp
  | .tp, acc, v, k, hp, _, u, hr => by cases hp
  | .un, acc, v, k, _, _, u, hr => .un u
  | .agg cs, acc, v, k, hp, hf, u, hr => by
    have hr : SRel c w (mkAgg (instL cs acc v (n1 + k)).1) u := hr
    obtain ⟨us, rfl, hl, h1, h2, _⟩ : ∃ us : List Value, u = .agg us.toArray ∧ us.length = (instL cs acc v (n1 + k)).1.length ∧ (∀ u ∈ us, u.oneCell' = true) ∧ (∀ (i : Nat) (s : SV) (u : Value), (instL cs acc v (n1 + k)).1[i]? = some s → us[i]? = some u → SRel c w s u) ∧ True := by
      unfold mkAgg at hr
      split at hr
      · rename_i ds hd
        have hd := dOf_spec hd
        cases srel_d hr with
        | agg _ us hl h1 h2 =>
          refine ⟨us, rfl, by rw [hd]; simp [hl], h1, fun i s u hs hu => ?_, trivial⟩
          rw [hd, List.getElem?_map, Option.map_eq_some_iff] at hs
          obtain ⟨x, hx, rfl⟩ := hs
          exact .d _ _ (h2 i x u hx hu)
      · obtain ⟨us, e1, e2, e3, e4⟩ := srel_agg hr
        exact ⟨us, e1, e2, e3, e4, trivial⟩
    obtain ⟨k1, k2⟩ := instL_move hS hH cs acc v k hp hf
    show SRel c2 w (mkAgg (instL cs acc v (n + k)).1) _
    exact srel_mkAgg (by omega) h1 fun i s u hs hu => by
      have hi : i < (instL cs acc v (n1 + k)).1.length := by have := (List.getElem?_eq_some_iff.1 hu).1; omega
      exact k2 i _ s (List.getElem?_eq_getElem hi) hs (h2 i _ u (List.getElem?_eq_getElem hi) hu)
  | .tup cs, acc, v, k, hp, hf, u, hr => by
    have hr : SRel c w (.tup (instL cs acc v (n1 + k)).1) u := hr
    obtain ⟨k1, k2⟩ := instL_move hS hH cs acc v k hp hf
    cases hr with
    | tup _ us hl h2 =>
      show SRel c2 w (.tup (instL cs acc v (n + k)).1) _
      exact .tup _ us (by omega) fun i s u hs hu => by
        have hi : i < (instL cs acc v (n1 + k)).1.length := by have := (List.getElem?_eq_some_iff.1 hu).1; omega
        exact k2 i _ s (List.getElem?_eq_getElem hi) hs (h2 i _ u (List.getElem?_eq_getElem hi) hu)
theorem instL_move {c c2 : Cx} {w : World} {n n1 : Nat} {al : Bool} (hS : al = true → ∀ b o, c.S b o → c2.S b o) (hH : ∀ i, c2.H (n + i) = c.H (n1 + i)) : ∀ (ss : List Sh) (acc : List Ty) (v : dens (shTL ss acc)) (k : Nat), shPureL ss = true → (al || shFlatL ss) = true → (instL ss acc v (n1 + k)).1.length = (instL ss acc v (n + k)).1.length ∧ ∀ (i : Nat) (x y : SV), (instL ss acc v (n1 + k)).1[i]? = some x → (instL ss acc v (n + k)).1[i]? = some y → ∀ {u : Value}, SRel c w x u → SRel c2 w y u
  | [], acc, v, k, _, _ => ⟨rfl, fun i x y h => by simp [instL] at h⟩
  | s :: ss, acc, v, k, hp, hf => by
    obtain ⟨p1, p2⟩ := Bool.and_eq_true_iff.1 (show (shPure s && shPureL ss) = true from hp)
    have f12 : (al || shFlat s) = true ∧ (al || shFlatL ss) = true := by
      cases al with
      | true => exact ⟨rfl, rfl⟩
      | false =>
        have hf : (shFlat s && shFlatL ss) = true := by simpa [shFlatL] using hf
        obtain ⟨a1, a2⟩ := Bool.and_eq_true_iff.1 hf
        exact ⟨by simpa using a1, by simpa using a2⟩
    have e := instS_rows s (shTL ss acc) v k (n + k)
    have e1 : (instS s (shTL ss acc) v k).2.1 = (instS s (shTL ss acc) v (n + k)).2.1 := by rw [e]
    have e2 : (instS s (shTL ss acc) v k).2.2 = (instS s (shTL ss acc) v (n + k)).2.2 := by rw [e]
    have e' := instS_rows s (shTL ss acc) v k (n1 + k)
    have e1' : (instS s (shTL ss acc) v k).2.1 = (instS s (shTL ss acc) v (n1 + k)).2.1 := by rw [e']
    have e2' : (instS s (shTL ss acc) v k).2.2 = (instS s (shTL ss acc) v (n1 + k)).2.2 := by rw [e']
    obtain ⟨q1, q2⟩ := instL_move hS hH ss acc (instS s (shTL ss acc) v k).2.2 (k + (instS s (shTL ss acc) v k).2.1.length) p2 f12.2
    have hA : (instL (s :: ss) acc v (n1 + k)).1 = (instS s (shTL ss acc) v (n1 + k)).1 :: (instL ss acc (instS s (shTL ss acc) v k).2.2 (n1 + (k + (instS s (shTL ss acc) v k).2.1.length))).1 := by
      show _ :: (instL ss acc (instS s (shTL ss acc) v (n1 + k)).2.2 (n1 + k + (instS s (shTL ss acc) v (n1 + k)).2.1.length)).1 = _
      rw [← e2', ← e1', Nat.add_assoc]
    have hB : (instL (s :: ss) acc v (n + k)).1 = (instS s (shTL ss acc) v (n + k)).1 :: (instL ss acc (instS s (shTL ss acc) v k).2.2 (n + (k + (instS s (shTL ss acc) v k).2.1.length))).1 := by
      show _ :: (instL ss acc (instS s (shTL ss acc) v (n + k)).2.2 (n + k + (instS s (shTL ss acc) v (n + k)).2.1.length)).1 = _
      rw [← e2, ← e1, Nat.add_assoc]
    rw [hA, hB]
    refine ⟨by simp [q1], fun i x y hx hy u hr => ?_⟩
    cases i with
    | zero => simp at hx hy; subst hx hy; exact instS_move hS hH s (shTL ss acc) v k p1 f12.1 hr
    | succ i => simp at hx hy; exact q2 i x y hx hy hr
end

/-! ### contracts -/
structure Spec2 where
  f : FuncId
  as : List Sh
  rs : Sh
  pt : dens (shTL as []) → (dens (shT rs []) → Prop) → Prop
def mem2 (as : List Sh) (x : dens (shTL as [])) : MS := ⟨rowsOb 0 (instL as [] x 0).2.1, (instL as [] x 0).2.1.length, false⟩
/-- What a call under such a contract brings about: n rows were taken over. -/
def Spec2OK (P : Program) (s : Spec2) : Prop := ∀ x post, s.pt x post → ∀ (us : List Value) w c, OXM (mem2 s.as x) w c → us.length = (instL s.as [] x 0).1.length →
  (∀ (i : Nat) (d : SV) (u : Value), (instL s.as [] x 0).1[i]? = some d → us[i]? = some u → SRel c w d u ∧ d.inU (mem2 s.as x).U) →
  Calls P s.f us.toArray w fun e w' => ∃ v y c' obR UR, e = .returned v ∧ post y ∧ OX obR UR false w' c' ∧ Tr (mem2 s.as x).obs (mem2 s.as x).U w c obR UR w' c' ∧ SRel c' w' (instS s.rs [] y (mem2 s.as x).nx).1 v ∧ ∀ (j : Nat) (r : Row), (instS s.rs [] y 0).2.1[j]? = some r → obR ((mem2 s.as x).nx + j) = some (.row r.1 r.2.1 r.2.2)
def ownIds : List (Option Nat) → List Nat
  | [] => []
  | some id :: r => id :: ownIds r
  | none :: r => ownIds r
def distinctO : List Nat → Bool
  | [] => true
  | x :: r => !(has r x) && distinctO r
theorem ownIds_mem : ∀ {own : List (Option Nat)} {j id : Nat}, own[j]? = some (some id) → has (ownIds own) id = true
  | [], j, id, h => by simp at h
  | some k :: r, 0, id, h => by
    simp at h
    subst h
    exact has_cons.2 (.inl rfl)
  | some k :: r, j + 1, id, h => has_cons.2 (.inr (ownIds_mem (own := r) (by simpa using h)))
  | none :: r, 0, id, h => by simp at h
  | none :: r, j + 1, id, h => ownIds_mem (own := r) (by simpa using h)
theorem distinct_own : ∀ {own : List (Option Nat)}, distinctO (ownIds own) = true → ∀ (i j id : Nat), i ≠ j → own[i]? = some (some id) → own[j]? ≠ some (some id)
  | [], _, i, j, id, _, h => by simp at h
  | none :: r, hd, i, j, id, hne, hi => by
    cases i with
    | zero => simp at hi
    | succ i => cases j with
      | zero => simp
      | succ j => exact distinct_own (own := r) hd i j id (by omega) (by simpa using hi)
  | some k :: r, hd, i, j, id, hne, hi => by
    obtain ⟨h1, h2⟩ := Bool.and_eq_true_iff.1 hd
    have h1 : has (ownIds r) k = false := by simpa using h1
    cases i with
    | zero =>
      simp at hi
      subst hi
      cases j with
      | zero => exact absurd rfl hne
      | succ j =>
        intro h
        have := ownIds_mem (own := r) (j := j) (id := k) (by simpa using h)
        rw [h1] at this; cases this
    | succ i => cases j with
      | zero =>
        intro h
        simp at h
        subst h
        have := ownIds_mem (own := r) (j := i) (id := k) (by simpa using hi)
        rw [h1] at this; cases this
      | succ j => exact distinct_own (own := r) h2 i j id (by omega) (by simpa using hi)
/-- A call by such a contract. -/
def byCon2 (s : Spec2) (ss : List SV) (m : MS) (k : SV → MS → Prop) : Prop :=
  match fitL m.mem 0 s.as [] ss () with
  | some g => bif g.fz.isEmpty && shPureL s.as && shPure s.rs && distinctO (ownIds g.own) then s.pt g.v fun y => k (instS s.rs [] y m.nx).1 (m.take g.own (instS s.rs [] y 0).2.1) else False
  | none => False
theorem byCon2_ok {s : Spec2} (hs : Spec2OK P s) {ss : List SV} {m : MS} {k : SV → MS → Prop} (h : byCon2 s ss m k) {us : List Value} {w : World} {c : Cx} (hox : OXM m w c) (hl : us.length = ss.length) (hr : ∀ (i : Nat) (x : SV) (u : Value), ss[i]? = some x → us[i]? = some u → SRel c w x u ∧ x.inU m.U) :
    Calls P s.f us.toArray w fun e w' => ∃ v r m' c', e = .returned v ∧ k r m' ∧ FrM m m' ∧ OXM m' w' c' ∧ TrM m w c m' w' c' ∧ SRel c' w' r v ∧ r.inU m'.U := by
  unfold byCon2 at h
  split at h
  · rename_i g hg
    cases hb : (g.fz.isEmpty && shPureL s.as && shPure s.rs && distinctO (ownIds g.own)) with
    | false => rw [hb] at h; exact h.elim
    | true =>
      rw [hb] at h
      simp only [cond_true] at h
      simp only [Bool.and_eq_true] at hb
      obtain ⟨⟨⟨b1, b2⟩, b3⟩, b4⟩ := hb
      have b1 : g.fz = [] := by simpa using b1
      have hF : Fz m.mem c c w [] := ⟨hox, by show OX (ovr _ []) _ _ _ _; rw [ovr_nil]; exact hox, by show Tr _ _ _ _ (ovr _ []) _ _ _; rw [ovr_nil]; exact .refl, rfl⟩
      obtain ⟨_, q2, q3, q4, q5⟩ := fitL_ok hF (k0 := 0) (own0 := g.own) s.as [] ss () g hg (fun i hi => by rw [b1] at hi; cases hi) 0 (Nat.le_refl _) (fun j o h => by simpa using h)
      obtain ⟨cM, hcM⟩ : ∃ cM, cM = reCx c 0 g.own := ⟨_, rfl⟩
      obtain ⟨c0, hc0⟩ : ∃ c0 : Cx, c0 = ⟨cM.S, cM.H, cM.F, none⟩ := ⟨_, rfl⟩
      rw [← hcM] at q5
      have hcS : c0.S = c.S := by rw [hc0, hcM]; rfl
      have hcH : ∀ i : Nat, c0.H i = ownH c.H ((g.own[i]?).getD none) := fun i => by
        rw [hc0, hcM]
        show (if i < 0 then c.H i else ownH c.H ((g.own[i - 0]?).getD none)) = _
        rw [if_neg (by omega), Nat.sub_zero]
      have hcF : ∀ i : Nat, c0.F i = ownF c.F ((g.own[i]?).getD none) := fun i => by
        rw [hc0, hcM]
        show (if i < 0 then c.F i else ownF c.F ((g.own[i - 0]?).getD none)) = _
        rw [if_neg (by omega), Nat.sub_zero]
      have hrl : (instL s.as [] g.v 0).2.1.length = g.own.length := q2.1
      have hob0 : ∀ id x, (mem2 s.as g.v).obs id = some x → ∃ r o, (instL s.as [] g.v 0).2.1[id]? = some r ∧ g.own[id]? = some o ∧ x = .row r.1 r.2.1 r.2.2 := fun id x hx => by
        have hx : lookO (rowsOb 0 (instL s.as [] g.v 0).2.1) id = some x := hx
        rw [← List.append_nil (rowsOb 0 _), lookO_app'] at hx
        cases hz : lookK (rowsOb 0 (instL s.as [] g.v 0).2.1) id with
        | some v =>
          rw [hz] at hx
          obtain ⟨j, r, h1, h2, h3⟩ := rowsOb_some hz
          have hx : v = some x := hx
          rw [h3] at hx
          injection hx with hx
          rw [Nat.zero_add] at h1
          subst h1
          have hlt := (List.getElem?_eq_some_iff.1 h2).1
          exact ⟨r, _, h2, List.getElem?_eq_getElem (by omega), hx.symm⟩
        | none => rw [hz] at hx; cases hx
      have hgone : ∀ id, Gone g.own id → ∃ e t l, m.obs id = some (.row e t l) := fun id ⟨j, hj⟩ => by
        have hlt := (List.getElem?_eq_some_iff.1 hj).1
        have := q2.2 j _ (instL s.as [] g.v 0).2.1[j] hj (List.getElem?_eq_getElem (by omega))
        exact ⟨_, _, _, this⟩
      have hfp0 : ∀ id x b, (mem2 s.as g.v).obs id = some x → c0.F id b → ∃ k, g.own[id]? = some (some k) ∧ c.F k b := fun id x b hx hb => by
        obtain ⟨r, o, h1, h2, h3⟩ := hob0 id x hx
        rw [hcF, h2] at hb
        cases o with
        | none => exact hb.elim
        | some k => exact ⟨k, h2, hb⟩
      have hfp : ∀ b, FP (mem2 s.as g.v).obs c0 b → ∃ id, Gone g.own id ∧ c.F id b := fun b ⟨id, x, hx, ho, hb⟩ => by
        obtain ⟨k, h1, h2⟩ := hfp0 id x b hx hb
        exact ⟨k, ⟨id, h1⟩, h2⟩
      have hox0 : OXM (mem2 s.as g.v) w c0 := by
        refine ⟨fun b o hb => hox.sb b o (by rw [← hcS]; exact hb), fun id x hx => ?_, fun id x hx ho b hb => ?_, fun i j x y hx ox hy oy hne b hb hb' => ?_, fun T hT => ?_, fun htp => (by cases htp), fun _ => by rw [hc0]⟩
        · obtain ⟨r, o, h1, h2, rfl⟩ := hob0 id x hx
          refine ⟨?_, trivial, ?_⟩
          · show id < (instL s.as [] g.v 0).2.1.length
            exact (List.getElem?_eq_some_iff.1 h1).1
          · show RowAt w c0.S (c0.H id) (c0.F id) _ _ _
            rw [hcS, hcH, hcF, h2]
            have := q2.2 id o r h2 h1
            cases o with
            | none =>
              obtain ⟨e1, e2⟩ := this
              exact ⟨e2, .inl ⟨e1, ⟨none, rfl⟩, fun b hb => hb⟩⟩
            | some k => exact (hox.objs k _ this).2.2
        · obtain ⟨k, h1, h2⟩ := hfp0 id x b hx hb
          obtain ⟨e, t, l, h⟩ := hgone k ⟨id, h1⟩
          obtain ⟨p1, p2, _⟩ := hox.fb k _ h rfl b h2
          exact ⟨p1, by rw [hcS]; exact p2, by rw [hc0]; exact fun h => by cases h⟩
        · obtain ⟨k, h1, h2⟩ := hfp0 i x b hx hb
          obtain ⟨k', h1', h2'⟩ := hfp0 j y b hy hb'
          obtain ⟨e, t, l, h⟩ := hgone k ⟨i, h1⟩
          obtain ⟨e', t', l', h'⟩ := hgone k' ⟨j, h1'⟩
          refine hox.dj k k' _ _ h rfl h' rfl (fun e => ?_) b h2 h2'
          subst e
          exact distinct_own b4 i j k hne h1 h1'
        · rw [hc0] at hT; cases hT
      have hsh := instL_shift (c := cM) (c2 := c0) (w := w) (n := 0) (al := true) (fun _ b o hb => by rw [hc0]; exact hb) (fun i => by rw [hc0, Nat.zero_add]) s.as [] g.v 0 b2 rfl
      rw [Nat.zero_add] at hsh
      refine (hs g.v _ h us w c0 hox0 (by omega) (fun i d u hd hu => ?_)).mono ?_
      · have hi : i < ss.length := by rw [← hl]; exact (List.getElem?_eq_some_iff.1 hu).1
        have hrel := q5 i ss[i] d (List.getElem?_eq_getElem hi) hd (hr i _ u (List.getElem?_eq_getElem hi) hu).1
        refine ⟨hsh.2 i d d hd hd hrel, ?_⟩
        refine SV.inU_mono (fun j hj => ?_) _ (inUL_get q3 hd)
        show j < (instL s.as [] g.v 0).2.1.length
        rcases hj with hj | hj
        · omega
        · omega
      · rintro e w' ⟨v, y, c', obR, UR, rfl, hy, oxr, tr, hsr, hR⟩
        obtain ⟨c2, k1, k2, k3, k4⟩ := call_back2 (own := g.own) (rows := (instS s.rs [] y 0).2.1) hox hgone hfp hcS (by rw [hc0]) oxr tr hR
        -- the result under the caller's numbers
        have e1 := instS_rows s.rs [] y (mem2 s.as g.v).nx 0
        obtain ⟨cZ, hcZ⟩ : ∃ cZ : Cx, cZ = ⟨c'.S, fun i => c'.H ((mem2 s.as g.v).nx + i), c'.F, c'.T⟩ := ⟨_, rfl⟩
        have hz : SRel cZ w' (instS s.rs [] y 0).1 v := by
          have := instS_move (c := c') (c2 := cZ) (w := w') (n := 0) (n1 := (mem2 s.as g.v).nx) (al := true) (fun _ b o hb => by rw [hcZ]; exact hb) (fun i => by rw [hcZ, Nat.zero_add]) s.rs [] y 0 b3 rfl (by rw [Nat.add_zero]; exact hsr)
          exact this
        have hsh2 := instS_shift (c := cZ) (c2 := c2) (w := w') (n := m.nx) (al := true) (fun _ b o hb => by rw [k4]; rw [hcZ] at hb; exact hb) (fun i => by rw [k3, hcZ]) s.rs [] y 0 b3 rfl hz
        rw [Nat.add_zero] at hsh2
        refine ⟨v, _, _, c2, rfl, hy, ⟨⟨rowsOb m.nx _ ++ goneL g.own, by show rowsOb _ _ ++ (goneL _ ++ m.ob) = _; rw [List.append_assoc]⟩, fun h => h⟩, k1, k2, hsh2, ?_⟩
        refine SV.inU_mono (fun i hi => ?_) _ (instS_inU (n := 0) s.rs [] y m.nx b3)
        show i < m.nx + _
        rw [instS_rows s.rs [] y m.nx 0] at hi
        exact hi.2
  · exact h.elim
/-! ### walks with such contracts -/
inductive Specs2OK (P : Program) : List Spec2 → Prop
  | nil : Specs2OK P []
  | cons {s : Spec2} {l : List Spec2} (h : Spec2OK P s) (t : Specs2OK P l) : Specs2OK P (s :: l)
def shOf2 (rs : Sh) (n : Nat) : Shape := ⟨[(0, rs)], [], [], List.range n, []⟩
def fitR2 (rs : Sh) (m0 : MS) (r : SV) (m : MS) (post : dens (shT rs []) → Prop) : Prop := match (shOf2 rs m0.nx).fit ⟨[], m0, 1, [], []⟩ ⟨[(0, noC r)], m, 1, [], []⟩ with
  | some y => post y
  | none => False
structure HoldW (p : Prop) : Prop where
  h : p
theorem HoldW.of {W p : Prop} (e : W = p) (h : W) : HoldW p := ⟨by rw [← e]; exact h⟩
end RE
end Go.Proofs.YtpeggkeenboacaaGreat
namespace Go.Proofs.YtpeggkeenboacaaGreat
open Go.RowKit
set_option linter.unusedVariables false
namespace RE
variable {P : Program}
end RE
end Go.Proofs.YtpeggkeenboacaaGreat
namespace Go.Proofs.YtpeggkeenboacaaGreat
open Go.RowKit
set_option linter.unusedVariables false
namespace RE
variable {P : Program}
/-- What the function that makes a tape does. -/
def NewOK (P : Program) (fN : FuncId) : Prop := ∀ (l : List Int) (w : World) (S : Cells) (u : Value), (∀ b o, S b o → b < w.heap.size) → Rd S w (.sl (.int .i64) l) u →
  Calls P fN #[u] w fun e w' => ∃ T, e = .returned (.pointer (some ⟨T, 0, none⟩)) ∧ w.heap.size ≤ T ∧ TapeS w' T S ∧ Below w.heap.size w w'
def intL : D → Option (List Int)
  | .sl t l => castL (.int .i64) t l
  | _ => none
theorem intL_rd : ∀ {x : D} {l : List Int}, intL x = some l → ∀ {S : Cells} {w : World} {u : Value}, Rd S w x u → Rd S w (.sl (.int .i64) l) u
  | .sl t l', l, h, S, w, u, hr => castL_rd (t := .int .i64) (l' := l) h hr
def newC (fN : FuncId) (cp : CP) : CP := fun f ss m k => bif Nat.beq f fN then (match ss with
  | [.d x] => match intL x with
    | some _ => bif m.tp then False else k .tp ⟨m.ob, m.nx, true⟩
    | none => False
  | _ => False) else cp f ss m k
theorem newC_ok {fN : FuncId} (hN : NewOK P fN) {cp : CP} (hcp : CallOK P cp) : CallOK P (newC fN cp) := by
  intro f ss m k h us w c hox hl hr
  unfold newC at h
  cases hb : Nat.beq f fN with
  | false => rw [hb] at h; exact hcp f ss m k h us w c hox hl hr
  | true =>
    rw [hb] at h
    simp only [cond_true] at h
    have hb := beq_eq hb
    subst hb
    split at h
    rotate_left
    · exact h.elim
    rename_i x
    split at h
    rotate_left
    · exact h.elim
    rename_i l hx
    cases htp : m.tp with
    | true => rw [htp] at h; exact h.elim
    | false =>
    rw [htp] at h
    simp only [cond_false] at h
    match us, hl with
    | [u], _ =>
    have hu := srel_d (hr 0 _ u rfl rfl).1
    have hu : Rd c.S w (.sl (.int .i64) l) u := intL_rd hx hu
    have hTn := hox.tF htp
    refine (hN l w c.S u hox.sb hu).mono ?_
    rintro e w' ⟨T, rfl, hT, htS, hB⟩
    let c2 : Cx := ⟨c.S, c.H, c.F, some T⟩
    have hcell : ∀ b o, c.S b o → w'.cell? ⟨b, o, none⟩ = w.cell? ⟨b, o, none⟩ := fun b o hs => World.cell?_of_block (hB.block b (hox.sb b o hs))
    refine ⟨_, .tp, _, c2, rfl, h, ⟨⟨[], rfl⟩, fun _ => rfl⟩, ⟨fun b o hs => Nat.lt_of_lt_of_le (hox.sb b o hs) hB.size, fun id y hy => ?_, fun id y hy ho b hb => ?_, fun i j y z hy oy hz oz hne b hb => hox.dj i j y z hy oy hz oz hne b hb, fun T' hT' => ?_, fun _ => ⟨T, rfl, htS⟩, fun e => (by cases e)⟩, ⟨hB.os, hB.tape, hB.output, hB.size, fun T' hT' => ?_, fun T' hT' => ?_, fun _ h => h, fun _ _ => ⟨rfl, rfl⟩, fun _ _ h => h, fun _ _ h => .inl h, fun b hb _ _ => hB.block b hb, fun _ h => .inl h⟩, .tp T rfl, trivial⟩
    · obtain ⟨u1, u2, u3⟩ := hox.objs id y hy
      exact ⟨u1, u2, u3.keep (U := m.U) u2 (fun _ _ h => h) hcell (fun T' hT' => by rw [hTn] at hT'; cases hT') (fun _ _ => rfl) ⟨rfl, rfl⟩ fun ho b hb => hB.block b (hox.fb id y hy ho b hb).1⟩
    · obtain ⟨u1, u2, u3⟩ := hox.fb id y hy ho b hb
      refine ⟨Nat.lt_of_lt_of_le u1 hB.size, u2, fun e => ?_⟩
      have e : some T = some b := e
      injection e with e
      omega
    · have e : some T = some T' := hT'
      injection e with e
      subst e
      exact ⟨htS.lt, fun k hk => by have := hox.sb T k hk; omega⟩
    · rw [hTn] at hT'; cases hT'
    · have e : some T = some T' := hT'
      injection e with e
      subst e
      exact .inr hT
/-- What is to be shown of a law. -/
def lawG (cp : CP) (f : FuncId) (ds : List D) (post : Bool → Prop) : Prop := cp f (ds.map SV.d) ⟨[], 0, false⟩ fun r _ => match r with
  | .d (.v (.bool b)) => post b
  | _ => False
theorem lawG_ok {cp : CP} (hcp : CallOK P cp) {f : FuncId} {ds : List D} {post : Bool → Prop} (h : lawG cp f ds post) {w : World} {S : Cells} {us : List Value} (h1 : ∀ b o, S b o → b < w.heap.size) (h3 : us.length = ds.length)
    (h4 : ∀ (i : Nat) (d : D) (u : Value), ds[i]? = some d → us[i]? = some u → Rd S w d u) :
    Calls P f us.toArray w fun e w' => (∃ b, e = .returned (.bool b) ∧ post b) ∧ Below w.heap.size w w' := by
  have hox := ox_base (tp := false) (T := none) h1 rfl
  refine (hcp f _ _ _ h us w (cx0 S none) hox (by simp [h3]) fun i s u hs hu => ?_).mono ?_
  · rw [List.getElem?_map, Option.map_eq_some_iff] at hs
    obtain ⟨d, hd, rfl⟩ := hs
    exact ⟨.d _ _ (h4 i d u hd hu), trivial⟩
  · rintro e w' ⟨v, r, m', c', rfl, hq, hfr, hox', htr, hs, hu⟩
    have hB : Below w.heap.size w w' := ⟨htr.os, htr.tape, htr.output, htr.sz, fun b hb => htr.blk b hb (fun ⟨id, x, hx, _⟩ => by cases hx) (fun e => by cases e)⟩
    refine ⟨?_, hB⟩
    split at hq
    · rename_i b
      exact ⟨b, by rw [srel_v hs], hq⟩
    · exact hq.elim
end RE
end Go.Proofs.YtpeggkeenboacaaGreat
namespace Go.Proofs.YtpeggkeenboacaaGreat
open Go.RowKit
set_option linter.unusedVariables false
namespace RE
variable {P : Program}
def allS (w : World) : Cells := fun b _ => b < w.heap.size
/-- Numbers that fit their kinds. -/
inductive OkD : D → Prop
  | int (k : IntKind) (z : Int) (h : (Lit.int k z).wf = true) : OkD (.v (.int k z))
  | bool (b : Bool) : OkD (.v (.bool b))
  | sl (t : Ty) (l : List (den t)) (h : ∀ x ∈ l, ∀ c ∈ enc t x, OkD c) : OkD (.sl t l)
/-- From a place on, cells read as data. -/
def CellsAt (w : World) (ds : List D) (cs : List Value) (off : Nat) : Prop := ∀ (i : Nat) (c : D), ds[i]? = some c → ∃ u, cs[off + i]? = some u ∧ u.oneCell' = true ∧ Rd (allS w) w c u
theorem CellsAt.nil {w : World} {cs : List Value} {off : Nat} : CellsAt w [] cs off := fun i c h => by simp at h
theorem CellsAt.append {w : World} {ds es : List D} {cs : List Value} {off : Nat} (h : CellsAt w ds cs off) (k : CellsAt w es cs (off + ds.length)) : CellsAt w (ds ++ es) cs off := fun i c hi => by
  by_cases hl : i < ds.length
  · rw [List.getElem?_append_left hl] at hi; exact h i c hi
  · rw [List.getElem?_append_right (by omega)] at hi
    obtain ⟨u, h1, h2⟩ := k _ c hi
    exact ⟨u, by rw [show off + ds.length + (i - ds.length) = off + i by omega] at h1; exact h1, h2⟩
theorem CellsAt.part {w : World} {ds : List D} {cs : List Value} {off n : Nat} (h : CellsAt w ds ((cs.drop off).take n) 0) : CellsAt w ds cs off := fun i c hi => by
  obtain ⟨u, h1, h2⟩ := h i c hi
  rw [Nat.zero_add, List.getElem?_take] at h1
  split at h1
  · rw [List.getElem?_drop] at h1; exact ⟨u, h1, h2⟩
  · cases h1
/-- A type's data, as typed data. -/
def Opn (P : Program) (t : TypeId) (ts : List Ty) : Prop :=
  ∀ {H : Type} (enc : TypeId × Value → H) (w : World) (base : Nat) (spare : Nat → Bool) (held : Bool) (fuel : Nat) (cs : List Value) (x : DataW H × List MemPlace), DataW.trod enc P w base spare held fuel t cs = some x → ∃ y : dens ts, (∀ c ∈ encs ts y, OkD c) ∧ cs.length = ts.length ∧ CellsAt w (encs ts y) cs 0
theorem Opn.int {t : TypeId} {k : IntKind} (ht : P.underlying t = some (.int k)) : Opn P t [.int k] := by
  intro H enc w base spare held fuel cs x h
  obtain ⟨n, rfl, _, hw⟩ := DataW.trod_int ht h
  refine ⟨(n, ()), fun c hc => ?_, rfl, fun i c hi => ?_⟩
  · rw [List.mem_singleton.1 (show c ∈ [D.v (.int k n)] from hc)]; exact .int k n hw
  · have hi : [D.v (.int k n)][i]? = some c := hi
    cases i with
    | zero => simp at hi; subst hi; exact ⟨_, rfl, rfl, .v _⟩
    | succ i => simp at hi
theorem Opn.bool {t : TypeId} (ht : P.underlying t = some .bool) : Opn P t [.bool] := by
  intro H enc w base spare held fuel cs x h
  obtain ⟨n, rfl, _⟩ := DataW.trod_bool ht h
  refine ⟨(n, ()), fun c hc => ?_, rfl, fun i c hi => ?_⟩
  · rw [List.mem_singleton.1 (show c ∈ [D.v (.bool n)] from hc)]; exact .bool n
  · have hi : [D.v (.bool n)][i]? = some c := hi
    cases i with
    | zero => simp at hi; subst hi; exact ⟨_, rfl, rfl, .v _⟩
    | succ i => simp at hi
theorem cells_len {w : World} {base : Nat} {a : Addr} {n : Nat} {cs : List Value} (h : w.cells? base a n = some cs) : cs.length = n ∧ ∀ j, j < n → w.cell? (a.add j) = cs[j]? := by
  unfold World.cells? at h
  split at h
  · have h1 := mapM_some_length h
    refine ⟨by simpa using h1, fun j hj => ?_⟩
    have := mapM_some_get h j j (by simp [hj])
    exact this
  · cases h
theorem add_add (a : Addr) (i j : Nat) : (a.add i).add j = a.add (i + j) := by
  unfold Addr.add
  by_cases hi : i = 0
  · subst hi; simp
  · by_cases hj : j = 0
    · subst hj; simp
    · rw [if_neg hi, if_neg hj, if_neg (by omega), Nat.add_assoc]
theorem addr_none {w : World} {a : Addr} {u : Value} (h : w.cell? (a.add 0) = some u) : ∃ b o, a = ⟨b, o, none⟩ := by
  obtain ⟨b, o, s⟩ := a
  unfold Addr.add World.cell? at h
  rw [if_pos rfl] at h
  cases s with
  | none => exact ⟨b, o, rfl⟩
  | some k =>
    simp only [Option.isSome_some, if_true] at h
    split at h <;> cases h
theorem exists_list {T : Type} {Q : Nat → T → Prop} : ∀ {n : Nat}, (∀ i, i < n → ∃ y, Q i y) → ∃ l : List T, l.length = n ∧ ∀ i y, l[i]? = some y → Q i y
  | 0, _ => ⟨[], rfl, fun i y h => by simp at h⟩
  | n + 1, h => by
    obtain ⟨l, h1, h2⟩ := exists_list (n := n) fun i hi => h i (by omega)
    obtain ⟨y, hy⟩ := h n (by omega)
    refine ⟨l ++ [y], by simp [h1], fun i z hz => ?_⟩
    by_cases hi : i < n
    · rw [List.getElem?_append_left (by omega)] at hz; exact h2 i z hz
    · rw [List.getElem?_append_right (by omega)] at hz
      have : i = n := by have := (List.getElem?_eq_some_iff.1 hz).1; simp at this; omega
      subst this
      simp [h1] at hz
      subst hz; exact hy
def tyFlat : Ty → List Ty
  | .st s => flds s
  | t => [t]
theorem flat_den : ∀ (ty : Ty) (y : dens (tyFlat ty)), ∃ x : den ty, enc ty x = encs (tyFlat ty) y
  | .st s, y => ⟨RE.mk s y, congrArg (encs (flds s)) (un_mk s y)⟩
  | .int _, y => ⟨y.1, rfl⟩
  | .bool, y => ⟨y.1, rfl⟩
  | .str, y => ⟨y.1, rfl⟩
  | .sl _, y => ⟨y.1, rfl⟩
theorem flat_size : ∀ ty : Ty, size ty = (tyFlat ty).length
  | .st s => rfl
  | .int _ => rfl
  | .bool => rfl
  | .str => rfl
  | .sl _ => rfl
theorem Opn.slice {t e : TypeId} {ty : Ty} (ht : P.underlying t = some (.slice e)) (he : Opn P e (tyFlat ty)) (hz : P.cellsOf e = (tyFlat ty).length) (h0 : 0 < (tyFlat ty).length) : Opn P t [.sl ty] := by
  intro H enc w base spare held fuel cs x h
  rw [← flat_size] at hz h0
  rcases DataW.trod_slice ht h with ⟨rfl, _⟩ | ⟨a, len, cap, elems, rest, n, _, rfl, _, hb, hlc, hm, hlen, hel, _, _⟩
  · refine ⟨([], ()), fun c hc => ?_, rfl, fun i c hi => ?_⟩
    · rw [List.mem_singleton.1 (show c ∈ [D.sl ty []] from hc)]; exact .sl ty [] (fun x hx => by cases hx)
    · have hi : [D.sl ty []][i]? = some c := hi
      cases i with
      | zero =>
        simp at hi; subst hi
        exact ⟨_, rfl, rfl, Rd.nil _ _ _ (Nat.zero_le _)⟩
      | succ i => simp at hi
  · have each : ∀ i, i < len → ∃ y : den ty, (∀ c ∈ RE.enc ty y, OkD c) ∧ ∀ j c, (RE.enc ty y)[j]? = some c → ∃ u, w.cell? (a.add (i * size ty + j)) = some u ∧ u.oneCell' = true ∧ Rd (allS w) w c u := fun i hi => by
      have h1 := hel i hi
      rw [List.getElem?_eq_getElem (by omega), Option.bind_eq_some_iff] at h1
      obtain ⟨cs, h2, h3⟩ := h1
      obtain ⟨q1, q2⟩ := cells_len h2
      obtain ⟨y, y1, y2, y3⟩ := he enc w base spare held n cs _ h3
      obtain ⟨x, hx⟩ := flat_den ty y
      refine ⟨x, by rw [hx]; exact y1, fun j c hj => ?_⟩
      have hjl : j < size ty := by have := (List.getElem?_eq_some_iff.1 hj).1; rw [enc_len] at this; exact this
      rw [hx] at hj
      obtain ⟨u, u1, u2⟩ := y3 j c hj
      rw [Nat.zero_add] at u1
      have q := q2 j (by rw [hz]; exact hjl)
      rw [hz] at q
      refine ⟨u, ?_, u2⟩
      rw [← u1, ← q]
      rw [add_add]
    obtain ⟨l, l1, l2⟩ := exists_list each
    have hone : ∀ (i : Nat) (y : den ty) (j : Nat), l[i]? = some y → j < size ty → ∃ u, w.cell? (a.add (i * size ty + j)) = some u ∧ u.oneCell' = true ∧ ∀ c, (RE.enc ty y)[j]? = some c → Rd (allS w) w c u := fun i y j hi hj => by
      obtain ⟨_, h2⟩ := l2 i y hi
      obtain ⟨u, u1, u2, u3⟩ := h2 j _ (List.getElem?_eq_getElem (by rw [enc_len]; exact hj))
      refine ⟨u, u1, u2, fun c hc => ?_⟩
      rw [List.getElem?_eq_getElem (by rw [enc_len]; exact hj)] at hc
      injection hc with hc
      rw [← hc]; exact u3
    have ha : l = [] ∨ ∃ b o, a = ⟨b, o, none⟩ := by
      cases l with
      | nil => exact .inl rfl
      | cons y r =>
        right
        obtain ⟨u, hu, _⟩ := hone 0 y 0 rfl h0
        rw [Nat.zero_mul] at hu
        exact addr_none hu
    refine ⟨(l, ()), fun c hc => ?_, rfl, fun i c hi => ?_⟩
    · rw [List.mem_singleton.1 (show c ∈ [D.sl ty l] from hc)]
      refine .sl ty l fun y hy => ?_
      obtain ⟨i, hi, rfl⟩ := List.getElem_of_mem hy
      exact (l2 i _ (List.getElem?_eq_getElem hi)).1
    · have hi : [D.sl ty l][i]? = some c := hi
      cases i with
      | succ i => simp at hi
      | zero =>
        simp at hi; subst hi
        refine ⟨_, rfl, rfl, ?_⟩
        subst l1
        rcases ha with rfl | ⟨b, o, rfl⟩
        · exact Rd.nil _ _ _ hm
        · let f : Nat → Nat → Value := fun i j => (w.cell? ⟨b, o + i * size ty + j, none⟩).getD undef
          have hf : ∀ (i : Nat) (y : den ty) (j : Nat), l[i]? = some y → j < size ty → w.cell? ⟨b, o + i * size ty + j, none⟩ = some (f i j) ∧ (f i j).oneCell' = true ∧ ∀ c, (RE.enc ty y)[j]? = some c → Rd (allS w) w c (f i j) := fun i y j hi hj => by
            obtain ⟨u, u1, u2, u3⟩ := hone i y j hi hj
            rw [addr_add, ← Nat.add_assoc] at u1
            have : f i j = u := by simp only [f, u1]; rfl
            rw [this]; exact ⟨u1, u2, u3⟩
          exact Rd.sl (S := allS w) (w := w) ty l (some ⟨b, o, none⟩) cap b o f (by omega) hm (.inr rfl) (fun i hi j hj => by
            obtain ⟨q1, q2, _⟩ := hf i l[i] j (List.getElem?_eq_getElem hi) hj
            exact ⟨World.block_lt_of_cell? w _ q1, q1, q2⟩) (fun i y j c hi hj => by
            exact (hf i y j hi (by have := (List.getElem?_eq_some_iff.1 hj).1; rw [enc_len] at this; exact this)).2.2 c hj)
def dapp : (ts : List Ty) → {us : List Ty} → dens ts → dens us → dens (ts ++ us)
  | [], _, _, y => y
  | _ :: ts, _, x, y => (x.1, dapp ts x.2 y)
theorem encs_dapp : ∀ (ts : List Ty) {us : List Ty} (x : dens ts) (y : dens us), encs (ts ++ us) (dapp ts x y) = encs ts x ++ encs us y
  | [], _, _, _ => rfl
  | t :: ts, us, x, y => by
    show encA t x.1 :: encs (ts ++ us) (dapp ts x.2 y) = _
    rw [encs_dapp ts]; rfl
def tysEq : List Ty → List Ty → Bool
  | [], [] => true
  | a :: r, b :: s => a.beq b && tysEq r s
  | _, _ => false
theorem tysEq_eq : ∀ {a b : List Ty}, tysEq a b = true → a = b
  | [], [], _ => rfl
  | x :: r, y :: s, h => by
    obtain ⟨h1, h2⟩ := Bool.and_eq_true_iff.1 h
    rw [Ty.beq_eq h1, tysEq_eq h2]
  | [], _ :: _, h => by cases h
  | _ :: _, [], h => by cases h
def opnF (P : Program) (rec : TypeId → Option (List Ty)) : List Field → Nat → Option (List Ty)
  | [], _ => some []
  | f :: r, off => match rec f.type with
    | some ts => bif Nat.beq f.offset off && Nat.beq (P.cellsOf f.type) ts.length then (match opnF P rec r (off + ts.length) with
      | some tr => some (ts ++ tr)
      | none => none) else none
    | none => none
/-- The data of a type, by the program's types. -/
def opnC (P : Program) (τ : TypeId → Option Ty) : Nat → TypeId → Option (List Ty)
  | 0, _ => none
  | n + 1, t => match P.underlying t with
    | some (.int k) => some [.int k]
    | some .bool => some [.bool]
    | some (.slice e) => match opnC P τ n e, τ e with
      | some ts, some ty => bif tysEq ts (tyFlat ty) && Nat.beq (P.cellsOf e) ts.length && Nat.ble 1 ts.length then some [.sl ty] else none
      | _, _ => none
    | some (.struct fs) => match opnF P (opnC P τ n) fs.toList 0 with
      | some ts => bif Nat.beq (P.cellsOf t) ts.length then some ts else none
      | none => none
    | _ => none
theorem opnF_ok {rec : TypeId → Option (List Ty)} (hrec : ∀ t ts, rec t = some ts → Opn P t ts) {H : Type} {enc : TypeId × Value → H} {w : World} {base : Nat} {spare : Nat → Bool} {held : Bool} {n : Nat} {cs : List Value} :
    ∀ {fl : List Field} {off : Nat} {ts : List Ty}, opnF P rec fl off = some ts → (∀ f ∈ fl, ∃ x, DataW.trod enc P w base spare held n f.type ((cs.drop f.offset).take (P.cellsOf f.type)) = some x) → ∃ y : dens ts, (∀ c ∈ encs ts y, OkD c) ∧ CellsAt w (encs ts y) cs off
  | [], off, ts, h, _ => by
    injection h with h
    subst h
    exact ⟨(), (fun c hc => by cases hc), CellsAt.nil⟩
  | f :: r, off, ts, h, hx => by
    unfold opnF at h
    split at h
    · rename_i t1 h1
      cases hb : (Nat.beq f.offset off && Nat.beq (P.cellsOf f.type) t1.length) with
      | false => rw [hb] at h; cases h
      | true =>
        rw [hb] at h
        simp only [cond_true] at h
        split at h
        · rename_i tr h2
          injection h with h
          subst h
          obtain ⟨b1, b2⟩ := Bool.and_eq_true_iff.1 hb
          have b1 := beq_eq b1
          subst b1
          obtain ⟨x, hx1⟩ := hx f (by simp)
          obtain ⟨y1, y2, y3, y4⟩ := hrec _ _ h1 enc w base spare held n _ _ hx1
          obtain ⟨z1, z2, z3⟩ := opnF_ok hrec h2 (fun g hg => hx g (by simp [hg]))
          refine ⟨dapp t1 y1 z1, fun c hc => ?_, ?_⟩
          · rw [encs_dapp] at hc
            rcases List.mem_append.1 hc with hc | hc
            · exact y2 c hc
            · exact z2 c hc
          · rw [encs_dapp]
            exact CellsAt.append (CellsAt.part y4) (by rw [encs_len]; exact z3)
        · cases h
    · cases h
theorem opnC_ok {τ : TypeId → Option Ty} : ∀ {n : Nat} {t : TypeId} {ts : List Ty}, opnC P τ n t = some ts → Opn P t ts
  | 0, t, ts, h => by cases h
  | n + 1, t, ts, h => by
    unfold opnC at h
    split at h
    · rename_i k hk
      injection h with h; subst h
      exact Opn.int hk
    · rename_i hk
      injection h with h; subst h
      exact Opn.bool hk
    · rename_i e hk
      split at h
      · rename_i us ty h1 h2
        cases hb : (tysEq us (tyFlat ty) && Nat.beq (P.cellsOf e) us.length && Nat.ble 1 us.length) with
        | false => rw [hb] at h; cases h
        | true =>
          rw [hb] at h
          simp only [cond_true, Option.some.injEq] at h
          subst h
          simp only [Bool.and_eq_true] at hb
          obtain ⟨⟨b1, b2⟩, b3⟩ := hb
          have b1 := tysEq_eq b1
          subst b1
          exact Opn.slice hk (opnC_ok h1) (beq_eq b2) (Nat.le_of_ble_eq_true b3)
      · cases h
    · rename_i fs hk
      split at h
      · rename_i us h1
        cases hb : Nat.beq (P.cellsOf t) us.length with
        | false => rw [hb] at h; cases h
        | true =>
          rw [hb] at h
          simp only [cond_true, Option.some.injEq] at h
          subst h
          intro enc w base spare held fuel cs x hx
          obtain ⟨xs, m, rfl, _, hl, hxs, hf⟩ := DataW.trod_struct hk hx
          obtain ⟨y, y1, y2⟩ := opnF_ok (fun t ts h => opnC_ok (n := n) h) (cs := cs) (enc := enc) (w := w) (base := base) (spare := spare) (held := held) (n := m) h1 (fun f hf' => by
            obtain ⟨i, hi, rfl⟩ := List.getElem_of_mem hf'
            have hi' : i < fs.size := by simpa using hi
            have := hf i fs[i] (Array.getElem?_eq_getElem hi')
            refine ⟨xs[i]'(by omega), ?_⟩
            rw [← List.getElem?_eq_getElem (by omega : i < xs.length), ← this]
            simp)
          exact ⟨y, y1, by rw [hl]; exact beq_eq hb, y2⟩
      · cases h
    · cases h
def RdL (S : Cells) (w : World) : List D → List Value → Prop
  | [], [] => True
  | d :: ds, u :: us => Rd S w d u ∧ RdL S w ds us
  | _, _ => False
theorem RdL.get {S : Cells} {w : World} : ∀ {ds : List D} {us : List Value}, RdL S w ds us → ∀ (i : Nat) (d : D) (u : Value), ds[i]? = some d → us[i]? = some u → Rd S w d u
  | [], [], _, i, d, u, hd, _ => by simp at hd
  | d :: ds, u :: us, h, i, d', u', hd, hu => by
    cases i with
    | zero => simp at hd hu; subst hd hu; exact h.1
    | succ i => exact RdL.get h.2 i d' u' (by simpa using hd) (by simpa using hu)
  | [], _ :: _, h, _, _, _, _, _ => h.elim
  | _ :: _, [], h, _, _, _, _, _ => h.elim
/-- An argument that is no struct. -/
theorem rd_one {t : TypeId} {ty : Ty} (ho : Opn P t [ty]) {H : Type} {enc : TypeId × Value → H} {w : World} {base : Nat} {spare : Nat → Bool} {held : Bool} {v : Value} (hv : v.cells.toList = [v]) {d : DataW H} {ps : List MemPlace} (h : DataW.Trod enc P w base spare held t v d ps) :
    ∃ x : den ty, OkD (encA ty x) ∧ Rd (allS w) w (encA ty x) v := by
  obtain ⟨fuel, h⟩ := h
  obtain ⟨l, h1, _, h3⟩ := ho enc w base spare held fuel _ _ h
  obtain ⟨u, u1, _, u3⟩ := h3 0 _ rfl
  have : u = v := by rw [hv] at u1; simpa using u1.symm
  subst this
  exact ⟨l.1, h1 _ (List.mem_singleton.2 rfl), u3⟩
end RE
end Go.Proofs.YtpeggkeenboacaaGreat
