/-
  Chapter 14: copies.
-/
import Derived.Test.YtblcakaohlgagaaGreatUTape
import Derived.Test.YtblcakaohlgagaaGreatUReg
import Derived.Test.YtblcakaohlgagaaGreatUEngC
import Derived.Test.YtblcakaohlgagaaGreatUPlain
import Derived.Test.YtblcakaohlgagaaGreatProg
import Derived.Deep.DeepCutAuto
import Derived.Deep.CutBlock
import Derived.Deep.RegionHeld3
import Derived.StillTailTactics
set_option maxRecDepth 100000
set_option linter.unusedVariables false
namespace Go.Proofs.YtblcakaohlgagaaGreat
open Go.RowKit
namespace RE
open PL

def pclr_P (l : List (api_Rect)) (post : List (api_Rect) → Prop) : Prop := (l.length ≤ 4000000) ∧ post (l)
def pclr_sp : Spec := ⟨93, false, true, [.sl (.st .api_Rect)], .dat (.sl (.st .api_Rect)), fun x post => pclr_P (x.1 : List (api_Rect)) (fun y0 => post (y0, ()))⟩
def pclr_C : CtxR := ⟨tau, [], lookJ []⟩
def pclr_W (l : List (api_Rect)) (post : List (api_Rect) → Prop) : Prop := ∀ (v1 : Bool), (v1 = true → l = []) → IFB v1 (post []) (((0 : Nat) + l.length) * (32 : Nat) ≤ (140737488355328 : Nat) ∧ post ([] ++ l))
theorem pclr_w (l : List (api_Rect)) (post : dens (shT pclr_sp.rs []) → Prop) : pclr_W l (fun y0 => post (y0, ())) = walkG (callR Tryz.prog pclr_C (drawR Tryz.prog tau) 6 0) 93 false [tv (.sl (.st .api_Rect)) l] pclr_sp.rs post := by kernel_rfl
theorem pclr_of (h : ∀ (l : List (api_Rect)) (post : List (api_Rect) → Prop), pclr_P l post → pclr_W l post) : SpecOK Tryz.prog pclr_sp := SpecOK.of_rules (C := pclr_C) (dr := drawR Tryz.prog tau) (n := 6) (fk := 0) .nil (drawR_ok tau) fun x post hp => HoldW.of (pclr_w x.1 post) (h x.1 (fun y0 => post (y0, ())) hp)
theorem pclr_ok : SpecOK Tryz.prog pclr_sp := pclr_of fun l post hp => by
  obtain ⟨hl, hp⟩ := hp
  unfold pclr_W
  refine fun v hv => IFB.mk (fun h => ?_) (fun _ => ⟨by omega, ?_⟩)
  · rw [hv h] at hp; exact hp
  · rw [List.nil_append]; exact hp

def pcll_P (l : List (api_Line)) (post : List (api_Line) → Prop) : Prop := (l.length ≤ 4000000) ∧ post (l)
def pcll_sp : Spec := ⟨92, false, true, [.sl (.st .api_Line)], .own 43 (.st .api_Line), fun x post => pcll_P (x.1 : List (api_Line)) (fun y0 => post (y0, ()))⟩
def pcll_C : CtxR := ⟨tau, [], lookJ []⟩
def pcll_W (l : List (api_Line)) (post : List (api_Line) → Prop) : Prop := ∀ (v1 : Bool), (v1 = true → l = []) → IFB v1 (post []) (((0 : Nat) + l.length) * (48 : Nat) ≤ (140737488355328 : Nat) ∧ post ([] ++ l))
theorem pcll_w (l : List (api_Line)) (post : dens (shT pcll_sp.rs []) → Prop) : pcll_W l (fun y0 => post (y0, ())) = walkG (callR Tryz.prog pcll_C (drawR Tryz.prog tau) 6 0) 92 false [tv (.sl (.st .api_Line)) l] pcll_sp.rs post := by kernel_rfl
theorem pcll_of (h : ∀ (l : List (api_Line)) (post : List (api_Line) → Prop), pcll_P l post → pcll_W l post) : SpecOK Tryz.prog pcll_sp := SpecOK.of_rules (C := pcll_C) (dr := drawR Tryz.prog tau) (n := 6) (fk := 0) .nil (drawR_ok tau) fun x post hp => HoldW.of (pcll_w x.1 post) (h x.1 (fun y0 => post (y0, ())) hp)
theorem pcll_ok : SpecOK Tryz.prog pcll_sp := pcll_of fun l post hp => by
  obtain ⟨hl, hp⟩ := hp
  unfold pcll_W
  refine fun v hv => IFB.mk (fun h => ?_) (fun _ => ⟨by omega, ?_⟩)
  · rw [hv h] at hp; exact hp
  · rw [List.nil_append]; exact hp

def pclv_P (l : List (api_Version)) (post : List (api_Version) → Prop) : Prop := (l.length ≤ 4000000) ∧ post (l)
def pclv_sp : Spec := ⟨91, false, true, [.sl (.st .api_Version)], .own 38 (.st .api_Version), fun x post => pclv_P (x.1 : List (api_Version)) (fun y0 => post (y0, ()))⟩
def pclv_C : CtxR := ⟨tau, [], lookJ []⟩
def pclv_W (l : List (api_Version)) (post : List (api_Version) → Prop) : Prop := ∀ (v1 : Bool), (v1 = true → l = []) → IFB v1 (post []) (((0 : Nat) + l.length) * (32 : Nat) ≤ (140737488355328 : Nat) ∧ post ([] ++ l))
theorem pclv_w (l : List (api_Version)) (post : dens (shT pclv_sp.rs []) → Prop) : pclv_W l (fun y0 => post (y0, ())) = walkG (callR Tryz.prog pclv_C (drawR Tryz.prog tau) 6 0) 91 false [tv (.sl (.st .api_Version)) l] pclv_sp.rs post := by kernel_rfl
theorem pclv_of (h : ∀ (l : List (api_Version)) (post : List (api_Version) → Prop), pclv_P l post → pclv_W l post) : SpecOK Tryz.prog pclv_sp := SpecOK.of_rules (C := pclv_C) (dr := drawR Tryz.prog tau) (n := 6) (fk := 0) .nil (drawR_ok tau) fun x post hp => HoldW.of (pclv_w x.1 post) (h x.1 (fun y0 => post (y0, ())) hp)
theorem pclv_ok : SpecOK Tryz.prog pclv_sp := pclv_of fun l post hp => by
  obtain ⟨hl, hp⟩ := hp
  unfold pclv_W
  refine fun v hv => IFB.mk (fun h => ?_) (fun _ => ⟨by omega, ?_⟩)
  · rw [hv h] at hp; exact hp
  · rw [List.nil_append]; exact hp

end RE
end Go.Proofs.YtblcakaohlgagaaGreat
set_option linter.unusedVariables false
set_option maxRecDepth 100000
namespace Go.Proofs.YtblcakaohlgagaaGreat
open Go.RowKit Go.Sort Go.Lib
namespace RE
open PL
namespace Nest
structure Half (W : World) (S : Cells) (g cap : Nat) (l : List api_Version) (n0 i : Nat) (vs : Nat → Value) (Fi : Nat → Nat → Prop) : Prop where
  row : ∃ cur, W.heap[g]? = some (.cells cur 38 (0, 0)) ∧ cur.size = cap * 2 ∧ ∀ j x, l[j]? = some x → cur[j * 2]? = some (.int .i64 x.Day) ∧ cur[j * 2 + 1]? = some (vs j)
  own : ∀ j x, l[j]? = some x → j < i → RowAt W S (vs j) (Fi j) 43 (.st .api_Line) x.Lines
  old : ∀ j x, l[j]? = some x → i ≤ j → Rd S W (.sl (.st .api_Line) x.Lines) (vs j)
  fr : ∀ j, j < i → ∀ b, Fi j b → n0 ≤ b ∧ b < W.heap.size ∧ b ≠ g ∧ ∀ o, ¬ S b o
  dj : ∀ j j' b, j < i → j' < i → Fi j b → Fi j' b → j = j'
  gS : ∀ o, ¬ S g o
  gn : n0 ≤ g ∧ g < W.heap.size
  sS : ∀ b o, S b o → b < W.heap.size
  cp : l.length ≤ cap ∧ cap ≤ maxLen
theorem Half.grow {W W' : World} {S S' : Cells} {g cap : Nat} {l : List api_Version} {n0 i : Nat} {vs : Nat → Value} {Fi : Nat → Nat → Prop} (h : Half W S g cap l n0 i vs Fi) (hb : Below W.heap.size W W') (s1 : ∀ b o, S b o → S' b o) (s2 : ∀ b o, S' b o → (S b o ∨ W.heap.size ≤ b) ∧ b < W'.heap.size) : Half W' S' g cap l n0 i vs Fi := by
  have hc : ∀ b o, S b o → W'.cell? ⟨b, o, none⟩ = W.cell? ⟨b, o, none⟩ := fun b o hs => World.cell?_of_block (hb.block b (h.sS b o hs))
  refine ⟨?_, fun j x hx hj => (h.own j x hx hj).keep s1 hc fun b hf => hb.block b (h.fr j hj b hf).2.1, fun j x hx hj => (h.old j x hx hj).mono s1 hc, fun j hj b hf => ?_, h.dj, fun o hs => ?_, ⟨h.gn.1, Nat.lt_of_lt_of_le h.gn.2 hb.size⟩, fun b o hs => (s2 b o hs).2, h.cp⟩
  · obtain ⟨cur, h1, h2⟩ := h.row
    exact ⟨cur, (hb.block g h.gn.2).trans h1, h2⟩
  · obtain ⟨q1, q2, q3, q4⟩ := h.fr j hj b hf
    refine ⟨q1, Nat.lt_of_lt_of_le q2 hb.size, q3, fun o hs => ?_⟩
    rcases (s2 b o hs).1 with e | e
    · exact q4 o e
    · omega
  · rcases (s2 g o hs).1 with e | e
    · exact h.gS o e
    · have := h.gn.2; omega
theorem setCell_blk (W : World) (b o : Nat) (v : Value) {k : Nat} (hk : k ≠ b) : (W.setCell ⟨b, o, none⟩ v).heap[k]? = W.heap[k]? := Below.heap_setCell _ _ _ k (by intro e; exact hk e)
/-- The next element gets a row of its own. -/
theorem Half.adopt {W : World} {S : Cells} {g cap : Nat} {l : List api_Version} {n0 i : Nat} {vs : Nat → Value} {Fi : Nat → Nat → Prop} (h : Half W S g cap l n0 i vs Fi) {x : api_Version} (hx : l[i]? = some x) {u : Value} {F : Nat → Prop} (hr : RowAt W S u F 43 (.st .api_Line) x.Lines)
    (hF : ∀ b, F b → n0 ≤ b ∧ b < W.heap.size ∧ b ≠ g ∧ ∀ o, ¬ S b o) (hn : ∀ j, j < i → ∀ b, F b → ¬ Fi j b) :
    ((W.cell? ⟨g, i * 2 + 1, none⟩).isSome = true ∧ W.frozen? ⟨g, i * 2 + 1, none⟩ = false) ∧ Half (W.setCell ⟨g, i * 2 + 1, none⟩ u) S g cap l n0 (i + 1) (put vs i u) (put Fi i F) := by
  obtain ⟨cur, c1, c2, c3⟩ := h.row
  have hblk := fun k (hk : k ≠ g) => setCell_blk W g (i * 2 + 1) u hk
  have hc : ∀ b o, S b o → (W.setCell ⟨g, i * 2 + 1, none⟩ u).cell? ⟨b, o, none⟩ = W.cell? ⟨b, o, none⟩ := fun b o hs => World.cell?_of_block (hblk b fun e => h.gS o (e ▸ hs))
  have hsz : (W.setCell ⟨g, i * 2 + 1, none⟩ u).heap.size = W.heap.size := by simp [World.setCell]
  have hil : i < l.length := (List.getElem?_eq_some_iff.1 hx).1
  have hcs : i * 2 + 1 < cur.size := by have := h.cp.1; omega
  refine ⟨⟨by rw [cell_row c1, Array.getElem?_eq_getElem hcs]; rfl, by simp [World.frozen?, c1]⟩, ⟨?_, fun j y hy hj => ?_, fun j y hy hj => ?_, fun j hj b hf => ?_, fun j j' b hj hj' hf hf' => ?_, h.gS, ⟨h.gn.1, by rw [hsz]; exact h.gn.2⟩, fun b o hs => by rw [hsz]; exact h.sS b o hs, h.cp⟩⟩
  · have c1' : W.heap[g]? = some (.cells cur.toList.toArray 38 (0, 0)) := by simpa using c1
    refine ⟨_, heap_setCell_at c1', by simpa using c2, fun j y hy => ?_⟩
    obtain ⟨d1, d2⟩ := c3 j y hy
    rw [List.getElem?_toArray, List.getElem?_toArray, List.getElem?_set, List.getElem?_set, Array.length_toList]
    refine ⟨by rw [if_neg (by omega)]; simpa using d1, ?_⟩
    by_cases e : j = i
    · subst e
      rw [if_pos rfl, if_pos hcs, put_same]
    · rw [if_neg (by omega), put_ne _ _ e]; simpa using d2
  · by_cases e : j = i
    · subst e
      rw [hx] at hy
      injection hy with hy
      subst hy
      rw [put_same, put_same]
      exact hr.keep (fun _ _ h => h) hc fun b hb => hblk b (hF b hb).2.2.1
    · rw [put_ne _ _ e, put_ne _ _ e]
      exact (h.own j y hy (by omega)).keep (fun _ _ h => h) hc fun b hb => hblk b (h.fr j (by omega) b hb).2.2.1
  · rw [put_ne _ _ (by omega)]
    exact (h.old j y hy (by omega)).mono (fun _ _ h => h) hc
  · rw [hsz]
    by_cases e : j = i
    · subst e; rw [put_same] at hf; exact hF b hf
    · rw [put_ne _ _ e] at hf; exact h.fr j (by omega) b hf
  · by_cases e : j = i
    · by_cases e' : j' = i
      · omega
      · subst e
        rw [put_same] at hf
        rw [put_ne _ _ e'] at hf'
        exact absurd hf' (hn j' (by omega) b hf)
    · by_cases e' : j' = i
      · subst e'
        rw [put_same] at hf'
        rw [put_ne _ _ e] at hf
        exact absurd hf (hn j (by omega) b hf')
      · rw [put_ne _ _ e] at hf
        rw [put_ne _ _ e'] at hf'
        exact h.dj j j' b (by omega) (by omega) hf hf'
/-- A line's rectangles are laid anew. -/
theorem Half.lay {W : World} {S : Cells} {g cap : Nat} {l : List api_Version} {n0 i : Nat} {vs : Nat → Value} {Fi : Nat → Nat → Prop} (h : Half W S g cap l n0 i vs Fi) {j : Nat} {x : api_Version} (hx : l[j]? = some x) (hj : j < i) {z : Nat} {y : api_Line} (hy : x.Lines[z]? = some y) {gi n c : Nat} (hv : vs j = .slice (some ⟨gi, 0, none⟩) n c) {r : Value} (hr : Rd S W (.sl (.st .api_Rect) y.Region.Rects) r) (h1 : r.oneCell' = true) :
    Fi j gi ∧ ((W.cell? ⟨gi, z * 4 + 1, none⟩).isSome = true ∧ W.frozen? ⟨gi, z * 4 + 1, none⟩ = false) ∧ Half (W.setCell ⟨gi, z * 4 + 1, none⟩ r) S g cap l n0 i vs Fi := by
  have hrow := h.own j x hx hj
  have hgi : Fi j gi := by
    obtain ⟨_, ⟨q0, _⟩ | ⟨g', cap', cur', hv', hF', _⟩⟩ := hrow
    · have hzl := (List.getElem?_eq_some_iff.1 hy).1
      rw [q0] at hzl
      exact absurd hzl (Nat.not_lt_zero _)
    · rw [hv] at hv'
      injection hv' with b1
      injection b1 with b1
      injection b1 with b1
      subst b1
      exact (hF' gi).2 rfl
  obtain ⟨f1, f2, f3, f4⟩ := h.fr j hj gi hgi
  obtain ⟨r1, r2, r3⟩ := hrow.store (j := 1) (ks := [.sl (.st .api_Rect) y.Region.Rects]) (vs := [r]) (x' := y) hv hy rfl (by show 1 + 1 ≤ 4; omega) (fun u hu => by rw [List.mem_singleton] at hu; rw [hu]; exact h1) (fun q d u hq hu => by
    match q, hq, hu with
    | 0, hq, hu => cases hq; cases hu; exact hr
    | q + 1, hq, hu => cases hq) (by
      obtain ⟨a, b, c, d⟩ := y
      obtain ⟨b⟩ := b
      rfl) (fun b o hs e => f4 o (e ▸ hs))
  have hset : List.set (α := den (.st .api_Line)) x.Lines z y = x.Lines := by
    have hz := (List.getElem?_eq_some_iff.1 hy).1
    have e : x.Lines[z] = y := (List.getElem?_eq_some_iff.1 hy).2
    rw [← e]; exact List.set_getElem_self hz
  have r2 := r2 0 (by show 0 < 1; omega)
  rw [hset] at r3
  have hsz' : (4 : Nat) = size (.st .api_Line) := rfl
  rw [← hsz'] at r2 r3
  refine ⟨hgi, ⟨by simpa using r2.1, by simpa using r2.2⟩, ?_⟩
  have hblk := fun k (hk : k ≠ gi) => setCell_blk W gi (z * 4 + 1) r hk
  have hc : ∀ b o, S b o → (W.setCell ⟨gi, z * 4 + 1, none⟩ r).cell? ⟨b, o, none⟩ = W.cell? ⟨b, o, none⟩ := fun b o hs => World.cell?_of_block (hblk b fun e => f4 o (e ▸ hs))
  have hsz : (W.setCell ⟨gi, z * 4 + 1, none⟩ r).heap.size = W.heap.size := by simp [World.setCell]
  refine ⟨?_, fun j' y' hy' hj' => ?_, fun j' y' hy' hj' => (h.old j' y' hy' hj').mono (fun _ _ h => h) hc, fun j' hj' b hf => by rw [hsz]; exact h.fr j' hj' b hf, h.dj, h.gS, ⟨h.gn.1, by rw [hsz]; exact h.gn.2⟩, fun b o hs => by rw [hsz]; exact h.sS b o hs, h.cp⟩
  · obtain ⟨cur, c1, c2⟩ := h.row
    exact ⟨cur, (hblk g (fun e => f3 e.symm)).trans c1, c2⟩
  · by_cases e : j' = j
    · subst e
      rw [hx] at hy'
      injection hy' with hy'
      subst hy'
      exact r3
    · exact (h.own j' y' hy' hj').keep (fun _ _ h => h) hc fun b hb => hblk b fun e' => e (h.dj j' j gi hj' hj (e' ▸ hb) hgi)
/-- All have rows of their own: a nest. -/
theorem Half.nst {W : World} {S : Cells} {g cap : Nat} {l : List api_Version} {n0 : Nat} {vs : Nat → Value} {Fi : Nat → Nat → Prop} (h : Half W S g cap l n0 l.length vs Fi) (hn : l ≠ []) :
    ∃ (us : List Value) (F : Nat → Prop), NstAt W S (.tuple (Value.slice (some ⟨g, 0, none⟩) l.length cap :: us).toArray) F 38 (.st .api_Version) 1 43 (.st .api_Line) l ∧ ∀ b, F b → n0 ≤ b ∧ b < W.heap.size ∧ ∀ o, ¬ S b o := by
  obtain ⟨cur, c1, c2, c3⟩ := h.row
  let Fi' : Nat → Nat → Prop := fun j b => j < l.length ∧ Fi j b
  refine ⟨(List.range l.length).map vs, fun b => b = g ∨ ∃ j, j < l.length ∧ Fi' j b, ⟨by decide, by decide, _, _, Fi', rfl, by rw [List.length_map, List.length_range]; rfl, .inr ⟨g, cap, cur, rfl, fun b => Iff.rfl, fun j hf => (h.fr j hf.1 g hf.2).2.2.1 rfl, fun i j b hf hf' => h.dj i j b hf.1 hf'.1 hf.2 hf'.2, c1, h.cp.1, h.cp.2, c2, fun j x hx => ?_⟩⟩, fun b hb => ?_⟩
  · have hjl := (List.getElem?_eq_some_iff.1 hx).1
    obtain ⟨d1, d2⟩ := c3 j x hx
    have hm : ∀ n, j < n → ((List.range n).map vs)[j]? = some (vs j) := fun n hn => by simp [hn]
    refine ⟨fun p c hp hc => ?_, x.Lines, vs j, rfl, hm _ hjl, d2, ?_⟩
    · match p, hp, hc with
      | 0, _, hc => cases hc; exact ⟨_, d1, rfl, .v _⟩
      | 1, hp, _ => exact absurd rfl hp
      | p + 2, _, hc => cases hc
    · obtain ⟨q0, q | ⟨g', cap', cur', q1, q2, q3⟩⟩ := h.own j x hx hjl
      · exact ⟨q0, .inl ⟨q.1, q.2.1, fun b hf => q.2.2 b hf.2⟩⟩
      · exact ⟨q0, .inr ⟨g', cap', cur', q1, fun b => ⟨fun hf => (q2 b).1 hf.2, fun e => ⟨hjl, (q2 b).2 e⟩⟩, q3⟩⟩
  · rcases hb with rfl | ⟨j, hj, hf⟩
    · exact ⟨h.gn.1, h.gn.2, h.gS⟩
    · obtain ⟨f1, f2, f3, f4⟩ := h.fr j hj b hf.2
      exact ⟨f1, f2, f4⟩
end Nest
end RE
end Go.Proofs.YtblcakaohlgagaaGreat
set_option linter.unusedVariables false
set_option maxRecDepth 100000
namespace Go.Proofs.YtblcakaohlgagaaGreat
open Go.RowKit Go.Sort Go.Lib
namespace RE
open PL
namespace Nest
def Small (l : List api_Version) : Prop := l.length ≤ 4000000 ∧ ∀ x ∈ l, x.Lines.length ≤ 4000000 ∧ ∀ y ∈ x.Lines, y.Region.Rects.length ≤ 4000000
set_option maxHeartbeats 4000000 in
theorem copied_walk (l : List api_Version) (hp : Small l) (hne : l ≠ []) (w : World) (S : Cells) (b off cap0 : Nat) (f : Nat → Nat → Value) (hS : ∀ b o, S b o → b < w.heap.size)
    (hu : Rd S w (.sl (.st .api_Version) l) (.slice (some ⟨b, off, none⟩) l.length cap0))
    (hcell : ∀ i, i < l.length → w.cell? ⟨b, off + i * 2, none⟩ = some (.int .i64 (ix l (i : Int)).Day) ∧ w.cell? ⟨b, off + i * 2 + 1, none⟩ = some (f i 1)) (hold : ∀ i x, l[i]? = some x → Rd S w (.sl (.st .api_Line) x.Lines) (f i 1)) :
    Calls Tryz.prog 50 #[.slice (some ⟨b, off, none⟩) l.length cap0] w fun ex w' => ∃ (g cap : Nat) (vs : Nat → Value) (Fi : Nat → Nat → Prop) (S' : Cells), ex = .returned (.slice (some ⟨g, 0, none⟩) l.length cap) ∧ Half w' S' g cap l w.heap.size l.length vs Fi ∧ (∀ b o, S b o → S' b o) ∧ (∀ b o, S' b o → (S b o ∨ w.heap.size ≤ b) ∧ b < w'.heap.size) ∧ Below w.heap.size w w' := by
  have hc := Lib.hid (SpecOK.ownAt pclv_ok (x := l) (l' := l) ⟨hp.1, rfl⟩ hS hu)
  obtain ⟨n, hn⟩ : ∃ n, l.length = n := ⟨_, rfl⟩
  rw [hn] at hc ⊢
  have hn' := Lib.hid hn
  have hnb : n ≤ 4000000 := by rw [← hn]; exact hp.1
  have hcell' := Lib.hid hcell
  have hold' := Lib.hid hold
  have hp' := Lib.hid hp
  have hS' := Lib.hid hS
  clear hn hcell hold hp hu hS
  go_enter Tryz.func50, Tryz.ntmps50
  go_wp2_with fail
  refine hc.out.mono ?_
  rintro e w1 ⟨v, F, S1, rfl, hrow, s1, s2, s3, hb⟩
  have hh : ∃ g cap, v = .slice (some ⟨g, 0, none⟩) n cap ∧ ∃ vs, Half w1 S1 g cap l w.heap.size 0 vs (fun _ _ => False) := by
    obtain ⟨_, ⟨q0, _⟩ | ⟨g, cap, cur, k0, kF, kg, k1, k2, k3, k4⟩⟩ := hrow
    · exact absurd q0 hne
    · obtain ⟨f1, f2, f3⟩ := s3 g ((kF g).2 rfl)
      have hv0 : v = .slice (some ⟨g, 0, none⟩) n cap := by rw [k0]; exact congrArg (fun q => Value.slice (some ⟨g, 0, none⟩) q cap) hn'.out
      refine ⟨g, cap, hv0, fun j => cur.getD (j * 2 + 1) undef, ⟨cur, kg, k3, fun j x hx => ?_⟩, fun j x hx hj => absurd hj (Nat.not_lt_zero _), fun j x hx _ => ?_, fun j hj => absurd hj (Nat.not_lt_zero _), fun j j' b hj => absurd hj (Nat.not_lt_zero _), f3, ⟨f1, f2⟩, fun b o h => (s2 b o h).2, k1, k2⟩
      · obtain ⟨u0, a1, a2, a3⟩ := k4 j x hx 0 (.v (.int .i64 x.Day)) rfl
        obtain ⟨u1, b1, b2, b3⟩ := k4 j x hx 1 (.sl (.st .api_Line) x.Lines) rfl
        rw [rd_v a3] at a1
        have b1 : cur[j * 2 + 1]? = some u1 := b1
        exact ⟨a1, by show _ = some (cur.getD (j * 2 + 1) undef); rw [Array.getD_eq_getD_getElem?, b1]; rfl⟩
      · obtain ⟨u1, b1, b2, b3⟩ := k4 j x hx 1 (.sl (.st .api_Line) x.Lines) rfl
        have b1 : cur[j * 2 + 1]? = some u1 := b1
        show Rd S1 w1 _ (cur.getD (j * 2 + 1) undef)
        rw [Array.getD_eq_getD_getElem?, b1]
        exact b3
  obtain ⟨g, cap, rfl, vs, hH⟩ := hh
  have hH' := Lib.hid hH
  have s1' := Lib.hid s1
  have s2' := Lib.hid s2
  have hb1 := Lib.hid hb
  clear hrow s1 s2 s3 hb hH hc
  go_wp2_with fail
  go_loopw [12] (fun x wr => ∃ (i : Nat) (vs : Nat → Value) (Fi : Nat → Nat → Prop) (S2 : Cells), i ≤ n ∧ x = .int .i64 i ∧ Half wr S2 g cap l w.heap.size i vs Fi ∧ (∀ b o, S b o → S2 b o) ∧ (∀ b o, S2 b o → (S b o ∨ w.heap.size ≤ b)) ∧ Below w.heap.size w wr) (fun x _ => n - (intOf x).toNat)
  case atStart => exact ⟨0, vs, _, S1, by omega, rfl, hH'.out, s1'.out, fun b o h => (s2'.out b o h).1, hb1.out⟩
  case round =>
    obtain ⟨i, vs, Fi, S2, hi, rfl, hH, t1, t2, hB⟩ := hrel
    by_cases hlt : i < n
    · have hlx := Lib.hid hlt
      have hil : i < l.length := by have := hn'.out; omega
      obtain ⟨x, hx⟩ : ∃ x, l[i]? = some x := ⟨_, List.getElem?_eq_getElem hil⟩
      obtain ⟨c0, c1⟩ := hcell'.out i hil
      have hxd : (ix l (i : Int)).Day = x.Day := by rw [ix_lt hil]; exact congrArg _ (List.getElem?_eq_some_iff.1 hx).2
      rw [hxd] at c0
      have c0 := (hB.cell (World.block_lt_of_cell? w _ c0)).trans c0
      have c1 := (hB.cell (World.block_lt_of_cell? w _ c1)).trans c1
      have hold2 := Lib.hid ((hold'.out i x hx).mono t1 fun b o hs => hB.cell (p := ⟨b, o, none⟩) (hS'.out b o hs))
      obtain ⟨ad2, c2, hou⟩ : ∃ ad2 c2, f i 1 = .slice ad2 x.Lines.length c2 := by
        obtain ⟨ad, cap, _, _, _, e, _⟩ := (hold2.out).slInv
        exact ⟨ad, cap, e⟩
      rw [hou] at c1 hold2
      obtain ⟨m, hm⟩ : ∃ m, x.Lines.length = m := ⟨_, rfl⟩
      rw [hm] at c1 hold2
      have hm' := Lib.hid hm
      have hmb : m ≤ 4000000 := by rw [← hm]; exact (hp'.out.2 x (List.mem_of_getElem? hx)).1
      have hou' := Lib.hid (show f i 1 = .slice ad2 m c2 by rw [← hm]; exact hou)
      have hBx := Lib.hid hB
      have hHx := Lib.hid hH
      have t1x := Lib.hid t1
      have t2x := Lib.hid t2
      have hxx := Lib.hid hx
      obtain ⟨dx, hdx⟩ : ∃ d, x.Day = d := ⟨_, rfl⟩
      rw [hdx] at c0
      have hdx' := Lib.hid hdx
      clear hB hH t1 t2 hx hdx hxd hou hm
      go_upto_region 5 with fail
      obtain ⟨W1, hW1⟩ : ∃ W1, W1 = wr.alloc (.cells #[.int .i64 dx, .slice ad2 m c2] 38) := ⟨_, rfl⟩
      have hb2 := Lib.hid (show Below wr.heap.size wr W1 by rw [hW1]; exact (Below.refl _ _).alloc (Nat.le_refl _) _)
      have hsz1 := Lib.hid (show W1.heap.size = wr.heap.size + 1 by rw [hW1]; simp)
      have bx := Lib.hid (show W1.heap[wr.heap.size]? = some (.cells #[.int .i64 dx, .slice ad2 m c2] 38 (0, 0)) by rw [hW1]; exact heap_alloc_new wr _)
      have hH1 := Lib.hid (hHx.out.grow hb2.out (fun _ _ h => h) fun b o hs => ⟨.inl hs, Nat.lt_of_lt_of_le (hHx.out.sS b o hs) hb2.out.size⟩)
      have hold3 := Lib.hid (hold2.out.mono (fun _ _ h => h) fun b o hs => hb2.out.cell (p := ⟨b, o, none⟩) (hHx.out.sS b o hs))
      have hcl := Lib.hid (SpecOK.ownAt pcll_ok (x := x.Lines) (l' := x.Lines) ⟨(hp'.out.2 x (List.mem_of_getElem? hxx.out)).1, rfl⟩ hH1.out.sS hold3.out)
      rw [← hW1]
      obtain ⟨b5, hb5⟩ : ∃ b5, wr.heap.size = b5 := ⟨_, rfl⟩
      rw [hb5] at bx hsz1 ⊢
      have hb5' := Lib.hid hb5
      have d0 : W1.cell? ⟨b5, 0, none⟩ = some (.int .i64 dx) := by rw [cell_row bx.out]; rfl
      have d1 : W1.cell? ⟨b5, 1, none⟩ = some (.slice ad2 m c2) := by rw [cell_row bx.out]; rfl
      clear hW1 c0 c1 hb5
      go_wp2_with fail
      refine hcl.out.mono ?_
      rintro e W2 ⟨v3, F3, S3, rfl, hrow, r1, r2, r3, hb3⟩
      obtain ⟨_, ad3, c3, e3, _⟩ := hrow.slice
      have e4 : v3 = .slice ad3 m c3 := by rw [← hm'.out]; exact e3
      clear e3
      subst e4
      have hH2 := hH1.out.grow hb3 r1 r2
      obtain ⟨⟨ho1, ho2⟩, hH3⟩ := hH2.adopt hxx.out hrow (fun b hb => ⟨Nat.le_trans (Nat.le_trans hBx.out.size hb2.out.size) (r3 b hb).1, (r3 b hb).2.1, fun e => by have h1 := (r3 b hb).1; have h2 := hH1.out.gn.2; omega, (r3 b hb).2.2⟩) (fun j hj b hb hf => by have h1 := (r3 b hb).1; have h2 := (hH1.out.fr j hj b hf).2.1; omega)
      obtain ⟨vo, ho1⟩ := Option.isSome_iff_exists.1 ho1
      have d0 := (hb3.cell (World.block_lt_of_cell? W1 _ d0)).trans d0
      have d1 := (hb3.cell (World.block_lt_of_cell? W1 _ d1)).trans d1
      have hHy := Lib.hid hH3
      have hb3' := Lib.hid hb3
      have r1' := Lib.hid r1
      have r2' := Lib.hid r2
      clear hrow r1 r2 r3 hb3 hH2 hH3 hcl
      go_upto_region 6 with fail
      obtain ⟨W3, hW3⟩ : ∃ W3, W3 = W2.setCell ⟨g, i * 2 + 1, none⟩ (.slice ad3 m c3) := ⟨_, rfl⟩
      rw [← hW3]
      have hg5 : g < b5 := by rw [← hb5'.out]; exact hHx.out.gn.2
      have d1 : W3.cell? ⟨b5, 1, none⟩ = some (.slice ad2 m c2) := by
        rw [hW3]
        exact (World.cell?_of_block (setCell_blk _ _ _ _ (Nat.ne_of_gt hg5))).trans d1
      have hH3 : Half W3 S3 g cap l w.heap.size (i + 1) (put vs i (.slice ad3 m c3)) (put Fi i F3) := by
        rw [hW3]; exact hHy.out
      have hB3 : Below w.heap.size w W3 := by
        rw [hW3]
        exact (((hBx.out.trans (hb2.out.mono hBx.out.size)).trans (hb3'.out.mono (Nat.le_trans hBx.out.size hb2.out.size))).setCell (hHx.out.gn.1) _)
      have u1 : ∀ b o, S b o → S3 b o := fun b o h => r1'.out b o (t1x.out b o h)
      have u2 : ∀ b o, S3 b o → (S b o ∨ w.heap.size ≤ b) := fun b o h => (r2'.out b o h).1.elim (fun h => t2x.out b o h) fun h => .inr (Nat.le_trans (Nat.le_trans hBx.out.size hb2.out.size) h)
      have hH3' := Lib.hid hH3
      have hB3' := Lib.hid hB3
      have u1' := Lib.hid u1
      have u2' := Lib.hid u2
      clear hW3 hH3 hB3 u1 u2 hHy d0 ho1 ho2 hH1 hold2 hold3 r1' r2' hb3' hb2 bx hHx hBx t1x t2x hsz1
      have hxl := Lib.hid (hold'.out i x hxx.out)
      rw [hou'.out] at hxl
      go_wp2_with fail
      go_loopw [27] (fun q wi => ∃ (k : Nat) (S4 : Cells), k ≤ m ∧ q = .int .i64 k ∧ Half wi S4 g cap l w.heap.size (i + 1) (put vs i (.slice ad3 m c3)) (put Fi i F3) ∧ (∀ b o, S b o → S4 b o) ∧ (∀ b o, S4 b o → (S b o ∨ w.heap.size ≤ b)) ∧ Below w.heap.size w wi) (fun q _ => m - (intOf q).toNat)
      case atStart => exact ⟨0, S3, by omega, rfl, hH3'.out, u1'.out, u2'.out, hB3'.out⟩
      case round =>
        obtain ⟨k, S4, hk, rfl, hH, t1, t2, hB⟩ := hrel
        by_cases hlt2 : k < m
        · have hkm := Lib.hid hlt2
          have hkl : k < x.Lines.length := by have := hm'.out; omega
          obtain ⟨y, hy⟩ : ∃ y, x.Lines[k]? = some y := ⟨_, List.getElem?_eq_getElem hkl⟩
          obtain ⟨bb, oo, ar, nr, cr, e0, e1, e2, e3, e4, e5⟩ : ∃ bb oo ar nr cr, ad2 = some ⟨bb, oo, none⟩ ∧ w.cell? ⟨bb, oo + k * 4, none⟩ = some (.int .i64 y.Parcel) ∧ w.cell? ⟨bb, oo + k * 4 + 1, none⟩ = some (.slice ar nr cr) ∧ w.cell? ⟨bb, oo + k * 4 + 2, none⟩ = some (.int .i64 y.Crop) ∧ w.cell? ⟨bb, oo + k * 4 + 3, none⟩ = some (.int .i64 y.Schemes) ∧ Rd S w (.sl (.st .api_Rect) y.Region.Rects) (.slice ar nr cr) := by
            obtain ⟨ad, cap', bb, oo, fc, e, hc1, hc2, ha, hx1, hx2⟩ := hxl.out.slInv
            injection e with e1 e2 e3
            rcases ha with ha | ha
            · rw [ha] at hkl; exact absurd hkl (Nat.not_lt_zero _)
            · have g0 := hx2 k y 0 _ hy rfl
              have g1 := hx2 k y 1 _ hy rfl
              have g2 := hx2 k y 2 _ hy rfl
              have g3 := hx2 k y 3 _ hy rfl
              have g0 : Rd S w (.v (.int .i64 y.Parcel)) (fc k 0) := g0
              have g1 : Rd S w (.sl (.st .api_Rect) y.Region.Rects) (fc k 1) := g1
              have g2 : Rd S w (.v (.int .i64 y.Crop)) (fc k 2) := g2
              have g3 : Rd S w (.v (.int .i64 y.Schemes)) (fc k 3) := g3
              obtain ⟨ar, cr, _, _, _, er, _⟩ := g1.slInv
              have q := fun j (hj : j < 4) => (hx1 k hkl j hj).2.1
              have q0 := q 0 (by omega)
              have q1 := q 1 (by omega)
              have q2 := q 2 (by omega)
              have q3 := q 3 (by omega)
              rw [rd_v g0] at q0
              rw [er] at q1 g1
              rw [rd_v g2] at q2
              rw [rd_v g3] at q3
              exact ⟨bb, oo, ar, _, cr, by rw [e1, ha], q0, q1, q2, q3, g1⟩
          subst e0
          have e1 := (hB.cell (World.block_lt_of_cell? w _ e1)).trans e1
          have e2 := (hB.cell (World.block_lt_of_cell? w _ e2)).trans e2
          have e3 := (hB.cell (World.block_lt_of_cell? w _ e3)).trans e3
          have e4 := (hB.cell (World.block_lt_of_cell? w _ e4)).trans e4
          have e5' := Lib.hid (e5.mono t1 fun b o hs => hB.cell (p := ⟨b, o, none⟩) (hS'.out b o hs))
          obtain ⟨pa, hpa⟩ : ∃ d, y.Parcel = d := ⟨_, rfl⟩
          obtain ⟨cro, hcro⟩ : ∃ d, y.Crop = d := ⟨_, rfl⟩
          obtain ⟨sch, hsch⟩ : ∃ d, y.Schemes = d := ⟨_, rfl⟩
          rw [hpa] at e1
          rw [hcro] at e3
          rw [hsch] at e4
          have hHx := Lib.hid hH
          have t1x := Lib.hid t1
          have t2x := Lib.hid t2
          have hBx := Lib.hid hB
          have hyy := Lib.hid hy
          clear hpa hcro hsch e5 hH t1 t2 hB hy
          go_upto_region 9 with fail
          obtain ⟨W4, hW4⟩ : ∃ W4, W4 = wr.alloc (.cells #[.int .i64 pa, .slice ar nr cr, .int .i64 cro, .int .i64 sch] 43) := ⟨_, rfl⟩
          have hb4 : Below wr.heap.size wr W4 := by rw [hW4]; exact (Below.refl _ _).alloc (Nat.le_refl _) _
          have bx : W4.heap[wr.heap.size]? = some (.cells #[.int .i64 pa, .slice ar nr cr, .int .i64 cro, .int .i64 sch] 43 (0, 0)) := by rw [hW4]; exact heap_alloc_new wr _
          rw [← hW4]
          obtain ⟨b7, hb7⟩ : ∃ b7, wr.heap.size = b7 := ⟨_, rfl⟩
          rw [hb7] at bx ⊢
          have hb4d := hb4.drew
          have hH4 := hHx.out.grow hb4d (fun _ _ h => h) fun b o hs => ⟨.inl hs, Nat.lt_of_lt_of_le (hHx.out.sS b o hs) hb4d.size⟩
          have hr4 := e5'.out.mono (fun _ _ h => h) fun b o hs => hb4d.cell (p := ⟨b, o, none⟩) (hHx.out.sS b o hs)
          have hB4 : Below w.heap.size w W4.drew := hBx.out.trans (hb4d.mono hBx.out.size)
          obtain ⟨gi, had⟩ : ∃ gi, ad3 = some ⟨gi, 0, none⟩ := by
            obtain ⟨_, ad, cap', e, _, _, q⟩ := (hH4.own i x hxx.out (Nat.lt_succ_self i)).slice
            obtain ⟨gi, q1, _⟩ := q k y hyy.out
            rw [put_same] at e
            injection e with e
            exact ⟨gi, e.trans q1⟩
          subst had
          have hsz7 : b7 < W4.drew.heap.size := by
            have := (Array.getElem?_eq_some_iff.1 bx).1
            exact this
          have f0 : W4.cell? ⟨g, i * 2 + 1, none⟩ = some (.slice (some ⟨gi, 0, none⟩) m c3) := by
            obtain ⟨cur, k1, _, k3⟩ := hH4.row
            have k1 : W4.heap[g]? = some (.cells cur 38 (0, 0)) := k1
            rw [cell_row k1]
            have := (k3 i x hxx.out).2
            rwa [put_same] at this
          have f1 : W4.cell? ⟨b7, 1, none⟩ = some (.slice ar nr cr) := by rw [cell_row bx]; rfl
          have hcall := Lib.hid (show Calls Tryz.prog 93 #[.slice ar nr cr] W4.drew fun e W5 => ∃ ar5 nr5 cr5, e = .returned (.slice ar5 nr5 cr5) ∧ W5.cell? ⟨g, i * 2 + 1, none⟩ = some (.slice (some ⟨gi, 0, none⟩) m c3) ∧ W5.cell? ⟨b7, 1, none⟩ = some (.slice ar nr cr) ∧ (∃ vo, W5.cell? ⟨gi, k * 4 + 1, none⟩ = some vo) ∧ W5.frozen? ⟨gi, k * 4 + 1, none⟩ = false ∧ (W5.setCell ⟨gi, k * 4 + 1, none⟩ (.slice ar5 nr5 cr5)).cell? ⟨g, i * 2 + 1, none⟩ = some (.slice (some ⟨gi, 0, none⟩) m c3) ∧ (W5.setCell ⟨gi, k * 4 + 1, none⟩ (.slice ar5 nr5 cr5)).cell? ⟨b7, 1, none⟩ = some (.slice ar nr cr) ∧
              ∃ S5, Half (W5.setCell ⟨gi, k * 4 + 1, none⟩ (.slice ar5 nr5 cr5)) S5 g cap l w.heap.size (i + 1) (put vs i (.slice (some ⟨gi, 0, none⟩) m c3)) (put Fi i F3) ∧ (∀ b o, S b o → S5 b o) ∧ (∀ b o, S5 b o → (S b o ∨ w.heap.size ≤ b)) ∧ Below w.heap.size w (W5.setCell ⟨gi, k * 4 + 1, none⟩ (.slice ar5 nr5 cr5)) by
            refine (SpecOK.datAt pclr_ok (x := y.Region.Rects) (y' := y.Region.Rects) ⟨(hp'.out.2 x (List.mem_of_getElem? hxx.out)).2 y (List.mem_of_getElem? hyy.out), rfl⟩ hH4.sS hr4).mono ?_
            rintro e W5 ⟨v5, S5, rfl, hr5, z1, z2, hb5⟩
            have hr5 : Rd S5 W5 (.sl (.st .api_Rect) y.Region.Rects) v5 := hr5
            obtain ⟨ar5, cr5, _, _, _, er, _⟩ := hr5.slInv
            have hH5 := hH4.grow hb5 z1 z2
            subst er
            obtain ⟨hgi, ⟨y1, y2⟩, y3⟩ := hH5.lay hxx.out (Nat.lt_succ_self i) hyy.out (put_same _ _ _) hr5 rfl
            have hgn := (hH5.fr i (Nat.lt_succ_self i) gi hgi).1
            have hgg := (hH5.fr i (Nat.lt_succ_self i) gi hgi).2.2.1
            have hg7 : b7 ≠ gi := fun e => by have h1 := (hHx.out.fr i (Nat.lt_succ_self i) gi hgi).2.1; omega
            have w1 := (hb5.cell (World.block_lt_of_cell? W4.drew _ f0)).trans f0
            have w2 := (hb5.cell (p := ⟨b7, 1, none⟩) hsz7).trans f1
            exact ⟨ar5, _, cr5, rfl, w1, w2, Option.isSome_iff_exists.1 y1, y2, (World.cell?_of_block (setCell_blk _ _ _ _ (fun e => hgg e.symm))).trans w1, (World.cell?_of_block (setCell_blk _ _ _ _ hg7)).trans w2, S5, y3, fun b o h => z1 b o (t1x.out b o h), fun b o h => (z2 b o h).1.elim (fun h => t2x.out b o h) fun h => .inr (Nat.le_trans hB4.size h), (hB4.trans (hb5.mono hB4.size)).setCell hgn _⟩)
          clear hW4 hb4 bx hb7 hb4d hH4 hr4 hB4 hsz7 e1 e2 e3 e4 d1
          go_region_held3 (fun W' => W'.cell? ⟨g, i * 2 + 1, none⟩ = some (.slice (some ⟨gi, 0, none⟩) m c3) ∧ W'.cell? ⟨b7, 1, none⟩ = some (.slice ar nr cr)) (first | exact ⟨z6, z7⟩ | go_keep) (first | (go_at_call 93; refine hcall.out.mono ?_; rintro e W5 ⟨ar5, nr5, cr5, rfl, z1, z2, ⟨vo, z3⟩, z4, z6, z7, S5, z5⟩))
          all_goals
            have z5' := Lib.hid z5
            clear z1 z2 z3 z4 z5 z6 z7 f0 f1
            have hkm2 : k < m := hkm.out
            go_wp2
            go_round
            case rel => exact ⟨k + 1, S5, hkm.out, by go_num, z5'.out.1, z5'.out.2.1, z5'.out.2.2.1, z5'.out.2.2.2⟩
            case measure => have := hkm.out; simp [intOf]; omega
        · have hHx := Lib.hid hH
          have t1x := Lib.hid t1
          have t2x := Lib.hid t2
          have hBx := Lib.hid hB
          clear hH t1 t2 hB
          have hlx2 : i < n := hlx.out
          go_wp2
          go_round
          case rel => exact ⟨i + 1, _, _, S4, hlx.out, by go_num, hHx.out, t1x.out, t2x.out, hBx.out⟩
          case measure => have := hlx.out; simp [intOf]; omega
    · have hie : i = n := by omega
      have hHx := Lib.hid hH
      have t1x := Lib.hid t1
      have t2x := Lib.hid t2
      have hBx := Lib.hid hB
      clear hH t1 t2 hB
      go_wp2
      go_ret
      subst hie
      exact ⟨g, cap, vs, Fi, S2, rfl, hHx.out, t1x.out, fun b o h => ⟨t2x.out b o h, hHx.out.sS b o h⟩, hBx.out⟩
set_option maxHeartbeats 1000000 in
theorem copied_nil (w : World) (S : Cells) (ad : Option Addr) (cap0 : Nat) (hS : ∀ b o, S b o → b < w.heap.size) (hu : Rd S w (.sl (.st .api_Version) []) (.slice ad 0 cap0)) :
    Calls Tryz.prog 50 #[.slice ad 0 cap0] w fun ex w' => ∃ (v : Value) (F : Nat → Prop) (S' : Cells), ex = .returned v ∧ RowAt w' S' v F 38 (.st .api_Version) [] ∧ (∀ b o, S b o → S' b o) ∧ (∀ b o, S' b o → (S b o ∨ w.heap.size ≤ b) ∧ b < w'.heap.size) ∧ (∀ b, F b → w.heap.size ≤ b ∧ b < w'.heap.size ∧ ∀ o, ¬ S' b o) ∧ Below w.heap.size w w' := by
  have hc := Lib.hid (SpecOK.ownAt pclv_ok (x := []) (l' := []) ⟨by decide, rfl⟩ hS hu)
  clear hu hS
  go_enter Tryz.func50, Tryz.ntmps50
  go_wp2_with fail
  refine hc.out.mono ?_
  rintro e w1 ⟨v, F, S1, rfl, hrow, s1, s2, s3, hb⟩
  obtain ⟨_, ad1, cap1, e1, _⟩ := hrow.slice
  have e2 : v = .slice ad1 0 cap1 := e1
  clear e1
  subst e2
  have hfin := Lib.hid (And.intro hrow (And.intro s1 (And.intro s2 (And.intro s3 hb))))
  clear hrow s1 s2 s3 hb hc
  go_wp2_with fail
  refine wp_loop_rounds 1 ?_
  rw [rounds_succ]
  go_wp2
  go_ret
  exact ⟨_, F, S1, rfl, hfin.out.1, hfin.out.2.1, hfin.out.2.2.1, hfin.out.2.2.2.1, hfin.out.2.2.2.2⟩
theorem nst_empty {W : World} {S : Cells} {v : Value} {F : Nat → Prop} {e : TypeId} {t : Ty} {k : Nat} {e' : TypeId} {t' : Ty} (hk : k < size t) (h : RowAt W S v F e t []) : NstAt W S (.tuple (v :: ([] : List Value)).toArray) F e t k e' t' [] := by
  obtain ⟨h0, ⟨_, q1, q2⟩ | ⟨g, cap, cur, k0, kF, kg, k1, k2, k3, k4⟩⟩ := h
  · exact ⟨h0, hk, _, _, fun _ _ => False, rfl, rfl, .inl ⟨rfl, q1, q2⟩⟩
  · exact ⟨h0, hk, _, _, fun _ _ => False, rfl, rfl, .inr ⟨g, cap, cur, k0, fun b => ⟨fun h => .inl ((kF b).1 h), fun h => h.elim (fun h => (kF b).2 h) fun ⟨_, h, _⟩ => absurd h (Nat.not_lt_zero _)⟩, fun _ h => h, fun _ _ _ h => h.elim, kg, k1, k2, k3, fun i x hx => by simp at hx⟩⟩
theorem copied_mk : NstMk Tryz.prog 50 (.st .api_Version) 38 1 43 (.st .api_Line) Small := by
  intro l hp w S u hS hu
  have hp : Small l := hp
  by_cases hne : l = []
  · subst hne
    obtain ⟨ad, cap0, _, _, _, e, _⟩ := hu.slInv
    have e : u = .slice ad 0 cap0 := e
    subst e
    refine (copied_nil w S ad cap0 hS hu).mono ?_
    rintro ex w' ⟨v, F, S', rfl, h1, h2, h3, h4, h5⟩
    exact ⟨v, [], F, S', rfl, nst_empty (by decide) h1, h2, h3, h4, h5⟩
  · obtain ⟨ad, cap0, b, off, f, e, hc1, hc2, ha, hx1, hx2⟩ := hu.slInv
    rcases ha with ha | ha
    · exact absurd ha hne
    subst e ha
    have hf0 : ∀ i x, l[i]? = some x → f i 0 = .int .i64 x.Day := fun i x hx => rd_v (hx2 i x 0 (.v (.int .i64 x.Day)) hx rfl)
    refine (copied_walk l hp hne w S b off cap0 f hS hu (fun i hi => ?_) (fun i x hx => hx2 i x 1 (.sl (.st .api_Line) x.Lines) hx rfl)).mono ?_
    · have h0 := (hx1 i hi 0 (by decide)).2.1
      have h1 := (hx1 i hi 1 (by decide)).2.1
      rw [hf0 i l[i] (List.getElem?_eq_getElem hi)] at h0
      rw [ix_lt hi]
      exact ⟨h0, h1⟩
    · rintro ex w' ⟨g, cap, vs, Fi, S', rfl, hH, h2, h3, h4⟩
      obtain ⟨us, F, k1, k2⟩ := hH.nst hne
      exact ⟨_, us, F, S', rfl, k1, h2, h3, k2, h4⟩
end Nest
end RE
end Go.Proofs.YtblcakaohlgagaaGreat
set_option linter.unusedVariables false
set_option maxRecDepth 100000
namespace Go.Proofs.YtblcakaohlgagaaGreat
open Go.RowKit Go.Sort Go.Lib
namespace RE
open PL
namespace Nest
end Nest
end RE
end Go.Proofs.YtblcakaohlgagaaGreat
