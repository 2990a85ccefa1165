/-
  slices.Sorted over slices.Values, at ints: a new slice that holds the numbers, sorted.
-/
import Derived.Test.YtmmekdkllccmdaaSeqB
import Derived.Test.YtmmekdkllccmdaaShelf
import Derived.Shelf.SlIterI.Sorted
import Derived.Lib.Hide
namespace Go.Proofs.Ytmmekdkllccmdaa
open Go.RowKit Go.Shelf Go.Sort
set_option linter.unusedVariables false
namespace Seq
theorem appendSeq_any (a : Option Addr) (cap Bv : Nat) (zs : List Int) (hlen : zs.length * 8 ≤ 140737488351232) (w : World) (hBv : Bv < w.heap.size) (hc0 : w.cell? ⟨Bv, 0, none⟩ = some (.slice a zs.length cap)) (hL : Ints w.heap.size w a zs) :
    Calls Try.prog 139 #[.slice none 0 0, .func (.func 123) #[] #[.pointer (some ⟨Bv, 0, none⟩)]] w fun e W' => ∃ v, e = .returned v ∧ W'.ownsRow w.heap.size 3 1 v zs.length (zs.map (Value.int .i64)) ∧ (v = .slice none 0 0 ↔ zs = []) ∧ Below w.heap.size w W' :=
  callsIn_wide.1 (appendSeq_in Fence.wide 5 trivial trivial rfl (by omega) a cap Bv zs hlen w hBv hc0 hL)
theorem values_any (a : Option Addr) (len cap : Nat) (w : World) :
    Calls Try.prog 87 #[.slice a len cap] w fun e w' => e = .returned (.func (.func 123) #[] #[.pointer (some ⟨w.heap.size, 0, none⟩)]) ∧ w' = w.alloc (.cells #[.slice a len cap] 22) :=
  callsIn_wide.1 (values_in Fence.wide 5 trivial rfl a len cap w)

set_option maxHeartbeats 400000 in
theorem collect_any (a : Option Addr) (cap Bv : Nat) (zs : List Int) (hlen : zs.length * 8 ≤ 140737488351232) (w : World) (hBv : Bv < w.heap.size) (hc0 : w.cell? ⟨Bv, 0, none⟩ = some (.slice a zs.length cap)) (hL : Ints w.heap.size w a zs) :
    Calls Try.prog 122 #[.func (.func 123) #[] #[.pointer (some ⟨Bv, 0, none⟩)]] w fun e W' => ∃ v, e = .returned v ∧ W'.ownsRow w.heap.size 3 1 v zs.length (zs.map (Value.int .i64)) ∧ (v = .slice none 0 0 ↔ zs = []) ∧ Below w.heap.size w W' := by
  have hap := Lib.hid (appendSeq_any a cap Bv zs hlen w hBv hc0 hL)
  clear hc0
  go_enter Try.func122, Try.ntmps122
  go_wp2_with fail
  refine hap.out.mono ?_
  rintro e w1 ⟨v, rfl, h1, h2, h3⟩
  have hfin := Lib.hid (And.intro h1 (And.intro h2 h3))
  clear h1 h2 h3
  go_wp2
  go_ret
  exact ⟨v, rfl, hfin.out⟩

def srt (zs : List Int) : List Int := zs.mergeSort fun x y => decide (x ≤ y)
set_option maxHeartbeats 800000 in
theorem sorted_any (a : Option Addr) (cap Bv : Nat) (zs : List Int) (hlen : zs.length * 8 ≤ 140737488351232) (w : World) (hBv : Bv < w.heap.size) (hc0 : w.cell? ⟨Bv, 0, none⟩ = some (.slice a zs.length cap)) (hL : Ints w.heap.size w a zs) :
    Calls Try.prog 86 #[.func (.func 123) #[] #[.pointer (some ⟨Bv, 0, none⟩)]] w fun e W' => ∃ v, e = .returned v ∧ W'.ownsRow w.heap.size 3 1 v zs.length ((srt zs).map (Value.int .i64)) ∧ Below w.heap.size w W' := by
  have hco := Lib.hid (collect_any a cap Bv zs hlen w hBv hc0 hL)
  clear hc0
  go_enter Try.func86, Try.ntmps86
  go_wp2_with fail
  refine hco.out.mono ?_
  rintro e W ⟨v, rfl, hrow, hnil, hb⟩
  rcases hrow.2 with ⟨rfl, hz⟩ | ⟨gb, cap2, cur, rfl, hbase, hgb, r1, r2, r3, r4⟩
  · have hzs : zs = [] := List.eq_nil_of_length_eq_zero hz
    subst hzs
    have hfin := Lib.hid (And.intro hrow hb)
    clear hrow hb hnil hz
    go_wp2_with fail
    refine (Try.slices_Sort_int_none none 0 W).mono ?_
    rintro e w' ⟨rfl, rfl⟩
    go_wp2
    go_ret
    exact ⟨_, rfl, by simpa [srt] using hfin.out.1, hfin.out.2⟩
  · have hH : Holds (Value.int .i64) W gb 0 zs.toArray := holds_of_block_i hgb (by simpa using r4)
    have hgl : gb < W.heap.size := (Array.getElem?_eq_some_iff.1 hgb).1
    have cS := Lib.hid (Try.slices_Sort_int gb 0 cap2 zs W hH hgl (by omega))
    have hfin : ∀ nn os, (grow (putRow (Value.int .i64) (Sort.ahead W nn) gb 0 (zs.mergeSort fun x y => decide (x ≤ y)).toArray) os).ownsRow w.heap.size 3 1 (.slice (some ⟨gb, 0, none⟩) zs.length cap2) zs.length ((srt zs).map (Value.int .i64)) ∧ Below w.heap.size w (grow (putRow (Value.int .i64) (Sort.ahead W nn) gb 0 (zs.mergeSort fun x y => decide (x ≤ y)).toArray) os) :=
      fun nn os => ⟨ownsRow_sorted_i (by simp) hbase hgb r1 r2 r3, hb.grown (grownBy_sorted_i _) hb.size (fun j hj => by cases hj; exact hbase)⟩
    have hfin' := Lib.hid hfin
    clear hfin hgb r4 hrow hnil hH
    go_wp2_with fail
    refine cS.out.mono ?_
    rintro e w' ⟨rfl, nn, os, rfl⟩
    go_wp2
    go_ret
    exact ⟨_, rfl, hfin'.out nn os⟩
end Seq
end Go.Proofs.Ytmmekdkllccmdaa
