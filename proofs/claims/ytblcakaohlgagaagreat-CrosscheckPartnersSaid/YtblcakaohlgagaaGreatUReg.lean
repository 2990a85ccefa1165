/-
  DERIVED: THE SHELF's CONTRACTS AT THIS DUMP, IN PLAIN WORDS (tools/lay-plain.mjs out of 'TryzShelf.lean', which tools/lay-shelf.mjs wrote): THE SAME DECLARATIONS UNDER THE SAME NAMES: 'import', 'namespace', 'open', 'def', 'theorem' AND NOTHING ELSE: no command of the shelf's: FOR A HAND-IN. Each laying: the table of numbers ('.._ren') and one theorem, a field a fact of the dump's own or the kernel's comparison; each contract: ONE APPLICATION.
-/
import Derived.Shelf.Small.Bits
import Derived.Shelf.Strconv.Itoa0
import Derived.Shelf.Sort.Plain
import Derived.Ground.Names2Prog
import Derived.Shelf.Slices.CompactI
import Derived.Shelf.Slices.SearchI
import Derived.Shelf.Slices.Cells
import Derived.Shelf.Slices.In.SortNone
import Derived.Shelf.Slices.Empties
import Derived.Test.YtblcakaohlgagaaGreatProg
import Derived.Shelf.SlSortCmp.NoneTotal
import Derived.Shelf.SlicesG.Cmp
import Derived.Shelf.Spec.SlicesGrow
import Derived.Ground.SlsfProg
import Derived.Ground.SlgcProg
import Derived.Ground.Names8Prog
import Derived.Test.YtblcakaohlgagaaGreatUEngC
import Derived.Test.YtblcakaohlgagaaGreatUPlain
import Derived.Sort.OwnSortedInts
import Derived.Lib.RowBridge
namespace Go.Proofs
open Go.Shelf
def Tryz.lays189_ren : Go.Shelf.Ren := ⟨fun | 189 => 106 | 125 => 98 | 257 => 133 | 128 => 122 | 129 => 123 | 294 => 146 | 295 => 147 | 296 => 148 | 297 => 149 | 298 => 150 | 299 => 151 | 216 => 152 | 300 => 153 | 301 => 154 | 328 => 166 | 329 => 139 | 330 => 140 | 331 => 167 | 332 => 168 | 215 => 124 | 343 => 172 | n => n, fun | 28 => 22 | 3 => 3 | 46 => 144 | 0 => 0 | 51 => 173 | 53 => 175 | 4 => 4 | 183 => 166 | 182 => 165 | 131 => 170 | 5 => 5 | 9 => 9 | 218 => 187 | 222 => 191 | 228 => 207 | 229 => 208 | n => n, fun | n => n⟩
theorem Tryz.lays189 : Go.Proofs.Lays.n189 Tryz.prog Tryz.lays189_ren := {
  mixed := by kernel_rfl
  f125 := Tryz.func98.trans (congrArg some (by kernel_rfl))
  f128 := Tryz.func122.trans (congrArg some (by kernel_rfl))
  f129 := Tryz.func123.trans (congrArg some (by kernel_rfl))
  f189 := Tryz.func106.trans (congrArg some (by kernel_rfl))
  f215 := Tryz.func124.trans (congrArg some (by kernel_rfl))
  f216 := Tryz.func152.trans (congrArg some (by kernel_rfl))
  f257 := Tryz.func133.trans (congrArg some (by kernel_rfl))
  f294 := Tryz.func146.trans (congrArg some (by kernel_rfl))
  f295 := Tryz.func147.trans (congrArg some (by kernel_rfl))
  f296 := Tryz.func148.trans (congrArg some (by kernel_rfl))
  f297 := Tryz.func149.trans (congrArg some (by kernel_rfl))
  f298 := Tryz.func150.trans (congrArg some (by kernel_rfl))
  f299 := Tryz.func151.trans (congrArg some (by kernel_rfl))
  f300 := Tryz.func153.trans (congrArg some (by kernel_rfl))
  f301 := Tryz.func154.trans (congrArg some (by kernel_rfl))
  f328 := Tryz.func166.trans (congrArg some (by kernel_rfl))
  f329 := Tryz.func139.trans (congrArg some (by kernel_rfl))
  f330 := Tryz.func140.trans (congrArg some (by kernel_rfl))
  f331 := Tryz.func167.trans (congrArg some (by kernel_rfl))
  f332 := Tryz.func168.trans (congrArg some (by kernel_rfl))
  f343 := Tryz.func172.trans (congrArg some (by kernel_rfl))
  t0 := Tryz.underlying0
  a0 := Tryz.isAgg0
  z0 := Tryz.sizeOf0
  v0 := Tryz.zeroValue0
  t3 := Tryz.underlying3
  a3 := Tryz.isAgg3
  z3 := Tryz.sizeOf3
  v3 := Tryz.zeroValue3
  t4 := Tryz.underlying4
  a4 := Tryz.isAgg4
  z4 := Tryz.sizeOf4
  v4 := Tryz.zeroValue4
  t5 := Tryz.underlying5
  a5 := Tryz.isAgg5
  z5 := Tryz.sizeOf5
  v5 := Tryz.zeroValue5
  t9 := Tryz.underlying9
  a9 := Tryz.isAgg9
  z9 := Tryz.sizeOf9
  v9 := Tryz.zeroValue9
  t28 := Tryz.underlying22
  a28 := Tryz.isAgg22
  z28 := Tryz.sizeOf22
  v28 := Tryz.zeroValue22
  t46 := Tryz.underlying144
  a46 := Tryz.isAgg144
  z46 := Tryz.sizeOf144
  v46 := Tryz.zeroValue144
  t51 := Tryz.underlying173
  a51 := Tryz.isAgg173
  z51 := Tryz.sizeOf173
  v51 := Tryz.zeroValue173
  t53 := Tryz.underlying175
  a53 := Tryz.isAgg175
  z53 := Tryz.sizeOf175
  v53 := Tryz.zeroValue175
  t131 := Tryz.underlying170
  a131 := Tryz.isAgg170
  z131 := Tryz.sizeOf170
  v131 := Tryz.zeroValue170
  t182 := Tryz.underlying165
  a182 := Tryz.isAgg165
  z182 := Tryz.sizeOf165
  v182 := Tryz.zeroValue165
  t183 := Tryz.underlying166
  a183 := Tryz.isAgg166
  z183 := Tryz.sizeOf166
  v183 := Tryz.zeroValue166
  t218 := Tryz.underlying187
  a218 := Tryz.isAgg187
  z218 := Tryz.sizeOf187
  v218 := Tryz.zeroValue187
  t222 := Tryz.underlying191
  a222 := Tryz.isAgg191
  z222 := Tryz.sizeOf191
  v222 := Tryz.zeroValue191
  t228 := Tryz.underlying207
  a228 := Tryz.isAgg207
  z228 := Tryz.sizeOf207
  v228 := Tryz.zeroValue207
  t229 := Tryz.underlying208
  a229 := Tryz.isAgg208
  z229 := Tryz.sizeOf208
  v229 := Tryz.zeroValue208 }
open Go.Sort Go.RowKit in
theorem Tryz.slices_Sort_int (blk off cap : Nat) (zs : List Int) (w : World) (hH : Holds (Value.int .i64) w blk off zs.toArray) (hblk : blk < w.heap.size) (hsz : zs.length < 4611686018427387904) :
    Calls Tryz.prog 106 #[.slice (some ⟨blk, off, none⟩) zs.length cap] w fun e w' =>
      e = .returned (.tuple #[]) ∧ ∃ n os, w' = grow (putRow (Value.int .i64) (Sort.ahead w n) blk off (zs.mergeSort fun x y => decide (x ≤ y)).toArray) os := Any.slices_Sort_int Tryz.lays189 blk off cap zs w hH hblk hsz
def Tryz.laysNm220_ren : Go.Shelf.Ren := ⟨fun | 20 => 107 | n => n, fun | 22 => 22 | 3 => 3 | 4 => 4 | 0 => 0 | n => n, fun | n => n⟩
theorem Tryz.laysNm220 : Go.Proofs.Lays2.n20 Tryz.prog Tryz.laysNm220_ren := {
  mixed := by kernel_rfl
  f20 := Tryz.func107.trans (congrArg some (by kernel_rfl))
  t0 := Tryz.underlying0
  a0 := Tryz.isAgg0
  z0 := Tryz.sizeOf0
  v0 := Tryz.zeroValue0
  t3 := Tryz.underlying3
  a3 := Tryz.isAgg3
  z3 := Tryz.sizeOf3
  v3 := Tryz.zeroValue3
  t4 := Tryz.underlying4
  a4 := Tryz.isAgg4
  z4 := Tryz.sizeOf4
  v4 := Tryz.zeroValue4
  t22 := Tryz.underlying22
  a22 := Tryz.isAgg22
  z22 := Tryz.sizeOf22
  v22 := Tryz.zeroValue22
  i3 := by kernel_rfl }
open Go.RowKit Go.Lib Go.Sort in
/-- slices.Compact at []int: "Compact replaces consecutive runs of equal elements with a single copy. This is like the uniq command found on Unix. Compact modifies the contents of the slice s and returns the modified slice, which may have a smaller length. Compact zeroes the elements between the new length and the original length. The result preserves the nilness of s.": IT RETURNS THE SLICE CUT TO 'Lib.compact zs'; ITS CELLS HOLD 'Lib.compact zs', THEN ZERO VALUES up to the old length; all else is as it was, but for the count of draws. IN THE WORDS OF slices.Sort's CONTRACT ('Holds', 'putRow'): so the everyday 'slices.Sort(xs); xs = slices.Compact(xs)' goes from the one contract to the other. It asks 'zs.length ≤ cap' (every slice's: the reslicing 's[:k]' looks at it). Length 0, nil: '.._empty'. (LAID: no walk: one application.) -/
theorem Tryz.slices_Compact_int (blk off cap : Nat) (zs : List Int) (w : World) (hH : Holds (Value.int .i64) w blk off zs.toArray) (hsz : zs.length ≤ 9223372036854775807) (hcap : zs.length ≤ cap) :
    Calls Tryz.prog 107 #[.slice (some ⟨blk, off, none⟩) zs.length cap] w fun e w' => e = .returned (.slice (some ⟨blk, off, none⟩) (Lib.compact zs).length cap) ∧ ∃ q, w' = putRow (Value.int .i64) (Sort.ahead w q) blk off (Lib.compact zs ++ List.replicate (zs.length - (Lib.compact zs).length) 0).toArray := Any.slices_Compact_int Tryz.laysNm220 blk off cap zs w hH hsz hcap
open Go.RowKit Go.Lib Go.Sort in
/-- The same at a slice of length 0, a nil one too: it comes back as it is. (LAID: no walk: one application.) -/
theorem Tryz.slices_Compact_int_empty (a : Option Addr) (cap : Nat) (w : World) :
    Calls Tryz.prog 107 #[.slice a 0 cap] w fun e w' => e = .returned (.slice a 0 cap) ∧ w' = w := Any.slices_Compact_int_empty Tryz.laysNm220 a cap w
open Go.RowKit Go.Sort in
/-- .. and plain. (LAID: no walk: one application.) -/
theorem Tryz.slices_Sort_int_none (p : Option Addr) (cap : Nat) (w : World) :
    Calls Tryz.prog 106 #[.slice p 0 cap] w fun e w' => e = .returned (.tuple #[]) ∧ w' = w := Any.slices_Sort_int_none Tryz.lays189 p cap w
end Go.Proofs
namespace Go.Proofs
open Go.Shelf
def Tryz.sortSp_ren : Go.Shelf.Ren := ⟨fun | 6 => 110 | 15 => 98 | 14 => 137 | 28 => 122 | 29 => 123 | 20 => 156 | 21 => 157 | 22 => 158 | 23 => 159 | 24 => 160 | 25 => 161 | 26 => 162 | 27 => 163 | 46 => 169 | 47 => 139 | 48 => 140 | 49 => 170 | 50 => 171 | 57 => 173 | n => n, fun | 22 => 125 | 24 => 155 | 25 => 162 | 3 => 3 | 39 => 144 | 0 => 0 | 53 => 173 | 55 => 175 | 4 => 4 | 46 => 166 | 45 => 165 | 50 => 170 | 5 => 5 | 9 => 9 | 66 => 187 | 70 => 191 | 76 => 207 | 77 => 208 | n => n, fun | n => n⟩
theorem Tryz.sortSp : Go.Proofs.SlLaysF0.n6 Tryz.prog Tryz.sortSp_ren := {
  mixed := by kernel_rfl
  f6 := ⟨Tryz.f110.name, by decide, Tryz.func110.trans (congrArg some (by kernel_rfl))⟩
  f14 := ⟨Tryz.f137.name, by decide, Tryz.func137.trans (congrArg some (by kernel_rfl))⟩
  f15 := Tryz.func98.trans (congrArg some (by kernel_rfl))
  f20 := ⟨Tryz.f156.name, by decide, Tryz.func156.trans (congrArg some (by kernel_rfl))⟩
  f21 := ⟨Tryz.f157.name, by decide, Tryz.func157.trans (congrArg some (by kernel_rfl))⟩
  f22 := ⟨Tryz.f158.name, by decide, Tryz.func158.trans (congrArg some (by kernel_rfl))⟩
  f23 := ⟨Tryz.f159.name, by decide, Tryz.func159.trans (congrArg some (by kernel_rfl))⟩
  f24 := ⟨Tryz.f160.name, by decide, Tryz.func160.trans (congrArg some (by kernel_rfl))⟩
  f25 := ⟨Tryz.f161.name, by decide, Tryz.func161.trans (congrArg some (by kernel_rfl))⟩
  f26 := ⟨Tryz.f162.name, by decide, Tryz.func162.trans (congrArg some (by kernel_rfl))⟩
  f27 := ⟨Tryz.f163.name, by decide, Tryz.func163.trans (congrArg some (by kernel_rfl))⟩
  f28 := Tryz.func122.trans (congrArg some (by kernel_rfl))
  f29 := Tryz.func123.trans (congrArg some (by kernel_rfl))
  f46 := ⟨Tryz.f169.name, by decide, Tryz.func169.trans (congrArg some (by kernel_rfl))⟩
  f47 := Tryz.func139.trans (congrArg some (by kernel_rfl))
  f48 := Tryz.func140.trans (congrArg some (by kernel_rfl))
  f49 := ⟨Tryz.f170.name, by decide, Tryz.func170.trans (congrArg some (by kernel_rfl))⟩
  f50 := ⟨Tryz.f171.name, by decide, Tryz.func171.trans (congrArg some (by kernel_rfl))⟩
  f57 := ⟨Tryz.f173.name, by decide, Tryz.func173.trans (congrArg some (by kernel_rfl))⟩
  t0 := Tryz.underlying0
  a0 := Tryz.isAgg0
  z0 := Tryz.sizeOf0
  v0 := Tryz.zeroValue0
  t3 := Tryz.underlying3
  a3 := Tryz.isAgg3
  z3 := Tryz.sizeOf3
  v3 := Tryz.zeroValue3
  t4 := Tryz.underlying4
  a4 := Tryz.isAgg4
  z4 := Tryz.sizeOf4
  v4 := Tryz.zeroValue4
  t5 := Tryz.underlying5
  a5 := Tryz.isAgg5
  z5 := Tryz.sizeOf5
  v5 := Tryz.zeroValue5
  t9 := Tryz.underlying9
  a9 := Tryz.isAgg9
  z9 := Tryz.sizeOf9
  v9 := Tryz.zeroValue9
  t22 := Tryz.underlying125
  a22 := Tryz.isAgg125
  z22 := Tryz.sizeOf125
  v22 := Tryz.zeroValue125
  t25 := Tryz.underlying162
  a25 := Tryz.isAgg162
  z25 := Tryz.sizeOf162
  v25 := Tryz.zeroValue162
  t39 := Tryz.underlying144
  a39 := Tryz.isAgg144
  z39 := Tryz.sizeOf144
  v39 := Tryz.zeroValue144
  t45 := Tryz.underlying165
  a45 := Tryz.isAgg165
  z45 := Tryz.sizeOf165
  v45 := Tryz.zeroValue165
  t46 := Tryz.underlying166
  a46 := Tryz.isAgg166
  z46 := Tryz.sizeOf166
  v46 := Tryz.zeroValue166
  t50 := Tryz.underlying170
  a50 := Tryz.isAgg170
  z50 := Tryz.sizeOf170
  v50 := Tryz.zeroValue170
  t53 := Tryz.underlying173
  a53 := Tryz.isAgg173
  z53 := Tryz.sizeOf173
  v53 := Tryz.zeroValue173
  t55 := Tryz.underlying175
  a55 := Tryz.isAgg175
  z55 := Tryz.sizeOf175
  v55 := Tryz.zeroValue175
  t66 := Tryz.underlying187
  a66 := Tryz.isAgg187
  z66 := Tryz.sizeOf187
  v66 := Tryz.zeroValue187
  t70 := Tryz.underlying191
  a70 := Tryz.isAgg191
  z70 := Tryz.sizeOf191
  v70 := Tryz.zeroValue191
  t76 := Tryz.underlying207
  a76 := Tryz.isAgg207
  z76 := Tryz.sizeOf207
  v76 := Tryz.zeroValue207
  t77 := Tryz.underlying208
  a77 := Tryz.isAgg208
  z77 := Tryz.sizeOf208
  v77 := Tryz.zeroValue208 }
def Tryz.cmpSp_ren : Go.Shelf.Ren := ⟨fun | 5 => 100 | 7 => 124 | n => n, fun | 22 => 3 | 3 => 3 | 4 => 4 | n => n, fun | n => n⟩
theorem Tryz.cmpSp : Go.Proofs.SlLaysC2.n5 Tryz.prog Tryz.cmpSp_ren := {
  mixed := by kernel_rfl
  f5 := ⟨Tryz.f100.name, by decide, Tryz.func100.trans (congrArg some (by kernel_rfl))⟩
  f7 := ⟨Tryz.f124.name, by decide, Tryz.func124.trans (congrArg some (by kernel_rfl))⟩
  t3 := Tryz.underlying3
  a3 := Tryz.isAgg3
  z3 := Tryz.sizeOf3
  v3 := Tryz.zeroValue3
  t4 := Tryz.underlying4
  a4 := Tryz.isAgg4
  z4 := Tryz.sizeOf4
  v4 := Tryz.zeroValue4
  t22 := Tryz.underlying3
  a22 := Tryz.isAgg3
  z22 := Tryz.sizeOf3
  v22 := Tryz.zeroValue3 }
def Tryz.growSp_ren : Go.Shelf.Ren := ⟨fun | 4 => 134 | n => n, fun | 22 => 125 | 25 => 155 | 3 => 3 | 4 => 4 | 9 => 9 | 20 => 20 | 0 => 0 | 2 => 3 | n => n, fun | n => n⟩
theorem Tryz.growSp : Go.Proofs.Lays8.n4 Tryz.prog Tryz.growSp_ren := {
  mixed := by kernel_rfl
  f4 := ⟨Tryz.f134.name, by decide, Tryz.func134.trans (congrArg some (by kernel_rfl))⟩
  t0 := Tryz.underlying0
  a0 := Tryz.isAgg0
  z0 := Tryz.sizeOf0
  v0 := Tryz.zeroValue0
  t3 := Tryz.underlying3
  a3 := Tryz.isAgg3
  z3 := Tryz.sizeOf3
  v3 := Tryz.zeroValue3
  t4 := Tryz.underlying4
  a4 := Tryz.isAgg4
  z4 := Tryz.sizeOf4
  v4 := Tryz.zeroValue4
  t9 := Tryz.underlying9
  a9 := Tryz.isAgg9
  z9 := Tryz.sizeOf9
  v9 := Tryz.zeroValue9
  t20 := Tryz.underlying20
  a20 := Tryz.isAgg20
  z20 := Tryz.sizeOf20
  v20 := Tryz.zeroValue20
  t22 := Tryz.underlying125
  a22 := Tryz.isAgg125
  z22 := Tryz.sizeOf125
  v22 := Tryz.zeroValue125 }
end Go.Proofs
set_option linter.unusedVariables false
set_option maxRecDepth 100000
namespace Go.Proofs.YtblcakaohlgagaaGreat
open Go.RowKit Go.Sort
namespace RE
open PL
namespace PL
def sortI (l : List Int) : List Int := l.mergeSort fun x y => decide (x ≤ y)
end PL
def ssort_sp : Spec3 := ⟨106, .int .i64, none, fun (l : List Int) post => l.length ≤ 1000000 ∧ post (sortI l)⟩
theorem row_ints {w : World} {S : Cells} {cur : Array Value} {l : List Int} (h : ∀ (i : Nat) (x : Int), l[i]? = some x → ∀ (j : Nat) (c : D), (enc (.int .i64) x)[j]? = some c → ∃ u : Value, cur[i * size (.int .i64) + j]? = some u ∧ u.oneCell' = true ∧ Rd S w c u) :
    cur.toList.take l.length = l.map (Value.int .i64) := by
  apply List.ext_getElem?
  intro i
  by_cases hi : i < l.length
  · rw [List.getElem?_take_of_lt hi, Array.getElem?_toList, List.getElem?_map]
    obtain ⟨u, h1, _, h3⟩ := h i l[i] (List.getElem?_eq_getElem hi) 0 _ rfl
    have h1 : cur[i * 1 + 0]? = some u := h1
    rw [Nat.mul_one, Nat.add_zero] at h1
    rw [h1, List.getElem?_eq_getElem hi]
    have h3 : Rd S w (.v (.int .i64 l[i])) u := h3
    rw [rd_v h3]; rfl
  · rw [List.getElem?_take_eq_none (by omega), List.getElem?_eq_none (by simp; omega)]
theorem ssort_ok : Spec3OK Tryz.prog ssort_sp := by
  intro (l : List Int) post hp w S v F e hrow hS hF
  obtain ⟨hlen, hp⟩ := hp
  obtain ⟨h0, ⟨rfl, ⟨ad, rfl⟩, hn⟩ | ⟨g, cap, cur, rfl, hFg, hg, hnl, hcm, hcs, hrr⟩⟩ := hrow
  · refine (Tryz.slices_Sort_int_none ad 0 w).mono ?_
    rintro e' w' ⟨rfl, rfl⟩
    have e : sortI [] = [] := List.mergeSort_nil
    have hp : post (sortI []) := hp
    rw [e] at hp
    exact ⟨_, [], rfl, hp, ⟨h0, .inl ⟨rfl, ⟨ad, rfl⟩, hn⟩⟩, rfl, rfl, rfl, Nat.le_refl _, fun _ _ _ => rfl⟩
  · have hgl := (Array.getElem?_eq_some_iff.1 hg).1
    have hnl : List.length (l : List Int) ≤ cap := hnl
    have hl2 : (sortI l).length = List.length (l : List Int) := List.length_mergeSort ..
    refine (Tryz.slices_Sort_int g 0 cap l w (holds_of_blockI hg (row_ints hrr)) hgl (by have hlen : List.length (l : List Int) ≤ 1000000 := hlen; omega)).mono ?_
    rintro e' w' ⟨rfl, n, os, rfl⟩
    have hG := grownBy_sortedI (w := w) (n := n) (g := g) (os := os) (sortI l).toArray
    refine ⟨_, sortI l, rfl, hp, ⟨h0, .inr ⟨g, cap, _, congrArg (fun n => Value.slice (some ⟨g, 0, none⟩) n cap) hl2.symm, hFg, heap_sortedI _ hg, hl2 ▸ hnl, hcm, by simp [putCells, hcs], fun i (x : Int) hx j c hc => ?_⟩⟩, hG.os, hG.tape, hG.output, hG.size, fun b hb hnF => hG.block b hb fun e => hnF ((hFg b).2 (Option.some.inj e))⟩
    have hi : i < (sortI l).length := (List.getElem?_eq_some_iff.1 hx).1
    cases j with
    | succ j => cases (show ([] : List D)[j]? = some c from hc)
    | zero =>
      have hc : [D.v (.int .i64 x)][0]? = some c := hc
      simp at hc
      subst hc
      refine ⟨.int .i64 x, ?_, rfl, .v _⟩
      show (putCells (Value.int .i64) 0 (sortI l).toArray cur)[i * 1 + 0]? = _
      rw [Nat.mul_one, Nat.add_zero]
      have hcs : cur.size = cap * 1 := hcs
      have h1 : i < cur.size := by omega
      simp only [putCells, Array.getElem?_mapIdx, Array.getElem?_eq_getElem h1, Option.map_some, Nat.zero_le, true_and, Nat.zero_add, List.size_toArray, if_pos hi, Nat.sub_zero]
      have : (sortI l).toArray[i]! = x := by
        have h2 : (sortI l)[i] = x := (List.getElem?_eq_some_iff.1 hx).2
        rw [← h2]
        simp [hi]
      rw [this]
end RE
end Go.Proofs.YtblcakaohlgagaaGreat
set_option maxRecDepth 100000
set_option linter.unusedVariables false
namespace Go.Proofs.YtblcakaohlgagaaGreat
open Go.RowKit
namespace RE
open PL
def rput_P (l : List (Int)) (n : Int) (post : List (Int) → Prop) : Prop := (l.length ≤ 1000000) ∧ post (putS n l)
def rput_sp : Spec := ⟨71, false, true, [.sl (.int .i64), .int .i64], .dat (.sl (.int .i64)), fun x post => rput_P (x.1 : List (Int)) (x.2.1 : Int) (fun y0 => post (y0, ()))⟩
def rput_C : CtxR := ⟨tau, [], lookJ [(0, 1000006, ⟨[(4, .own 3 (.int .i64))], [], [33, 34, 35, 36, 37, 38, 39, 40, 41, 42, 43, 44], [], []⟩), (0, 5, ⟨[(5, .dat (.int .i64))], [], [6, 7, 8, 9, 10, 17, 11, 12, 13, 14, 15, 16, 18, 19], [], []⟩)]⟩
def rput_W (l : List (Int)) (n : Int) (post : List (Int) → Prop) : Prop := LOOP [Ty.int IntKind.i64] (fun (rec1 : Int → Prop) (z2 : Int) ↦ (↑l.length : Int) ≤ (9223372036854775807 : Int) → (gx true (decide (z2 < (↑l.length : Int))) = true → (0 : Int) ≤ z2 ∧ z2 < (↑l.length : Int)) ∧ IFB (decide (z2 < (↑l.length : Int)) && decide (ix l z2 < n)) (rec1 (IntKind.i64.wrap (z2 + (1 : Int)))) ((↑l.length : Int) ≤ (9223372036854775807 : Int) → (gx true (decide (z2 < (↑l.length : Int))) = true → (0 : Int) ≤ z2 ∧ z2 < (↑l.length : Int)) ∧ IFB (decide (z2 < (↑l.length : Int)) && decide (ix l z2 = n)) (post l) (JOIN [(Ty.int IntKind.i64).sl] (fun (y3 : List Int) ↦ post y3) fun (J4 : List Int → Prop) ↦ (Int.NonNeg (0 : Int) ∧ (0 : Int) ≤ z2 ∧ z2 ≤ (↑l.length : Int)) ∧ ((0 : Int) ≤ z2 ∧ z2 ≤ (↑l.length : Int) ∧ (↑l.length : Int) ≤ (↑l.length : Int)) ∧ ((((0 : Nat) + (sub l (0 : Int) z2).length) * (8 : Nat) ≤ (140737488355328 : Nat) ∧ (([] ++ sub l (0 : Int) z2).length + [n].length) * (8 : Nat) ≤ (140737488355328 : Nat) ∧ (([] ++ sub l (0 : Int) z2 ++ [n]).length + (sub l z2 (↑l.length : Int)).length) * (8 : Nat) ≤ (140737488355328 : Nat) ∧ J4 ([] ++ sub l (0 : Int) z2 ++ [n] ++ sub l z2 (↑l.length : Int))) ∧ ((0 : Nat) + (sub l (0 : Int) z2).length) * (8 : Nat) ≤ (140737488355328 : Nat) ∧ (([] ++ sub l (0 : Int) z2).length + [n].length) * (8 : Nat) ≤ (140737488355328 : Nat) ∧ (([] ++ sub l (0 : Int) z2 ++ [n]).length + (sub l z2 (↑l.length : Int)).length) * (8 : Nat) ≤ (140737488355328 : Nat) ∧ J4 ([] ++ sub l (0 : Int) z2 ++ [n] ++ sub l z2 (↑l.length : Int))) ∧ ((0 : Nat) + (sub l (0 : Int) z2).length) * (8 : Nat) ≤ (140737488355328 : Nat) ∧ (([] ++ sub l (0 : Int) z2).length + [n].length) * (8 : Nat) ≤ (140737488355328 : Nat) ∧ (([] ++ sub l (0 : Int) z2 ++ [n]).length + (sub l z2 (↑l.length : Int)).length) * (8 : Nat) ≤ (140737488355328 : Nat) ∧ J4 ([] ++ sub l (0 : Int) z2 ++ [n] ++ sub l z2 (↑l.length : Int))))) ((0 : Int), PUnit.unit)
theorem rput_w (l : List (Int)) (n : Int) (post : dens (shT rput_sp.rs []) → Prop) : rput_W l n (fun y0 => post (y0, ())) = walkG (callR Tryz.prog rput_C (drawR Tryz.prog tau) 8 0) 71 false [tv (.sl (.int .i64)) l, tv (.int .i64) n] rput_sp.rs post := by kernel_rfl
theorem rput_of (h : ∀ (l : List (Int)) (n : Int) (post : List (Int) → Prop), rput_P l n post → rput_W l n post) : SpecOK Tryz.prog rput_sp := SpecOK.of_rules (C := rput_C) (dr := drawR Tryz.prog tau) (n := 8) (fk := 0) .nil (drawR_ok tau) fun x post hp => HoldW.of (rput_w x.1 x.2.1 post) (h x.1 x.2.1 (fun y0 => post (y0, ())) hp)
theorem rput_ok : SpecOK Tryz.prog rput_sp := rput_of fun l n post hp => by
  obtain ⟨hl, hp⟩ := hp
  unfold rput_W
  refine LOOP.fuel (fun u => ∃ k : Nat, u.1 = (k : Int) ∧ k ≤ l.length ∧ putS n l = l.take k ++ putS n (l.drop k)) (fun u => l.length - Int.toNat u.1) ⟨0, rfl, Nat.zero_le _, rfl⟩ ?_
  rintro rec ⟨(z : Int), ⟨⟩⟩ ⟨k, hz, hk, he⟩ hrec
  have hz : z = (k : Int) := hz
  subst hz
  rw [he] at hp
  intro _
  show _ ∧ IFB _ _ _
  rw [sub_front, sub_back]
  by_cases hlt : k < l.length
  · have hd : l.drop k = l[k] :: l.drop (k + 1) := List.drop_eq_getElem_cons hlt
    have hx := ix_lt hlt
    rw [hx, wrapS (by omega)]
    rw [hd] at hp he
    have ht : l.take k ++ (l[k] :: l.drop (k + 1)) = l := by rw [← hd, List.take_append_drop]
    refine ⟨fun _ => by omega, IFB.mk (fun hb => ?_) (fun hb _ => ⟨fun _ => by omega, IFB.mk (fun hb2 => ?_) (fun hb2 => ?_)⟩)⟩
    · have hb : l[k] < n := by simpa [hlt] using hb
      refine hrec (((k + 1 : Nat) : Int), ()) ⟨k + 1, rfl, hlt, ?_⟩ (by show l.length - ((k + 1 : Nat) : Int).toNat < l.length - (k : Int).toNat; omega)
      rw [he]
      simp only [putS, if_pos hb]
      have ht2 : l.take (k + 1) = l.take k ++ [l[k]] := by simp
      rw [ht2, List.append_assoc]; rfl
    · have hb : ¬ l[k] < n := by simpa [hlt] using hb
      have hb2 : l[k] = n := by simpa [hlt] using hb2
      simp only [putS, if_neg hb, if_pos hb2, ht] at hp
      exact hp
    · have hb : ¬ l[k] < n := by simpa [hlt] using hb
      have hb2 : ¬ l[k] = n := by simpa [hlt] using hb2
      simp only [putS, if_neg hb, if_neg hb2] at hp
      refine JOIN.opq fun (J : List Int → Prop) hJ => ?_
      have hJ : J ([] ++ l.take k ++ [n] ++ l.drop k) := by
        rw [hJ, hd]
        simpa using hp
      have h1 : (l.take k).length ≤ 1000000 := by simp; omega
      have h2 : (l.drop k).length ≤ 1000000 := by simp; omega
      refine ⟨⟨Int.NonNeg.mk _, by omega, by omega⟩, ⟨by omega, by omega, by omega⟩, ⟨?_, ?_⟩, ?_⟩
      all_goals
        refine ⟨by omega, ?_, ?_, hJ⟩
        · simp only [List.nil_append, List.length_singleton]; omega
        · simp only [List.nil_append, List.length_append, List.length_singleton]; omega
  · have hk2 : k = l.length := by omega
    subst hk2
    refine ⟨fun h => absurd (of_decide_eq_true (show decide ((l.length : Int) < l.length) = true from h)) (by omega), IFB.mk (fun hb => by simp at hb) (fun _ _ => ⟨fun h => absurd (of_decide_eq_true (show decide ((l.length : Int) < l.length) = true from h)) (by omega), IFB.mk (fun hb => by simp at hb) (fun _ => ?_)⟩)⟩
    rw [List.drop_length] at hp
    refine JOIN.opq fun (J : List Int → Prop) hJ => ?_
    have hJ : J ([] ++ l.take l.length ++ [n] ++ l.drop l.length) := by
      rw [hJ]
      simpa [putS] using hp
    have h1 : (l.take l.length).length ≤ 1000000 := by simp; omega
    have h2 : (l.drop l.length).length ≤ 1000000 := by simp
    refine ⟨⟨Int.NonNeg.mk _, by omega, by omega⟩, ⟨by omega, by omega, by omega⟩, ⟨?_, ?_⟩, ?_⟩
    all_goals
      refine ⟨by omega, ?_, ?_, hJ⟩
      · simp only [List.nil_append, List.length_singleton]; omega
      · simp only [List.nil_append, List.length_append, List.length_singleton]; omega
def rins_P (l : List (api_Rect)) (x : Int) (y : Int) (post : Bool → Prop) : Prop := (l.length ≤ 1000000) ∧ post (cov l x y)
def rins_sp : Spec := ⟨82, false, false, [.sl (.st .api_Rect), .int .i64, .int .i64], .dat (.bool), fun x post => rins_P (x.1 : List (api_Rect)) (x.2.1 : Int) (x.2.2.1 : Int) (fun y0 => post (y0, ()))⟩
def rins_C : CtxR := ⟨tau, [], lookJ [(0, 5, ⟨[(11, .dat (.int .i64))], [], [12, 13, 14, 8, 15, 16, 17, 18, 19, 24, 25, 30, 31, 36, 20, 21, 22, 23, 26, 27, 28, 29, 32, 33, 34, 35, 37], [], []⟩)]⟩
def rins_W (l : List (api_Rect)) (x : Int) (y : Int) (post : Bool → Prop) : Prop := (↑l.length : Int) ≤ (9223372036854775807 : Int) → LOOP [Ty.int IntKind.i64] (fun (rec1 : Int → Prop) (z2 : Int) ↦ IFB (decide (z2 < (↑l.length : Int))) (((0 : Int) ≤ z2 ∧ z2 < (↑l.length : Int)) ∧ IFB (decide ((ix l z2).1 ≤ x) && decide (x < (ix l z2).3) && decide ((ix l z2).2 ≤ y) && decide (y < (ix l z2).4)) (post true) (rec1 (IntKind.i64.wrap (z2 + (1 : Int))))) (post false)) ((0 : Int), PUnit.unit)
theorem rins_w (l : List (api_Rect)) (x : Int) (y : Int) (post : dens (shT rins_sp.rs []) → Prop) : rins_W l x y (fun y0 => post (y0, ())) = walkG (callR Tryz.prog rins_C (drawR Tryz.prog tau) 8 0) 82 false [tv (.sl (.st .api_Rect)) l, tv (.int .i64) x, tv (.int .i64) y] rins_sp.rs post := by kernel_rfl
theorem rins_of (h : ∀ (l : List (api_Rect)) (x : Int) (y : Int) (post : Bool → Prop), rins_P l x y post → rins_W l x y post) : SpecOK Tryz.prog rins_sp := SpecOK.of_rules (C := rins_C) (dr := drawR Tryz.prog tau) (n := 8) (fk := 0) .nil (drawR_ok tau) fun x post hp => HoldW.of (rins_w x.1 x.2.1 x.2.2.1 post) (h x.1 x.2.1 x.2.2.1 (fun y0 => post (y0, ())) hp)
theorem rins_ok : SpecOK Tryz.prog rins_sp := rins_of fun l x y post hp => by
  obtain ⟨hl, hp⟩ := hp
  unfold rins_W
  intro _
  refine loopCmp (n := l.length) (by omega) (p := fun j => hit (ix l (j : Int)) x y = false) (fun rec k hk hpre hrec => ⟨by omega, IFB.mk (fun hb => ?_) (fun hb => hrec ?_)⟩) fun hall => ?_
  · have : cov l x y = true := by
      unfold cov
      rw [List.any_eq_true]
      exact ⟨_, ix_mem (l := l) (i := (k : Int)) (by omega) (by omega), by unfold hit; simp only [Bool.and_eq_true] at hb ⊢; exact ⟨⟨⟨hb.1.1.1, hb.1.1.2⟩, hb.1.2⟩, hb.2⟩⟩
    rw [this] at hp
    exact hp
  · exact hb
  · have : cov l x y = false := by
      unfold cov
      rw [List.any_eq_false]
      intro r hr
      obtain ⟨j, hj, rfl⟩ := List.getElem_of_mem hr
      have := hall j hj
      rw [ix_lt hj] at this
      simp [this]
    rw [this] at hp
    exact hp
def rsm_P (a : List (api_Rect)) (b : List (api_Rect)) (post : Bool → Prop) : Prop := (a.length ≤ 100000000) ∧ ∀ q : Bool, (q = true ↔ a.map spanOf = b.map spanOf) → post q
def rsm_sp : Spec := ⟨83, false, false, [.sl (.st .api_Rect), .sl (.st .api_Rect)], .dat (.bool), fun x post => rsm_P (x.1 : List (api_Rect)) (x.2.1 : List (api_Rect)) (fun y0 => post (y0, ()))⟩
def rsm_C : CtxR := ⟨tau, [], lookJ [(0, 9, ⟨[(13, .dat (.int .i64))], [], [14, 15, 5, 16, 17, 18, 19, 20, 21, 22, 23, 24, 25, 26, 27, 39, 28, 29, 30, 31, 32, 33, 34, 35, 36, 37, 38, 40], [], []⟩)]⟩
def rsm_W (a : List (api_Rect)) (b : List (api_Rect)) (post : Bool → Prop) : Prop := (↑a.length : Int) ≤ (9223372036854775807 : Int) → (↑b.length : Int) ≤ (9223372036854775807 : Int) → IFB (!decide ((↑a.length : Int) = (↑b.length : Int))) (post false) ((↑a.length : Int) ≤ (9223372036854775807 : Int) → LOOP [Ty.int IntKind.i64] (fun (rec1 : Int → Prop) (z2 : Int) ↦ IFB (decide (z2 < (↑a.length : Int))) (((0 : Int) ≤ z2 ∧ z2 < (↑a.length : Int)) ∧ ((0 : Int) ≤ z2 ∧ z2 < (↑b.length : Int)) ∧ ((gx false !decide ((ix a z2).1 = (ix b z2).1)) = true → (0 : Int) ≤ z2 ∧ z2 < (↑a.length : Int)) ∧ ((gx false !decide ((ix a z2).1 = (ix b z2).1)) = true → (0 : Int) ≤ z2 ∧ z2 < (↑b.length : Int)) ∧ IFB (!decide ((ix a z2).1 = (ix b z2).1) || !decide ((ix a z2).3 = (ix b z2).3)) (post false) (rec1 (IntKind.i64.wrap (z2 + (1 : Int))))) (post true)) ((0 : Int), PUnit.unit))
theorem rsm_w (a : List (api_Rect)) (b : List (api_Rect)) (post : dens (shT rsm_sp.rs []) → Prop) : rsm_W a b (fun y0 => post (y0, ())) = walkG (callR Tryz.prog rsm_C (drawR Tryz.prog tau) 8 0) 83 false [tv (.sl (.st .api_Rect)) a, tv (.sl (.st .api_Rect)) b] rsm_sp.rs post := by kernel_rfl
theorem rsm_of (h : ∀ (a : List (api_Rect)) (b : List (api_Rect)) (post : Bool → Prop), rsm_P a b post → rsm_W a b post) : SpecOK Tryz.prog rsm_sp := SpecOK.of_rules (C := rsm_C) (dr := drawR Tryz.prog tau) (n := 8) (fk := 0) .nil (drawR_ok tau) fun x post hp => HoldW.of (rsm_w x.1 x.2.1 post) (h x.1 x.2.1 (fun y0 => post (y0, ())) hp)
theorem rsm_ok : SpecOK Tryz.prog rsm_sp := rsm_of fun a b post hp => by
  obtain ⟨hl, hp⟩ := hp
  unfold rsm_W
  intro _ _
  refine IFB.mk (fun hb => hp _ ?_) (fun hb _ => ?_)
  · have hb : ¬ (a.length : Int) = b.length := by simpa using hb
    constructor
    · intro h; cases h
    · intro h; have := congrArg List.length h; simp at this; omega
  · have hb : (a.length : Int) = b.length := by simpa using hb
    have hab : a.length = b.length := by omega
    have hiff := map_eq_iff (f := spanOf) hab
    refine loopCmp (n := a.length) (by omega) (p := fun j => spanOf (ix a (j : Int)) = spanOf (ix b (j : Int))) (fun rec k hk hpre hrec => ⟨by omega, by omega, fun _ => by omega, fun _ => by omega, IFB.mk (fun hb => hp _ ?_) (fun hb => hrec ?_)⟩) fun hall => hp _ ?_
    · constructor
      · intro h; cases h
      · intro h
        have := hiff.1 h k hk
        unfold spanOf at this
        injection this with h1 h2
        simp [h1, h2] at hb
    · simp at hb
      unfold spanOf
      rw [hb.1, hb.2]
    · exact ⟨fun _ => hiff.2 hall, fun _ => rfl⟩
def rrec_P (a : List (api_Rect)) (b : List (api_Rect)) (post : Bool → Prop) : Prop := (a.length ≤ 1000000000) ∧ ∀ q : Bool, (q = true ↔ a = b) → post q
def rrec_sp : Spec := ⟨46, false, false, [.sl (.st .api_Rect), .sl (.st .api_Rect)], .dat (.bool), fun x post => rrec_P (x.1 : List (api_Rect)) (x.2.1 : List (api_Rect)) (fun y0 => post (y0, ()))⟩
def rrec_C : CtxR := ⟨tau, [], lookJ [(0, 9, ⟨[(13, .dat (.int .i64))], [], [14, 15, 5, 16, 17, 18, 19, 20, 21, 22, 23, 24, 25], [], []⟩)]⟩
def rrec_W (a : List (api_Rect)) (b : List (api_Rect)) (post : Bool → Prop) : Prop := (↑a.length : Int) ≤ (9223372036854775807 : Int) → (↑b.length : Int) ≤ (9223372036854775807 : Int) → IFB (!decide ((↑a.length : Int) = (↑b.length : Int))) (post false) ((↑a.length : Int) ≤ (9223372036854775807 : Int) → LOOP [Ty.int IntKind.i64] (fun (rec1 : Int → Prop) (z2 : Int) ↦ IFB (decide (z2 < (↑a.length : Int))) (((0 : Int) ≤ z2 ∧ z2 < (↑a.length : Int)) ∧ ((0 : Int) ≤ z2 ∧ z2 < (↑b.length : Int)) ∧ IFB (!(decide ((ix a z2).1 = (ix b z2).1) && (decide ((ix a z2).2 = (ix b z2).2) && (decide ((ix a z2).3 = (ix b z2).3) && (decide ((ix a z2).4 = (ix b z2).4) && true))))) (post false) (rec1 (IntKind.i64.wrap (z2 + (1 : Int))))) (post true)) ((0 : Int), PUnit.unit))
theorem rrec_w (a : List (api_Rect)) (b : List (api_Rect)) (post : dens (shT rrec_sp.rs []) → Prop) : rrec_W a b (fun y0 => post (y0, ())) = walkG (callR Tryz.prog rrec_C (drawR Tryz.prog tau) 8 0) 46 false [tv (.sl (.st .api_Rect)) a, tv (.sl (.st .api_Rect)) b] rrec_sp.rs post := by kernel_rfl
theorem rrec_of (h : ∀ (a : List (api_Rect)) (b : List (api_Rect)) (post : Bool → Prop), rrec_P a b post → rrec_W a b post) : SpecOK Tryz.prog rrec_sp := SpecOK.of_rules (C := rrec_C) (dr := drawR Tryz.prog tau) (n := 8) (fk := 0) .nil (drawR_ok tau) fun x post hp => HoldW.of (rrec_w x.1 x.2.1 post) (h x.1 x.2.1 (fun y0 => post (y0, ())) hp)
theorem rrec_ok : SpecOK Tryz.prog rrec_sp := rrec_of fun a b post hp => by
  obtain ⟨hl, hp⟩ := hp
  unfold rrec_W
  intro _ _
  refine IFB.mk (fun hb => hp _ ?_) (fun hb _ => ?_)
  · have hb : ¬ (a.length : Int) = b.length := by simpa using hb
    constructor
    · intro h; cases h
    · intro h; rw [h] at hb; exact absurd rfl hb
  · have hb : (a.length : Int) = b.length := by simpa using hb
    have hab : a.length = b.length := by omega
    have hiff := list_eq_iff hab
    refine loopCmp (n := a.length) (by omega) (p := fun j => ix a (j : Int) = ix b (j : Int)) (fun rec k hk hpre hrec => ⟨by omega, by omega, IFB.mk (fun hb => hp _ ?_) (fun hb => hrec ?_)⟩) fun hall => hp _ ?_
    · constructor
      · intro h; cases h
      · intro h
        rw [hiff.1 h k hk] at hb
        simp at hb
    · generalize ix a (k : Int) = u at hb ⊢
      generalize ix b (k : Int) = v at hb ⊢
      cases u
      cases v
      simp at hb
      simp [hb]
    · exact ⟨fun _ => hiff.2 hall, fun _ => rfl⟩

end RE
end Go.Proofs.YtblcakaohlgagaaGreat
set_option maxRecDepth 100000
set_option linter.unusedVariables false
namespace Go.Proofs.YtblcakaohlgagaaGreat
open Go.RowKit
namespace RE
open PL
def rcomb_P (a : List (api_Rect)) (b : List (api_Rect)) (h : Int) (post : List (api_Rect) → Prop) : Prop := (a.length ≤ 1000 ∧ b.length ≤ 1000) ∧ post (canonF (comb (howS h) a b))
def rcomb_sp : Spec := ⟨43, false, true, [.sl (.st .api_Rect), .sl (.st .api_Rect), .int .i64], .dat (.sl (.st .api_Rect)), fun x post => rcomb_P (x.1 : List (api_Rect)) (x.2.1 : List (api_Rect)) (x.2.2.1 : Int) (fun y0 => post (y0, ()))⟩
def rcomb_C : CtxR := ⟨tau, [rule1 rput_sp, rule1 rins_sp, rule1 rsm_sp], lookJ [(0, 27, ⟨[(15, .dat (.int .i64)), (14, .own 89 (.st .api_Rect)), (13, .own 89 (.st .api_Rect))], [], [50, 51, 52, 53, 54, 158, 157, 159, 19, 160, 161, 162, 163, 164, 165, 166, 167, 168, 169, 156, 155, 153, 152, 151, 150, 149, 148, 147, 146, 145, 142, 141, 140, 154, 144, 143, 139, 138, 137, 136, 61, 60, 59, 58, 57, 17, 16, 86, 64, 65, 66, 67, 68, 69, 70, 71, 72, 73, 74, 75, 76, 77, 78, 79, 80, 81, 82, 83, 84, 85, 113, 112, 111, 110, 109, 108, 107, 106, 105, 104, 102, 101, 100, 99, 98, 97, 96, 95, 94, 93, 92, 103, 91, 90, 89, 18, 88, 87, 114, 115, 116, 117, 118, 119, 120, 121, 122, 123, 124, 125, 126, 127, 128, 129, 130, 131, 132, 133, 134, 135, 62, 63, 173, 172, 171, 170, 55, 56], [], []⟩), (0, 28, ⟨[(14, .own 89 (.st .api_Rect)), (13, .own 89 (.st .api_Rect))], [], [170, 171, 172, 173, 63, 62, 135, 134, 133, 132, 131, 130, 129, 128, 127, 126, 125, 124, 123, 122, 121, 120, 119, 118, 117, 116, 115, 114, 87, 88, 18, 89, 90, 91, 103, 92, 93, 94, 95, 96, 97, 98, 99, 100, 101, 102, 104, 105, 106, 107, 108, 109, 110, 111, 112, 113, 85, 84, 83, 82, 81, 80, 79, 78, 77, 76, 75, 74, 73, 72, 71, 70, 69, 68, 67, 66, 65, 64, 86, 16, 17, 57, 58, 59, 60, 61, 136, 137, 138, 139, 143, 144, 154, 140, 141, 142, 145, 146, 147, 148, 149, 150, 151, 152, 153, 155, 156, 169, 168, 167, 166, 165, 164, 163, 162, 161, 160, 19, 159, 157, 158], [2, 1], []⟩), (0, 53, ⟨[(157, .dat (.int .i64))], [], [158, 159, 19, 160, 161, 162, 163, 164, 165, 166, 167, 168, 169], [], [(1, 89, (.st .api_Rect))]⟩), (0, 35, ⟨[(17, .dat (.int .i64)), (16, .own 89 (.st .api_Rect))], [], [57, 58, 59, 60, 61, 86, 64, 65, 66, 67, 68, 69, 70, 71, 72, 73, 74, 75, 76, 77, 78, 79, 80, 81, 82, 83, 84, 85, 113, 112, 111, 110, 109, 108, 107, 106, 105, 104, 102, 101, 100, 99, 98, 97, 96, 95, 94, 93, 92, 103, 91, 90, 89, 18, 88, 87, 114, 115, 116, 117, 118, 119, 120, 121, 122, 123, 124, 125, 126, 127, 128, 129, 130, 131, 132, 133, 134, 135, 62, 63], [], []⟩), (0, 36, ⟨[(16, .own 89 (.st .api_Rect))], [], [135, 134, 133, 132, 131, 130, 129, 128, 127, 126, 125, 124, 123, 122, 121, 120, 119, 118, 117, 116, 115, 114, 87, 88, 18, 89, 90, 91, 103, 92, 93, 94, 95, 96, 97, 98, 99, 100, 101, 102, 104, 105, 106, 107, 108, 109, 110, 111, 112, 113, 85, 84, 83, 82, 81, 80, 79, 78, 77, 76, 75, 74, 73, 72, 71, 70, 69, 68, 67, 66, 65, 64, 86], [3], []⟩), (0, 1000023, ⟨[(16, .own 89 (.st .api_Rect))], [], [114, 115, 116, 117, 118, 119, 120, 121, 122, 123, 124, 125, 126, 127, 128, 129, 130, 131, 132, 133, 134, 135], [3], []⟩), (0, 1000019, ⟨[(86, .dat .bool)], [], [64, 65, 66, 67, 68, 69, 70, 71, 72, 73, 74, 75, 76, 77, 78, 79, 80, 81, 82, 83, 84, 85], [], []⟩), (19421, 0, ⟨[(0, .dat .bool)], [], [], [], []⟩), (0, 7, ⟨[(24, .dat (.int .i64)), (8, .dat (.sl (.int .i64))), (7, .dat (.sl (.int .i64)))], [], [25, 26, 27, 10, 28, 29, 48, 34, 35, 36, 37, 38, 39, 40, 41, 42, 43, 44, 45, 46, 47, 12, 33, 32, 30, 31, 49], [], []⟩), (0, 13, ⟨[(30, .dat (.int .i64)), (8, .dat (.sl (.int .i64))), (7, .dat (.sl (.int .i64)))], [], [31, 32, 33, 12, 47, 46, 45, 44, 43, 42, 41, 40, 39, 38, 37, 36, 35, 34, 48], [], []⟩), (0, 1000008, ⟨[(8, .dat (.sl (.int .i64))), (7, .dat (.sl (.int .i64)))], [], [34, 35, 36, 37, 38, 39, 40, 41, 42, 43, 44, 45, 46, 47], [], []⟩)]⟩
def rcomb_W (a : List (api_Rect)) (b : List (api_Rect)) (h : Int) (post : List (api_Rect) → Prop) : Prop := (↑[a, b].length : Int) ≤ (9223372036854775807 : Int) → LOOP [Ty.int IntKind.i64, (Ty.int IntKind.i64).sl, (Ty.int IntKind.i64).sl] (fun (rec1 : Int → List Int → List Int → Prop) (z2 : Int) (z3 z4 : List Int) ↦ IFB (decide (z2 < (↑[a, b].length : Int))) (((0 : Int) ≤ z2 ∧ z2 < (↑[a, b].length : Int)) ∧ ((↑(ix [a, b] z2).length : Int) ≤ (9223372036854775807 : Int) → LOOP [Ty.int IntKind.i64, (Ty.int IntKind.i64).sl, (Ty.int IntKind.i64).sl] (fun (rec5 : Int → List Int → List Int → Prop) (z6 : Int) (z7 z8 : List Int) ↦ IFB (decide (z6 < (↑(ix [a, b] z2).length : Int))) (((0 : Int) ≤ z6 ∧ z6 < (↑(ix [a, b] z2).length : Int)) ∧ JOIN [(Ty.int IntKind.i64).sl, (Ty.int IntKind.i64).sl] (fun (y9 y10 : List Int) ↦ rec5 (IntKind.i64.wrap (z6 + (1 : Int))) y9 y10) fun (J11 : List Int → List Int → Prop) ↦ z8.length ≤ (1000000 : Nat) ∧ (putS (ix (ix [a, b] z2) z6).1 z8).length ≤ (1000000 : Nat) ∧ z7.length ≤ (1000000 : Nat) ∧ (putS (ix (ix [a, b] z2) z6).2 z7).length ≤ (1000000 : Nat) ∧ J11 (putS (ix (ix [a, b] z2) z6).4 (putS (ix (ix [a, b] z2) z6).2 z7)) (putS (ix (ix [a, b] z2) z6).3 (putS (ix (ix [a, b] z2) z6).1 z8))) (rec1 (IntKind.i64.wrap (z2 + (1 : Int))) z7 z8)) ((0 : Int), z3, z4, PUnit.unit))) (LOOP [Ty.int IntKind.i64, (Ty.st Sn.api_Rect).sl, (Ty.st Sn.api_Rect).sl] (fun (rec12 : Int → List api_Rect → List api_Rect → Prop) (z13 : Int) (z14 z15 : List api_Rect) ↦ (↑z3.length : Int) ≤ (9223372036854775807 : Int) → IFB (decide (IntKind.i64.wrap (z13 + (1 : Int)) < (↑z3.length : Int))) (JOIN [(Ty.st Sn.api_Rect).sl, (Ty.st Sn.api_Rect).sl] (fun (y16 y17 : List api_Rect) ↦ rec12 (IntKind.i64.wrap (z13 + (1 : Int))) y16 y17) fun (J18 : List api_Rect → List api_Rect → Prop) ↦ LOOP [Ty.int IntKind.i64, (Ty.st Sn.api_Rect).sl] (fun (rec19 : Int → List api_Rect → Prop) (z20 : Int) (z21 : List api_Rect) ↦ (↑z4.length : Int) ≤ (9223372036854775807 : Int) → IFB (decide (IntKind.i64.wrap (z20 + (1 : Int)) < (↑z4.length : Int))) (JOIN [(Ty.st Sn.api_Rect).sl] (fun (y22 : List api_Rect) ↦ rec19 (IntKind.i64.wrap (z20 + (1 : Int))) y22) fun (J23 : List api_Rect → Prop) ↦ JOIN [Ty.bool] (fun (y24 : Bool) ↦ IFB y24 (J23 z21) ((↑z21.length : Int) ≤ (9223372036854775807 : Int) → (gx true (decide ((0 : Int) < (↑z21.length : Int))) = true → (0 : Int) ≤ IntKind.i64.wrap ((↑z21.length : Int) - (1 : Int)) ∧ IntKind.i64.wrap ((↑z21.length : Int) - (1 : Int)) < (↑z21.length : Int)) ∧ (gx true (decide ((0 : Int) < (↑z21.length : Int))) = true → (0 : Int) ≤ z20 ∧ z20 < (↑z4.length : Int)) ∧ IFB (decide ((0 : Int) < (↑z21.length : Int)) && decide ((ix z21 (IntKind.i64.wrap ((↑z21.length : Int) - (1 : Int)))).3 = ix z4 z20)) (((0 : Int) ≤ IntKind.i64.wrap (z20 + (1 : Int)) ∧ IntKind.i64.wrap (z20 + (1 : Int)) < (↑z4.length : Int)) ∧ ((0 : Int) ≤ IntKind.i64.wrap ((↑z21.length : Int) - (1 : Int)) ∧ IntKind.i64.wrap ((↑z21.length : Int) - (1 : Int)) < (↑z21.length : Int)) ∧ J23 (z21.set (IntKind.i64.wrap ((↑z21.length : Int) - (1 : Int))).toNat { Left := (ix z21 (IntKind.i64.wrap ((↑z21.length : Int) - (1 : Int)))).1, Low := (ix z21 (IntKind.i64.wrap ((↑z21.length : Int) - (1 : Int)))).2, Right := ix z4 (IntKind.i64.wrap (z20 + (1 : Int))), High := (ix z21 (IntKind.i64.wrap ((↑z21.length : Int) - (1 : Int)))).4 : api_Rect })) (JOIN [(Ty.st Sn.api_Rect).sl] (fun (y25 : List api_Rect) ↦ J23 y25) fun (J26 : List api_Rect → Prop) ↦ ((0 : Int) ≤ z20 ∧ z20 < (↑z4.length : Int)) ∧ ((0 : Int) ≤ z13 ∧ z13 < (↑z3.length : Int)) ∧ ((0 : Int) ≤ IntKind.i64.wrap (z20 + (1 : Int)) ∧ IntKind.i64.wrap (z20 + (1 : Int)) < (↑z4.length : Int)) ∧ ((0 : Int) ≤ IntKind.i64.wrap (z13 + (1 : Int)) ∧ IntKind.i64.wrap (z13 + (1 : Int)) < (↑z3.length : Int)) ∧ (z21.length + [{ Left := ix z4 z20, Low := ix z3 z13, Right := ix z4 (IntKind.i64.wrap (z20 + (1 : Int))), High := ix z3 (IntKind.i64.wrap (z13 + (1 : Int))) : api_Rect }].length) * (32 : Nat) ≤ (140737488355328 : Nat) ∧ J26 (z21 ++ [{ Left := ix z4 z20, Low := ix z3 z13, Right := ix z4 (IntKind.i64.wrap (z20 + (1 : Int))), High := ix z3 (IntKind.i64.wrap (z13 + (1 : Int))) : api_Rect }])))) fun (J27 : Bool → Prop) ↦ ((0 : Int) ≤ z20 ∧ z20 < (↑z4.length : Int)) ∧ ((0 : Int) ≤ z13 ∧ z13 < (↑z3.length : Int)) ∧ ((0 : Int) ≤ z20 ∧ z20 < (↑z4.length : Int)) ∧ ((0 : Int) ≤ z13 ∧ z13 < (↑z3.length : Int)) ∧ a.length ≤ (1000000 : Nat) ∧ b.length ≤ (1000000 : Nat) ∧ JOIN [Ty.bool] (fun (y28 : Bool) ↦ J27 !y28) fun (J29 : Bool → Prop) ↦ IFB (decide (h = (1 : Int))) (J29 (cov a (ix z4 z20) (ix z3 z13) || cov b (ix z4 z20) (ix z3 z13))) (IFB (decide (h = (2 : Int))) (J29 (cov a (ix z4 z20) (ix z3 z13) && cov b (ix z4 z20) (ix z3 z13))) (J29 (cov a (ix z4 z20) (ix z3 z13) && !cov b (ix z4 z20) (ix z3 z13))))) ((↑z14.length : Int) ≤ (9223372036854775807 : Int) → JOIN [Ty.bool] (fun (y30 : Bool) ↦ (gx true (decide ((0 : Int) < (↑z14.length : Int)) && y30) = true → Int.NonNeg (0 : Int) ∧ (0 : Int) < (↑z14.length : Int)) ∧ (gx true (decide ((0 : Int) < (↑z14.length : Int)) && y30) = true → (0 : Int) ≤ z13 ∧ z13 < (↑z3.length : Int)) ∧ IFB (decide ((0 : Int) < (↑z14.length : Int)) && y30 && decide ((ix z14 (0 : Int)).4 = ix z3 z13)) ((↑z14.length : Int) ≤ (9223372036854775807 : Int) → LOOP [Ty.int IntKind.i64, (Ty.st Sn.api_Rect).sl] (fun (rec31 : Int → List api_Rect → Prop) (z32 : Int) (z33 : List api_Rect) ↦ IFB (decide (z32 < (↑z14.length : Int))) (((0 : Int) ≤ IntKind.i64.wrap (z13 + (1 : Int)) ∧ IntKind.i64.wrap (z13 + (1 : Int)) < (↑z3.length : Int)) ∧ ((0 : Int) ≤ z32 ∧ z32 < (↑z33.length : Int)) ∧ rec31 (IntKind.i64.wrap (z32 + (1 : Int))) (z33.set z32.toNat { Left := (ix z33 z32).1, Low := (ix z33 z32).2, Right := (ix z33 z32).3, High := ix z3 (IntKind.i64.wrap (z13 + (1 : Int))) : api_Rect })) (J18 z33 z15)) ((0 : Int), z14, PUnit.unit)) ((z15.length + z14.length) * (32 : Nat) ≤ (140737488355328 : Nat) ∧ J18 z21 (z15 ++ z14)) ∧ IFB (decide ((0 : Int) < (↑z14.length : Int)) && y30 && decide ((ix z14 (0 : Int)).4 = ix z3 z13)) ((↑z14.length : Int) ≤ (9223372036854775807 : Int) → LOOP [Ty.int IntKind.i64, (Ty.st Sn.api_Rect).sl] (fun (rec34 : Int → List api_Rect → Prop) (z35 : Int) (z36 : List api_Rect) ↦ IFB (decide (z35 < (↑z14.length : Int))) (((0 : Int) ≤ IntKind.i64.wrap (z13 + (1 : Int)) ∧ IntKind.i64.wrap (z13 + (1 : Int)) < (↑z3.length : Int)) ∧ ((0 : Int) ≤ z35 ∧ z35 < (↑z36.length : Int)) ∧ rec34 (IntKind.i64.wrap (z35 + (1 : Int))) (z36.set z35.toNat { Left := (ix z36 z35).1, Low := (ix z36 z35).2, Right := (ix z36 z35).3, High := ix z3 (IntKind.i64.wrap (z13 + (1 : Int))) : api_Rect })) (J18 z36 z15)) ((0 : Int), z14, PUnit.unit)) ((z15.length + z14.length) * (32 : Nat) ≤ (140737488355328 : Nat) ∧ J18 z21 (z15 ++ z14))) fun (J37 : Bool → Prop) ↦ IFB (gx true (decide ((0 : Int) < (↑z14.length : Int)))) (z14.length ≤ (100000000 : Nat) ∧ ∀ (v38 : Bool), (v38 = true ↔ List.map spanOf z14 = List.map spanOf z21) → J37 v38) (J37 false))) ((0 : Int), [], PUnit.unit)) ((z15.length + z14.length) * (32 : Nat) ≤ (140737488355328 : Nat) ∧ post (z15 ++ z14))) ((0 : Int), [], [], PUnit.unit))) ((0 : Int), [], [], PUnit.unit)
theorem rcomb_w (a : List (api_Rect)) (b : List (api_Rect)) (h : Int) (post : dens (shT rcomb_sp.rs []) → Prop) : rcomb_W a b h (fun y0 => post (y0, ())) = walkG (callR Tryz.prog rcomb_C (drawR Tryz.prog tau) 8 0) 43 false [tv (.sl (.st .api_Rect)) a, tv (.sl (.st .api_Rect)) b, tv (.int .i64) h] rcomb_sp.rs post := by kernel_rfl
theorem rcomb_of (h : ∀ (a : List (api_Rect)) (b : List (api_Rect)) (h : Int) (post : List (api_Rect) → Prop), rcomb_P a b h post → rcomb_W a b h post) : SpecOK Tryz.prog rcomb_sp := SpecOK.of_rules (C := rcomb_C) (dr := drawR Tryz.prog tau) (n := 8) (fk := 0) (.cons (rule1_ok rput_ok) (.cons (rule1_ok rins_ok) (.cons (rule1_ok rsm_ok) .nil))) (drawR_ok tau) fun x post hp => HoldW.of (rcomb_w x.1 x.2.1 x.2.2.1 post) (h x.1 x.2.1 x.2.2.1 (fun y0 => post (y0, ())) hp)
theorem putS_len {n : Int} : ∀ {l : List Int}, (putS n l).length ≤ l.length + 1
  | [] => by simp [putS]
  | x :: r => by
    have := putS_len (n := n) (l := r)
    unfold putS
    split
    · simp; omega
    · split <;> simp
theorem fold_len {f g : Rc → Int} : ∀ {l : List Rc} {a : List Int}, (l.foldl (fun a r => putS (g r) (putS (f r) a)) a).length ≤ a.length + 2 * l.length
  | [], a => by simp
  | r :: l, a => by
    have ih := fold_len (f := f) (g := g) (l := l) (a := putS (g r) (putS (f r) a))
    have h1 := putS_len (n := g r) (l := putS (f r) a)
    have h2 := putS_len (n := f r) (l := a)
    simp only [List.foldl_cons, List.length_cons]
    omega
abbrev cutF : List Int → Rc → List Int := fun a r => putS r.High (putS r.Low a)
abbrev edgF : List Int → Rc → List Int := fun a r => putS r.Right (putS r.Left a)
theorem comb_in {l : List Rc} (hl : l.length ≤ 1000) {K : List Int → List Int → Prop} {ys0 xs0 : List Int} (h1 : ys0.length ≤ 10000) (h2 : xs0.length ≤ 10000) (hK : K (l.foldl cutF ys0) (l.foldl edgF xs0)) :
    LOOP [Ty.int IntKind.i64, (Ty.int IntKind.i64).sl, (Ty.int IntKind.i64).sl] (fun (rec5 : Int → List Int → List Int → Prop) (z6 : Int) (z7 z8 : List Int) ↦ IFB (decide (z6 < (↑l.length : Int))) (((0 : Int) ≤ z6 ∧ z6 < (↑l.length : Int)) ∧ JOIN [(Ty.int IntKind.i64).sl, (Ty.int IntKind.i64).sl] (fun (y9 y10 : List Int) ↦ rec5 (IntKind.i64.wrap (z6 + (1 : Int))) y9 y10) fun (J11 : List Int → List Int → Prop) ↦ z8.length ≤ (1000000 : Nat) ∧ (putS (ix l z6).1 z8).length ≤ (1000000 : Nat) ∧ z7.length ≤ (1000000 : Nat) ∧ (putS (ix l z6).2 z7).length ≤ (1000000 : Nat) ∧ J11 (putS (ix l z6).4 (putS (ix l z6).2 z7)) (putS (ix l z6).3 (putS (ix l z6).1 z8))) (K z7 z8)) ((0 : Int), ys0, xs0, PUnit.unit) := by
  refine LOOP.list l (fun k (s : List Int × List Int) => ((k : Int), s.1, s.2, ())) (fun u => Int.toNat u.1) (fun k r (s : List Int × List Int) => r.foldl cutF s.1 = l.foldl cutF ys0 ∧ r.foldl edgF s.2 = l.foldl edgF xs0 ∧ s.1.length ≤ 10000 + 2 * k ∧ s.2.length ≤ 10000 + 2 * k) (ys0, xs0) rfl ⟨rfl, rfl, by simpa using h1, by simpa using h2⟩ (fun k s h => by simp) ?_ ?_
  · intro rec k x r s hd hk hkl ⟨g1, g2, g3, g4⟩ hrec
    obtain ⟨ys, xs⟩ := s
    dsimp only at g1 g2 g3 g4
    have hx := ix_of hk
    show IFB _ _ _
    refine IFB.mk (fun _ => ⟨by show 0 ≤ (k : Int) ∧ (k : Int) < l.length; omega, ?_⟩) (fun h => absurd (of_decide_eq_false h) (by show ¬ ¬ ((k : Int) < l.length); omega))
    refine JOIN.opq fun (J : List Int → List Int → Prop) hJ => ?_
    have p1 := putS_len (n := x.Left) (l := xs)
    have p2 := putS_len (n := x.Low) (l := ys)
    have p3 := putS_len (n := x.Right) (l := putS x.Left xs)
    have p4 := putS_len (n := x.High) (l := putS x.Low ys)
    dsimp only
    rw [hx]
    refine ⟨by omega, by omega, by omega, by omega, ?_⟩
    rw [hJ]
    show rec (IntKind.i64.wrap ((k : Int) + 1)) _ _
    rw [wrapS (by omega)]
    exact hrec (_, _) ⟨g1, g2, by dsimp only; omega, by dsimp only; omega⟩
  · intro rec s ⟨g1, g2, g3, g4⟩
    show IFB _ _ _
    refine IFB.mk (fun h => absurd (of_decide_eq_true h) (by show ¬ ((l.length : Int) < l.length); omega)) (fun _ => ?_)
    have g1 : s.1 = l.foldl cutF ys0 := g1
    have g2 : s.2 = l.foldl edgF xs0 := g2
    show K s.1 s.2
    rw [g1, g2]
    exact hK
def rI (R : Int → List Sp) (ys : List Int) (i : Int) (last out : List Rc) : Prop := ∃ (k : Nat) (acc : List Bd), i = k ∧ k ≤ ys.length ∧ buildG R acc (ys.drop k) = buildG R [] ys ∧ last = lastR acc ∧ out = flat acc.dropLast ∧ (flat acc).length ≤ 5000 * k
def rJ (p : Int → Bool) (xs : List Int) (u v : Int) (i : Int) (band : List Rc) : Prop := ∃ (m : Nat) (sp : List Sp), i = m ∧ m ≤ xs.length ∧ spansG p sp (xs.drop m) = spansOf p xs ∧ band = sp.map (mkR u v) ∧ sp.length ≤ m
theorem short_drop {l : List Int} {k : Nat} (h : ¬ k + 1 < l.length) (R : Int → List Sp) (acc : List Bd) : buildG R acc (l.drop k) = acc := by
  have : (l.drop k).length ≤ 1 := by simp; omega
  match hd : l.drop k with
  | [] => rfl
  | [_] => rfl
  | _ :: _ :: _ => rw [hd] at this; simp at this
theorem short_drop2 {l : List Int} {k : Nat} (h : ¬ k + 1 < l.length) (p : Int → Bool) (acc : List Sp) : spansG p acc (l.drop k) = acc := by
  have : (l.drop k).length ≤ 1 := by simp; omega
  match hd : l.drop k with
  | [] => rfl
  | [_] => rfl
  | _ :: _ :: _ => rw [hd] at this; simp at this
theorem rcomb_main (a b : List api_Rect) (h : Int) (post : List api_Rect → Prop) (hp : rcomb_P a b h post) : rcomb_W a b h post := by
  obtain ⟨⟨ha, hb⟩, hp⟩ := hp
  obtain ⟨hcan, hcov, hF⟩ := comb_build (howS_0 h) (a := a) (b := b) (R := fun y => spansOf (fun x => comb (howS h) a b x y) (edgesS (a ++ b))) (fun u _ => comb_row (howS_0 h))
  rw [hF] at hp
  obtain ⟨ys, hys⟩ : ∃ ys, ys = cutsS (a ++ b) := ⟨_, rfl⟩
  obtain ⟨xs, hxs⟩ : ∃ xs, xs = edgesS (a ++ b) := ⟨_, rfl⟩
  have hy1 : (cutsS a).length ≤ 2000 := Nat.le_trans (fold_len (f := fun r => r.Low) (g := fun r => r.High) (l := a) (a := [])) (by simp; omega)
  have hx1 : (edgesS a).length ≤ 2000 := Nat.le_trans (fold_len (f := fun r => r.Left) (g := fun r => r.Right) (l := a) (a := [])) (by simp; omega)
  have hyl : ys.length ≤ 4000 := by rw [hys]; exact Nat.le_trans (fold_len (f := fun r => r.Low) (g := fun r => r.High) (l := a ++ b) (a := [])) (by simp; omega)
  have hxl : xs.length ≤ 4000 := by rw [hxs]; exact Nat.le_trans (fold_len (f := fun r => r.Left) (g := fun r => r.Right) (l := a ++ b) (a := [])) (by simp; omega)
  have hy2 : b.foldl cutF (cutsS a) = ys := by rw [hys]; show _ = (a ++ b).foldl cutF []; rw [List.foldl_append]; rfl
  have hx2 : b.foldl edgF (edgesS a) = xs := by rw [hxs]; show _ = (a ++ b).foldl edgF []; rw [List.foldl_append]; rfl
  rw [← hys, ← hxs] at hp
  unfold rcomb_W
  intro _
  refine LOOP.fuel (fun u => (u.1 = (0 : Int) ∧ u.2.1 = ([] : List Int) ∧ u.2.2.1 = ([] : List Int)) ∨ (u.1 = (1 : Int) ∧ u.2.1 = cutsS a ∧ u.2.2.1 = edgesS a) ∨ (u.1 = (2 : Int) ∧ u.2.1 = ys ∧ u.2.2.1 = xs)) (fun u => 2 - Int.toNat u.1) (.inl ⟨rfl, rfl, rfl⟩) ?_
  rintro rec1 ⟨(z2 : Int), (z3 : List Int), (z4 : List Int), ⟨⟩⟩ hI hrec1
  have w01 : IntKind.i64.wrap ((0 : Int) + 1) = 1 := wrap_in (by omega) (by omega)
  have w11 : IntKind.i64.wrap ((1 : Int) + 1) = 2 := wrap_in (by omega) (by omega)
  rcases hI with ⟨e1, e2, e3⟩ | ⟨e1, e2, e3⟩ | ⟨e1, e2, e3⟩
  · have e1 : z2 = 0 := e1
    have e2 : z3 = [] := e2
    have e3 : z4 = [] := e3
    subst e1 e2 e3
    refine IFB.mk (fun _ => ⟨⟨Int.le_refl _, by show (0 : Int) < 2; omega⟩, fun _ => ?_⟩) (fun h => absurd (of_decide_eq_false h) (by show ¬ ¬ ((0 : Int) < 2); omega))
    refine comb_in (l := a) ha (K := fun y x => rec1 (IntKind.i64.wrap (0 + 1)) y x) (by simp) (by simp) ?_
    rw [w01]
    exact hrec1 ((1 : Int), cutsS a, edgesS a, ()) (.inr (.inl ⟨rfl, rfl, rfl⟩)) (by show 2 - (1 : Int).toNat < 2 - (0 : Int).toNat; omega)
  · have e1 : z2 = 1 := e1
    have e2 : z3 = cutsS a := e2
    have e3 : z4 = edgesS a := e3
    subst e1 e2 e3
    refine IFB.mk (fun _ => ⟨⟨by omega, by show (1 : Int) < 2; omega⟩, fun _ => ?_⟩) (fun h => absurd (of_decide_eq_false h) (by show ¬ ¬ ((1 : Int) < 2); omega))
    refine comb_in (l := b) (ys0 := cutsS a) (xs0 := edgesS a) hb (K := fun y x => rec1 (IntKind.i64.wrap (1 + 1)) y x) (by omega) (by omega) ?_
    rw [w11, hy2, hx2]
    exact hrec1 ((2 : Int), ys, xs, ()) (.inr (.inr ⟨rfl, rfl, rfl⟩)) (by show 2 - (2 : Int).toNat < 2 - (1 : Int).toNat; omega)
  · have e1 : z2 = 2 := e1
    have e2 : z3 = ys := e2
    have e3 : z4 = xs := e3
    subst e1 e2 e3
    refine IFB.mk (fun h => absurd (of_decide_eq_true h) (by show ¬ ((2 : Int) < 2); omega)) (fun _ => ?_)
    clear hrec1 hy2 hx2 hy1 hx1 w01 w11
    have hyl : List.length (z3 : List Int) ≤ 4000 := hyl
    have hxl : List.length (z4 : List Int) ≤ 4000 := hxl
    obtain ⟨p, hpdef⟩ : ∃ p : Int → Int → Bool, p = fun y x => comb (howS h) a b x y := ⟨_, rfl⟩
    have hp : post (flat (buildG (fun y => spansOf (p y) z4) [] z3)) := by rw [hpdef]; exact hp
    refine LOOP.fuel (fun u => rI (fun y => spansOf (p y) z4) z3 u.1 u.2.1 u.2.2.1) (fun u => z3.length - Int.toNat u.1) ⟨0, [], rfl, Nat.zero_le _, rfl, rfl, rfl, Nat.zero_le _⟩ ?_
    rintro rec12 ⟨(z13 : Int), (z14 : List Rc), (z15 : List Rc), ⟨⟩⟩ ⟨k, acc, i1, i2, i3, i4, i5, i6⟩ hrec12
    have i1 : z13 = (k : Int) := i1
    have i2 : k ≤ List.length (z3 : List Int) := i2
    have hk4 : k ≤ 4000 := by omega
    have i4 : z14 = lastR acc := i4
    have i5 : z15 = flat acc.dropLast := i5
    subst i1 i4 i5
    have wk : IntKind.i64.wrap ((k : Int) + 1) = ((k + 1 : Nat) : Int) := wrapS (by omega)
    intro _
    show IFB (decide (IntKind.i64.wrap ((k : Int) + 1) < _)) _ _
    rw [wk]
    refine IFB.mk (fun hlt => ?_) (fun hge => ?_)
    · have hlt : ((k + 1 : Nat) : Int) < z3.length := of_decide_eq_true hlt
      have hlt' : k + 1 < z3.length := by omega
      obtain ⟨d1, d2⟩ := drop_two hlt'
      obtain ⟨u, hu⟩ : ∃ u, ix z3 (k : Int) = u := ⟨_, rfl⟩
      obtain ⟨v, hv⟩ : ∃ v, ix z3 ((k + 1 : Nat) : Int) = v := ⟨_, rfl⟩
      rw [hu, hv] at d1
      rw [hv] at d2
      rw [d1] at i3
      refine JOIN.opq fun (J18 : List Rc → List Rc → Prop) h18 => ?_
      have h18 : (flat (addBd acc u v (spansOf (p u) z4))).length ≤ 5000 * (k + 1) → J18 (lastR (addBd acc u v (spansOf (p u) z4))) (flat (addBd acc u v (spansOf (p u) z4)).dropLast) := fun hl => by
        rw [h18]
        show rec12 ((k + 1 : Nat) : Int) _ _
        refine hrec12 (((k + 1 : Nat) : Int), _, _, ()) ⟨k + 1, addBd acc u v (spansOf (p u) z4), rfl, by omega, ?_, rfl, rfl, hl⟩ (by show z3.length - ((k + 1 : Nat) : Int).toNat < z3.length - (k : Int).toNat; omega)
        rw [d2]; exact i3
      refine LOOP.fuel (fun q => rJ (p u) z4 u v q.1 q.2.1) (fun q => z4.length - Int.toNat q.1) ⟨0, [], rfl, Nat.zero_le _, rfl, rfl, Nat.zero_le _⟩ ?_
      rintro rec19 ⟨(z20 : Int), (z21 : List Rc), ⟨⟩⟩ ⟨m, sp, j1, j2, j3, j4, j5⟩ hrec19
      have j1 : z20 = (m : Int) := j1
      have j2 : m ≤ List.length (z4 : List Int) := j2
      have hm4 : m ≤ 4000 := by omega
      have j4 : z21 = sp.map (mkR u v) := j4
      subst j1 j4
      have wm : IntKind.i64.wrap ((m : Int) + 1) = ((m + 1 : Nat) : Int) := wrapS (by omega)
      intro _
      show IFB (decide (IntKind.i64.wrap ((m : Int) + 1) < _)) _ _
      rw [wm]
      refine IFB.mk (fun hmt => ?_) (fun hge _ => ?_)
      · have hmt : ((m + 1 : Nat) : Int) < z4.length := of_decide_eq_true hmt
        have hmt' : m + 1 < z4.length := by omega
        obtain ⟨c1, c2⟩ := drop_two hmt'
        obtain ⟨x, hx⟩ : ∃ x, ix z4 (m : Int) = x := ⟨_, rfl⟩
        obtain ⟨x', hx'⟩ : ∃ x', ix z4 ((m + 1 : Nat) : Int) = x' := ⟨_, rfl⟩
        rw [hx, hx'] at c1
        rw [hx'] at c2
        rw [c1] at j3
        refine JOIN.opq fun (J23 : List Rc → Prop) h23 => ?_
        have h23 : ∀ sp', spansG (p u) sp' (x' :: z4.drop (m + 2)) = spansOf (p u) z4 → sp'.length ≤ m + 1 → J23 (sp'.map (mkR u v)) := fun sp' q1 q2 => by
          rw [h23]
          show rec19 ((m + 1 : Nat) : Int) _
          exact hrec19 (((m + 1 : Nat) : Int), _, ()) ⟨m + 1, sp', rfl, by omega, by rw [c2]; exact q1, rfl, q2⟩ (by show z4.length - ((m + 1 : Nat) : Int).toNat < z4.length - (m : Int).toNat; omega)
        dsimp only
        rw [hx, hx', hu, hv]
        refine JOIN.opq fun (J27 : Bool → Prop) h27 => ?_
        have j3 : spansG (p u) (if p u x = true then addSp sp x x' else sp) (x' :: z4.drop (m + 2)) = spansOf (p u) z4 := j3
        have h27 : J27 (!(p u x)) := by
          rw [h27]
          cases hpx : p u x with
          | false =>
            rw [hpx] at j3
            exact IFB.mk (fun _ => h23 sp j3 (by omega)) (fun h => by cases h)
          | true =>
            rw [hpx] at j3
            have h23 := h23 _ j3 (by have := addSp_len (out := sp) (u := x) (v := x'); simp only [if_true]; omega)
            rw [if_pos rfl] at h23
            refine IFB.mk (fun h => by cases h) (fun _ _ => ?_)
            have hsl : sp.length ≤ 4000 := by omega
            simp only [List.length_map]
            rcases addSp_map (sp := sp) (u := u) (v := v) (x := x) (x' := x') with ⟨e1, e2⟩ | ⟨A, s, e1, e2⟩
            · subst e1
              rw [e2] at h23
              refine ⟨fun h => by simp [gx_t] at h, fun h => by simp [gx_t] at h, IFB.mk (fun h => by simp at h) (fun _ => ?_)⟩
              refine JOIN.mk ⟨by omega, by omega, by omega, by omega, by simp, h23⟩
            · have hn : (sp.length : Int) = A.length + 1 := by rw [e1]; simp
              have wl : IntKind.i64.wrap ((sp.length : Int) - 1) = (A.length : Int) := by rw [wrap_in (by omega) (by omega)]; omega
              have hlast : ix (sp.map (mkR u v)) (A.length : Int) = mkR u v s := by
                rw [e1, List.map_append]
                exact ix_app (by simp)
              rw [wl, hlast]
              refine ⟨fun _ => by omega, fun _ => by omega, IFB.mk (fun h => ?_) (fun h => ?_)⟩
              · have h : s.2 = x := by
                  have := (Bool.and_eq_true_iff.1 h).2
                  exact of_decide_eq_true this
                rcases e2 with ⟨_, e2⟩ | ⟨e2, _⟩
                · rw [e2] at h23
                  exact ⟨by omega, by omega, h23⟩
                · exact absurd h e2
              · have h : s.2 ≠ x := by
                  intro hs
                  have : decide ((mkR u v s).3 = x) = true := decide_eq_true hs
                  rw [this] at h
                  have : decide ((0 : Int) < (sp.length : Int)) = true := decide_eq_true (by omega)
                  rw [this] at h
                  cases h
                rcases e2 with ⟨e2, _⟩ | ⟨_, e2⟩
                · exact absurd e2 h
                · rw [e2] at h23
                  exact JOIN.mk ⟨by omega, by omega, by omega, by omega, by simp; omega, h23⟩
        refine ⟨by omega, by omega, by omega, by omega, by omega, by omega, ?_⟩
        have hpe : p u x = howS h (cov a x u) (cov b x u) := by rw [hpdef]; rfl
        rw [hpe] at h27
        refine JOIN.opq fun (J29 : Bool → Prop) h29 => ?_
        have h29 : J29 (howS h (cov a x u) (cov b x u)) := by rw [h29]; exact h27
        unfold howS at h29
        refine IFB.mk (fun q => ?_) (fun q => IFB.mk (fun q2 => ?_) (fun q2 => ?_))
        · rw [if_pos (of_decide_eq_true q)] at h29; exact h29
        · rw [if_neg (of_decide_eq_false q), if_pos (of_decide_eq_true q2)] at h29; exact h29
        · rw [if_neg (of_decide_eq_false q), if_neg (of_decide_eq_false q2)] at h29; exact h29
      · have hge : ¬ ((m + 1 : Nat) : Int) < z4.length := of_decide_eq_false hge
        rw [short_drop2 (by omega)] at j3
        subst j3
        have hfl := flat_last (acc := acc)
        have hfl2 : (flat acc.dropLast).length + (lastR acc).length = (flat acc).length := by rw [← hfl]; simp
        have hnew := flat_last (acc := addBd acc u v (spansOf (p u) z4))
        have hlen : (flat (addBd acc u v (spansOf (p u) z4))).length ≤ 5000 * (k + 1) := by
          rw [← hnew, List.length_append]
          rcases addBd_ref (acc := acc) (u := u) (v := v) (ss := spansOf (p u) z4) with ⟨_, e2, e3⟩ | ⟨_, e2, e3⟩
          · rw [e2, e3, List.length_map]; omega
          · rw [e2, e3, List.length_map, List.length_append]; omega
        have h18 := h18 hlen
        dsimp only
        rw [hu, hv]
        have hms : ((spansOf (p u) z4).map (mkR u v)).map spanOf = spansOf (p u) z4 := by
          rw [List.map_map]
          have : (spanOf ∘ mkR u v) = id := by funext s; rfl
          rw [this, List.map_id]
        rw [hms]
        have href := addBd_ref (acc := acc) (u := u) (v := v) (ss := spansOf (p u) z4)
        have hll : (lastR acc).length ≤ 20000000 := by omega
        have hol : (flat acc.dropLast).length ≤ 20000000 := by omega
        clear hnew hlen hfl i3 hrec12 hrec19
        generalize spansOf (p u) z4 = ss at *
        generalize lastR acc = last at *
        generalize flat acc.dropLast = out at *
        generalize lastR (addBd acc u v ss) = last' at *
        generalize flat (addBd acc u v ss).dropLast = out' at *
        refine JOIN.opq fun (J37 : Bool → Prop) h37 => ?_
        have h37 : ∀ y : Bool, (y = true → last.map spanOf = ss) → (last ≠ [] → last.map spanOf = ss → y = true) → J37 y := fun y g1 g2 => by
          rw [h37]
          have main : IFB (decide ((0 : Int) < (last.length : Int)) && y && decide ((ix last 0).4 = u)) ((last.length : Int) ≤ 9223372036854775807 → LOOP [Ty.int IntKind.i64, (Ty.st Sn.api_Rect).sl] (fun (rec31 : Int → List api_Rect → Prop) (z32 : Int) (z33 : List api_Rect) ↦ IFB (decide (z32 < (last.length : Int))) (((0 : Int) ≤ ((k + 1 : Nat) : Int) ∧ ((k + 1 : Nat) : Int) < (z3.length : Int)) ∧ ((0 : Int) ≤ z32 ∧ z32 < (z33.length : Int)) ∧ rec31 (IntKind.i64.wrap (z32 + 1)) (z33.set z32.toNat { Left := (ix z33 z32).1, Low := (ix z33 z32).2, Right := (ix z33 z32).3, High := v : api_Rect })) (J18 z33 out)) ((0 : Int), last, PUnit.unit)) ((out.length + last.length) * 32 ≤ 140737488355328 ∧ J18 (ss.map (mkR u v)) (out ++ last)) := by
            refine IFB.mk (fun hc _ => ?_) (fun hc => ⟨by omega, ?_⟩)
            · have hc : (0 < last.length ∧ y = true) ∧ (ix last 0).4 = u := by simpa using hc
              have hne : last ≠ [] := by intro e; rw [e] at hc; simp at hc
              rcases href with ⟨_, e2, e3⟩ | ⟨e1, _⟩
              · rw [e2, e3] at h18
                obtain ⟨hl, hhl⟩ : ∃ hl : Nat → List Rc, hl = fun q => (last.take q).map (fun r => { r with High := v }) ++ last.drop q := ⟨_, rfl⟩
                have h0 : hl 0 = last := by rw [hhl]; rfl
                have h1 : ∀ q r, last[q]? = some r → ix (hl q) (q : Int) = r ∧ (hl q).set q { Left := r.1, Low := r.2, Right := r.3, High := v } = hl (q + 1) := fun q r hq => by
                  rw [hhl]
                  exact ⟨map_at (f := fun r : Rc => { r with High := v }) hq, map_step (f := fun r : Rc => { r with High := v }) hq⟩
                have h2 : ∀ q, (hl q).length = last.length := fun q => by rw [hhl]; exact map_len
                have h3 : hl last.length = last.map fun r => { r with High := v } := by rw [hhl]; simp
                rw [← h3] at h18
                refine LOOP.list last (fun q (s : Unit) => ((q : Int), hl q, ())) (fun w => Int.toNat w.1) (fun _ _ _ => True) () (by rw [h0]; rfl) trivial (fun q s h => by simp) ?_ ?_
                · intro rec q r rs s hd hq hql _ hrec
                  obtain ⟨g1, g2⟩ := h1 q r hq
                  have g3 := h2 q
                  show IFB _ _ _
                  refine IFB.mk (fun _ => ⟨by omega, ?_, ?_⟩) (fun h => absurd (of_decide_eq_false h) (by show ¬ ¬ ((q : Int) < last.length); omega))
                  · show 0 ≤ (q : Int) ∧ (q : Int) < ((hl q).length : Int)
                    omega
                  · dsimp only
                    rw [g1, wrapS (by omega), Int.toNat_natCast, g2]
                    exact hrec () trivial
                · intro rec s _
                  show IFB _ _ _
                  exact IFB.mk (fun h => absurd (of_decide_eq_true h) (by show ¬ ((last.length : Int) < last.length); omega)) (fun _ => h18)
              · exact absurd ⟨hne, g1 hc.1.2, hc.2⟩ e1
            · rcases href with ⟨⟨q1, q2, q3⟩, _⟩ | ⟨_, e2, e3⟩
              · exfalso
                have : 0 < last.length := List.length_pos_iff.2 q1
                have hd : decide ((0 : Int) < (last.length : Int)) = true := decide_eq_true (by omega)
                rw [g2 q1 q2, q3, hd] at hc
                simp at hc
              · rw [e2, e3] at h18
                exact h18
          exact ⟨fun h => ⟨Int.NonNeg.mk _, of_decide_eq_true (Bool.and_eq_true_iff.1 h).1⟩, fun _ => ⟨by omega, by omega⟩, main, main⟩
        refine IFB.mk (fun h => ⟨by omega, fun y hy => h37 y hy.1 (fun _ => hy.2)⟩) (fun h => h37 false (fun h => by cases h) (fun hne _ => ?_))
        exfalso
        have : 0 < last.length := List.length_pos_iff.2 hne
        have h : decide ((0 : Int) < (last.length : Int)) = false := h
        have := of_decide_eq_false h
        omega
    · have hge : ¬ ((k + 1 : Nat) : Int) < z3.length := of_decide_eq_false hge
      rw [short_drop (by omega)] at i3
      have hfl := flat_last (acc := acc)
      have hfl2 : (flat acc.dropLast).length + (lastR acc).length = (flat acc).length := by rw [← hfl]; simp
      rw [← i3, ← hfl] at hp
      refine ⟨?_, hp⟩
      show ((flat acc.dropLast).length + (lastR acc).length) * 32 ≤ 140737488355328
      omega
theorem rcomb_ok : SpecOK Tryz.prog rcomb_sp := rcomb_of rcomb_main

end RE
end Go.Proofs.YtblcakaohlgagaaGreat
set_option maxRecDepth 100000
set_option linter.unusedVariables false
namespace Go.Proofs.YtblcakaohlgagaaGreat
open Go.RowKit
namespace RE
open PL
def rval_P (a : api_Region) (post : Bool → Prop) : Prop := ∀ q : Bool, (q = true ↔ validP a.1) → post q
def rval_sp : Spec := ⟨42, false, false, [.st .api_Region], .dat (.bool), fun x post => rval_P (x.1 : api_Region) (fun y0 => post (y0, ()))⟩
def rval_C : CtxR := ⟨tau, [rule1 rcomb_sp, rule1 rrec_sp], lookJ [(0, 1000009, ⟨[(2, .dat .bool)], [], [20, 21, 22, 23, 24, 25], [], []⟩), (0, 9, ⟨[(12, .dat (.int .i64))], [], [13, 14, 15, 4, 16, 17, 18, 19], [], []⟩)]⟩
def rval_W (a : api_Region) (post : Bool → Prop) : Prop := (↑a.1.length : Int) ≤ (9223372036854775807 : Int) → IFB (decide ((120 : Int) < (↑a.1.length : Int))) (post false) ((↑a.1.length : Int) ≤ (9223372036854775807 : Int) → LOOP [Ty.int IntKind.i64] (fun (rec1 : Int → Prop) (z2 : Int) ↦ IFB (decide (z2 < (↑a.1.length : Int))) (((0 : Int) ≤ z2 ∧ z2 < (↑a.1.length : Int)) ∧ IFB (!(decide ((0 : Int) ≤ (ix a.1 z2).1) && decide ((ix a.1 z2).1 < (ix a.1 z2).3) && decide ((ix a.1 z2).3 ≤ (16384 : Int)) && decide ((0 : Int) ≤ (ix a.1 z2).2) && decide ((ix a.1 z2).2 < (ix a.1 z2).4) && decide ((ix a.1 z2).4 ≤ (16384 : Int)))) (post false) (rec1 (IntKind.i64.wrap (z2 + (1 : Int))))) (JOIN [Ty.bool] (fun (y3 : Bool) ↦ post y3) fun (J4 : Bool → Prop) ↦ (a.1.length ≤ (1000 : Nat) ∧ (0 : Nat) ≤ (1000 : Nat)) ∧ (canonF fun (x y : Int) ↦ howS (1 : Int) (cov a.1 x y) (cov [] x y)).length ≤ (1000000000 : Nat) ∧ ∀ (v5 : Bool), (v5 = true ↔ (canonF fun (x y : Int) ↦ howS (1 : Int) (cov a.1 x y) (cov [] x y)) = a.1) → J4 v5)) ((0 : Int), PUnit.unit))
theorem rval_w (a : api_Region) (post : dens (shT rval_sp.rs []) → Prop) : rval_W a (fun y0 => post (y0, ())) = walkG (callR Tryz.prog rval_C (drawR Tryz.prog tau) 8 0) 42 false [tv (.st .api_Region) a] rval_sp.rs post := by kernel_rfl
theorem rval_of (h : ∀ (a : api_Region) (post : Bool → Prop), rval_P a post → rval_W a post) : SpecOK Tryz.prog rval_sp := SpecOK.of_rules (C := rval_C) (dr := drawR Tryz.prog tau) (n := 8) (fk := 0) (.cons (rule1_ok rcomb_ok) (.cons (rule1_ok rrec_ok) .nil)) (drawR_ok tau) fun x post hp => HoldW.of (rval_w x.1 post) (h x.1 (fun y0 => post (y0, ())) hp)
theorem rval_ok : SpecOK Tryz.prog rval_sp := rval_of fun a post hp => by
  obtain ⟨l⟩ := a
  unfold rval_P at hp
  unfold rval_W
  dsimp only at hp ⊢
  intro _
  refine IFB.mk (fun hb => hp _ ?_) (fun hb _ => ?_)
  · have hb := of_decide_eq_true hb
    constructor
    · intro h; cases h
    · intro h; have := h.1; omega
  · have hb := of_decide_eq_false hb
    refine loopCmp (n := l.length) (by omega) (p := fun j => proper (ix l (j : Int))) (fun rec k hk hpre hrec => ⟨by omega, IFB.mk (fun hb => hp _ ?_) (fun hb => hrec ?_)⟩) fun hall => ?_
    · constructor
      · intro h; cases h
      · intro h
        have := properB_iff.2 (h.2.1 _ (ix_mem (l := l) (i := (k : Int)) (by omega) (by omega)))
        unfold properB at this
        rw [this] at hb
        cases hb
    · exact properB_iff.1 (by unfold properB; simpa using hb)
    · have hall := all_ix hall
      refine JOIN.opq fun (J : Bool → Prop) hJ => ?_
      have hf : (canonF fun (x y : Int) => howS 1 (cov l x y) (cov [] x y)) = canonF (cov l) := congrArg canonF (comb_or_nil l)
      rw [hf]
      have := cov_len hall
      refine ⟨⟨by omega, by omega⟩, by omega, fun q hq => ?_⟩
      rw [hJ]
      refine hp q (hq.trans ⟨fun h => ⟨by omega, hall, (canon_iff l).1 h⟩, fun h => (canon_iff l).2 h.2.2⟩)

def rof_P (l : List (api_Rect)) (post : List (api_Rect) → Int → Prop) : Prop := post (ofS l).1 (ofS l).2
def rof_W (l : List (api_Rect)) (post : List (api_Rect) → Int → Prop) : Prop := (↑l.length : Int) ≤ (9223372036854775807 : Int) → IFB (decide ((120 : Int) < (↑l.length : Int))) (post [] (1 : Int)) ((↑l.length : Int) ≤ (9223372036854775807 : Int) → LOOP [Ty.int IntKind.i64] (fun (rec1 : Int → Prop) (z2 : Int) ↦ IFB (decide (z2 < (↑l.length : Int))) (((0 : Int) ≤ z2 ∧ z2 < (↑l.length : Int)) ∧ IFB (!(decide ((0 : Int) ≤ (ix l z2).1) && decide ((ix l z2).1 < (ix l z2).3) && decide ((ix l z2).3 ≤ (16384 : Int)) && decide ((0 : Int) ≤ (ix l z2).2) && decide ((ix l z2).2 < (ix l z2).4) && decide ((ix l z2).4 ≤ (16384 : Int)))) (post [] (2 : Int)) (rec1 (IntKind.i64.wrap (z2 + (1 : Int))))) ((l.length ≤ (1000 : Nat) ∧ (0 : Nat) ≤ (1000 : Nat)) ∧ JOIN [(Ty.st Sn.api_Rect).sl, Ty.int IntKind.i64] (fun (y3 : List api_Rect) (y4 : Int) ↦ post y3 y4) fun (J5 : List api_Rect → Int → Prop) ↦ (↑(canonF fun (x y : Int) ↦ howS (1 : Int) (cov l x y) (cov [] x y)).length : Int) ≤ (9223372036854775807 : Int) → IFB (decide ((120 : Int) < (↑(canonF fun (x y : Int) ↦ howS (1 : Int) (cov l x y) (cov [] x y)).length : Int))) (J5 [] (1 : Int)) (J5 (canonF fun (x y : Int) ↦ howS (1 : Int) (cov l x y) (cov [] x y)) (0 : Int)))) ((0 : Int), PUnit.unit))
theorem rof_main (l : List api_Rect) (post : List api_Rect → Int → Prop) (hp : rof_P l post) : rof_W l post := by
  unfold rof_P at hp
  unfold rof_W
  intro _
  refine IFB.mk (fun hb => ?_) (fun hb _ => ?_)
  · have hb := of_decide_eq_true hb
    unfold ofS at hp
    rw [if_pos (by omega)] at hp
    exact hp
  · have hb := of_decide_eq_false hb
    unfold ofS at hp
    rw [if_neg (by omega)] at hp
    refine loopCmp (n := l.length) (by omega) (p := fun j => proper (ix l (j : Int))) (fun rec k hk hpre hrec => ⟨by omega, IFB.mk (fun hb => ?_) (fun hb => hrec ?_)⟩) fun hall => ?_
    · rw [if_pos] at hp
      · exact hp
      · intro h
        have := properB_iff.2 (h _ (ix_mem (l := l) (i := (k : Int)) (by omega) (by omega)))
        unfold properB at this
        rw [this] at hb
        cases hb
    · exact properB_iff.1 (by unfold properB; simpa using hb)
    · have hall := all_ix hall
      rw [if_neg (fun h => h hall)] at hp
      have hf : (canonF fun (x y : Int) => howS 1 (cov l x y) (cov [] x y)) = canonF (cov l) := congrArg canonF (comb_or_nil l)
      rw [hf]
      have hlen := cov_len hall
      refine ⟨⟨by omega, by omega⟩, JOIN.opq fun (J : List api_Rect → Int → Prop) hJ _ => IFB.mk (fun hb => ?_) (fun hb => ?_)⟩
      · have hb := of_decide_eq_true hb
        rw [if_pos (by omega)] at hp
        rw [hJ]; exact hp
      · have hb := of_decide_eq_false hb
        rw [if_neg (by omega)] at hp
        rw [hJ]; exact hp
def rwit_P (a : api_Region) (b : api_Region) (post : Bool → Prop) : Prop := ∀ q : Bool, (q = true ↔ withinP a.1 b.1) → post q
def rwit_sp : Spec := ⟨16, false, false, [.st .api_Region, .st .api_Region], .dat (.bool), fun x post => rwit_P (x.1 : api_Region) (x.2.1 : api_Region) (fun y0 => post (y0, ()))⟩
def rwit_C : CtxR := ⟨tau, [rule1 rcomb_sp, rule1 rval_sp], lookJ []⟩
def rwit_W (a : api_Region) (b : api_Region) (post : Bool → Prop) : Prop := ∀ (v1 : Bool), (v1 = true ↔ validP a.1) → JOIN [Ty.bool] (fun (y2 : Bool) ↦ JOIN [(Ty.st Sn.api_Rect).sl] (fun (y3 : List api_Rect) ↦ (gx true (v1 && y2) = true → (↑y3.length : Int) ≤ (9223372036854775807 : Int)) → post (v1 && y2 && decide ((↑y3.length : Int) = (0 : Int)))) fun (J4 : List api_Rect → Prop) ↦ IFB (gx true (v1 && y2)) ((a.1.length ≤ (1000 : Nat) ∧ b.1.length ≤ (1000 : Nat)) ∧ J4 (canonF fun (x y : Int) ↦ howS (3 : Int) (cov a.1 x y) (cov b.1 x y))) (J4 [])) fun (J5 : Bool → Prop) ↦ IFB (gx true v1) (∀ (v6 : Bool), (v6 = true ↔ validP b.1) → J5 v6) (J5 false)
theorem rwit_w (a : api_Region) (b : api_Region) (post : dens (shT rwit_sp.rs []) → Prop) : rwit_W a b (fun y0 => post (y0, ())) = walkG (callR Tryz.prog rwit_C (drawR Tryz.prog tau) 8 0) 16 false [tv (.st .api_Region) a, tv (.st .api_Region) b] rwit_sp.rs post := by kernel_rfl
theorem rwit_of (h : ∀ (a : api_Region) (b : api_Region) (post : Bool → Prop), rwit_P a b post → rwit_W a b post) : SpecOK Tryz.prog rwit_sp := SpecOK.of_rules (C := rwit_C) (dr := drawR Tryz.prog tau) (n := 8) (fk := 0) (.cons (rule1_ok rcomb_ok) (.cons (rule1_ok rval_ok) .nil)) (drawR_ok tau) fun x post hp => HoldW.of (rwit_w x.1 x.2.1 post) (h x.1 x.2.1 (fun y0 => post (y0, ())) hp)
theorem rwit_ok : SpecOK Tryz.prog rwit_sp := rwit_of fun a b post hp => by
  obtain ⟨l⟩ := a
  obtain ⟨m⟩ := b
  unfold rwit_P at hp
  unfold rwit_W
  dsimp only at hp ⊢
  intro v1 h1
  refine JOIN.opq fun (J : Bool → Prop) hJ => ?_
  have main : ∀ y2 : Bool, ((v1 && y2) = true ↔ validP l ∧ validP m) → J y2 := by
    intro y2 h2
    rw [hJ]
    dsimp only
    refine JOIN.opq fun (J4 : List api_Rect → Prop) hJ4 => ?_
    refine IFB.mk (fun hb => ?_) (fun hb => ?_)
    · have hb : (v1 && y2) = true := hb
      obtain ⟨g1, g2⟩ := h2.1 hb
      have := g1.1
      have := g2.1
      refine ⟨⟨by omega, by omega⟩, ?_⟩
      rw [hJ4]
      dsimp only
      have hl : (canonF fun (x y : Int) => howS 3 (cov l x y) (cov m x y)).length ≤ 268435456 := box_len (comb_ok (howS_0 3) l m).1 fun x y hc => by
        have hc : cov (canonF (comb (howS 3) l m)) x y = true := hc
        rw [(comb_ok (howS_0 3) l m).2] at hc
        refine proper_box g1.2.1 ?_
        unfold comb howS at hc
        revert hc
        cases cov l x y <;> simp
      refine fun _ => hp _ ?_
      rw [hb, Bool.true_and, decide_eq_true_eq]
      have hn := not_none l m
      unfold withinP
      constructor
      · intro h
        refine ⟨g1, g2, hn.1 (List.eq_nil_of_length_eq_zero ?_)⟩
        show (canonF fun (x y : Int) => howS 3 (cov l x y) (cov m x y)).length = 0
        omega
      · intro h
        have := congrArg List.length (hn.2 h.2.2)
        have h : (canonF fun (x y : Int) => howS 3 (cov l x y) (cov m x y)).length = 0 := this
        omega
    · have hb : (v1 && y2) = false := hb
      rw [hJ4]
      dsimp only
      rw [hb]
      refine fun _ => hp _ ?_
      constructor
      · intro h; cases h
      · intro h; have := h2.2 ⟨h.1, h.2.1⟩; rw [hb] at this; cases this
  refine IFB.mk (fun hb v6 h6 => main v6 ?_) (fun hb => main false ?_)
  · have hb : v1 = true := hb
    rw [Bool.and_eq_true, h1, h6]
  · have hb : v1 = false := hb
    rw [hb] at h1 ⊢
    constructor
    · intro h; cases h
    · intro h; exact (h1.2 h.1)

end RE
end Go.Proofs.YtblcakaohlgagaaGreat
set_option linter.unusedVariables false
set_option maxRecDepth 100000
namespace Go.Proofs.YtblcakaohlgagaaGreat
open Go.RowKit Go.Sort
namespace RE
open PL
namespace PL
def compI (l : List Int) : List Int := Lib.compact l
noncomputable def uniqI (l : List Int) : List Int := compI (sortI l)
end PL
theorem compact_up {d : Array Int} (h : ∀ j k, j ≤ k → k < d.size → d[j]! ≤ d[k]!) : ∀ m, m ≤ d.size → (Lib.compactUpTo d m).Pairwise (· < ·) ∧ ∀ x, x ∈ Lib.compactUpTo d m ↔ ∃ j, j < m ∧ d[j]! = x
  | 0, _ => ⟨by simp [Lib.compactUpTo], fun x => by simp [Lib.compactUpTo]⟩
  | m + 1, hm => by
    obtain ⟨h1, h2⟩ := compact_up h m (by omega)
    rw [Lib.compactUpTo_succ]
    by_cases hk : Lib.keeps d m = true
    · rw [if_pos hk]
      constructor
      · rw [List.pairwise_append]
        refine ⟨h1, List.pairwise_singleton _ _, fun x hx y hy => ?_⟩
        rw [List.mem_singleton] at hy
        subst hy
        obtain ⟨j, hj, rfl⟩ := (h2 x).1 hx
        have hne : d[m]! ≠ d[m - 1]! := by
          simp only [Lib.keeps, decide_eq_true_eq] at hk
          rcases hk with hk | hk
          · omega
          · exact hk
        have a1 := h j (m - 1) (by omega) (by omega)
        have a2 := h (m - 1) m (by omega) (by omega)
        omega
      · intro x
        rw [List.mem_append, h2, List.mem_singleton]
        constructor
        · rintro (⟨j, hj, e⟩ | e)
          · exact ⟨j, by omega, e⟩
          · exact ⟨m, by omega, e.symm⟩
        · rintro ⟨j, hj, e⟩
          by_cases he : j = m
          · subst he; exact .inr e.symm
          · exact .inl ⟨j, by omega, e⟩
    · rw [if_neg hk, List.append_nil]
      refine ⟨h1, fun x => ?_⟩
      rw [h2]
      have hk : ¬ (m = 0 ∨ d[m]! ≠ d[m - 1]!) := by simpa [Lib.keeps] using hk
      constructor
      · rintro ⟨j, hj, e⟩; exact ⟨j, by omega, e⟩
      · rintro ⟨j, hj, e⟩
        by_cases he : j = m
        · subst he
          refine ⟨j - 1, by omega, ?_⟩
          rw [← e]
          exact (Classical.not_not.1 fun h => hk (.inr h)).symm
        · exact ⟨j, by omega, e⟩
theorem uniqI_ok (l : List Int) : (uniqI l).Pairwise (· < ·) ∧ ∀ x, x ∈ uniqI l ↔ x ∈ l := by
  have hs : (sortI l).Pairwise (fun x y => decide (x ≤ y) = true) := List.pairwise_mergeSort (fun a b c => by simp; omega) (fun a b => by simp; omega) l
  have hmono : ∀ j k, j ≤ k → k < (sortI l).toArray.size → (sortI l).toArray[j]! ≤ (sortI l).toArray[k]! := by
    intro j k hjk hk
    have hk : k < (sortI l).length := by simpa using hk
    rw [List.pairwise_iff_getElem] at hs
    by_cases e : j = k
    · subst e; exact Int.le_refl _
    · have := hs j k (by omega) hk (by omega)
      simp only [decide_eq_true_eq] at this
      simpa [hk, (by omega : j < (sortI l).length)] using this
  obtain ⟨h1, h2⟩ := compact_up hmono (sortI l).length (by simp)
  refine ⟨h1, fun x => ?_⟩
  rw [show uniqI l = Lib.compactUpTo (sortI l).toArray (sortI l).length from rfl, h2]
  have hm : x ∈ sortI l ↔ x ∈ l := List.mem_mergeSort
  rw [← hm]
  constructor
  · rintro ⟨j, hj, e⟩
    have : (sortI l)[j] = x := by simpa [hj] using e
    rw [← this]; exact List.getElem_mem hj
  · intro h
    obtain ⟨j, hj, rfl⟩ := List.getElem_of_mem h
    exact ⟨j, hj, by simp [hj]⟩
theorem uniqI_eq {l xs : List Int} (h1 : xs.Pairwise (· < ·)) (h2 : ∀ x, x ∈ xs ↔ x ∈ l) : uniqI l = xs := inc_uniq (uniqI_ok l).1 h1 fun x => by rw [(uniqI_ok l).2, h2]
theorem uniqI_len (l : List Int) : (uniqI l).length ≤ l.length := Nat.le_trans (Go.Lib.compact_length_le (α := Int) _) (by unfold sortI; simp)
/-- A function that takes over a row and gives back a row. -/
theorem Spec2OK.of_row {P : Program} {f : FuncId} {e : TypeId} {t : Ty} {pt : List (den t) → (List (den t) → Prop) → Prop}
    (h : ∀ l post, pt l post → ∀ w (S : Cells) (v : Value) (F : Nat → Prop), RowAt w S v F e t l → (∀ b o, S b o → b < w.heap.size) → (∀ b, F b → b < w.heap.size ∧ ∀ k, ¬ S b k) →
      Calls P f #[v] w fun e' w' => ∃ r l', e' = .returned r ∧ post l' ∧ RowAt w' S r F e t l' ∧ w'.os = w.os ∧ w'.tape = w.tape ∧ w'.output = w.output ∧ w.heap.size ≤ w'.heap.size ∧ ∀ b, b < w.heap.size → ¬ F b → w'.heap[b]? = w.heap[b]?) :
    Spec2OK P ⟨f, [.own e t], .own e t, fun x post => pt (x.1 : List (den t)) fun y => post (y, ())⟩ := by
  rintro ⟨(l : List (den t)), ⟨⟩⟩ post hp us w c hox hl hr
  match us, hl with
  | [u], _ =>
  have hu := srel_os (hr 0 (.os 0) u rfl rfl).1
  subst hu
  have hob : (mem2 [.own e t] ((l, ()) : dens (shTL [.own e t] []))).obs 0 = some (.row e t l) := rfl
  obtain ⟨_, _, hrow⟩ := hox.objs 0 _ hob
  have hfb := hox.fb 0 _ hob rfl
  refine (h l _ hp w c.S (c.H 0) (c.F 0) hrow hox.sb fun b hb => ⟨(hfb b hb).1, (hfb b hb).2.1⟩).mono ?_
  rintro e' w' ⟨rv, l', rfl, hp, hrow', g1, g2, g3, g4, g5⟩
  have hone : ∀ x y, put (fun _ => none) 1 (some (Ob.row e t l')) x = some y → x = 1 ∧ y = .row e t l' := fun x y hx => by
    by_cases e : x = 1
    · subst e
      rw [put_same] at hx
      injection hx with hx
      exact ⟨rfl, hx.symm⟩
    · rw [put_ne _ _ e] at hx; cases hx
  have hU : ∀ k, (mem2 [.own e t] ((l, ()) : dens (shTL [.own e t] []))).U k → k = 0 := fun k hk => by
    have : k < 1 := hk
    omega
  refine ⟨rv, (l', ()), ⟨c.S, put c.H 1 rv, put c.F 1 (c.F 0), c.T⟩, put (fun _ => none) 1 (some (.row e t l')), fun k => k < 2, rfl, hp, ⟨fun b o hb => Nat.lt_of_lt_of_le (hox.sb b o hb) g4, fun x y hx => ?_, fun x y hx ho b hb => ?_, fun i j x y hx ox hy oy hne b hb hb' => ?_, fun T hT => ?_, fun e => ?_, hox.tF⟩, ⟨g1, g2, g3, g4, fun _ h => h, fun _ h => .inl h, fun k hk => ?_, fun k hk => ?_, fun _ _ h => h, fun _ _ h => .inl h, fun b hb hf hT => g5 b hb fun hF => hf ⟨0, _, hob, rfl, hF⟩, fun b hb => ?_⟩, ?_, fun j r hj => ?_⟩
  · obtain ⟨rfl, rfl⟩ := hone x y hx
    refine ⟨by omega, trivial, ?_⟩
    show RowAt w' c.S (put c.H 1 rv 1) (put c.F 1 (c.F 0) 1) e t l'
    rw [put_same, put_same]
    exact hrow'
  · obtain ⟨rfl, rfl⟩ := hone x y hx
    have hb : put c.F 1 (c.F 0) 1 b := hb
    rw [put_same] at hb
    obtain ⟨u1, u2, u3⟩ := hfb b hb
    exact ⟨Nat.lt_of_lt_of_le u1 g4, u2, u3⟩
  · obtain ⟨rfl, rfl⟩ := hone i x hx
    obtain ⟨rfl, rfl⟩ := hone j y hy
    exact absurd rfl hne
  · obtain ⟨t1, t2⟩ := hox.nT T hT
    exact ⟨Nat.lt_of_lt_of_le t1 g4, t2⟩
  · cases e
  · have := hU k hk
    show k < 2
    omega
  · have := hU k hk
    subst this
    exact ⟨put_ne (k := 1) (i := 0) c.H rv (by omega), put_ne (k := 1) (i := 0) c.F (c.F 0) (by omega)⟩
  · obtain ⟨x, y, hx, ho, hb⟩ := hb
    obtain ⟨rfl, rfl⟩ := hone x y hx
    have hb : put c.F 1 (c.F 0) 1 b := hb
    rw [put_same] at hb
    exact .inl ⟨0, _, hob, rfl, hb⟩
  · show SRel ⟨c.S, put c.H 1 rv, put c.F 1 (c.F 0), c.T⟩ w' (.os 1) rv
    have := SRel.os (c := ⟨c.S, put c.H 1 rv, put c.F 1 (c.F 0), c.T⟩) (w := w') 1
    rwa [show (Cx.mk c.S (put c.H 1 rv) (put c.F 1 (c.F 0)) c.T).H 1 = rv from put_same c.H 1 rv] at this
  · match j, hj with
    | 0, hj =>
      have hj : some ((e, ⟨t, l'⟩) : Row) = some r := hj
      injection hj with hj
      subst hj
      exact put_same _ _ _
    | j + 1, hj => cases (show (none : Option Row) = some r from hj)
def scompact_sp : Spec2 := ⟨107, [.own 3 (.int .i64)], .own 3 (.int .i64), fun x post => (fun (l : List Int) (post : List Int → Prop) => l.length ≤ 1000000 ∧ post (compI l)) (x.1 : List Int) fun y => post (y, ())⟩
theorem scompact_row : ∀ (l : List Int) (post : List Int → Prop), (l.length ≤ 1000000 ∧ post (compI l)) → ∀ (w : World) (S : Cells) (v : Value) (F : Nat → Prop), RowAt w S v F 3 (.int .i64) l → (∀ b o, S b o → b < w.heap.size) → (∀ b, F b → b < w.heap.size ∧ ∀ k, ¬ S b k) →
    Calls Tryz.prog 107 #[v] w fun e' w' => ∃ (r : Value) (l' : List Int), e' = .returned r ∧ post l' ∧ RowAt w' S r F 3 (.int .i64) l' ∧ w'.os = w.os ∧ w'.tape = w.tape ∧ w'.output = w.output ∧ w.heap.size ≤ w'.heap.size ∧ ∀ b, b < w.heap.size → ¬ F b → w'.heap[b]? = w.heap[b]? := by
  intro l post ⟨hlen, hp⟩ w S v F hrow hS hF
  obtain ⟨h0, ⟨rfl, ⟨ad, rfl⟩, hn⟩ | ⟨g, cap, cur, rfl, hFg, hg, hnl, hcm, hcs, hrr⟩⟩ := hrow
  · refine (Tryz.slices_Compact_int_empty ad 0 w).mono ?_
    rintro e' w' ⟨rfl, rfl⟩
    have e : Lib.compact ([] : List Int) = [] := rfl
    have hp : post (Lib.compact ([] : List Int)) := hp
    rw [e] at hp
    exact ⟨_, [], rfl, hp, ⟨h0, .inl ⟨rfl, ⟨ad, rfl⟩, hn⟩⟩, rfl, rfl, rfl, Nat.le_refl _, fun _ _ _ => rfl⟩
  · have hnl : List.length (l : List Int) ≤ cap := hnl
    have hlen : List.length (l : List Int) ≤ 1000000 := hlen
    have hcl : (Lib.compact (l : List Int)).length ≤ List.length (l : List Int) := Go.Lib.compact_length_le (α := Int) l
    refine (Tryz.slices_Compact_int g 0 cap l w (holds_of_blockI hg (row_ints hrr)) (by omega) hnl).mono ?_
    rintro e' w' ⟨rfl, n, rfl⟩
    generalize hd : (Lib.compact (l : List Int) ++ List.replicate (List.length (l : List Int) - (Lib.compact (l : List Int)).length) 0).toArray = d
    have hG := grownBy_sortedI (w := w) (n := n) (g := g) (os := #[]) d
    have hH := heap_sortedI (n := n) (os := #[]) d hg
    rw [grow_empty] at hG hH
    refine ⟨_, Lib.compact (l : List Int), rfl, hp, ⟨h0, .inr ⟨g, cap, _, rfl, hFg, hH, Nat.le_trans hcl hnl, hcm, by simp [putCells, hcs], fun i (x : Int) hx j c hc => ?_⟩⟩, hG.os, hG.tape, hG.output, hG.size, fun b hb hnF => hG.block b hb fun e => hnF ((hFg b).2 (Option.some.inj e))⟩
    have hi : i < (Lib.compact (l : List Int)).length := (List.getElem?_eq_some_iff.1 hx).1
    cases j with
    | succ j => cases (show ([] : List D)[j]? = some c from hc)
    | zero =>
      have hc : [D.v (.int .i64 x)][0]? = some c := hc
      simp at hc
      subst hc
      refine ⟨.int .i64 x, ?_, rfl, .v _⟩
      show (putCells (Value.int .i64) 0 d cur)[i * 1 + 0]? = _
      rw [Nat.mul_one, Nat.add_zero]
      have hcs : cur.size = cap * 1 := hcs
      have h1 : i < cur.size := by omega
      have h2 : i < d.size := by rw [← hd]; simp; omega
      simp only [putCells, Array.getElem?_mapIdx, Array.getElem?_eq_getElem h1, Option.map_some, Nat.zero_le, true_and, Nat.zero_add, if_pos h2, Nat.sub_zero]
      have : d[i]! = x := by
        have h2 : (Lib.compact (l : List Int))[i] = x := (List.getElem?_eq_some_iff.1 hx).2
        rw [← h2, ← hd]
        simp [List.getElem?_append_left hi, List.getElem?_eq_getElem hi]
      rw [this]
theorem scompact_ok : Spec2OK Tryz.prog scompact_sp := Spec2OK.of_row (t := .int .i64) scompact_row
end RE
end Go.Proofs.YtblcakaohlgagaaGreat
set_option linter.unusedVariables false
set_option maxRecDepth 100000
namespace Go.Proofs.YtblcakaohlgagaaGreat
open Go.RowKit Go.Sort Go.Lib
namespace RE
open PL
def encS (x : region_Span) : List Value := [.int .i64 x.1, .int .i64 x.2]
def cfS (x y : region_Span) : Int := Lib.compareInt x.1 y.1
theorem ltS (x y : region_Span) : ltOf cfS x y = decide (x.1 < y.1) := by
  unfold ltOf cfS Lib.compareInt
  by_cases h1 : x.1 < y.1
  · simp [h1]
  · by_cases h2 : y.1 < x.1 <;> simp [h1, h2]
theorem swoS : SWO (ltOf cfS) where
  irrefl x := by rw [ltS]; simp
  trans x y z h1 h2 := by rw [ltS] at *; simp at *; omega
  ntrans x y z h1 h2 := by rw [ltS] at *; simp at *; omega
set_option maxHeartbeats 1000000 in
theorem clos158 (x y : region_Span) (W : World) : Calls Tryz.prog 111 #[.agg #[.int .i64 x.1, .int .i64 x.2], .agg #[.int .i64 y.1, .int .i64 y.2]] W fun e w' => e = .returned (.int .i64 (Lib.compareInt x.1 y.1)) ∧ ∃ q os', w' = grow (W.drewN q) os' := by
  have hcon := fun W' => AnyG.cmp_Compare_int Tryz.cmpSp x.1 y.1 W'
  change ∀ W', Calls Tryz.prog 100 _ _ _ at hcon
  generalize Lib.compareInt x.1 y.1 = r at hcon ⊢
  go_enter Tryz.func111, Tryz.ntmps111
  go_wp2_with (go_at_call 100; refine (hcon _).mono ?_; rintro e w' ⟨rfl, rfl⟩)
  go_ret
  exact ⟨rfl, 0, _, by rw [alloc_eq_grow, alloc_eq_grow, grow_grow]; rfl⟩
theorem cmpLays158 (blk off size : Nat) (w : World) : CmpLays Tryz.prog 111 #[] encS 2 cfS blk off size w :=
  fun _ _ _ _ x y => clos158 x y _
theorem heap_sortedV {w : World} {g n : Nat} {os : Array Obj} {cur : Array Value} {e : TypeId} {fr : Nat × Nat} (d : Array Value) (hb : w.heap[g]? = some (.cells cur e fr)) :
    (grow (putRow id (Sort.ahead w n) g 0 d) os).heap[g]? = some (.cells (putCells id 0 d cur) e fr) := by
  have hg : g < w.heap.size := (Array.getElem?_eq_some_iff.1 hb).1
  rw [heap_grow_old _ _ (by simpa using hg)]
  simp [putRow, mapBlock, Sort.ahead, Array.getElem?_modify, hb, onCells]
theorem grownBy_sortedV {w : World} {g n : Nat} {os : Array Obj} (d : Array Value) : w.grownBy (grow (putRow id (Sort.ahead w n) g 0 d) os) (some g) := by
  refine ⟨rfl, rfl, rfl, by simp, fun k hk hne => ?_⟩
  rw [heap_grow_old _ _ (by simpa using hk)]
  have : g ≠ k := fun e => hne (by rw [e])
  simp [putRow, mapBlock, Sort.ahead, Array.getElem?_modify, this]
theorem holdsS {w : World} {S : Cells} {g cap : Nat} {cur : Array Value} {e : TypeId} {l : List region_Span} (hb : w.heap[g]? = some (.cells cur e (0, 0)))
    (h : ∀ (i : Nat) (x : region_Span), l[i]? = some x → ∀ (j : Nat) (c : D), (enc (.st .region_Span) x)[j]? = some c → ∃ u : Value, cur[i * 2 + j]? = some u ∧ u.oneCell' = true ∧ Rd S w c u) :
    HoldsK encS 2 w g 0 l.toArray := by
  intro t ht
  have ht : t < l.length * 2 := by simpa using ht
  have hi : t / 2 < l.length := by omega
  refine ⟨?_, by simp [World.frozen?, hb]⟩
  have hx := List.getElem?_eq_getElem hi
  have key : ∀ j, j < 2 → t % 2 = j → cur[t]? = some (encS l[t / 2])[j]! := by
    intro j hj htj
    have ht2 : t / 2 * 2 + j = t := by omega
    match j, hj with
    | 0, _ =>
      obtain ⟨u, h1, _, h3⟩ := h (t / 2) l[t / 2] hx 0 _ rfl
      have h3 : Rd S w (.v (.int .i64 l[t / 2].1)) u := h3
      rw [ht2] at h1
      rw [h1, rd_v h3]; rfl
    | 1, _ =>
      obtain ⟨u, h1, _, h3⟩ := h (t / 2) l[t / 2] hx 1 _ rfl
      have h3 : Rd S w (.v (.int .i64 l[t / 2].2)) u := h3
      rw [ht2] at h1
      rw [h1, rd_v h3]; rfl
  have hk := key (t % 2) (Nat.mod_lt _ (by omega)) rfl
  show w.cell? ⟨g, 0 + t, none⟩ = some (flatK encS 2 l.toArray)[t]!
  rw [get_flatK _ _ _ t (by simpa using ht)]
  have e1 : (l.toArray)[t / 2]! = l[t / 2] := by simp [hi]
  rw [e1, Nat.zero_add]
  rw [← hk]
  simp [World.cell?, hb]
def psort_sp : Spec3 := ⟨110, .st .region_Span, some 111, fun (l : List region_Span) post => (l.length ≤ 1000000) ∧ ∀ l2, l2.Perm l → l2.Pairwise (fun s t => s.1 ≤ t.1) → post l2⟩
theorem psort_row (l : List region_Span) (post : List region_Span → Prop) (hp : (l.length ≤ 1000000) ∧ ∀ l2, l2.Perm l → l2.Pairwise (fun s t => s.1 ≤ t.1) → post l2) (w : World) (S : Cells) (v : Value) (F : Nat → Prop) (e : TypeId) (hrow : RowAt w S v F e (.st .region_Span) l) :
    Calls Tryz.prog 110 #[v, .func (.func 111) #[] #[]] w fun e' w' => ∃ r, ∃ l' : List region_Span, e' = .returned r ∧ post l' ∧ RowAt w' S v F e (.st .region_Span) l' ∧ w'.os = w.os ∧ w'.tape = w.tape ∧ w'.output = w.output ∧ w.heap.size ≤ w'.heap.size ∧ ∀ b, b < w.heap.size → ¬ F b → w'.heap[b]? = w.heap[b]? := by
  obtain ⟨hlen, hp⟩ := hp
  obtain ⟨h0, ⟨rfl, ⟨ad, rfl⟩, hn⟩ | ⟨g, cap, cur, rfl, hFg, hg, hnl, hcm, hcs, hrr⟩⟩ := hrow
  · refine (AnyF.slices_SortFunc_none Tryz.sortSp ad 0 _ w).mono ?_
    rintro e' w' ⟨rfl, rfl⟩
    exact ⟨_, [], rfl, hp [] (List.Perm.refl _) List.Pairwise.nil, ⟨h0, .inl ⟨rfl, ⟨ad, rfl⟩, hn⟩⟩, rfl, rfl, rfl, Nat.le_refl _, fun _ _ _ => rfl⟩
  · have hgl := (Array.getElem?_eq_some_iff.1 hg).1
    have hnl : List.length (l : List region_Span) ≤ cap := hnl
    have eg : ∀ args w, (callFunc 111 args).run Tryz.prog w = .ok (.enter 111 args) w := enters_of Tryz.func111 (by kernel_rfl) rfl
    refine (AnyQ.slices_SortFunc Tryz.sortSp 2 Tryz.isAgg155 Tryz.sizeOf155 encS (fun _ => rfl) (fun x v hv => by simp [encS] at hv; rcases hv with rfl | rfl <;> rfl) cfS swoS 111 #[] g 0 cap l.toArray w eg (cmpLays158 g 0 _ w) (holdsS (cap := cap) hg hrr) hgl (by simp; omega)).mono ?_
    rintro e' w' ⟨rfl, d, n, os, ⟨q1, q2, q3⟩, q4, rfl⟩
    have hdl : d.size = l.length := by rw [q1]; simp
    have hdt : List.length (d.toList : List region_Span) = l.length := by rw [Array.length_toList]; exact hdl
    have hG := grownBy_sortedV (w := w) (n := n) (g := g) (os := os) (flatK encS 2 d)
    have hH := heap_sortedV (n := n) (os := os) (flatK encS 2 d) hg
    refine ⟨_, d.toList, rfl, hp _ ?_ ?_, ⟨h0, .inr ⟨g, cap, _, ?_, hFg, hH, Nat.le_trans (Nat.le_of_eq hdt) hnl, hcm, by simp [putCells, hcs], fun i (x : region_Span) hx j c hc => ?_⟩⟩, hG.os, hG.tape, hG.output, hG.size, fun b hb hnF => hG.block b hb fun e => hnF ((hFg b).2 (Option.some.inj e))⟩
    · have e1 : d.extract 0 l.toArray.size = d := by rw [← q1]; simp
      have e2 : l.toArray.extract 0 l.toArray.size = l.toArray := by simp
      rw [e1, e2] at q3
      simpa using q3
    · rw [List.pairwise_iff_getElem]
      intro i j hi hj hij
      have hi' : i < d.size := by simpa using hi
      have hj' : j < d.size := by simpa using hj
      have := q4 i j (Nat.zero_le _) hij (by rw [← q1]; exact hj')
      rw [ltS, getElem!_pos d i hi', getElem!_pos d j hj'] at this
      have := of_decide_eq_false this
      simp only [Array.getElem_toList]
      omega
    · show Value.slice (some ⟨g, 0, none⟩) l.length cap = Value.slice (some ⟨g, 0, none⟩) (List.length (d.toList : List region_Span)) cap
      rw [hdt]
    · have hx : (d.toList : List region_Span)[i]? = some x := hx
      rw [Array.getElem?_toList] at hx
      have hi : i < d.size := (Array.getElem?_eq_some_iff.1 hx).1
      have hxe : d[i]! = x := by
        rw [getElem!_pos d i hi]
        exact (Array.getElem?_eq_some_iff.1 hx).2
      have hcs : cur.size = cap * 2 := hcs
      have key : ∀ k, k < 2 → (putCells id 0 (flatK encS 2 d) cur)[i * 2 + k]? = some (encS x)[k]! := by
        intro k hk
        have h1 : i * 2 + k < cur.size := by omega
        have h2 : i * 2 + k < d.size * 2 := by omega
        simp only [putCells, Array.getElem?_mapIdx, Array.getElem?_eq_getElem h1, Option.map_some, Nat.zero_le, true_and, Nat.zero_add, size_flatK, if_pos h2, Nat.sub_zero, id]
        rw [get_flatK _ _ _ _ h2, show (i * 2 + k) / 2 = i by omega, show (i * 2 + k) % 2 = k by omega, hxe]
      match j, hc with
      | 0, hc =>
        have hc : some (D.v (.int .i64 x.1)) = some c := hc
        injection hc with hc
        subst hc
        exact ⟨_, key 0 (by omega), rfl, .v _⟩
      | 1, hc =>
        have hc : some (D.v (.int .i64 x.2)) = some c := hc
        injection hc with hc
        subst hc
        exact ⟨_, key 1 (by omega), rfl, .v _⟩
      | j + 2, hc => cases (show (none : Option D) = some c from hc)
theorem psort_ok : Spec3OK Tryz.prog psort_sp := fun l post hp w S v F e hrow _ _ => psort_row l post hp w S v F e hrow
end RE
end Go.Proofs.YtblcakaohlgagaaGreat
set_option linter.unusedVariables false
set_option maxRecDepth 100000
namespace Go.Proofs.YtblcakaohlgagaaGreat
open Go.RowKit Go.Sort Go.Lib Go.Shelf
namespace RE
open PL
def growCp (ss : List SV) (m : MS) (k : SV → MS → Prop) : Prop := match ss with
  | [.d (.v (.slice none 0 0)), .d (.v (.int .i64 n))] => (0 ≤ n ∧ n ≤ 1000000) ∧ k (.os m.nx) ⟨(m.nx, some (.row 155 (.st .region_Span) [])) :: m.ob, m.nx + 1, m.tp⟩
  | _ => False
def pgrow_rule : Rule := ⟨134, growCp⟩
noncomputable def info187 : TypeInfo := (Tryz.prog.info? 155).get!
noncomputable def zero187 : Value := info187.zero.get!
theorem info187_eq : Tryz.prog.info? 155 = some info187 := by kernel_rfl
theorem zero187_eq : info187.zero = some zero187 := by kernel_rfl
theorem size187 : info187.size = 2 := by kernel_rfl
theorem bytes187 : info187.bytes = 16 := by kernel_rfl
theorem cells187 : zero187.cells.size = 2 := by kernel_rfl
theorem newRow {m : MS} {w w' : World} {c : Cx} (hox : OXM m w c) {v : Value} {F : Nat → Prop} {e : TypeId} {t : Ty} {l : List (den t)} (h1 : w'.os = w.os) (h2 : w'.tape = w.tape) (h3 : w'.output = w.output) (h4 : w.heap.size ≤ w'.heap.size) (h5 : ∀ b, b < w.heap.size → w'.heap[b]? = w.heap[b]?)
    (hF : ∀ b, F b → w.heap.size ≤ b ∧ b < w'.heap.size) (hr : RowAt w' c.S v F e t l) :
    ∃ c', OXM ⟨(m.nx, some (.row e t l)) :: m.ob, m.nx + 1, m.tp⟩ w' c' ∧ TrM m w c ⟨(m.nx, some (.row e t l)) :: m.ob, m.nx + 1, m.tp⟩ w' c' ∧ c'.H m.nx = v := by
  have ho : (MS.obs ⟨(m.nx, some (.row e t l)) :: m.ob, m.nx + 1, m.tp⟩) = put m.obs m.nx (some (.row e t l)) := lookO_cons _ _ _
  have hU : ∀ i, m.U i → i ≠ m.nx := fun i hi e => by have : i < m.nx := hi; omega
  obtain ⟨k1, k2⟩ := OX.upd (ob' := put m.obs m.nx (some (.row e t l))) (U' := fun i => i < m.nx + 1) (w' := w') (c' := ⟨c.S, put c.H m.nx v, put c.F m.nx F, c.T⟩) hox m.nx (.row e t l) (fun i => i ≠ m.nx)
    (fun i hi => Nat.lt_succ_of_lt hi) (Nat.lt_succ_self _) (put_same _ _ _) (fun i y hi e => ⟨e, by rw [put_ne _ _ e] at hi; exact hi⟩) (fun e => e rfl) (fun i hi => ⟨put_ne _ _ (hU i hi), put_ne _ _ (hU i hi)⟩) (fun _ _ h => h) (fun _ _ h => .inl h) (fun b o hb => Nat.lt_of_lt_of_le (hox.sb b o hb) h4)
    rfl h1 h2 h3 h4 (fun b hb _ => h5 b hb) (by
      show RowAt w' c.S (put c.H m.nx v m.nx) (put c.F m.nx F m.nx) e t l
      rw [put_same, put_same]; exact hr) trivial (fun _ b hb => .inr (hF b (by
        have hb : put c.F m.nx F m.nx b := hb
        rw [put_same] at hb; exact hb)).1) (fun _ b hb => by
        have hb : put c.F m.nx F m.nx b := hb
        rw [put_same] at hb
        obtain ⟨q1, q2⟩ := hF b hb
        exact ⟨q2, fun o hs => by have := hox.sb b o hs; omega⟩)
  refine ⟨⟨c.S, put c.H m.nx v, put c.F m.nx F, c.T⟩, ?_, ?_, put_same _ _ _⟩
  · show OX _ _ _ _ _
    rw [ho]; exact k1
  · show Tr _ _ _ _ _ _ _ _
    rw [ho]; exact k2
theorem growRun (n : Nat) (hn : n ≤ 1000000) (w : World) (S : Cells) : Calls Tryz.prog 134 #[.slice none 0 0, .int .i64 n] w fun e w' => ∃ v F, e = .returned v ∧ w'.os = w.os ∧ w'.tape = w.tape ∧ w'.output = w.output ∧ w.heap.size ≤ w'.heap.size ∧ (∀ b, b < w.heap.size → w'.heap[b]? = w.heap[b]?) ∧ (∀ b, F b → w.heap.size ≤ b ∧ b < w'.heap.size) ∧ RowAt w' S v F 155 (.st .region_Span) [] := by
  by_cases h0 : n = 0
  · subst h0
    refine (Any8.slices_Grow_room Tryz.growSp none 0 0 0 w (by omega) (by omega) (by omega) (by omega)).mono ?_
    rintro e w' ⟨rfl, rfl⟩
    exact ⟨_, fun _ => False, rfl, rfl, rfl, rfl, Nat.le_refl _, fun _ _ => rfl, fun b h => h.elim, by decide, .inl ⟨rfl, ⟨none, rfl⟩, fun b h => h⟩⟩
  · refine (Any8.slices_Grow_grow Tryz.growSp info187 zero187 info187_eq zero187_eq (by rw [size187]; omega) none 0 0 n [] w (by omega) (by omega) ?_ (by omega) rfl (fun _ => rfl) (fun a h => by cases h)).mono ?_
    · rw [bytes187]
      omega
    rintro e w' ⟨rfl, rfl⟩
    have hge := grownCap_ge w (0 + n) 0 155
    refine ⟨_, fun b => b = w.heap.size, rfl, rfl, rfl, rfl, by simp, fun b hb => heap_alloc_old w.drew _ hb, fun b h => ⟨by omega, by simp [h]⟩, by decide, .inr ⟨w.heap.size, _, _, rfl, fun b => Iff.rfl, heap_alloc_new w.drew _, Nat.zero_le _, grownCap_le_maxLen w (0 + n) 0 155 (by simp only [maxLen]; omega), ?_, fun i x hx => by simp at hx⟩⟩
    show _ = _ * 2
    simp only [Array.size_append, List.size_toArray, List.length_nil, size_zeroCells, cells187, Nat.zero_add, show Tryz.growSp_ren.t 25 = 155 from rfl] at hge ⊢
    omega
theorem pgrow_rule_ok : RuleOK Tryz.prog pgrow_rule := by
  intro ss m k hk us w c hox hl hr
  have hk2 : growCp ss m k := hk
  clear hk
  unfold growCp at hk2
  split at hk2
  · rename_i n
    obtain ⟨⟨p1, p2⟩, hk2⟩ := hk2
    match us, hl with
    | [a, b], _ =>
    have ha : a = .slice none 0 0 := srel_v (hr 0 _ a rfl rfl).1
    have hb : b = .int .i64 n := srel_v (hr 1 _ b rfl rfl).1
    subst ha hb
    obtain ⟨q, rfl⟩ : ∃ q : Nat, n = q := ⟨n.toNat, by omega⟩
    refine (growRun q (by omega) w c.S).mono ?_
    rintro e w' ⟨v, F, rfl, g1, g2, g3, g4, g5, g6, g7⟩
    obtain ⟨c', k1, k2, k3⟩ := newRow hox g1 g2 g3 g4 g5 g6 g7
    exact ⟨v, _, _, c', rfl, hk2, ⟨⟨[(m.nx, some (.row 155 (.st .region_Span) []))], rfl⟩, id⟩, k1, k2, by rw [← k3]; exact .os _, Nat.lt_succ_self _⟩
  · exact hk2.elim
end RE
end Go.Proofs.YtblcakaohlgagaaGreat
set_option maxRecDepth 100000
set_option linter.unusedVariables false
namespace Go.Proofs.YtblcakaohlgagaaGreat
open Go.RowKit
namespace RE
open PL
def pcuts_P (ls : List (List (api_Rect))) (post : List (Int) → Prop) : Prop := (ls.flatten.length ≤ 10000 ∧ ls.length ≤ 10) ∧ post (cutsS ls.flatten)
def pcuts_sp : Spec := ⟨74, false, true, [.sl (.sl (.st .api_Rect))], .dat (.sl (.int .i64)), fun x post => pcuts_P (x.1 : List (List (api_Rect))) (fun y0 => post (y0, ()))⟩
def pcuts_C : CtxR := ⟨tau, [rule3 ssort_sp, rule2 scompact_sp], lookJ [(0, 7, ⟨[(10, .dat (.int .i64)), (3, .own 3 (.int .i64))], [], [11, 12, 13, 5, 14, 15, 27, 26, 25, 24, 23, 22, 21, 20, 7, 19, 18, 16, 17, 28], [], []⟩), (0, 13, ⟨[(16, .dat (.int .i64)), (3, .own 3 (.int .i64))], [], [17, 18, 19, 7, 20, 21, 22, 23, 24, 25, 26, 27], [0], []⟩)]⟩
def pcuts_W (ls : List (List (api_Rect))) (post : List (Int) → Prop) : Prop := (↑ls.length : Int) ≤ (9223372036854775807 : Int) → LOOP [Ty.int IntKind.i64, (Ty.int IntKind.i64).sl] (fun (rec1 : Int → List Int → Prop) (z2 : Int) (z3 : List Int) ↦ IFB (decide (z2 < (↑ls.length : Int))) (((0 : Int) ≤ z2 ∧ z2 < (↑ls.length : Int)) ∧ ((↑(ix ls z2).length : Int) ≤ (9223372036854775807 : Int) → LOOP [Ty.int IntKind.i64, (Ty.int IntKind.i64).sl] (fun (rec4 : Int → List Int → Prop) (z5 : Int) (z6 : List Int) ↦ IFB (decide (z5 < (↑(ix ls z2).length : Int))) (((0 : Int) ≤ z5 ∧ z5 < (↑(ix ls z2).length : Int)) ∧ (z6.length + [(ix (ix ls z2) z5).2, (ix (ix ls z2) z5).4].length) * (8 : Nat) ≤ (140737488355328 : Nat) ∧ rec4 (IntKind.i64.wrap (z5 + (1 : Int))) (z6 ++ [(ix (ix ls z2) z5).2, (ix (ix ls z2) z5).4])) (rec1 (IntKind.i64.wrap (z2 + (1 : Int))) z6)) ((0 : Int), z3, PUnit.unit))) (z3.length ≤ (1000000 : Nat) ∧ (sortI z3).length ≤ (1000000 : Nat) ∧ post (compI (sortI z3)))) ((0 : Int), [], PUnit.unit)
theorem pcuts_w (ls : List (List (api_Rect))) (post : dens (shT pcuts_sp.rs []) → Prop) : pcuts_W ls (fun y0 => post (y0, ())) = walkG (callR Tryz.prog pcuts_C (drawR Tryz.prog tau) 8 0) 74 false [tv (.sl (.sl (.st .api_Rect))) ls] pcuts_sp.rs post := by kernel_rfl
theorem pcuts_of (h : ∀ (ls : List (List (api_Rect))) (post : List (Int) → Prop), pcuts_P ls post → pcuts_W ls post) : SpecOK Tryz.prog pcuts_sp := SpecOK.of_rules (C := pcuts_C) (dr := drawR Tryz.prog tau) (n := 8) (fk := 0) (.cons (rule3_ok ssort_ok) (.cons (rule2_ok scompact_ok) .nil)) (drawR_ok tau) fun x post hp => HoldW.of (pcuts_w x.1 post) (h x.1 (fun y0 => post (y0, ())) hp)
def cutL (l : List Rc) : List Int := l.flatMap fun r => [r.Low, r.High]
theorem cutL_cons {r : Rc} {l : List Rc} : cutL (r :: l) = r.Low :: r.High :: cutL l := rfl
theorem cutL_app {a b : List Rc} : cutL (a ++ b) = cutL a ++ cutL b := by unfold cutL; simp
theorem cutL_len {l : List Rc} : (cutL l).length = 2 * l.length := by
  induction l with
  | nil => rfl
  | cons r l ih => rw [cutL_cons]; simp only [List.length_cons, ih]; omega
theorem cutL_mem {l : List Rc} {x : Int} : x ∈ cutL l ↔ ∃ r ∈ l, x = r.Low ∨ x = r.High := by unfold cutL; simp
theorem cuts_uniq (l : List Rc) : uniqI (cutL l) = cutsS l := uniqI_eq cutsS_ok.1 fun x => by rw [cutsS_ok.2, cutL_mem]
theorem cuts_in {l : List Rc} {A : List Int} {K : List Int → Prop} (hl : A.length + 2 * l.length ≤ 100000) (hK : K (A ++ cutL l)) :
    LOOP [Ty.int IntKind.i64, (Ty.int IntKind.i64).sl] (fun (rec4 : Int → List Int → Prop) (z5 : Int) (z6 : List Int) ↦ IFB (decide (z5 < (↑l.length : Int))) (((0 : Int) ≤ z5 ∧ z5 < (↑l.length : Int)) ∧ (z6.length + [(ix l z5).2, (ix l z5).4].length) * 8 ≤ 140737488355328 ∧ rec4 (IntKind.i64.wrap (z5 + (1 : Int))) (z6 ++ [(ix l z5).2, (ix l z5).4])) (K z6)) ((0 : Int), A, PUnit.unit) := by
  refine LOOP.list l (fun k (s : List Int) => ((k : Int), s, ())) (fun u => Int.toNat u.1) (fun k r (s : List Int) => s ++ cutL r = A ++ cutL l ∧ s.length = A.length + 2 * k) A rfl ⟨rfl, by omega⟩ (fun k s h => by simp) ?_ ?_
  · intro rec k x r s hd hk hkl ⟨g1, g2⟩ hrec
    have hx := ix_of hk
    show IFB _ _ _
    refine IFB.mk (fun _ => ⟨by show 0 ≤ (k : Int) ∧ (k : Int) < l.length; omega, ?_⟩) (fun h => absurd (of_decide_eq_false h) (by show ¬ ¬ ((k : Int) < l.length); omega))
    dsimp only
    rw [hx]
    refine ⟨by simp only [List.length_cons, List.length_nil]; omega, ?_⟩
    rw [wrapS (by omega)]
    refine hrec _ ⟨?_, ?_⟩
    · rw [← g1, cutL_cons]; simp
    · simp only [List.length_append, List.length_cons, List.length_nil]; omega
  · intro rec s ⟨g1, g2⟩
    show IFB _ _ _
    refine IFB.mk (fun h => absurd (of_decide_eq_true h) (by show ¬ ((l.length : Int) < l.length); omega)) (fun _ => ?_)
    have g1 : s = A ++ cutL l := by simpa [cutL] using g1
    show K s
    rw [g1]; exact hK
theorem pcuts_ok : SpecOK Tryz.prog pcuts_sp := pcuts_of fun ls post hp => by
  obtain ⟨⟨h1, h2⟩, hp⟩ := hp
  unfold pcuts_W
  intro _
  refine LOOP.list ls (fun k (s : List Int) => ((k : Int), s, ())) (fun u => Int.toNat u.1) (fun k r (s : List Int) => s ++ cutL r.flatten = cutL ls.flatten) [] rfl rfl (fun k s h => by simp) ?_ ?_
  · intro rec k x r s hd hk hkl g1 hrec
    have hx := ix_of hk
    have hlen : s.length + (2 * x.length + 2 * r.flatten.length) ≤ 20000 := by
      have := congrArg List.length g1
      rw [List.length_append, cutL_len, cutL_len, List.flatten_cons, List.length_append] at this
      omega
    show IFB _ _ _
    refine IFB.mk (fun _ => ⟨by show 0 ≤ (k : Int) ∧ (k : Int) < ls.length; omega, ?_⟩) (fun h => absurd (of_decide_eq_false h) (by show ¬ ¬ ((k : Int) < ls.length); omega))
    dsimp only
    rw [hx]
    intro _
    refine cuts_in (l := x) (A := s) (K := fun z6 => rec (IntKind.i64.wrap ((k : Int) + 1)) z6) (by omega) ?_
    rw [wrapS (by omega)]
    refine hrec _ ?_
    rw [← g1, List.flatten_cons, cutL_app, List.append_assoc]
  · intro rec s g1
    show IFB _ _ _
    refine IFB.mk (fun h => absurd (of_decide_eq_true h) (by show ¬ ((ls.length : Int) < ls.length); omega)) (fun _ => ?_)
    have g1 : s = cutL ls.flatten := by simpa [cutL] using g1
    have hlen : s.length ≤ 20000 := by rw [g1, cutL_len]; omega
    have hsl : (sortI s).length = s.length := by unfold sortI; simp
    dsimp only
    refine ⟨by omega, by omega, ?_⟩
    rw [← cuts_uniq, ← g1] at hp
    exact hp

def prow_P (l : List (api_Rect)) (y : Int) (post : List (region_Span) → Prop) : Prop := ((∀ r ∈ l, r.Left < r.Right) ∧ l.length ≤ 10000) ∧ post (rowS l y)
def prow_sp : Spec := ⟨77, false, true, [.sl (.st .api_Rect), .int .i64], .dat (.sl (.st .region_Span)), fun x post => prow_P (x.1 : List (api_Rect)) (x.2.1 : Int) (fun y0 => post (y0, ()))⟩
def prow_C : CtxR := ⟨tau, [rule3 psort_sp], lookJ [(0, 23, ⟨[(41, .dat (.int .i64)), (8, .own 155 (.st .region_Span))], [], [42, 73, 72, 71, 70, 69, 68, 67, 66, 65, 64, 63, 62, 61, 60, 58, 57, 56, 55, 54, 53, 52, 51, 50, 59, 49, 48, 47, 11, 46, 45, 10, 44, 43, 77, 76, 75, 74, 78], [], []⟩), (0, 34, ⟨[(8, .own 155 (.st .region_Span))], [], [74, 75, 76, 77, 43, 44, 10, 45, 46, 11, 47, 48, 49, 59, 50, 51, 52, 53, 54, 55, 56, 57, 58, 60, 61, 62, 63, 64, 65, 66, 67, 68, 69, 70, 71, 72, 73], [1], []⟩), (0, 7, ⟨[(14, .dat (.int .i64)), (5, .own 155 (.st .region_Span))], [], [15, 35, 34, 33, 32, 31, 30, 29, 28, 26, 25, 24, 23, 27, 22, 21, 20, 19, 18, 7, 17, 16, 36], [], []⟩), (0, 14, ⟨[(5, .own 155 (.st .region_Span))], [], [16, 17, 7, 18, 19, 20, 21, 22, 27, 23, 24, 25, 26, 28, 29, 30, 31, 32, 33, 34, 35], [0], []⟩)]⟩
def prow_W (l : List (api_Rect)) (y : Int) (post : List (region_Span) → Prop) : Prop := (↑l.length : Int) ≤ (9223372036854775807 : Int) → LOOP [Ty.int IntKind.i64, (Ty.st Sn.region_Span).sl] (fun (rec1 : Int → List region_Span → Prop) (z2 : Int) (z3 : List region_Span) ↦ IFB (decide (z2 < (↑l.length : Int))) (JOIN [(Ty.st Sn.region_Span).sl] (fun (y4 : List region_Span) ↦ rec1 (IntKind.i64.wrap (z2 + (1 : Int))) y4) fun (J5 : List region_Span → Prop) ↦ ((0 : Int) ≤ z2 ∧ z2 < (↑l.length : Int)) ∧ IFB (decide ((ix l z2).2 ≤ y) && decide (y < (ix l z2).4)) ((z3.length + [{ Left := (ix l z2).1, Right := (ix l z2).3 : region_Span }].length) * (16 : Nat) ≤ (140737488355328 : Nat) ∧ J5 (z3 ++ [{ Left := (ix l z2).1, Right := (ix l z2).3 : region_Span }])) (J5 z3)) (z3.length ≤ (1000000 : Nat) ∧ ∀ (v6 : List region_Span), v6.Perm z3 → List.Pairwise (fun (s t : region_Span) ↦ s.1 ≤ t.1) v6 → (↑v6.length : Int) ≤ (9223372036854775807 : Int) → LOOP [Ty.int IntKind.i64, (Ty.st Sn.region_Span).sl] (fun (rec7 : Int → List region_Span → Prop) (z8 : Int) (z9 : List region_Span) ↦ IFB (decide (z8 < (↑v6.length : Int))) (JOIN [(Ty.st Sn.region_Span).sl] (fun (y10 : List region_Span) ↦ rec7 (IntKind.i64.wrap (z8 + (1 : Int))) y10) fun (J11 : List region_Span → Prop) ↦ ((0 : Int) ≤ z8 ∧ z8 < (↑v6.length : Int)) ∧ ((↑z9.length : Int) ≤ (9223372036854775807 : Int) → (gx true (decide ((0 : Int) < (↑z9.length : Int))) = true → (0 : Int) ≤ IntKind.i64.wrap ((↑z9.length : Int) - (1 : Int)) ∧ IntKind.i64.wrap ((↑z9.length : Int) - (1 : Int)) < (↑z9.length : Int)) ∧ IFB (decide ((0 : Int) < (↑z9.length : Int)) && decide ((ix v6 z8).1 ≤ (ix z9 (IntKind.i64.wrap ((↑z9.length : Int) - (1 : Int)))).2)) (((0 : Int) ≤ IntKind.i64.wrap ((↑z9.length : Int) - (1 : Int)) ∧ IntKind.i64.wrap ((↑z9.length : Int) - (1 : Int)) < (↑z9.length : Int)) ∧ ((0 : Int) ≤ IntKind.i64.wrap ((↑z9.length : Int) - (1 : Int)) ∧ IntKind.i64.wrap ((↑z9.length : Int) - (1 : Int)) < (↑z9.length : Int)) ∧ J11 (z9.set (IntKind.i64.wrap ((↑z9.length : Int) - (1 : Int))).toNat { Left := (ix z9 (IntKind.i64.wrap ((↑z9.length : Int) - (1 : Int)))).1, Right := Max.max (ix z9 (IntKind.i64.wrap ((↑z9.length : Int) - (1 : Int)))).2 (ix v6 z8).2 : region_Span })) ((z9.length + [{ Left := (ix v6 z8).1, Right := (ix v6 z8).2 : region_Span }].length) * (16 : Nat) ≤ (140737488355328 : Nat) ∧ J11 (z9 ++ [{ Left := (ix v6 z8).1, Right := (ix v6 z8).2 : region_Span }])))) (post z9)) ((0 : Int), [], PUnit.unit))) ((0 : Int), [], PUnit.unit)
theorem prow_w (l : List (api_Rect)) (y : Int) (post : dens (shT prow_sp.rs []) → Prop) : prow_W l y (fun y0 => post (y0, ())) = walkG (callR Tryz.prog prow_C (drawR Tryz.prog tau) 10 0) 77 false [tv (.sl (.st .api_Rect)) l, tv (.int .i64) y] prow_sp.rs post := by kernel_rfl
theorem prow_of (h : ∀ (l : List (api_Rect)) (y : Int) (post : List (region_Span) → Prop), prow_P l y post → prow_W l y post) : SpecOK Tryz.prog prow_sp := SpecOK.of_rules (C := prow_C) (dr := drawR Tryz.prog tau) (n := 10) (fk := 0) (.cons (rule3_ok psort_ok) .nil) (drawR_ok tau) fun x post hp => HoldW.of (prow_w x.1 x.2.1 post) (h x.1 x.2.1 (fun y0 => post (y0, ())) hp)
theorem onRow_cons {y : Int} {r : Rc} {l : List Rc} : onRow y (r :: l) = if (decide (r.Low ≤ y) && decide (y < r.High)) = true then r :: onRow y l else onRow y l := by
  unfold onRow
  rw [List.filter_cons]
theorem prow_ok : SpecOK Tryz.prog prow_sp := prow_of fun l y post hp => by
  obtain ⟨⟨h1, h2⟩, hp⟩ := hp
  unfold prow_W
  intro _
  refine LOOP.list l (fun k (s : List Sp) => ((k : Int), s, ())) (fun u => Int.toNat u.1) (fun k r (s : List Sp) => s ++ (onRow y r).map spanOf = (onRow y l).map spanOf ∧ s.length ≤ k) [] rfl ⟨rfl, Nat.le_refl _⟩ (fun k s h => by simp) ?_ ?_
  · intro rec k x r s hd hk hkl ⟨g1, g2⟩ hrec
    have hx := ix_of hk
    show IFB _ _ _
    refine IFB.mk (fun _ => ?_) (fun h => absurd (of_decide_eq_false h) (by show ¬ ¬ ((k : Int) < l.length); omega))
    refine JOIN.opq fun (J : List Sp → Prop) hJ => ?_
    dsimp only
    rw [hx]
    refine ⟨by omega, IFB.mk (fun hb => ?_) (fun hb => ?_)⟩
    · refine ⟨by simp only [List.length_cons, List.length_nil]; omega, ?_⟩
      rw [hJ]
      show rec (IntKind.i64.wrap ((k : Int) + 1)) _
      rw [wrapS (by omega)]
      refine hrec _ ⟨?_, by simp only [List.length_append, List.length_cons, List.length_nil]; omega⟩
      rw [← g1, onRow_cons, if_pos hb]
      simp [spanOf]
    · rw [hJ]
      show rec (IntKind.i64.wrap ((k : Int) + 1)) _
      rw [wrapS (by omega)]
      refine hrec _ ⟨?_, by omega⟩
      rw [← g1, onRow_cons, if_neg (by rw [hb]; simp)]
  · intro rec s ⟨g1, g2⟩
    show IFB _ _ _
    refine IFB.mk (fun h => absurd (of_decide_eq_true h) (by show ¬ ((l.length : Int) < l.length); omega)) (fun _ => ?_)
    have g1 : s = (onRow y l).map spanOf := by simpa [onRow] using g1
    have hsl : s.length ≤ 10000 := by omega
    refine ⟨by show s.length ≤ 1000000; omega, fun v hperm hsort _ => ?_⟩
    have hvl : v.length = s.length := hperm.length_eq
    rw [← rowS_sorted h1 (g1 ▸ hperm) hsort] at hp
    refine LOOP.list v (fun k (s : List Sp) => ((k : Int), s, ())) (fun u => Int.toNat u.1) (fun k r (s : List Sp) => rowG s r = rowG [] v ∧ s.length ≤ k) [] rfl ⟨rfl, Nat.le_refl _⟩ (fun k s h => by simp) ?_ ?_
    · intro rec k x r out hd hk hkl ⟨q1, q2⟩ hrec
      have hx := ix_of hk
      show IFB _ _ _
      refine IFB.mk (fun _ => ?_) (fun h => absurd (of_decide_eq_false h) (by show ¬ ¬ ((k : Int) < v.length); omega))
      refine JOIN.opq fun (J : List Sp → Prop) hJ => ?_
      dsimp only
      rw [hx]
      have hgo : (joinSp out x).length ≤ k + 1 → J (joinSp out x) := fun hle => by
        rw [hJ]
        show rec (IntKind.i64.wrap ((k : Int) + 1)) _
        rw [wrapS (by omega)]
        exact hrec _ ⟨q1, hle⟩
      refine ⟨by omega, fun _ => ?_⟩
      rcases List.eq_nil_or_concat out with rfl | ⟨A, q, rfl⟩
      · have hj : joinSp [] x = [x] := rfl
        rw [hj] at hgo
        refine ⟨fun h => ?_, IFB.mk (fun hb => ?_) (fun hb => ⟨by simp, hgo (by simp)⟩)⟩
        · cases h
        · cases hb
      · rw [List.concat_eq_append] at *
        have w1 : IntKind.i64.wrap (((A ++ [q]).length : Int) - 1) = A.length := by
          simp only [List.length_append, List.length_cons, List.length_nil]
          rw [wrap_in (by omega) (by simp only [List.length_append, List.length_cons, List.length_nil] at q2; omega)]
          omega
        have hq : ix (A ++ [q]) (A.length : Int) = q := ix_app rfl
        have hset : ∀ z, (A ++ [q]).set (A.length : Int).toNat z = A ++ [z] := fun z => set_app (by simp)
        rw [w1, hq, hset]
        have hAl : (A ++ [q]).length = A.length + 1 := by simp
        have hj : joinSp (A ++ [q]) x = if x.Left ≤ q.Right then A ++ [⟨q.Left, max q.Right x.Right⟩] else A ++ [q] ++ [x] := by
          unfold joinSp
          simp
        rw [hj] at hgo
        refine ⟨fun _ => by omega, IFB.mk (fun hb => ⟨by omega, by omega, ?_⟩) (fun hb => ⟨by simp only [List.length_append, List.length_cons, List.length_nil] at *; omega, ?_⟩)⟩
        · rw [Bool.and_eq_true] at hb
          have hb2 : x.Left ≤ q.Right := of_decide_eq_true hb.2
          rw [if_pos hb2] at hgo
          exact hgo (by simp only [List.length_append, List.length_cons, List.length_nil] at *; omega)
        · have hb2 : ¬ x.Left ≤ q.Right := by
            intro h
            rw [Bool.and_eq_false_iff] at hb
            rcases hb with hb | hb
            · have := of_decide_eq_false hb; omega
            · exact of_decide_eq_false hb h
          rw [if_neg hb2] at hgo
          exact hgo (by simp only [List.length_append, List.length_cons, List.length_nil] at *; omega)
    · intro rec out ⟨q1, q2⟩
      show IFB _ _ _
      refine IFB.mk (fun h => absurd (of_decide_eq_true h) (by show ¬ ((v.length : Int) < v.length); omega)) (fun _ => ?_)
      have q1 : out = rowG [] v := q1
      show post out
      rw [q1]; exact hp

end RE
end Go.Proofs.YtblcakaohlgagaaGreat
set_option maxRecDepth 100000
set_option linter.unusedVariables false
namespace Go.Proofs.YtblcakaohlgagaaGreat
open Go.RowKit
namespace RE
open PL
def pins_P (l : List (region_Span)) (x : Int) (post : Bool → Prop) : Prop := (l.length ≤ 1000000) ∧ post (insS l x)
def pins_sp : Spec := ⟨109, false, false, [.sl (.st .region_Span), .int .i64], .dat (.bool), fun x post => pins_P (x.1 : List (region_Span)) (x.2.1 : Int) (fun y0 => post (y0, ()))⟩
def pins_C : CtxR := ⟨tau, [], lookJ [(1067460608, 0, ⟨[(0, .dat (.int .i64))], [], [], [], []⟩), (1067460608, 5, ⟨[(8, .dat (.int .i64))], [], [9, 10, 5, 11, 12, 13, 14, 15, 16, 18], [], []⟩)]⟩
def pins_W (l : List (region_Span)) (x : Int) (post : Bool → Prop) : Prop := JOIN [Ty.int IntKind.i64] (fun (y1 : Int) ↦ post (decide ((0 : Int) ≤ y1))) fun (J2 : Int → Prop) ↦ (↑l.length : Int) ≤ (9223372036854775807 : Int) → LOOP [Ty.int IntKind.i64] (fun (rec3 : Int → Prop) (z4 : Int) ↦ IFB (decide (z4 < (↑l.length : Int))) (((0 : Int) ≤ z4 ∧ z4 < (↑l.length : Int)) ∧ IFB (decide ((ix l z4).1 ≤ x) && decide (x < (ix l z4).2)) (J2 z4) (rec3 (IntKind.i64.wrap (z4 + (1 : Int))))) (J2 (-1 : Int))) ((0 : Int), PUnit.unit)
theorem pins_w (l : List (region_Span)) (x : Int) (post : dens (shT pins_sp.rs []) → Prop) : pins_W l x (fun y0 => post (y0, ())) = walkG (callR Tryz.prog pins_C (drawR Tryz.prog tau) 8 0) 109 false [tv (.sl (.st .region_Span)) l, tv (.int .i64) x] pins_sp.rs post := by kernel_rfl
theorem pins_of (h : ∀ (l : List (region_Span)) (x : Int) (post : Bool → Prop), pins_P l x post → pins_W l x post) : SpecOK Tryz.prog pins_sp := SpecOK.of_rules (C := pins_C) (dr := drawR Tryz.prog tau) (n := 8) (fk := 0) .nil (drawR_ok tau) fun x post hp => HoldW.of (pins_w x.1 x.2.1 post) (h x.1 x.2.1 (fun y0 => post (y0, ())) hp)
theorem pins_ok : SpecOK Tryz.prog pins_sp := pins_of fun l x post hp => by
  obtain ⟨hl, hp⟩ := hp
  unfold pins_W
  refine JOIN.opq fun (J : Int → Prop) hJ => ?_
  intro _
  have hJ : ∀ z, post (decide (0 ≤ z)) → J z := fun z h => by rw [hJ]; exact h
  refine loopCmp (n := l.length) (by omega) (p := fun j => (decide ((ix l (j : Int)).1 ≤ x) && decide (x < (ix l (j : Int)).2)) = false) (fun rec k hk hpre hrec => ⟨by omega, IFB.mk (fun hb => hJ _ ?_) (fun hb => hrec hb)⟩) fun hall => hJ _ ?_
  · have : insS l x = true := by
      unfold insS
      rw [List.any_eq_true]
      exact ⟨_, ix_mem (l := l) (i := (k : Int)) (by omega) (by omega), hb⟩
    rw [this] at hp
    rw [decide_eq_true (by omega)]
    exact hp
  · have : insS l x = false := by
      unfold insS
      rw [List.any_eq_false]
      intro r hr
      obtain ⟨j, hj, rfl⟩ := List.getElem_of_mem hr
      have := hall j hj
      rw [ix_lt hj] at this
      simpa using this
    rw [this] at hp
    rw [decide_eq_false (by omega)]
    exact hp

def pconc_P (ls : List (List (region_Span))) (post : List (region_Span) → Prop) : Prop := (ls.flatten.length ≤ 100000 ∧ ls.length ≤ 10) ∧ post (ls.flatten)
def pconc_sp : Spec := ⟨108, false, true, [.sl (.sl (.st .region_Span))], .dat (.sl (.st .region_Span)), fun x post => pconc_P (x.1 : List (List (region_Span))) (fun y0 => post (y0, ()))⟩
def pconc_C : CtxR := ⟨tau, [pgrow_rule], lookJ [(0, 23, ⟨[(27, .dat (.int .i64)), (6, .own 155 (.st .region_Span))], [], [28, 29, 30, 8, 31, 32, 33, 34], [0], []⟩), (0, 7, ⟨[(11, .dat (.int .i64)), (3, .dat (.int .i64))], [], [12, 21, 20, 19, 18, 17, 16, 15, 5, 14, 13, 22], [], []⟩), (0, 16, ⟨[(3, .dat (.int .i64))], [], [13, 14, 5, 15, 16, 17, 18, 19, 20, 21], [], []⟩)]⟩
def pconc_W (ls : List (List (region_Span))) (post : List (region_Span) → Prop) : Prop := (↑ls.length : Int) ≤ (9223372036854775807 : Int) → LOOP [Ty.int IntKind.i64, Ty.int IntKind.i64] (fun (rec1 : Int → Int → Prop) (z2 z3 : Int) ↦ IFB (decide (z2 < (↑ls.length : Int))) (JOIN [Ty.int IntKind.i64] (fun (y4 : Int) ↦ rec1 (IntKind.i64.wrap (z2 + (1 : Int))) y4) fun (J5 : Int → Prop) ↦ ((0 : Int) ≤ z2 ∧ z2 < (↑ls.length : Int)) ∧ ((↑(ix ls z2).length : Int) ≤ (9223372036854775807 : Int) → IFB (decide (IntKind.i64.wrap (z3 + (↑(ix ls z2).length : Int)) < (0 : Int))) False (J5 (IntKind.i64.wrap (z3 + (↑(ix ls z2).length : Int)))))) (((0 : Int) ≤ z3 ∧ z3 ≤ (1000000 : Int)) ∧ ((↑ls.length : Int) ≤ (9223372036854775807 : Int) → LOOP [Ty.int IntKind.i64, (Ty.st Sn.region_Span).sl] (fun (rec6 : Int → List region_Span → Prop) (z7 : Int) (z8 : List region_Span) ↦ IFB (decide (z7 < (↑ls.length : Int))) (((0 : Int) ≤ z7 ∧ z7 < (↑ls.length : Int)) ∧ (z8.length + (ix ls z7).length) * (16 : Nat) ≤ (140737488355328 : Nat) ∧ rec6 (IntKind.i64.wrap (z7 + (1 : Int))) (z8 ++ ix ls z7)) (post z8)) ((0 : Int), [], PUnit.unit)))) ((0 : Int), (0 : Int), PUnit.unit)
theorem pconc_w (ls : List (List (region_Span))) (post : dens (shT pconc_sp.rs []) → Prop) : pconc_W ls (fun y0 => post (y0, ())) = walkG (callR Tryz.prog pconc_C (drawR Tryz.prog tau) 8 0) 108 false [tv (.sl (.sl (.st .region_Span))) ls] pconc_sp.rs post := by kernel_rfl
theorem pconc_of (h : ∀ (ls : List (List (region_Span))) (post : List (region_Span) → Prop), pconc_P ls post → pconc_W ls post) : SpecOK Tryz.prog pconc_sp := SpecOK.of_rules (C := pconc_C) (dr := drawR Tryz.prog tau) (n := 8) (fk := 0) (.cons pgrow_rule_ok .nil) (drawR_ok tau) fun x post hp => HoldW.of (pconc_w x.1 post) (h x.1 (fun y0 => post (y0, ())) hp)
theorem pconc_ok : SpecOK Tryz.prog pconc_sp := pconc_of fun ls post hp => by
  obtain ⟨⟨h1, h2⟩, hp⟩ := hp
  unfold pconc_W
  intro _
  refine LOOP.list ls (fun k (s : Int) => ((k : Int), s, ())) (fun u => Int.toNat u.1) (fun k r (s : Int) => 0 ≤ s ∧ s + r.flatten.length = ls.flatten.length) 0 rfl ⟨Int.le_refl _, by omega⟩ (fun k s h => by simp) ?_ ?_
  · intro rec k x r s hd hk hkl ⟨g1, g2⟩ hrec
    have hx := ix_of hk
    rw [List.flatten_cons, List.length_append] at g2
    show IFB _ _ _
    refine IFB.mk (fun _ => ?_) (fun h => absurd (of_decide_eq_false h) (by show ¬ ¬ ((k : Int) < ls.length); omega))
    refine JOIN.opq fun (J : Int → Prop) hJ => ?_
    dsimp only
    rw [hx]
    have w1 : IntKind.i64.wrap (s + (x.length : Int)) = s + x.length := wrap_in (by omega) (by omega)
    rw [w1]
    refine ⟨by omega, fun _ => IFB.mk (fun hb => absurd (of_decide_eq_true hb) (by omega)) (fun _ => ?_)⟩
    rw [hJ]
    show rec (IntKind.i64.wrap ((k : Int) + 1)) _
    rw [wrapS (by omega)]
    exact hrec _ ⟨by omega, by omega⟩
  · intro rec s ⟨g1, g2⟩
    have g2 : s + (([] : List (List Sp)).flatten.length : Int) = ls.flatten.length := g2
    simp only [List.flatten_nil, List.length_nil] at g2
    show IFB _ _ _
    refine IFB.mk (fun h => absurd (of_decide_eq_true h) (by show ¬ ((ls.length : Int) < ls.length); omega)) (fun _ => ?_)
    dsimp only
    refine ⟨by omega, fun _ => ?_⟩
    refine LOOP.list ls (fun k (s : List Sp) => ((k : Int), s, ())) (fun u => Int.toNat u.1) (fun k r (s : List Sp) => s ++ r.flatten = ls.flatten) [] rfl rfl (fun k s h => by simp) ?_ ?_
    · intro rec k x r s hd hk hkl g1 hrec
      have hx := ix_of hk
      have hlen : s.length + (x.length + r.flatten.length) ≤ 100000 := by
        have := congrArg List.length g1
        rw [List.length_append, List.flatten_cons, List.length_append] at this
        omega
      show IFB _ _ _
      refine IFB.mk (fun _ => ⟨by show 0 ≤ (k : Int) ∧ (k : Int) < ls.length; omega, ?_⟩) (fun h => absurd (of_decide_eq_false h) (by show ¬ ¬ ((k : Int) < ls.length); omega))
      dsimp only
      rw [hx, wrapS (by omega)]
      refine ⟨by omega, hrec _ ?_⟩
      rw [← g1, List.flatten_cons, List.append_assoc]
    · intro rec s g1
      show IFB _ _ _
      refine IFB.mk (fun h => absurd (of_decide_eq_true h) (by show ¬ ((ls.length : Int) < ls.length); omega)) (fun _ => ?_)
      have g1 : s = ls.flatten := by simpa using g1
      show post s
      rw [g1]; exact hp

def peqs_P (a : List (region_Span)) (b : List (region_Span)) (post : Bool → Prop) : Prop := (a.length ≤ 1000000000) ∧ ∀ q : Bool, (q = true ↔ a = b) → post q
def peqs_sp : Spec := ⟨104, false, false, [.sl (.st .region_Span), .sl (.st .region_Span)], .dat (.bool), fun x post => peqs_P (x.1 : List (region_Span)) (x.2.1 : List (region_Span)) (fun y0 => post (y0, ()))⟩
def peqs_C : CtxR := ⟨tau, [], lookJ [(0, 9, ⟨[(13, .dat (.int .i64))], [], [14, 15, 5, 16, 17, 18, 19, 20, 21, 22, 23, 24, 25], [], []⟩)]⟩
def peqs_W (a : List (region_Span)) (b : List (region_Span)) (post : Bool → Prop) : Prop := (↑a.length : Int) ≤ (9223372036854775807 : Int) → (↑b.length : Int) ≤ (9223372036854775807 : Int) → IFB (!decide ((↑a.length : Int) = (↑b.length : Int))) (post false) ((↑a.length : Int) ≤ (9223372036854775807 : Int) → LOOP [Ty.int IntKind.i64] (fun (rec1 : Int → Prop) (z2 : Int) ↦ IFB (decide (z2 < (↑a.length : Int))) (((0 : Int) ≤ z2 ∧ z2 < (↑a.length : Int)) ∧ ((0 : Int) ≤ z2 ∧ z2 < (↑b.length : Int)) ∧ IFB (!(decide ((ix a z2).1 = (ix b z2).1) && (decide ((ix a z2).2 = (ix b z2).2) && true))) (post false) (rec1 (IntKind.i64.wrap (z2 + (1 : Int))))) (post true)) ((0 : Int), PUnit.unit))
theorem peqs_w (a : List (region_Span)) (b : List (region_Span)) (post : dens (shT peqs_sp.rs []) → Prop) : peqs_W a b (fun y0 => post (y0, ())) = walkG (callR Tryz.prog peqs_C (drawR Tryz.prog tau) 8 0) 104 false [tv (.sl (.st .region_Span)) a, tv (.sl (.st .region_Span)) b] peqs_sp.rs post := by kernel_rfl
theorem peqs_of (h : ∀ (a : List (region_Span)) (b : List (region_Span)) (post : Bool → Prop), peqs_P a b post → peqs_W a b post) : SpecOK Tryz.prog peqs_sp := SpecOK.of_rules (C := peqs_C) (dr := drawR Tryz.prog tau) (n := 8) (fk := 0) .nil (drawR_ok tau) fun x post hp => HoldW.of (peqs_w x.1 x.2.1 post) (h x.1 x.2.1 (fun y0 => post (y0, ())) hp)
theorem peqs_ok : SpecOK Tryz.prog peqs_sp := peqs_of fun a b post hp => by
  obtain ⟨hl, hp⟩ := hp
  unfold peqs_W
  intro _ _
  refine IFB.mk (fun hb => hp _ ?_) (fun hb _ => ?_)
  · have hb : ¬ (a.length : Int) = b.length := by simpa using hb
    constructor
    · intro h; cases h
    · intro h; rw [h] at hb; exact absurd rfl hb
  · have hb : (a.length : Int) = b.length := by simpa using hb
    have hab : a.length = b.length := by omega
    have hiff := list_eq_iff hab
    refine loopCmp (n := a.length) (by omega) (p := fun j => ix a (j : Int) = ix b (j : Int)) (fun rec k hk hpre hrec => ⟨by omega, by omega, IFB.mk (fun hb => hp _ ?_) (fun hb => hrec ?_)⟩) fun hall => hp _ ?_
    · constructor
      · intro h; cases h
      · intro h
        rw [hiff.1 h k hk] at hb
        simp at hb
    · generalize ix a (k : Int) = u at hb ⊢
      generalize ix b (k : Int) = v at hb ⊢
      cases u
      cases v
      simp at hb
      simp [hb]
    · exact ⟨fun _ => hiff.2 hall, fun _ => rfl⟩

def peqr_P (a : List (api_Rect)) (b : List (api_Rect)) (post : Bool → Prop) : Prop := (a.length ≤ 1000000000) ∧ ∀ q : Bool, (q = true ↔ a = b) → post q
def peqr_sp : Spec := ⟨89, false, false, [.sl (.st .api_Rect), .sl (.st .api_Rect)], .dat (.bool), fun x post => peqr_P (x.1 : List (api_Rect)) (x.2.1 : List (api_Rect)) (fun y0 => post (y0, ()))⟩
def peqr_C : CtxR := ⟨tau, [], lookJ [(0, 9, ⟨[(13, .dat (.int .i64))], [], [14, 15, 5, 16, 17, 18, 19, 20, 21, 22, 23, 24, 25], [], []⟩)]⟩
def peqr_W (a : List (api_Rect)) (b : List (api_Rect)) (post : Bool → Prop) : Prop := (↑a.length : Int) ≤ (9223372036854775807 : Int) → (↑b.length : Int) ≤ (9223372036854775807 : Int) → IFB (!decide ((↑a.length : Int) = (↑b.length : Int))) (post false) ((↑a.length : Int) ≤ (9223372036854775807 : Int) → LOOP [Ty.int IntKind.i64] (fun (rec1 : Int → Prop) (z2 : Int) ↦ IFB (decide (z2 < (↑a.length : Int))) (((0 : Int) ≤ z2 ∧ z2 < (↑a.length : Int)) ∧ ((0 : Int) ≤ z2 ∧ z2 < (↑b.length : Int)) ∧ IFB (!(decide ((ix a z2).1 = (ix b z2).1) && (decide ((ix a z2).2 = (ix b z2).2) && (decide ((ix a z2).3 = (ix b z2).3) && (decide ((ix a z2).4 = (ix b z2).4) && true))))) (post false) (rec1 (IntKind.i64.wrap (z2 + (1 : Int))))) (post true)) ((0 : Int), PUnit.unit))
theorem peqr_w (a : List (api_Rect)) (b : List (api_Rect)) (post : dens (shT peqr_sp.rs []) → Prop) : peqr_W a b (fun y0 => post (y0, ())) = walkG (callR Tryz.prog peqr_C (drawR Tryz.prog tau) 8 0) 89 false [tv (.sl (.st .api_Rect)) a, tv (.sl (.st .api_Rect)) b] peqr_sp.rs post := by kernel_rfl
theorem peqr_of (h : ∀ (a : List (api_Rect)) (b : List (api_Rect)) (post : Bool → Prop), peqr_P a b post → peqr_W a b post) : SpecOK Tryz.prog peqr_sp := SpecOK.of_rules (C := peqr_C) (dr := drawR Tryz.prog tau) (n := 8) (fk := 0) .nil (drawR_ok tau) fun x post hp => HoldW.of (peqr_w x.1 x.2.1 post) (h x.1 x.2.1 (fun y0 => post (y0, ())) hp)
theorem peqr_ok : SpecOK Tryz.prog peqr_sp := peqr_of fun a b post hp => by
  obtain ⟨hl, hp⟩ := hp
  unfold peqr_W
  intro _ _
  refine IFB.mk (fun hb => hp _ ?_) (fun hb _ => ?_)
  · have hb : ¬ (a.length : Int) = b.length := by simpa using hb
    constructor
    · intro h; cases h
    · intro h; rw [h] at hb; exact absurd rfl hb
  · have hb : (a.length : Int) = b.length := by simpa using hb
    have hab : a.length = b.length := by omega
    have hiff := list_eq_iff hab
    refine loopCmp (n := a.length) (by omega) (p := fun j => ix a (j : Int) = ix b (j : Int)) (fun rec k hk hpre hrec => ⟨by omega, by omega, IFB.mk (fun hb => hp _ ?_) (fun hb => hrec ?_)⟩) fun hall => hp _ ?_
    · constructor
      · intro h; cases h
      · intro h
        rw [hiff.1 h k hk] at hb
        simp at hb
    · generalize ix a (k : Int) = u at hb ⊢
      generalize ix b (k : Int) = v at hb ⊢
      cases u
      cases v
      simp at hb
      simp [hb]
    · exact ⟨fun _ => hiff.2 hall, fun _ => rfl⟩

def prects_P (l : List (region_band)) (post : List (api_Rect) → Prop) : Prop := ((flat l).length ≤ 1000000000 ∧ l.length ≤ 1000000000) ∧ post (flat l)
def prects_sp : Spec := ⟨105, false, true, [.sl (.st .region_band)], .dat (.sl (.st .api_Rect)), fun x post => prects_P (x.1 : List (region_band)) (fun y0 => post (y0, ()))⟩
def prects_C : CtxR := ⟨tau, [], lookJ [(0, 7, ⟨[(10, .dat (.int .i64)), (3, .own 89 (.st .api_Rect))], [], [11, 12, 13, 5, 14, 15, 16, 33, 32, 31, 30, 29, 28, 27, 26, 25, 24, 23, 22, 21, 7, 20, 19, 17, 18, 34], [], []⟩), (0, 13, ⟨[(17, .dat (.int .i64)), (3, .own 89 (.st .api_Rect))], [], [18, 19, 20, 7, 21, 22, 23, 24, 25, 26, 27, 28, 29, 30, 31, 32, 33], [0], []⟩)]⟩
def prects_W (l : List (region_band)) (post : List (api_Rect) → Prop) : Prop := (↑l.length : Int) ≤ (9223372036854775807 : Int) → LOOP [Ty.int IntKind.i64, (Ty.st Sn.api_Rect).sl] (fun (rec1 : Int → List api_Rect → Prop) (z2 : Int) (z3 : List api_Rect) ↦ IFB (decide (z2 < (↑l.length : Int))) (((0 : Int) ≤ z2 ∧ z2 < (↑l.length : Int)) ∧ ((↑(ix l z2).3.length : Int) ≤ (9223372036854775807 : Int) → LOOP [Ty.int IntKind.i64, (Ty.st Sn.api_Rect).sl] (fun (rec4 : Int → List api_Rect → Prop) (z5 : Int) (z6 : List api_Rect) ↦ IFB (decide (z5 < (↑(ix l z2).3.length : Int))) (((0 : Int) ≤ z5 ∧ z5 < (↑(ix l z2).3.length : Int)) ∧ (z6.length + [{ Left := (ix (ix l z2).3 z5).1, Low := (ix l z2).1, Right := (ix (ix l z2).3 z5).2, High := (ix l z2).2 : api_Rect }].length) * (32 : Nat) ≤ (140737488355328 : Nat) ∧ rec4 (IntKind.i64.wrap (z5 + (1 : Int))) (z6 ++ [{ Left := (ix (ix l z2).3 z5).1, Low := (ix l z2).1, Right := (ix (ix l z2).3 z5).2, High := (ix l z2).2 : api_Rect }])) (rec1 (IntKind.i64.wrap (z2 + (1 : Int))) z6)) ((0 : Int), z3, PUnit.unit))) (post z3)) ((0 : Int), [], PUnit.unit)
theorem prects_w (l : List (region_band)) (post : dens (shT prects_sp.rs []) → Prop) : prects_W l (fun y0 => post (y0, ())) = walkG (callR Tryz.prog prects_C (drawR Tryz.prog tau) 8 0) 105 false [tv (.sl (.st .region_band)) l] prects_sp.rs post := by kernel_rfl
theorem prects_of (h : ∀ (l : List (region_band)) (post : List (api_Rect) → Prop), prects_P l post → prects_W l post) : SpecOK Tryz.prog prects_sp := SpecOK.of_rules (C := prects_C) (dr := drawR Tryz.prog tau) (n := 8) (fk := 0) .nil (drawR_ok tau) fun x post hp => HoldW.of (prects_w x.1 post) (h x.1 (fun y0 => post (y0, ())) hp)
theorem flat1_cons {u v : Int} {s : Sp} {r : List Sp} : flat1 ⟨u, v, s :: r⟩ = ⟨s.1, u, s.2, v⟩ :: flat1 ⟨u, v, r⟩ := rfl
theorem rects_in {b : Bd} {A : List Rc} {K : List Rc → Prop} (hl : A.length + (flat1 b).length ≤ 1000000000) (hK : K (A ++ flat1 b)) :
    LOOP [Ty.int IntKind.i64, (Ty.st Sn.api_Rect).sl] (fun (rec4 : Int → List api_Rect → Prop) (z5 : Int) (z6 : List api_Rect) ↦ IFB (decide (z5 < (↑b.3.length : Int))) (((0 : Int) ≤ z5 ∧ z5 < (↑b.3.length : Int)) ∧ (z6.length + [{ Left := (ix b.3 z5).1, Low := b.1, Right := (ix b.3 z5).2, High := b.2 : api_Rect }].length) * 32 ≤ 140737488355328 ∧ rec4 (IntKind.i64.wrap (z5 + (1 : Int))) (z6 ++ [{ Left := (ix b.3 z5).1, Low := b.1, Right := (ix b.3 z5).2, High := b.2 : api_Rect }])) (K z6)) ((0 : Int), A, PUnit.unit) := by
  have hfl : (flat1 b).length = b.3.length := by unfold flat1; simp
  refine LOOP.list b.3 (fun k (s : List Rc) => ((k : Int), s, ())) (fun u => Int.toNat u.1) (fun k r (s : List Rc) => s ++ flat1 ⟨b.1, b.2, r⟩ = A ++ flat1 b ∧ s.length = A.length + k) A rfl ⟨rfl, rfl⟩ (fun k s h => by simp) ?_ ?_
  · intro rec k x r s hd hk hkl ⟨g1, g2⟩ hrec
    have hx := ix_of hk
    show IFB _ _ _
    refine IFB.mk (fun _ => ⟨by show 0 ≤ (k : Int) ∧ (k : Int) < b.3.length; omega, ?_⟩) (fun h => absurd (of_decide_eq_false h) (by show ¬ ¬ ((k : Int) < b.3.length); omega))
    dsimp only
    rw [hx]
    refine ⟨by simp only [List.length_cons, List.length_nil]; omega, ?_⟩
    rw [wrapS (by omega)]
    refine hrec _ ⟨?_, ?_⟩
    · rw [← g1, flat1_cons]; simp
    · simp only [List.length_append, List.length_cons, List.length_nil]; omega
  · intro rec s ⟨g1, g2⟩
    show IFB _ _ _
    refine IFB.mk (fun h => absurd (of_decide_eq_true h) (by show ¬ ((b.3.length : Int) < b.3.length); omega)) (fun _ => ?_)
    have g1 : s = A ++ flat1 b := by simpa [flat1] using g1
    show K s
    rw [g1]; exact hK
theorem prects_ok : SpecOK Tryz.prog prects_sp := prects_of fun l post hp => by
  obtain ⟨⟨h1, h2⟩, hp⟩ := hp
  unfold prects_W
  intro _
  refine LOOP.list l (fun k (s : List Rc) => ((k : Int), s, ())) (fun u => Int.toNat u.1) (fun k r (s : List Rc) => s ++ flat r = flat l) [] rfl rfl (fun k s h => by simp) ?_ ?_
  · intro rec k x r s hd hk hkl g1 hrec
    have hx := ix_of hk
    have hfc : flat (x :: r) = flat1 x ++ flat r := rfl
    have hlen : s.length + ((flat1 x).length + (flat r).length) ≤ 1000000000 := by
      have := congrArg List.length g1
      rw [List.length_append, hfc, List.length_append] at this
      omega
    show IFB _ _ _
    refine IFB.mk (fun _ => ⟨by show 0 ≤ (k : Int) ∧ (k : Int) < l.length; omega, ?_⟩) (fun h => absurd (of_decide_eq_false h) (by show ¬ ¬ ((k : Int) < l.length); omega))
    dsimp only
    rw [hx]
    intro _
    refine rects_in (b := x) (A := s) (K := fun z6 => rec (IntKind.i64.wrap ((k : Int) + 1)) z6) (by omega) ?_
    rw [wrapS (by omega)]
    refine hrec _ ?_
    rw [← g1, hfc, List.append_assoc]
  · intro rec s g1
    show IFB _ _ _
    refine IFB.mk (fun h => absurd (of_decide_eq_true h) (by show ¬ ((l.length : Int) < l.length); omega)) (fun _ => ?_)
    have g1 : s = flat l := by simpa [flat] using g1
    show post s
    rw [g1]; exact hp

end RE
end Go.Proofs.YtblcakaohlgagaaGreat
set_option maxRecDepth 100000
set_option linter.unusedVariables false
namespace Go.Proofs.YtblcakaohlgagaaGreat
open Go.RowKit
namespace RE
open PL

def bandM (z3 : List region_band) (u v : Int) (ss : List region_Span) (J5 : List region_band → Prop) : Prop := ((↑z3.length : Int) ≤ (9223372036854775807 : Int) → (gx true (decide ((0 : Int) < (↑z3.length : Int))) = true → (0 : Int) ≤ IntKind.i64.wrap ((↑z3.length : Int) - (1 : Int)) ∧ IntKind.i64.wrap ((↑z3.length : Int) - (1 : Int)) < (↑z3.length : Int)) ∧ (gx true (decide ((0 : Int) < (↑z3.length : Int)) && decide ((ix z3 (IntKind.i64.wrap ((↑z3.length : Int) - (1 : Int)))).2 = u)) = true → (0 : Int) ≤ IntKind.i64.wrap ((↑z3.length : Int) - (1 : Int)) ∧ IntKind.i64.wrap ((↑z3.length : Int) - (1 : Int)) < (↑z3.length : Int)) ∧ JOIN [Ty.bool] (fun (y14 : Bool) ↦ IFB (decide ((0 : Int) < (↑z3.length : Int)) && decide ((ix z3 (IntKind.i64.wrap ((↑z3.length : Int) - (1 : Int)))).2 = u) && y14) (((0 : Int) ≤ IntKind.i64.wrap ((↑z3.length : Int) - (1 : Int)) ∧ IntKind.i64.wrap ((↑z3.length : Int) - (1 : Int)) < (↑z3.length : Int)) ∧ J5 (z3.set (IntKind.i64.wrap ((↑z3.length : Int) - (1 : Int))).toNat { low := (ix z3 (IntKind.i64.wrap ((↑z3.length : Int) - (1 : Int)))).1, high := v, spans := (ix z3 (IntKind.i64.wrap ((↑z3.length : Int) - (1 : Int)))).3 : region_band })) ((z3.length + [{ low := u, high := v, spans := ss : region_band }].length) * (40 : Nat) ≤ (140737488355328 : Nat) ∧ J5 (z3 ++ [{ low := u, high := v, spans := ss : region_band }]))) fun (J15 : Bool → Prop) ↦ IFB (gx true (decide ((0 : Int) < (↑z3.length : Int)) && decide ((ix z3 (IntKind.i64.wrap ((↑z3.length : Int) - (1 : Int)))).2 = u))) ((ix z3 (IntKind.i64.wrap ((↑z3.length : Int) - (1 : Int)))).3.length ≤ (1000000000 : Nat) ∧ ∀ (v16 : Bool), (v16 = true ↔ (ix z3 (IntKind.i64.wrap ((↑z3.length : Int) - (1 : Int)))).3 = ss) → J15 v16) (J15 false))
theorem bandM_ok {out : List Bd} {u v : Int} {ss : List Sp} {J : List Bd → Prop} (hN : out.length ≤ 1000000) (hS : ∀ b ∈ out, b.3.length ≤ 1000000000) (hJ : J (addBd out u v ss)) : bandM out u v ss J := by
  unfold bandM
  intro _
  rcases List.eq_nil_or_concat out with rfl | ⟨A, b, rfl⟩
  · have hj : addBd [] u v ss = [⟨u, v, ss⟩] := rfl
    rw [hj] at hJ
    refine ⟨fun h => (by cases h), fun h => (by cases h), JOIN.opq fun (J8 : Bool → Prop) hJ8 => IFB.mk (fun hb => (by cases hb)) (fun _ => ?_)⟩
    rw [hJ8]
    exact IFB.mk (fun hb => (by cases hb)) (fun _ => ⟨by simp, hJ⟩)
  · rw [List.concat_eq_append] at *
    have hAl : (A ++ [b]).length = A.length + 1 := by simp
    have w1 : IntKind.i64.wrap (((A ++ [b]).length : Int) - 1) = A.length := by
      rw [hAl, wrap_in (by omega) (by omega)]
      omega
    have hq : ix (A ++ [b]) (A.length : Int) = b := ix_app rfl
    have hset : ∀ z, (A ++ [b]).set (A.length : Int).toNat z = A ++ [z] := fun z => set_app (by simp)
    rw [w1, hq, hset]
    have hj : addBd (A ++ [b]) u v ss = if b.high = u ∧ b.spans = ss then A ++ [⟨b.low, v, b.spans⟩] else A ++ [b] ++ [⟨u, v, ss⟩] := by
      unfold addBd
      simp
    rw [hj] at hJ
    have hd : decide ((0 : Int) < ((A ++ [b]).length : Int)) = true := decide_eq_true (by omega)
    rw [hd, Bool.true_and]
    have hsz : ((A ++ [b]).length + [({ low := u, high := v, spans := ss } : region_band)].length) * 40 ≤ 140737488355328 := by
      rw [hAl]; simp only [List.length_cons, List.length_nil]; omega
    refine ⟨fun _ => by omega, fun _ => by omega, JOIN.opq fun (J8 : Bool → Prop) hJ8 => IFB.mk (fun hb => ⟨hS b (by simp), fun y hy => ?_⟩) (fun hb => ?_)⟩
    · have hb : b.high = u := of_decide_eq_true hb
      have hb2 : decide (b.high = u) = true := decide_eq_true hb
      rw [hJ8]
      dsimp only
      refine IFB.mk (fun h => ⟨by omega, ?_⟩) (fun h => ⟨hsz, ?_⟩)
      · rw [Bool.and_eq_true] at h
        rw [if_pos ⟨hb, hy.1 h.2⟩] at hJ
        exact hJ
      · rw [if_neg (fun hh => by rw [hy.2 hh.2] at h; rw [show b.2 = u from hb] at h; simp at h)] at hJ
        exact hJ
    · have hb : ¬ b.high = u := of_decide_eq_false hb
      rw [hJ8]
      dsimp only
      refine IFB.mk (fun h => ?_) (fun h => ⟨hsz, ?_⟩)
      · rw [Bool.and_eq_true] at h
        cases h.2
      · rw [if_neg (fun hh => hb hh.1)] at hJ
        exact hJ
theorem addBd_len1 {out : List Bd} {u v : Int} {ss : List Sp} : (addBd out u v ss).length ≤ out.length + 1 := by
  rcases List.eq_nil_or_concat out with rfl | ⟨A, b, rfl⟩
  · simp [addBd]
  · unfold addBd
    simp
    split <;> simp
theorem addBd_sp {out : List Bd} {u v : Int} {ss : List Sp} {N : Nat} (h : ∀ b ∈ out, b.3.length ≤ N) (hs : ss.length ≤ N) : ∀ b ∈ addBd out u v ss, b.3.length ≤ N := by
  rcases List.eq_nil_or_concat out with rfl | ⟨A, c, rfl⟩
  · intro b hb
    simp [addBd] at hb
    subst hb; exact hs
  · rw [List.concat_eq_append] at *
    have hj : addBd (A ++ [c]) u v ss = if c.high = u ∧ c.spans = ss then A ++ [⟨c.low, v, c.spans⟩] else A ++ [c] ++ [⟨u, v, ss⟩] := by
      unfold addBd
      simp
    rw [hj]
    intro b hb
    split at hb
    · rcases List.mem_append.1 hb with hb | hb
      · exact h b (by simp [hb])
      · rw [List.mem_singleton] at hb
        subst hb
        exact h c (by simp)
    · rcases List.mem_append.1 hb with hb | hb
      · exact h b hb
      · rw [List.mem_singleton] at hb
        subst hb
        exact hs
theorem build_loop {xs : List Int} {R : Int → List Sp} (hR : ∀ y, (R y).length ≤ 100000) (hx : xs.length ≤ 100000) {B : (Int → List region_band → Prop) → Int → List region_band → Prop} {K : List region_band → Prop}
    (hB : ∀ (rec : Int → List Bd → Prop) (k : Nat) (acc : List Bd), k + 1 < xs.length → acc.length ≤ k → (∀ b ∈ acc, b.3.length ≤ 100000) → rec ((k + 2 : Nat) : Int) (addBd acc (ix xs (k : Int)) (ix xs ((k + 1 : Nat) : Int)) (R (ix xs (k : Int)))) → B rec ((k + 1 : Nat) : Int) acc)
    (hK : (buildG R [] xs).length ≤ 100000 → K (buildG R [] xs)) :
    LOOP [Ty.int IntKind.i64, (Ty.st Sn.region_band).sl] (fun (rec1 : Int → List region_band → Prop) (z2 : Int) (z3 : List region_band) => (xs.length : Int) ≤ (9223372036854775807 : Int) → IFB (decide (z2 < (xs.length : Int))) (B rec1 z2 z3) (K z3)) ((1 : Int), [], PUnit.unit) := by
  refine LOOP.fuel (fun u => ∃ (k : Nat) (acc : List Bd), u.1 = ((k + 1 : Nat) : Int) ∧ u.2.1 = acc ∧ k ≤ xs.length ∧ buildG R acc (xs.drop k) = buildG R [] xs ∧ acc.length ≤ k ∧ ∀ b ∈ acc, b.3.length ≤ 100000) (fun u => xs.length + 1 - Int.toNat u.1) ⟨0, [], rfl, rfl, Nat.zero_le _, rfl, Nat.le_refl _, fun b hb => by cases hb⟩ ?_
  rintro rec ⟨(z2 : Int), (z3 : List region_band), ⟨⟩⟩ ⟨k, acc, h1, h2, h3, h4, h5, h6⟩ hrec
  have h1 : z2 = ((k + 1 : Nat) : Int) := h1
  have h2 : z3 = acc := h2
  subst h1 h2
  have h5 : z3.length ≤ k := h5
  intro _
  refine IFB.mk (fun hb => ?_) (fun hb => ?_)
  · have hb : ((k + 1 : Nat) : Int) < xs.length := of_decide_eq_true hb
    have hb : k + 1 < xs.length := by omega
    refine hB rec k z3 hb h5 h6 ?_
    obtain ⟨d1, d2⟩ := drop_two hb
    refine hrec (((k + 2 : Nat) : Int), _, ()) ⟨k + 1, _, rfl, rfl, by omega, ?_, Nat.le_trans addBd_len1 (by show z3.length + 1 ≤ k + 1; omega), addBd_sp h6 (hR _)⟩ (by show xs.length + 1 - ((k + 2 : Nat) : Int).toNat < xs.length + 1 - ((k + 1 : Nat) : Int).toNat; omega)
    rw [← h4, d1, d2]
    rfl
  · have hb : ¬ ((k + 1 : Nat) : Int) < xs.length := of_decide_eq_false hb
    rw [short_drop (by omega)] at h4
    rw [← h4] at hK
    exact hK (by omega)
theorem rowS_len {l : List Rc} {y : Int} : (rowS l y).length ≤ 2 * l.length := by
  unfold rowS spansOf
  have h1 := spansG_len (p := fun x => cov l x y) (xs := edgesS l) (out := [])
  have h2 := fold_len (f := fun r => r.Left) (g := fun r => r.Right) (l := l) (a := [])
  have h3 : (edgesS l).length ≤ ([] : List Int).length + 2 * l.length := h2
  simp only [List.length_nil] at h1 h3
  omega
theorem cutsS_len {l : List Rc} : (cutsS l).length ≤ 2 * l.length := by
  have h3 : (cutsS l).length ≤ ([] : List Int).length + 2 * l.length := fold_len (f := fun r => r.Low) (g := fun r => r.High) (l := l) (a := [])
  simpa using h3
theorem can_build (l : List Rc) : canonF (cov l) = flat (buildG (rowS l) [] (cutsS l)) := by
  have h := comb_build (howS_0 1) (a := l) (b := []) (R := rowS l) fun u hu => by
    have h := comb_row (howS_0 1) (a := l) (b := []) (y := u)
    rw [comb_or_nil, List.append_nil] at h
    rw [comb_or_nil]
    exact h
  rw [comb_or_nil, List.append_nil] at h
  exact h.2.2
def pcan_P (l : List (api_Rect)) (post : List (api_Rect) → Prop) : Prop := ((∀ r ∈ l, proper r) ∧ l.length ≤ 10000) ∧ post (canonF (cov l))
def pcan_sp : Spec := ⟨90, false, true, [.sl (.st .api_Rect)], .dat (.sl (.st .api_Rect)), fun x post => pcan_P (x.1 : List (api_Rect)) (fun y0 => post (y0, ()))⟩
def pcan_C : CtxR := ⟨tau, [rule1 pcuts_sp, rule1 prow_sp, rule1 peqs_sp, rule1 prects_sp], lookJ [(1026, 7, ⟨[(6, .dat (.int .i64)), (5, .own 152 (.st .region_band))], [], [9, 10, 11, 12, 64, 63, 62, 61, 60, 59, 58, 56, 55, 54, 53, 52, 51, 50, 49, 48, 45, 44, 43, 42, 41, 40, 39, 38, 37, 57, 47, 46, 36, 35, 34, 8, 33, 32, 7, 31, 30, 29, 28, 27, 26, 25, 24, 23, 22, 21, 20, 19, 18, 17, 16, 15, 68, 67, 66, 65, 13, 14], [], []⟩), (1026, 8, ⟨[(5, .own 152 (.st .region_band))], [], [65, 66, 67, 68, 15, 16, 17, 18, 19, 20, 21, 22, 23, 24, 25, 26, 27, 28, 29, 30, 31, 7, 32, 33, 8, 34, 35, 36, 46, 47, 57, 37, 38, 39, 40, 41, 42, 43, 44, 45, 48, 49, 50, 51, 52, 53, 54, 55, 56, 58, 59, 60, 61, 62, 63, 64], [2], []⟩)]⟩
def pcan_W (l : List (api_Rect)) (post : List (api_Rect) → Prop) : Prop := ((l.append []).length ≤ (10000 : Nat) ∧ [l].length ≤ (10 : Nat)) ∧ LOOP [Ty.int IntKind.i64, (Ty.st Sn.region_band).sl] (fun (rec1 : Int → List region_band → Prop) (z2 : Int) (z3 : List region_band) ↦ (↑(cutsS (l.append [])).length : Int) ≤ (9223372036854775807 : Int) → IFB (decide (z2 < (↑(cutsS (l.append [])).length : Int))) (JOIN [(Ty.st Sn.region_band).sl] (fun (y4 : List region_band) ↦ rec1 (IntKind.i64.wrap (z2 + (1 : Int))) y4) fun (J5 : List region_band → Prop) ↦ ((0 : Int) ≤ IntKind.i64.wrap (z2 - (1 : Int)) ∧ IntKind.i64.wrap (z2 - (1 : Int)) < (↑(cutsS (l.append [])).length : Int)) ∧ ((0 : Int) ≤ z2 ∧ z2 < (↑(cutsS (l.append [])).length : Int)) ∧ ((0 : Int) ≤ IntKind.i64.wrap (z2 - (1 : Int)) ∧ IntKind.i64.wrap (z2 - (1 : Int)) < (↑(cutsS (l.append [])).length : Int)) ∧ (((∀ (v6 : api_Rect), v6 ∈ l → v6.1 < v6.3) ∧ l.length ≤ (10000 : Nat)) ∧ ((↑z3.length : Int) ≤ (9223372036854775807 : Int) → (gx true (decide ((0 : Int) < (↑z3.length : Int))) = true → (0 : Int) ≤ IntKind.i64.wrap ((↑z3.length : Int) - (1 : Int)) ∧ IntKind.i64.wrap ((↑z3.length : Int) - (1 : Int)) < (↑z3.length : Int)) ∧ (gx true (decide ((0 : Int) < (↑z3.length : Int)) && decide ((ix z3 (IntKind.i64.wrap ((↑z3.length : Int) - (1 : Int)))).2 = ix (cutsS (l.append [])) (IntKind.i64.wrap (z2 - (1 : Int))))) = true → (0 : Int) ≤ IntKind.i64.wrap ((↑z3.length : Int) - (1 : Int)) ∧ IntKind.i64.wrap ((↑z3.length : Int) - (1 : Int)) < (↑z3.length : Int)) ∧ JOIN [Ty.bool] (fun (y7 : Bool) ↦ IFB (decide ((0 : Int) < (↑z3.length : Int)) && decide ((ix z3 (IntKind.i64.wrap ((↑z3.length : Int) - (1 : Int)))).2 = ix (cutsS (l.append [])) (IntKind.i64.wrap (z2 - (1 : Int)))) && y7) (((0 : Int) ≤ IntKind.i64.wrap ((↑z3.length : Int) - (1 : Int)) ∧ IntKind.i64.wrap ((↑z3.length : Int) - (1 : Int)) < (↑z3.length : Int)) ∧ J5 (z3.set (IntKind.i64.wrap ((↑z3.length : Int) - (1 : Int))).toNat { low := (ix z3 (IntKind.i64.wrap ((↑z3.length : Int) - (1 : Int)))).1, high := ix (cutsS (l.append [])) z2, spans := (ix z3 (IntKind.i64.wrap ((↑z3.length : Int) - (1 : Int)))).3 : region_band })) ((z3.length + [{ low := ix (cutsS (l.append [])) (IntKind.i64.wrap (z2 - (1 : Int))), high := ix (cutsS (l.append [])) z2, spans := rowS l (ix (cutsS (l.append [])) (IntKind.i64.wrap (z2 - (1 : Int)))) : region_band }].length) * (40 : Nat) ≤ (140737488355328 : Nat) ∧ J5 (z3 ++ [{ low := ix (cutsS (l.append [])) (IntKind.i64.wrap (z2 - (1 : Int))), high := ix (cutsS (l.append [])) z2, spans := rowS l (ix (cutsS (l.append [])) (IntKind.i64.wrap (z2 - (1 : Int)))) : region_band }]))) fun (J8 : Bool → Prop) ↦ IFB (gx true (decide ((0 : Int) < (↑z3.length : Int)) && decide ((ix z3 (IntKind.i64.wrap ((↑z3.length : Int) - (1 : Int)))).2 = ix (cutsS (l.append [])) (IntKind.i64.wrap (z2 - (1 : Int)))))) ((ix z3 (IntKind.i64.wrap ((↑z3.length : Int) - (1 : Int)))).3.length ≤ (1000000000 : Nat) ∧ ∀ (v9 : Bool), (v9 = true ↔ (ix z3 (IntKind.i64.wrap ((↑z3.length : Int) - (1 : Int)))).3 = rowS l (ix (cutsS (l.append [])) (IntKind.i64.wrap (z2 - (1 : Int))))) → J8 v9) (J8 false)) ∧ ((↑z3.length : Int) ≤ (9223372036854775807 : Int) → (gx true (decide ((0 : Int) < (↑z3.length : Int))) = true → (0 : Int) ≤ IntKind.i64.wrap ((↑z3.length : Int) - (1 : Int)) ∧ IntKind.i64.wrap ((↑z3.length : Int) - (1 : Int)) < (↑z3.length : Int)) ∧ (gx true (decide ((0 : Int) < (↑z3.length : Int)) && decide ((ix z3 (IntKind.i64.wrap ((↑z3.length : Int) - (1 : Int)))).2 = ix (cutsS (l.append [])) (IntKind.i64.wrap (z2 - (1 : Int))))) = true → (0 : Int) ≤ IntKind.i64.wrap ((↑z3.length : Int) - (1 : Int)) ∧ IntKind.i64.wrap ((↑z3.length : Int) - (1 : Int)) < (↑z3.length : Int)) ∧ JOIN [Ty.bool] (fun (y10 : Bool) ↦ IFB (decide ((0 : Int) < (↑z3.length : Int)) && decide ((ix z3 (IntKind.i64.wrap ((↑z3.length : Int) - (1 : Int)))).2 = ix (cutsS (l.append [])) (IntKind.i64.wrap (z2 - (1 : Int)))) && y10) (((0 : Int) ≤ IntKind.i64.wrap ((↑z3.length : Int) - (1 : Int)) ∧ IntKind.i64.wrap ((↑z3.length : Int) - (1 : Int)) < (↑z3.length : Int)) ∧ J5 (z3.set (IntKind.i64.wrap ((↑z3.length : Int) - (1 : Int))).toNat { low := (ix z3 (IntKind.i64.wrap ((↑z3.length : Int) - (1 : Int)))).1, high := ix (cutsS (l.append [])) z2, spans := (ix z3 (IntKind.i64.wrap ((↑z3.length : Int) - (1 : Int)))).3 : region_band })) ((z3.length + [{ low := ix (cutsS (l.append [])) (IntKind.i64.wrap (z2 - (1 : Int))), high := ix (cutsS (l.append [])) z2, spans := rowS l (ix (cutsS (l.append [])) (IntKind.i64.wrap (z2 - (1 : Int)))) : region_band }].length) * (40 : Nat) ≤ (140737488355328 : Nat) ∧ J5 (z3 ++ [{ low := ix (cutsS (l.append [])) (IntKind.i64.wrap (z2 - (1 : Int))), high := ix (cutsS (l.append [])) z2, spans := rowS l (ix (cutsS (l.append [])) (IntKind.i64.wrap (z2 - (1 : Int)))) : region_band }]))) fun (J11 : Bool → Prop) ↦ IFB (gx true (decide ((0 : Int) < (↑z3.length : Int)) && decide ((ix z3 (IntKind.i64.wrap ((↑z3.length : Int) - (1 : Int)))).2 = ix (cutsS (l.append [])) (IntKind.i64.wrap (z2 - (1 : Int)))))) ((ix z3 (IntKind.i64.wrap ((↑z3.length : Int) - (1 : Int)))).3.length ≤ (1000000000 : Nat) ∧ ∀ (v12 : Bool), (v12 = true ↔ (ix z3 (IntKind.i64.wrap ((↑z3.length : Int) - (1 : Int)))).3 = rowS l (ix (cutsS (l.append [])) (IntKind.i64.wrap (z2 - (1 : Int))))) → J11 v12) (J11 false))) ∧ ((∀ (v13 : api_Rect), v13 ∈ l → v13.1 < v13.3) ∧ l.length ≤ (10000 : Nat)) ∧ ((↑z3.length : Int) ≤ (9223372036854775807 : Int) → (gx true (decide ((0 : Int) < (↑z3.length : Int))) = true → (0 : Int) ≤ IntKind.i64.wrap ((↑z3.length : Int) - (1 : Int)) ∧ IntKind.i64.wrap ((↑z3.length : Int) - (1 : Int)) < (↑z3.length : Int)) ∧ (gx true (decide ((0 : Int) < (↑z3.length : Int)) && decide ((ix z3 (IntKind.i64.wrap ((↑z3.length : Int) - (1 : Int)))).2 = ix (cutsS (l.append [])) (IntKind.i64.wrap (z2 - (1 : Int))))) = true → (0 : Int) ≤ IntKind.i64.wrap ((↑z3.length : Int) - (1 : Int)) ∧ IntKind.i64.wrap ((↑z3.length : Int) - (1 : Int)) < (↑z3.length : Int)) ∧ JOIN [Ty.bool] (fun (y14 : Bool) ↦ IFB (decide ((0 : Int) < (↑z3.length : Int)) && decide ((ix z3 (IntKind.i64.wrap ((↑z3.length : Int) - (1 : Int)))).2 = ix (cutsS (l.append [])) (IntKind.i64.wrap (z2 - (1 : Int)))) && y14) (((0 : Int) ≤ IntKind.i64.wrap ((↑z3.length : Int) - (1 : Int)) ∧ IntKind.i64.wrap ((↑z3.length : Int) - (1 : Int)) < (↑z3.length : Int)) ∧ J5 (z3.set (IntKind.i64.wrap ((↑z3.length : Int) - (1 : Int))).toNat { low := (ix z3 (IntKind.i64.wrap ((↑z3.length : Int) - (1 : Int)))).1, high := ix (cutsS (l.append [])) z2, spans := (ix z3 (IntKind.i64.wrap ((↑z3.length : Int) - (1 : Int)))).3 : region_band })) ((z3.length + [{ low := ix (cutsS (l.append [])) (IntKind.i64.wrap (z2 - (1 : Int))), high := ix (cutsS (l.append [])) z2, spans := rowS l (ix (cutsS (l.append [])) (IntKind.i64.wrap (z2 - (1 : Int)))) : region_band }].length) * (40 : Nat) ≤ (140737488355328 : Nat) ∧ J5 (z3 ++ [{ low := ix (cutsS (l.append [])) (IntKind.i64.wrap (z2 - (1 : Int))), high := ix (cutsS (l.append [])) z2, spans := rowS l (ix (cutsS (l.append [])) (IntKind.i64.wrap (z2 - (1 : Int)))) : region_band }]))) fun (J15 : Bool → Prop) ↦ IFB (gx true (decide ((0 : Int) < (↑z3.length : Int)) && decide ((ix z3 (IntKind.i64.wrap ((↑z3.length : Int) - (1 : Int)))).2 = ix (cutsS (l.append [])) (IntKind.i64.wrap (z2 - (1 : Int)))))) ((ix z3 (IntKind.i64.wrap ((↑z3.length : Int) - (1 : Int)))).3.length ≤ (1000000000 : Nat) ∧ ∀ (v16 : Bool), (v16 = true ↔ (ix z3 (IntKind.i64.wrap ((↑z3.length : Int) - (1 : Int)))).3 = rowS l (ix (cutsS (l.append [])) (IntKind.i64.wrap (z2 - (1 : Int))))) → J15 v16) (J15 false))) (((flat z3).length ≤ (1000000000 : Nat) ∧ z3.length ≤ (1000000000 : Nat)) ∧ post (flat z3))) ((1 : Int), [], PUnit.unit)
theorem pcan_w (l : List (api_Rect)) (post : dens (shT pcan_sp.rs []) → Prop) : pcan_W l (fun y0 => post (y0, ())) = walkG (callR Tryz.prog pcan_C (drawR Tryz.prog tau) 10 0) 90 false [tv (.sl (.st .api_Rect)) l] pcan_sp.rs post := by kernel_rfl
theorem pcan_of (h : ∀ (l : List (api_Rect)) (post : List (api_Rect) → Prop), pcan_P l post → pcan_W l post) : SpecOK Tryz.prog pcan_sp := SpecOK.of_rules (C := pcan_C) (dr := drawR Tryz.prog tau) (n := 10) (fk := 0) (.cons (rule1_ok pcuts_ok) (.cons (rule1_ok prow_ok) (.cons (rule1_ok peqs_ok) (.cons (rule1_ok prects_ok) .nil)))) (drawR_ok tau) fun x post hp => HoldW.of (pcan_w x.1 post) (h x.1 (fun y0 => post (y0, ())) hp)
theorem pcan_ok : SpecOK Tryz.prog pcan_sp := pcan_of fun l post hp => by
  obtain ⟨⟨h1, h2⟩, hp⟩ := hp
  have hcl := cov_len h1
  rw [can_build] at hp hcl
  unfold pcan_W
  have e : l.append [] = l := List.append_nil l
  rw [e]
  have hc := cutsS_len (l := l)
  have hlr : ∀ r ∈ l, r.1 < r.3 := fun r hr => (h1 r hr).2.1
  refine ⟨⟨h2, by simp⟩, ?_⟩
  refine build_loop (xs := cutsS l) (R := rowS l) (fun y => by have := rowS_len (l := l) (y := y); omega) (by omega) (fun rec k acc hk hal has hrec => ?_) (fun hlen => ⟨⟨by omega, by omega⟩, hp⟩)
  refine JOIN.opq fun (J : List Bd → Prop) hJ => ?_
  have w1 : IntKind.i64.wrap (((k + 1 : Nat) : Int) - 1) = k := by rw [wrap_in (by omega) (by omega)]; omega
  rw [w1]
  have hJ : J (addBd acc (ix (cutsS l) (k : Int)) (ix (cutsS l) ((k + 1 : Nat) : Int)) (rowS l (ix (cutsS l) (k : Int)))) := by
    rw [hJ]
    show rec (IntKind.i64.wrap (((k + 1 : Nat) : Int) + 1)) _
    rw [wrapS (by omega)]
    exact hrec
  have main := bandM_ok (by omega) (fun b hb => Nat.le_trans (has b hb) (by omega)) hJ
  have hD : (∀ v6 : api_Rect, v6 ∈ l → v6.1 < v6.3) ∧ l.length ≤ 10000 := ⟨hlr, h2⟩
  exact ⟨by omega, by omega, by omega, ⟨hD, main, main⟩, hD, main⟩

end RE
end Go.Proofs.YtblcakaohlgagaaGreat
set_option maxRecDepth 100000
set_option linter.unusedVariables false
namespace Go.Proofs.YtblcakaohlgagaaGreat
open Go.RowKit
namespace RE
open PL
def pval_P (a : api_Region) (post : Bool → Prop) : Prop := ∀ q : Bool, (q = true ↔ validP a.1) → post q
def pval_sp : Spec := ⟨49, false, false, [.st .api_Region], .dat (.bool), fun x post => pval_P (x.1 : api_Region) (fun y0 => post (y0, ()))⟩
def pval_C : CtxR := ⟨tau, [rule1 pcan_sp, rule1 peqr_sp], lookJ [(0, 1000003, ⟨[(2, .dat .bool)], [], [12, 13, 14, 15, 16, 17], [], []⟩), (1072672813, 0, ⟨[(0, .dat (.int .i64))], [], [], [], []⟩), (1072672813, 5, ⟨[(8, .dat (.int .i64))], [], [9, 10, 5, 11, 12, 13, 14, 15, 16, 18], [], []⟩)]⟩
def pval_W (a : api_Region) (post : Bool → Prop) : Prop := (↑a.1.length : Int) ≤ (9223372036854775807 : Int) → JOIN [Ty.bool] (fun (y1 : Bool) ↦ IFB (decide ((120 : Int) < (↑a.1.length : Int)) || y1) (post false) (JOIN [Ty.bool] (fun (y2 : Bool) ↦ post y2) fun (J3 : Bool → Prop) ↦ ((∀ (v4 : api_Rect), v4 ∈ a.1 → (0 : Int) ≤ v4.1 ∧ v4.1 < v4.3 ∧ v4.3 ≤ (16384 : Int) ∧ (0 : Int) ≤ v4.2 ∧ v4.2 < v4.4 ∧ v4.4 ≤ (16384 : Int)) ∧ a.1.length ≤ (10000 : Nat)) ∧ (canonF (cov a.1)).length ≤ (1000000000 : Nat) ∧ ∀ (v5 : Bool), (v5 = true ↔ canonF (cov a.1) = a.1) → J3 v5)) fun (J6 : Bool → Prop) ↦ IFB (gx false (decide ((120 : Int) < (↑a.1.length : Int)))) (JOIN [Ty.int IntKind.i64] (fun (y7 : Int) ↦ J6 (decide ((0 : Int) ≤ y7))) fun (J8 : Int → Prop) ↦ (↑a.1.length : Int) ≤ (9223372036854775807 : Int) → LOOP [Ty.int IntKind.i64] (fun (rec9 : Int → Prop) (z10 : Int) ↦ IFB (decide (z10 < (↑a.1.length : Int))) (((0 : Int) ≤ z10 ∧ z10 < (↑a.1.length : Int)) ∧ IFB (!(decide ((0 : Int) ≤ (ix a.1 z10).1) && decide ((ix a.1 z10).1 < (ix a.1 z10).3) && decide ((ix a.1 z10).3 ≤ (16384 : Int)) && decide ((0 : Int) ≤ (ix a.1 z10).2) && decide ((ix a.1 z10).2 < (ix a.1 z10).4) && decide ((ix a.1 z10).4 ≤ (16384 : Int)))) (J8 z10) (rec9 (IntKind.i64.wrap (z10 + (1 : Int))))) (J8 (-1 : Int))) ((0 : Int), PUnit.unit)) (J6 false)
theorem pval_w (a : api_Region) (post : dens (shT pval_sp.rs []) → Prop) : pval_W a (fun y0 => post (y0, ())) = walkG (callR Tryz.prog pval_C (drawR Tryz.prog tau) 10 0) 49 false [tv (.st .api_Region) a] pval_sp.rs post := by kernel_rfl
theorem pval_of (h : ∀ (a : api_Region) (post : Bool → Prop), pval_P a post → pval_W a post) : SpecOK Tryz.prog pval_sp := SpecOK.of_rules (C := pval_C) (dr := drawR Tryz.prog tau) (n := 10) (fk := 0) (.cons (rule1_ok pcan_ok) (.cons (rule1_ok peqr_ok) .nil)) (drawR_ok tau) fun x post hp => HoldW.of (pval_w x.1 post) (h x.1 (fun y0 => post (y0, ())) hp)
theorem pval_ok : SpecOK Tryz.prog pval_sp := pval_of fun a post hp => by
  obtain ⟨l⟩ := a
  unfold pval_P at hp
  unfold pval_W
  dsimp only at hp ⊢
  intro _
  refine JOIN.opq fun (J : Bool → Prop) hJ => ?_
  refine IFB.mk (fun hb => ?_) (fun hb => ?_)
  · have hb : (!decide ((120 : Int) < l.length)) = true := hb
    have hb : decide ((120 : Int) < l.length) = false := by simpa using hb
    have hle := of_decide_eq_false hb
    refine JOIN.opq fun (J8 : Int → Prop) hJ8 => ?_
    intro _
    refine loopCmp (n := l.length) (by omega) (p := fun j => proper (ix l (j : Int))) (fun rec k hk hpre hrec => ⟨by omega, IFB.mk (fun hb2 => ?_) (fun hb2 => hrec ?_)⟩) fun hall => ?_
    · rw [hJ8]
      show J (decide (0 ≤ (k : Int)))
      rw [decide_eq_true (by omega : (0 : Int) ≤ k), hJ]
      dsimp only
      refine IFB.mk (fun _ => hp _ ?_) (fun h => ?_)
      · constructor
        · intro h; cases h
        · intro h
          have := properB_iff.2 (h.2.1 _ (ix_mem (l := l) (i := (k : Int)) (by omega) (by omega)))
          unfold properB at this
          rw [this] at hb2
          cases hb2
      · rw [Bool.or_true] at h; cases h
    · exact properB_iff.1 (by unfold properB; simpa using hb2)
    · have hall := all_ix hall
      rw [hJ8]
      show J (decide (0 ≤ (-1 : Int)))
      have hm : decide (0 ≤ (-1 : Int)) = false := rfl
      rw [hm, hJ]
      dsimp only
      rw [hb]
      refine IFB.mk (fun h => by cases h) (fun _ => ?_)
      refine JOIN.opq fun (J3 : Bool → Prop) hJ3 => ?_
      have := cov_len hall
      refine ⟨⟨hall, by omega⟩, by omega, fun q hq => ?_⟩
      rw [hJ3]
      refine hp q (hq.trans ⟨fun h => ⟨by omega, hall, (canon_iff l).1 h⟩, fun h => (canon_iff l).2 h.2.2⟩)
  · have hb : (!decide ((120 : Int) < l.length)) = false := hb
    have hb : decide ((120 : Int) < l.length) = true := by simpa using hb
    rw [hJ]
    dsimp only
    rw [hb]
    refine IFB.mk (fun _ => hp _ ?_) (fun h => by cases h)
    have hb := of_decide_eq_true hb
    constructor
    · intro h; cases h
    · intro h; have := h.1; omega

namespace PL
def edgL (l : List Sp) : List Int := l.flatMap fun s => [s.Left, s.Right]
noncomputable def mergeS (h : Int) (A B : List Sp) : List Sp := spansOf (fun x => howS h (insS A x) (insS B x)) (uniqI (edgL (A ++ B)))
end PL

theorem insS_iff {l : List Sp} {x : Int} : insS l x = true ↔ inSp l x := by
  unfold insS inSp
  simp [List.any_eq_true]
theorem edgL_len {l : List Sp} : (edgL l).length = 2 * l.length := by
  induction l with
  | nil => rfl
  | cons r l ih => 
    have e : edgL (r :: l) = r.Left :: r.Right :: edgL l := rfl
    rw [e]; simp only [List.length_cons, ih]; omega
theorem edgL_mem {l : List Sp} {x : Int} : x ∈ uniqI (edgL l) ↔ ∃ s ∈ l, x = s.Left ∨ x = s.Right := by
  rw [(uniqI_ok _).2]
  unfold edgL; simp
theorem insS_cols {l : List Sp} {x u : Int} (hux : u ≤ x) (hm : ∀ s ∈ l, (s.Left ≤ x → s.Left ≤ u) ∧ (s.Right ≤ x → s.Right ≤ u)) : insS l x = insS l u := by
  refine bool_iff ?_
  rw [insS_iff, insS_iff]
  constructor
  · rintro ⟨r, hr, h1, h2⟩
    have h1 : r.Left ≤ x := h1
    have h2 : x < r.Right := h2
    exact ⟨r, hr, (hm r hr).1 h1, by show u < r.Right; omega⟩
  · rintro ⟨r, hr, h1, h2⟩
    have h1 : r.Left ≤ u := h1
    have h2 : u < r.Right := h2
    refine ⟨r, hr, by show r.Left ≤ x; omega, ?_⟩
    rcases Int.lt_or_le x r.Right with h | h
    · exact h
    · have := (hm r hr).2 h; omega
theorem mergeS_ok (h : Int) (A B : List Sp) : SpOK (mergeS h A B) ∧ ∀ x, inSp (mergeS h A B) x ↔ howS h (insS A x) (insS B x) = true := by
  have c1 := (uniqI_ok (edgL (A ++ B))).1
  have c2 := fun x => edgL_mem (l := A ++ B) (x := x)
  obtain ⟨h1, h2⟩ := spansOf_ok (p := fun x => howS h (insS A x) (insS B x)) c1
  have hin : ∀ x, howS h (insS A x) (insS B x) = true → ∃ s ∈ A ++ B, s.Left ≤ x ∧ x < s.Right := fun x hx => by
    cases ha : insS A x with
    | true =>
      obtain ⟨s, hs, q1, q2⟩ := insS_iff.1 ha
      exact ⟨s, by simp [hs], q1, q2⟩
    | false =>
      cases hb : insS B x with
      | true =>
        obtain ⟨s, hs, q1, q2⟩ := insS_iff.1 hb
        exact ⟨s, by simp [hs], q1, q2⟩
      | false => rw [ha, hb, howS_0] at hx; cases hx
  refine ⟨h1, fun x => ?_⟩
  unfold mergeS
  rw [h2]
  refine edges_set (f := fun x => howS h (insS A x) (insS B x)) c1 (fun x hx => ?_) (fun x hx => ?_) (fun u x hu hux hm => ?_) x
  · obtain ⟨r, hr, h3, h4⟩ := hin x hx
    exact ⟨r.Left, (c2 _).2 ⟨r, hr, .inl rfl⟩, h3⟩
  · obtain ⟨r, hr, h3, h4⟩ := hin x hx
    exact ⟨r.Right, (c2 _).2 ⟨r, hr, .inr rfl⟩, h4⟩
  · have hm' : ∀ r ∈ A ++ B, (r.Left ≤ x → r.Left ≤ u) ∧ (r.Right ≤ x → r.Right ≤ u) := fun r hr => ⟨hm _ ((c2 _).2 ⟨r, hr, .inl rfl⟩), hm _ ((c2 _).2 ⟨r, hr, .inr rfl⟩)⟩
    show howS h (insS A x) (insS B x) = howS h (insS A u) (insS B u)
    rw [insS_cols hux (fun r hr => hm' r (by simp [hr])), insS_cols hux (fun r hr => hm' r (by simp [hr]))]
theorem rowS_ins {l : List Rc} {u x : Int} : insS (rowS l u) x = cov l x u := by
  refine bool_iff ?_
  rw [insS_iff]
  have h := (comb_row (howS_0 1) (a := l) (b := []) (y := u)).2 x
  rw [comb_or_nil, List.append_nil] at h
  exact h
theorem choose_build (h : Int) (l m : List Rc) : canonF (comb (howS h) l m) = flat (buildG (fun y => mergeS h (rowS l y) (rowS m y)) [] (cutsS (l ++ m))) :=
  (comb_build (howS_0 h) (a := l) (b := m) (R := fun y => mergeS h (rowS l y) (rowS m y)) fun u hu => ⟨(mergeS_ok h _ _).1, fun x => by
    rw [(mergeS_ok h _ _).2, rowS_ins, rowS_ins]; rfl⟩).2.2
theorem edg_in {l : List Sp} {A : List Int} {K : List Int → Prop} (hl : A.length + 2 * l.length ≤ 100000) (hK : K (A ++ edgL l)) :
    LOOP [Ty.int IntKind.i64, (Ty.int IntKind.i64).sl] (fun (rec4 : Int → List Int → Prop) (z5 : Int) (z6 : List Int) ↦ IFB (decide (z5 < (↑l.length : Int))) (((0 : Int) ≤ z5 ∧ z5 < (↑l.length : Int)) ∧ (z6.length + [(ix l z5).1, (ix l z5).2].length) * 8 ≤ 140737488355328 ∧ rec4 (IntKind.i64.wrap (z5 + (1 : Int))) (z6 ++ [(ix l z5).1, (ix l z5).2])) (K z6)) ((0 : Int), A, PUnit.unit) := by
  refine LOOP.list l (fun k (s : List Int) => ((k : Int), s, ())) (fun u => Int.toNat u.1) (fun k r (s : List Int) => s ++ edgL r = A ++ edgL l ∧ s.length = A.length + 2 * k) A rfl ⟨rfl, by omega⟩ (fun k s h => by simp) ?_ ?_
  · intro rec k x r s hd hk hkl ⟨g1, g2⟩ hrec
    have hx := ix_of hk
    show IFB _ _ _
    refine IFB.mk (fun _ => ⟨by show 0 ≤ (k : Int) ∧ (k : Int) < l.length; omega, ?_⟩) (fun h => absurd (of_decide_eq_false h) (by show ¬ ¬ ((k : Int) < l.length); omega))
    dsimp only
    rw [hx]
    refine ⟨by simp only [List.length_cons, List.length_nil]; omega, ?_⟩
    rw [wrapS (by omega)]
    refine hrec _ ⟨?_, ?_⟩
    · rw [← g1]
      have e : edgL (x :: r) = x.Left :: x.Right :: edgL r := rfl
      rw [e]; simp
    · simp only [List.length_append, List.length_cons, List.length_nil]; omega
  · intro rec s ⟨g1, g2⟩
    show IFB _ _ _
    refine IFB.mk (fun h => absurd (of_decide_eq_true h) (by show ¬ ((l.length : Int) < l.length); omega)) (fun _ => ?_)
    have g1 : s = A ++ edgL l := by simpa [edgL] using g1
    show K s
    rw [g1]; exact hK
theorem howS_3 (a b : Bool) : howS 3 a b = (a && !b) := by unfold howS; simp

end RE
end Go.Proofs.YtblcakaohlgagaaGreat
