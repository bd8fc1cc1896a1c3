/-
  DERIVED: THE SHELF's CONTRACTS AT THIS DUMP, IN PLAIN WORDS (tools/lay-plain.mjs out of 'TryShelf.lean', which tools/lay-shelf.mjs wrote): THE SAME DECLARATIONS UNDER THE SAME NAMES: 'import', 'namespace', 'open', 'def', 'theorem' AND NOTHING ELSE: no command of the shelf's: FOR A HAND-IN. Each laying: the table of numbers ('.._ren') and one theorem, a field a fact of the dump's own or the kernel's comparison; each contract: ONE APPLICATION.
-/
import Derived.Shelf.Sort.Plain
import Derived.Shelf.Slices.Turned
import Derived.Shelf.Slices.Reverse
import Derived.Shelf.Slices.SearchI
import Derived.Shelf.Slices.In.SortNone
import Derived.Test.YtgdbkoncaojmoaaProg
namespace Go.Proofs
open Go.Shelf
def Try.lays189_ren : Go.Shelf.Ren := ⟨fun | 189 => 40 | 125 => 47 | 257 => 46 | 128 => 66 | 129 => 67 | 294 => 57 | 295 => 58 | 296 => 59 | 297 => 60 | 298 => 61 | 299 => 62 | 216 => 63 | 300 => 64 | 301 => 65 | 328 => 72 | 329 => 73 | 330 => 74 | 331 => 75 | 332 => 76 | 215 => 77 | 343 => 79 | n => n, fun | 28 => 31 | 3 => 3 | 46 => 65 | 0 => 0 | 51 => 78 | 53 => 80 | 4 => 4 | 183 => 71 | 182 => 70 | 131 => 75 | 5 => 5 | 9 => 9 | 218 => 84 | 222 => 88 | 228 => 91 | 229 => 92 | n => n, fun | n => n⟩
theorem Try.lays189 : Go.Proofs.Lays.n189 Try.prog Try.lays189_ren := {
  mixed := by kernel_rfl
  f125 := Try.func47.trans (congrArg some (by kernel_rfl))
  f128 := Try.func66.trans (congrArg some (by kernel_rfl))
  f129 := Try.func67.trans (congrArg some (by kernel_rfl))
  f189 := Try.func40.trans (congrArg some (by kernel_rfl))
  f215 := Try.func77.trans (congrArg some (by kernel_rfl))
  f216 := Try.func63.trans (congrArg some (by kernel_rfl))
  f257 := Try.func46.trans (congrArg some (by kernel_rfl))
  f294 := Try.func57.trans (congrArg some (by kernel_rfl))
  f295 := Try.func58.trans (congrArg some (by kernel_rfl))
  f296 := Try.func59.trans (congrArg some (by kernel_rfl))
  f297 := Try.func60.trans (congrArg some (by kernel_rfl))
  f298 := Try.func61.trans (congrArg some (by kernel_rfl))
  f299 := Try.func62.trans (congrArg some (by kernel_rfl))
  f300 := Try.func64.trans (congrArg some (by kernel_rfl))
  f301 := Try.func65.trans (congrArg some (by kernel_rfl))
  f328 := Try.func72.trans (congrArg some (by kernel_rfl))
  f329 := Try.func73.trans (congrArg some (by kernel_rfl))
  f330 := Try.func74.trans (congrArg some (by kernel_rfl))
  f331 := Try.func75.trans (congrArg some (by kernel_rfl))
  f332 := Try.func76.trans (congrArg some (by kernel_rfl))
  f343 := Try.func79.trans (congrArg some (by kernel_rfl))
  t0 := Try.underlying0
  a0 := Try.isAgg0
  z0 := Try.sizeOf0
  v0 := Try.zeroValue0
  t3 := Try.underlying3
  a3 := Try.isAgg3
  z3 := Try.sizeOf3
  v3 := Try.zeroValue3
  t4 := Try.underlying4
  a4 := Try.isAgg4
  z4 := Try.sizeOf4
  v4 := Try.zeroValue4
  t5 := Try.underlying5
  a5 := Try.isAgg5
  z5 := Try.sizeOf5
  v5 := Try.zeroValue5
  t9 := Try.underlying9
  a9 := Try.isAgg9
  z9 := Try.sizeOf9
  v9 := Try.zeroValue9
  t28 := Try.underlying31
  a28 := Try.isAgg31
  z28 := Try.sizeOf31
  v28 := Try.zeroValue31
  t46 := Try.underlying65
  a46 := Try.isAgg65
  z46 := Try.sizeOf65
  v46 := Try.zeroValue65
  t51 := Try.underlying78
  a51 := Try.isAgg78
  z51 := Try.sizeOf78
  v51 := Try.zeroValue78
  t53 := Try.underlying80
  a53 := Try.isAgg80
  z53 := Try.sizeOf80
  v53 := Try.zeroValue80
  t131 := Try.underlying75
  a131 := Try.isAgg75
  z131 := Try.sizeOf75
  v131 := Try.zeroValue75
  t182 := Try.underlying70
  a182 := Try.isAgg70
  z182 := Try.sizeOf70
  v182 := Try.zeroValue70
  t183 := Try.underlying71
  a183 := Try.isAgg71
  z183 := Try.sizeOf71
  v183 := Try.zeroValue71
  t218 := Try.underlying84
  a218 := Try.isAgg84
  z218 := Try.sizeOf84
  v218 := Try.zeroValue84
  t222 := Try.underlying88
  a222 := Try.isAgg88
  z222 := Try.sizeOf88
  v222 := Try.zeroValue88
  t228 := Try.underlying91
  a228 := Try.isAgg91
  z228 := Try.sizeOf91
  v228 := Try.zeroValue91
  t229 := Try.underlying92
  a229 := Try.isAgg92
  z229 := Try.sizeOf92
  v229 := Try.zeroValue92 }
open Go.Sort Go.RowKit in
theorem Try.slices_Sort_int (blk off cap : Nat) (zs : List Int) (w : World) (hH : Holds (Value.int .i64) w blk off zs.toArray) (hblk : blk < w.heap.size) (hsz : zs.length < 4611686018427387904) :
    Calls Try.prog 40 #[.slice (some ⟨blk, off, none⟩) zs.length cap] w fun e w' =>
      e = .returned (.tuple #[]) ∧ ∃ n os, w' = grow (putRow (Value.int .i64) (Sort.ahead w n) blk off (zs.mergeSort fun x y => decide (x ≤ y)).toArray) os := Any.slices_Sort_int Try.lays189 blk off cap zs w hH hblk hsz
def Try.lays107_ren : Go.Shelf.Ren := ⟨fun | 107 => 32 | 108 => 42 | n => n, fun | 28 => 31 | 3 => 3 | 4 => 4 | 0 => 0 | n => n, fun | n => n⟩
theorem Try.lays107 : Go.Proofs.Lays.n107 Try.prog Try.lays107_ren := {
  mixed := by kernel_rfl
  f107 := Try.func32.trans (congrArg some (by kernel_rfl))
  f108 := Try.func42.trans (congrArg some (by kernel_rfl))
  t0 := Try.underlying0
  a0 := Try.isAgg0
  z0 := Try.sizeOf0
  v0 := Try.zeroValue0
  t3 := Try.underlying3
  a3 := Try.isAgg3
  z3 := Try.sizeOf3
  v3 := Try.zeroValue3
  t4 := Try.underlying4
  a4 := Try.isAgg4
  z4 := Try.sizeOf4
  v4 := Try.zeroValue4
  t28 := Try.underlying31
  a28 := Try.isAgg31
  z28 := Try.sizeOf31
  v28 := Try.zeroValue31 }
open Go.Lib in
/-- slices.Contains at []int: "Contains reports whether v is present in s.": IT RETURNS 'elements.contains v'; the world is as it was. ITS CALLEE slices.Index IS MET BY ITS OWN CONTRACT OFF THE SHELF (lay that first): no loop is walked here. (LAID: no walk: one application.) -/
theorem Try.slices_Contains_int (b off n c : Nat) (zs : List Int) (x : Int) (w : World) (hz : n ≤ zs.length) (hbig : n ≤ 9223372036854775807) (hc : ∀ j, j < zs.length → w.cell? ⟨b, off + j, none⟩ = some (.int .i64 (zs.getD j 0))) :
    Calls Try.prog 32 #[.slice (some ⟨b, off, none⟩) n c, .int .i64 x] w fun e w' => e = .returned (.bool ((zs.take n).contains x)) ∧ w' = w := Any.slices_Contains_int Try.lays107 b off n c zs x w hz hbig hc
open Go.Lib in
/-- The same at a slice of length 0, a nil one too. (LAID: no walk: one application.) -/
theorem Try.slices_Contains_int_empty (a : Option Addr) (c : Nat) (x : Int) (w : World) :
    Calls Try.prog 32 #[.slice a 0 c, .int .i64 x] w fun e w' => e = .returned (.bool false) ∧ w' = w := Any.slices_Contains_int_empty Try.lays107 a c x w
def Try.lays112_ren : Go.Shelf.Ren := ⟨fun | 112 => 33 | n => n, fun | 28 => 31 | 3 => 3 | 4 => 4 | 0 => 0 | n => n, fun | n => n⟩
theorem Try.lays112 : Go.Proofs.Lays.n112 Try.prog Try.lays112_ren := {
  mixed := by kernel_rfl
  f112 := Try.func33.trans (congrArg some (by kernel_rfl))
  t0 := Try.underlying0
  a0 := Try.isAgg0
  z0 := Try.sizeOf0
  v0 := Try.zeroValue0
  t3 := Try.underlying3
  a3 := Try.isAgg3
  z3 := Try.sizeOf3
  v3 := Try.zeroValue3
  t4 := Try.underlying4
  a4 := Try.isAgg4
  z4 := Try.sizeOf4
  v4 := Try.zeroValue4
  t28 := Try.underlying31
  a28 := Try.isAgg31
  z28 := Try.sizeOf31
  v28 := Try.zeroValue31 }
open Go.RowKit Go.Lib Go.Sort in
/-- slices.Reverse at []int: "Reverse reverses the elements of the slice in place.": THE SLICE's CELLS HOLD 'zs.reverse' BEHIND THE CALL; all else is as it was, but for the count of draws (the exchange 's[i], s[j] = s[j], s[i]' draws its order, once a round). IN THE WORDS OF slices.Sort's CONTRACT: 'Holds': the cells hold zs and none is frozen; 'putRow': the world with those cells holding another array. A slice of length 0 that is not nil is among them ('zs = []'); nil: '.._nil'. (LAID: no walk: one application.) -/
theorem Try.slices_Reverse_int (blk off cap : Nat) (zs : List Int) (w : World) (hH : Holds (Value.int .i64) w blk off zs.toArray) (hsz : zs.length ≤ 9223372036854775807) :
    Calls Try.prog 33 #[.slice (some ⟨blk, off, none⟩) zs.length cap] w fun e w' => e = .returned (.tuple #[]) ∧ ∃ n, w' = putRow (Value.int .i64) (Sort.ahead w n) blk off zs.reverse.toArray := Any.slices_Reverse_int Try.lays112 blk off cap zs w hH hsz
open Go.RowKit Go.Lib Go.Sort in
/-- The same at a slice of length 0, a nil one too: nothing is read, nothing written, nothing drawn. (LAID: no walk: one application.) -/
theorem Try.slices_Reverse_int_empty (a : Option Addr) (cap : Nat) (w : World) :
    Calls Try.prog 33 #[.slice a 0 cap] w fun e w' => e = .returned (.tuple #[]) ∧ w' = w := Any.slices_Reverse_int_empty Try.lays112 a cap w
open Go.RowKit Go.Sort in
/-- .. and plain. (LAID: no walk: one application.) -/
theorem Try.slices_Sort_int_none (p : Option Addr) (cap : Nat) (w : World) :
    Calls Try.prog 40 #[.slice p 0 cap] w fun e w' => e = .returned (.tuple #[]) ∧ w' = w := Any.slices_Sort_int_none Try.lays189 p cap w
end Go.Proofs
