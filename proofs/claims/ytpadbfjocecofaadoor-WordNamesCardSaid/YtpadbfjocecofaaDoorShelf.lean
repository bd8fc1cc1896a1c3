/-
  DERIVED: THE SHELF's CONTRACTS AT THIS DUMP, IN PLAIN WORDS (tools/lay-plain.mjs out of 'TrydShelf.lean', which tools/lay-shelf.mjs wrote): THE SAME DECLARATIONS UNDER THE SAME NAMES: 'import', 'namespace', 'open', 'def', 'theorem' AND NOTHING ELSE: no command of the shelf's: FOR A HAND-IN. Each laying: the table of numbers ('.._ren') and one theorem, a field a fact of the dump's own or the kernel's comparison; each contract: ONE APPLICATION.
-/
import Derived.Shelf.Strings.Fields
import Derived.Ground.NamesProg
import Derived.Test.YtpadbfjocecofaaDoorProg
namespace Go.Proofs
open Go.Shelf
def Tryd.lays157_ren : Go.Shelf.Ren := ⟨fun | 157 => 35 | 229 => 37 | 199 => 38 | 261 => 39 | 311 => 40 | 312 => 41 | n => n, fun | 9 => 9 | 31 => 32 | 3 => 3 | 5 => 5 | 4 => 4 | 119 => 47 | 0 => 0 | 40 => 49 | 152 => 50 | 21 => 21 | 154 => 52 | 51 => 43 | 141 => 54 | 196 => 58 | 193 => 55 | 198 => 61 | 49 => 59 | 194 => 56 | 201 => 64 | 226 => 66 | 46 => 67 | 227 => 68 | n => n, fun | 0 => 0 | 6 => 1 | n => n⟩
theorem Tryd.lays157 : Go.Proofs.Lays.n157 Tryd.prog Tryd.lays157_ren := {
  mixed := by kernel_rfl
  f157 := Tryd.func35.trans (congrArg some (by kernel_rfl))
  f199 := Tryd.func38.trans (congrArg some (by kernel_rfl))
  f229 := Tryd.func37.trans (congrArg some (by kernel_rfl))
  f261 := Tryd.func39.trans (congrArg some (by kernel_rfl))
  f311 := Tryd.func40.trans (congrArg some (by kernel_rfl))
  f312 := Tryd.func41.trans (congrArg some (by kernel_rfl))
  t0 := Tryd.underlying0
  a0 := Tryd.isAgg0
  z0 := Tryd.sizeOf0
  v0 := Tryd.zeroValue0
  t3 := Tryd.underlying3
  a3 := Tryd.isAgg3
  z3 := Tryd.sizeOf3
  v3 := Tryd.zeroValue3
  t4 := Tryd.underlying4
  a4 := Tryd.isAgg4
  z4 := Tryd.sizeOf4
  v4 := Tryd.zeroValue4
  t5 := Tryd.underlying5
  a5 := Tryd.isAgg5
  z5 := Tryd.sizeOf5
  v5 := Tryd.zeroValue5
  t9 := Tryd.underlying9
  a9 := Tryd.isAgg9
  z9 := Tryd.sizeOf9
  v9 := Tryd.zeroValue9
  t21 := Tryd.underlying21
  a21 := Tryd.isAgg21
  z21 := Tryd.sizeOf21
  v21 := Tryd.zeroValue21
  t31 := Tryd.underlying32
  a31 := Tryd.isAgg32
  z31 := Tryd.sizeOf32
  v31 := Tryd.zeroValue32
  t40 := Tryd.underlying49
  a40 := Tryd.isAgg49
  z40 := Tryd.sizeOf49
  v40 := Tryd.zeroValue49
  t46 := Tryd.underlying67
  a46 := Tryd.isAgg67
  z46 := Tryd.sizeOf67
  v46 := Tryd.zeroValue67
  t49 := Tryd.underlying59
  a49 := Tryd.isAgg59
  z49 := Tryd.sizeOf59
  v49 := Tryd.zeroValue59
  t51 := Tryd.underlying43
  a51 := Tryd.isAgg43
  z51 := Tryd.sizeOf43
  v51 := Tryd.zeroValue43
  t119 := Tryd.underlying47
  a119 := Tryd.isAgg47
  z119 := Tryd.sizeOf47
  t141 := Tryd.underlying54
  a141 := Tryd.isAgg54
  z141 := Tryd.sizeOf54
  v141 := Tryd.zeroValue54
  t152 := Tryd.underlying50
  a152 := Tryd.isAgg50
  z152 := Tryd.sizeOf50
  v152 := Tryd.zeroValue50
  t154 := Tryd.underlying52
  a154 := Tryd.isAgg52
  z154 := Tryd.sizeOf52
  v154 := Tryd.zeroValue52
  t193 := Tryd.underlying55
  a193 := Tryd.isAgg55
  z193 := Tryd.sizeOf55
  v193 := Tryd.zeroValue55
  t194 := Tryd.underlying56
  a194 := Tryd.isAgg56
  z194 := Tryd.sizeOf56
  v194 := Tryd.zeroValue56
  t196 := Tryd.underlying58
  a196 := Tryd.isAgg58
  z196 := Tryd.sizeOf58
  v196 := Tryd.zeroValue58
  t198 := Tryd.underlying61
  a198 := Tryd.isAgg61
  z198 := Tryd.sizeOf61
  v198 := Tryd.zeroValue61
  t201 := Tryd.underlying64
  a201 := Tryd.isAgg64
  z201 := Tryd.sizeOf64
  v201 := Tryd.zeroValue64
  t226 := Tryd.underlying66
  a226 := Tryd.isAgg66
  z226 := Tryd.sizeOf66
  v226 := Tryd.zeroValue66
  t227 := Tryd.underlying68
  a227 := Tryd.isAgg68
  z227 := Tryd.sizeOf68
  v227 := Tryd.zeroValue68
  g0 := by kernel_rfl
  g6 := by kernel_rfl }
open Go.RowKit Go.Lib in
/-- strings.Fields, the table by 'Lib.TabIs' (as strings.TrimSpace's contract). 'hg': the table's number, by its name: at a dump 'by kernel_rfl'. (LAID: no walk: one application.) -/
theorem Tryd.strings_Fields (s : ByteArray) (w : World) (hs : s.size < 4294967281) (hascii : ∀ (j : Nat) b, s.data.toList[j]? = some b → b.toNat < 128) (htab : Lib.TabIs Tryd.prog w "strings.asciiSpace" .u8 Lib.asciiSpaceTab) :
    Calls Tryd.prog 35 #[.string s] w fun e w' =>
      e = .returned (.slice (some ⟨w.heap.size, 0, none⟩) (Lib.fields s.data.toList).length (Lib.fields s.data.toList).length) ∧ w' = w.alloc (.cells ((Lib.fields s.data.toList).map fun l => Value.string ⟨l.toArray⟩).toArray 9) := Any.strings_Fields Tryd.lays157 (by kernel_rfl) (by kernel_rfl) s w hs hascii htab
end Go.Proofs
