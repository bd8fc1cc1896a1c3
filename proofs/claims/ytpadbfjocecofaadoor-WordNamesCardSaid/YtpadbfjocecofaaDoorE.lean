import Derived.Test.YtpadbfjocecofaaDoorC
import Derived.Test.YtpadbfjocecofaaDoorV
import Derived.Test.YtpadbfjocecofaaDoorRows
import Derived.ProofKit
import Derived.LaidMore
import Derived.OpenShut
import Derived.Stop.Joined
namespace Go.Proofs.YtpadbfjocecofaaDoor
open Go.ChangeShapes Go.WideShapes Go.ChangeAt Go.RowKit

theorem ownT : ownKnob Tryd.prog.godebug = none := by kernel_rfl
theorem laidT : laidOutB Tryd.prog = true := by kernel_rfl
theorem ui3 : Tryd.prog.underlying 3 = some (.int .i64) := by kernel_rfl
theorem ub4 : Tryd.prog.underlying 4 = some .bool := by kernel_rfl
def laidL : List (String × DataW Unit) := [("unicode.White_Space", Rows.laid_unicode_White_Space), ("strings.asciiSpace", Rows.laid_strings_asciiSpace)]
theorem gAscii : Tryd.prog.globalNamed "strings.asciiSpace" = some 0 := by kernel_rfl
theorem tAscii : (Tryd.prog.globals[0]?).map (·.type) = some 47 := by kernel_rfl
theorem u47 : Tryd.prog.underlying 47 = some (.array 256 5) := by kernel_rfl
theorem u5 : Tryd.prog.underlying 5 = some (.int .u8) := by kernel_rfl
theorem asciiD : (Rows.laid_strings_asciiSpace : DataW Unit) = Lib.tabData .u8 Lib.asciiSpaceTab := by kernel_rfl
set_option maxRecDepth 100000 in
theorem door_met (os : Os) (args : Array Value) : laidMetH Tryd.prog laidL ((World.doorLaid Tryd.prog 33 os).forCall (fun _ _ => 0) ⟨#[], args, []⟩).memory :=
  laidMetH_of_parts3 (fuel := 8) (laidMet_of_run' 8 (by kernel_rfl) (by kernel_rfl)) (by kernel_rfl) (by kernel_rfl)
theorem tab_of_laid {W : World} (h : laidMetH Tryd.prog laidL W) : Tab W := by
  rw [MakeChecks.laidMetH_plain _ _ _ (by kernel_rfl)] at h
  obtain ⟨ps, ⟨g0, t0, cs0, f0, p0, q0, hg0, ht0, hv0, hd0, ⟨g1, t1, cs1, f1, p1, q1, hg1, ht1, hv1, hd1, _, _⟩, _⟩, _, _⟩ := h
  obtain rfl := Option.some.inj (gAscii.symm.trans hg1)
  obtain rfl := Option.some.inj (tAscii.symm.trans ht1)
  rw [asciiD] at hd1
  show W.var? Tryd.prog "strings.asciiSpace" = some _
  rw [hv1, ← Lib.cells_of_tab u47 u5 (by kernel_rfl) (by kernel_rfl) hd1]
end Go.Proofs.YtpadbfjocecofaaDoor
