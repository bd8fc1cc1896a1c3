import Derived.Test.YtihbgppcacaekaaDoorSa
import Derived.Test.YtihbgppcacaekaaDoorQc
import Derived.Test.YtihbgppcacaekaaDoorRows
import Derived.ProofKit
import Derived.LaidMore
import Derived.OpenShut
import Derived.Stop.Joined
import Derived.Stop.LaidErr
import Derived.Lay
/- FROM THE ROW TO THE WALK: the laid variables. -/
namespace Go.Proofs.YtihbgppcacaekaaDoor
open Go.ChangeShapes Go.WideShapes Go.ChangeAt Go.RowKit

theorem ownT : ownKnob Tryd.prog.godebug = none := by kernel_rfl
theorem laidT : laidOutB Tryd.prog = true := by kernel_rfl
theorem ui3 : Tryd.prog.underlying 3 = some (.int .i64) := by kernel_rfl
theorem ub4 : Tryd.prog.underlying 4 = some .bool := by kernel_rfl
def laidL : List (String × DataW Unit) := [("math/bits.deBruijn32tab", Rows.laid_math_bits_deBruijn32tab), ("math/bits.deBruijn64tab", Rows.laid_math_bits_deBruijn64tab), ("internal/strconv.uint64pow10", Rows.laid_internal_strconv_uint64pow10), ("unicode/utf8.acceptRanges", Rows.laid_unicode_utf8_acceptRanges), ("strconv.ErrRange", Rows.laid_strconv_ErrRange), ("strconv.ErrSyntax", Rows.laid_strconv_ErrSyntax), ("unicode.White_Space", Rows.laid_unicode_White_Space), ("strings.asciiSpace", Rows.laid_strings_asciiSpace), ("unicode/utf8.first", Rows.laid_unicode_utf8_first)]
theorem gAscii : Tryd.prog.globalNamed "strings.asciiSpace" = some 0 := by kernel_rfl
theorem tAscii : (Tryd.prog.globals[0]?).map (·.type) = some 120 := by kernel_rfl
theorem uA256 : Tryd.prog.underlying 120 = some (.array 256 5) := by kernel_rfl
theorem u5 : Tryd.prog.underlying 5 = some (.int .u8) := by kernel_rfl
theorem asciiD : (Rows.laid_strings_asciiSpace : DataW Unit) = Lib.tabData .u8 Lib.asciiSpaceTab := by kernel_rfl
theorem gP10 : Tryd.prog.globalNamed "internal/strconv.uint64pow10" = some 1 := by kernel_rfl
theorem tP10 : (Tryd.prog.globals[1]?).map (·.type) = some 137 := by kernel_rfl
theorem uA20 : Tryd.prog.underlying 137 = some (.array 20 114) := by kernel_rfl
theorem u64 : Tryd.prog.underlying 114 = some (.int .u64) := by kernel_rfl
theorem pow10D : (Rows.laid_internal_strconv_uint64pow10 : DataW Unit) = Lib.tabData .u64 Lib.pow10Tab := by kernel_rfl
theorem gES : Tryd.prog.globalNamed "strconv.ErrSyntax" = some 4 := by kernel_rfl
theorem gER : Tryd.prog.globalNamed "strconv.ErrRange" = some 5 := by kernel_rfl
theorem tES : (Tryd.prog.globals[4]?).map (·.type) = some 98 := by kernel_rfl
theorem tER : (Tryd.prog.globals[5]?).map (·.type) = some 98 := by kernel_rfl
theorem starE : "*" ++ "errors.errorString" = "*errors.errorString" := by decide
theorem rowES (u : TypeId) (h : Tryd.prog.typeName? 3 u = some "*errors.errorString") : u = 170 :=
  typeName_ptr_named (nm := "errors.errorString") (by rw [starE]; kernel_rfl) (by kernel_rfl) (by decide) u (by rw [starE]; exact h)
theorem opt_iface {o : Option TypeDesc} (h : (match o with | some (.interface _) => true | _ => false) = true) : ∃ ms, o = some (.interface ms) := by
  split at h
  · exact ⟨_, rfl⟩
  · cases h
theorem opt_struct {o : Option TypeDesc} (h : (match o with | some (.struct fs) => (fs.size == 1) && (match fs[0]? with | some f => (f.type == 9) && (f.offset == 0) | none => false) | _ => false) = true) : ∃ f : Field, o = some (.struct #[f]) ∧ f.type = 9 ∧ f.offset = 0 := by
  split at h
  · rename_i fs
    simp only [Bool.and_eq_true, beq_iff_eq] at h
    obtain ⟨h1, h2⟩ := h
    split at h2
    · rename_i f e2
      simp only [Bool.and_eq_true, beq_iff_eq] at h2
      refine ⟨f, ?_, h2.1, h2.2⟩
      congr 2
      apply Array.ext
      · simp [h1]
      · intro i hi1 hi2
        obtain rfl : i = 0 := by simp at hi2; omega
        have := Array.getElem?_eq_some_iff.1 e2
        simpa using this.2
    · cases h2
  · cases h
theorem uErr : ∃ ms, Tryd.prog.underlying 98 = some (.interface ms) := opt_iface (by kernel_rfl)
theorem uPE : Tryd.prog.underlying 170 = some (.pointer 172) := by kernel_rfl
theorem uSE : ∃ f : Field, Tryd.prog.underlying 172 = some (.struct #[f]) ∧ f.type = 9 ∧ f.offset = 0 := opt_struct (by kernel_rfl)
theorem uS9 : Tryd.prog.underlying 9 = some .string := by kernel_rfl
theorem cSE : Tryd.prog.cellsOf 172 = 1 := by kernel_rfl
theorem cS9 : Tryd.prog.cellsOf 9 = 1 := by kernel_rfl
set_option maxRecDepth 100000 in
theorem door_met (os : Os) (args : Array Value) : laidMetH Tryd.prog laidL ((World.laidAll Tryd.prog os laidL).forCall (fun _ _ => 0) ⟨#[], args, []⟩).memory := by
  rw [MakeChecks.laidMetH_plain _ _ _ (by kernel_rfl)]
  exact laidMet_laidAll args (by kernel_rfl) (by kernel_rfl)
set_option maxRecDepth 100000 in
theorem door_shaped (os : Os) : (World.laidAll Tryd.prog os laidL).Shaped Tryd.prog := World.shaped_of_ZipB (by kernel_rfl) (by kernel_rfl)
theorem tabs_of_laid {W : World} (h : laidMetH Tryd.prog laidL W) (hsh : W.ShapedOpen Tryd.prog) : Tabs W := by
  rw [MakeChecks.laidMetH_plain _ _ _ (by kernel_rfl)] at h
  have h2 := h.tail.tail
  have h4 := h2.tail.tail
  have h5 := h4.tail
  have h7 := h5.tail.tail
  obtain ⟨ms, uE⟩ := uErr
  obtain ⟨f, uF, hf1, hf2⟩ := uSE
  obtain ⟨a0, s0, hv0, _, _, _⟩ := laid_sentinel h4 gER tER uE rowES uPE uF hf1 hf2 uS9 cSE cS9
  obtain ⟨a1, s1, hv1, _, _, _⟩ := laid_sentinel h5 gES tES uE rowES uPE uF hf1 hf2 uS9 cSE cS9
  refine ⟨?_, ?_, Tryd.laysM146.s1_3 W hsh, ⟨_, _, hv1⟩, ⟨_, _, hv0⟩⟩
  · obtain ⟨ps, ⟨g1, t1, cs1, f1, p1, q1, hg1, ht1, hvv, hd1, _, _⟩, _, _⟩ := h7
    obtain rfl := Option.some.inj (gAscii.symm.trans hg1)
    obtain rfl := Option.some.inj (tAscii.symm.trans ht1)
    rw [asciiD] at hd1
    show W.var? Tryd.prog "strings.asciiSpace" = some _
    rw [hvv, ← Lib.cells_of_tab uA256 u5 (by kernel_rfl) (by kernel_rfl) hd1]
  · obtain ⟨ps, ⟨g1, t1, cs1, f1, p1, q1, hg1, ht1, hvv, hd1, _, _⟩, _, _⟩ := h2
    obtain rfl := Option.some.inj (gP10.symm.trans hg1)
    obtain rfl := Option.some.inj (tP10.symm.trans ht1)
    rw [pow10D] at hd1
    show W.var? Tryd.prog "internal/strconv.uint64pow10" = some _
    rw [hvv, ← Lib.cells_of_tab uA20 u64 (by kernel_rfl) (by kernel_rfl) hd1]
end Go.Proofs.YtihbgppcacaekaaDoor
