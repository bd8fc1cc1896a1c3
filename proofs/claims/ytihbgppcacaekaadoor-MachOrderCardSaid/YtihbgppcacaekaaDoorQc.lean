import Derived.Test.YtihbgppcacaekaaDoorQa
import Derived.Test.YtihbgppcacaekaaDoorShelf
import Derived.Lib.SmallJoins
/- THE LIBRARY's OWN VARIABLES; shape, named. -/
namespace Go.Proofs.YtihbgppcacaekaaDoor
open Go.RowKit Go.BigFrame

structure Tabs (w : World) : Prop where
  asc : Lib.TabIs Tryd.prog w "strings.asciiSpace" .u8 Lib.asciiSpaceTab
  pow : Lib.TabIs Tryd.prog w "internal/strconv.uint64pow10" .u64 Lib.pow10Tab
  mx : ∃ m, w.cell? ⟨3, 0, none⟩ = some (.int .i64 m)
  es : ∃ tp p, w.var? Tryd.prog "strconv.ErrSyntax" = some #[.iface tp p]
  er : ∃ tp p, w.var? Tryd.prog "strconv.ErrRange" = some #[.iface tp p]
theorem gAsc : ∃ g, Tryd.prog.globalNamed "strings.asciiSpace" = some g := Option.isSome_iff_exists.1 (by kernel_rfl)
theorem gPow : ∃ g, Tryd.prog.globalNamed "internal/strconv.uint64pow10" = some g := Option.isSome_iff_exists.1 (by kernel_rfl)
theorem gEs : ∃ g, Tryd.prog.globalNamed "strconv.ErrSyntax" = some g := Option.isSome_iff_exists.1 (by kernel_rfl)
theorem gEr : ∃ g, Tryd.prog.globalNamed "strconv.ErrRange" = some g := Option.isSome_iff_exists.1 (by kernel_rfl)
theorem Tabs.below {w w' : World} (h : Tabs w) (hb : Below w.heap.size w w') : Tabs w' := by
  obtain ⟨g1, h1⟩ := gAsc
  obtain ⟨g2, h2⟩ := gPow
  obtain ⟨g3, h3⟩ := gEs
  obtain ⟨g4, h4⟩ := gEr
  obtain ⟨m, hm⟩ := h.mx
  obtain ⟨t3, p3, e3⟩ := h.es
  obtain ⟨t4, p4, e4⟩ := h.er
  exact ⟨Go.Joins.tab_stays h1 h.asc hb (Nat.le_refl _), Go.Joins.tab_stays h2 h.pow hb (Nat.le_refl _), ⟨m, (hb.cell (World.block_lt_of_cell? w _ hm)).trans hm⟩, ⟨t3, p3, Go.Joins.var_stays h3 e3 hb (Nat.le_refl _)⟩, ⟨t4, p4, Go.Joins.var_stays h4 e4 hb (Nat.le_refl _)⟩⟩

def shapesB : ByteArray := ⟨#[108, 105, 58, 114, 110, 32, 117, 110, 58, 114, 97, 111, 32, 98, 105, 110, 58, 114, 97, 98, 111, 32, 109, 118, 58, 114, 97, 32, 102, 97, 58, 114, 110, 32, 108, 100, 58, 114, 97, 32, 115, 116, 58, 97, 98, 32, 108, 100, 115, 58, 114, 110, 32, 115, 116, 115, 58, 97, 110, 32, 97, 114, 103, 58, 97, 110, 32, 112, 97, 114, 58, 114, 110, 32, 99, 97, 108, 108, 58, 116, 32, 114, 101, 115, 58, 114, 32, 103, 101, 116, 99, 58, 114, 32, 112, 117, 116, 99, 58, 97, 32, 106, 109, 112, 58, 110, 32, 98, 110, 122, 58, 97, 110, 32, 114, 101, 116, 58, 97]⟩
def shapeF : List (List UInt8) := [[108, 105, 58, 114, 110], [117, 110, 58, 114, 97, 111], [98, 105, 110, 58, 114, 97, 98, 111], [109, 118, 58, 114, 97], [102, 97, 58, 114, 110], [108, 100, 58, 114, 97], [115, 116, 58, 97, 98], [108, 100, 115, 58, 114, 110], [115, 116, 115, 58, 97, 110], [97, 114, 103, 58, 97, 110], [112, 97, 114, 58, 114, 110], [99, 97, 108, 108, 58, 116], [114, 101, 115, 58, 114], [103, 101, 116, 99, 58, 114], [112, 117, 116, 99, 58, 97], [106, 109, 112, 58, 110], [98, 110, 122, 58, 97, 110], [114, 101, 116, 58, 97]]
theorem shapes_fields : Lib.fields shapesB.data.toList = shapeF := by decide +kernel
theorem shapes_ascii : ∀ (j : Nat) b, shapesB.data.toList[j]? = some b → b.toNat < 128 := by
  have h : ∀ b ∈ shapesB.data.toList, b.toNat < 128 := by decide +kernel
  intro j b hj
  exact h b (List.mem_of_getElem? hj)
def shapesO : Obj := .cells #[.string ⟨#[108, 105, 58, 114, 110]⟩, .string ⟨#[117, 110, 58, 114, 97, 111]⟩, .string ⟨#[98, 105, 110, 58, 114, 97, 98, 111]⟩, .string ⟨#[109, 118, 58, 114, 97]⟩, .string ⟨#[102, 97, 58, 114, 110]⟩, .string ⟨#[108, 100, 58, 114, 97]⟩, .string ⟨#[115, 116, 58, 97, 98]⟩, .string ⟨#[108, 100, 115, 58, 114, 110]⟩, .string ⟨#[115, 116, 115, 58, 97, 110]⟩, .string ⟨#[97, 114, 103, 58, 97, 110]⟩, .string ⟨#[112, 97, 114, 58, 114, 110]⟩, .string ⟨#[99, 97, 108, 108, 58, 116]⟩, .string ⟨#[114, 101, 115, 58, 114]⟩, .string ⟨#[103, 101, 116, 99, 58, 114]⟩, .string ⟨#[112, 117, 116, 99, 58, 97]⟩, .string ⟨#[106, 109, 112, 58, 110]⟩, .string ⟨#[98, 110, 122, 58, 97, 110]⟩, .string ⟨#[114, 101, 116, 58, 97]⟩] 9
theorem shape_cut : (List.range 18).all (fun k => decide (Lib.cut (shapeF.getD k []) [58] = ((shp (k + 1)).1, (shp (k + 1)).2, true))) = true := by decide +kernel
theorem shapes_cell (w : World) (k : Nat) (hk : k < 18) : (w.alloc shapesO).cell? ⟨w.heap.size, k, none⟩ = some (.string ⟨(shapeF.getD k []).toArray⟩) := by
  have h1 := heap_alloc_new w shapesO
  refine cell_of_heap h1 k _ ?_
  have h : ∀ k < 18, (#[Value.string ⟨#[108, 105, 58, 114, 110]⟩, Value.string ⟨#[117, 110, 58, 114, 97, 111]⟩, Value.string ⟨#[98, 105, 110, 58, 114, 97, 98, 111]⟩, Value.string ⟨#[109, 118, 58, 114, 97]⟩, Value.string ⟨#[102, 97, 58, 114, 110]⟩, Value.string ⟨#[108, 100, 58, 114, 97]⟩, Value.string ⟨#[115, 116, 58, 97, 98]⟩, Value.string ⟨#[108, 100, 115, 58, 114, 110]⟩, Value.string ⟨#[115, 116, 115, 58, 97, 110]⟩, Value.string ⟨#[97, 114, 103, 58, 97, 110]⟩, Value.string ⟨#[112, 97, 114, 58, 114, 110]⟩, Value.string ⟨#[99, 97, 108, 108, 58, 116]⟩, Value.string ⟨#[114, 101, 115, 58, 114]⟩, Value.string ⟨#[103, 101, 116, 99, 58, 114]⟩, Value.string ⟨#[112, 117, 116, 99, 58, 97]⟩, Value.string ⟨#[106, 109, 112, 58, 110]⟩, Value.string ⟨#[98, 110, 122, 58, 97, 110]⟩, Value.string ⟨#[114, 101, 116, 58, 97]⟩] : Array Value)[k]? = some (.string ⟨(shapeF.getD k []).toArray⟩) := by
    intro k hk
    have hc : k = 0 ∨ k = 1 ∨ k = 2 ∨ k = 3 ∨ k = 4 ∨ k = 5 ∨ k = 6 ∨ k = 7 ∨ k = 8 ∨ k = 9 ∨ k = 10 ∨ k = 11 ∨ k = 12 ∨ k = 13 ∨ k = 14 ∨ k = 15 ∨ k = 16 ∨ k = 17 := by omega
    rcases hc with rfl | rfl | rfl | rfl | rfl | rfl | rfl | rfl | rfl | rfl | rfl | rfl | rfl | rfl | rfl | rfl | rfl | rfl <;> rfl
  exact h k hk
theorem shapesF_any (w : World) (h : Tabs w) : Calls Tryd.prog 56 #[.string shapesB] w fun e w' => e = .returned (.slice (some ⟨w.heap.size, 0, none⟩) 18 18) ∧ w' = w.alloc shapesO := by
  have hc := Tryd.strings_Fields shapesB w (by decide +kernel) shapes_ascii h.asc
  rw [shapes_fields] at hc
  exact hc.mono fun e w' hh => ⟨hh.1, hh.2⟩
theorem below_drewN (w : World) : ∀ n, Below w.heap.size w (w.drewN n) := below_drewNg w
set_option maxRecDepth 1000000 in
theorem shape_any (op : Int) (w : World) (h : Tabs w) : Calls Tryd.prog 38 #[.int .i64 op] w fun e w' => e = .returned (.tuple #[.string ⟨(shp op).1.toArray⟩, .string ⟨(shp op).2.toArray⟩]) ∧ Below w.heap.size w w' := by
  have hf := shapesF_any w h
  have hb := Below.one w shapesO
  have h2 := h.below hb
  by_cases hop : 1 ≤ op ∧ op ≤ 18
  · obtain ⟨k, rfl⟩ : ∃ k : Nat, op = (k : Int) + 1 := ⟨(op - 1).toNat, by omega⟩
    have hk : k < 18 := by omega
    have hcell := shapes_cell w k hk
    have hcut : Lib.cut (shapeF.getD k []) [58] = ((shp ((k : Int) + 1)).1, (shp ((k : Int) + 1)).2, true) := of_decide_eq_true (List.all_eq_true.1 shape_cut k (List.mem_range.2 hk))
    obtain ⟨m, hm⟩ := h2.mx
    have hlen : (shapeF.getD k []).length < 100 := by
      have h0 : (List.range 18).all (fun k => decide ((shapeF.getD k []).length < 100)) = true := by decide +kernel
      exact of_decide_eq_true (List.all_eq_true.1 h0 k (List.mem_range.2 hk))
    obtain ⟨W, hW⟩ : ∃ W, w.alloc shapesO = W := ⟨_, rfl⟩
    rw [hW] at hf hb hcell hm
    have hC := Tryd.strings_Cut ⟨(shapeF.getD k []).toArray⟩ ⟨#[58]⟩ m W (by show (shapeF.getD k []).toArray.size < _; rw [List.size_toArray]; omega) hm
    rw [show (⟨(shapeF.getD k []).toArray⟩ : ByteArray).data.toList = shapeF.getD k [] by simp, show (⟨#[58]⟩ : ByteArray).data.toList = [58] from rfl, hcut] at hC
    simp only at hC
    obtain ⟨n1, hn1⟩ : ∃ n, (⟨(shp ((k : Int) + 1)).1.toArray⟩ : ByteArray) = n := ⟨_, rfl⟩
    obtain ⟨n2, hn2⟩ : ∃ n, (⟨(shp ((k : Int) + 1)).2.toArray⟩ : ByteArray) = n := ⟨_, rfl⟩
    rw [hn1, hn2] at hC ⊢
    obtain ⟨s0, hs0⟩ : ∃ n, (⟨(shapeF.getD k []).toArray⟩ : ByteArray) = n := ⟨_, rfl⟩
    rw [hs0] at hC hcell
    clear hn1 hn2 hs0 hcut hlen hm h2 hW
    have q1 : decide ((k : Int) + 1 < 1) = false := by simp; omega
    have q2 : decide ((k : Int) + 1 > 18) = false := by simp; omega
    have q3 : decide (18 < (k : Int) + 1) = false := by simp; omega
    go_enter Tryd.func38, Tryd.ntmps38
    go_wp2_with (first
      | (go_at_call 56; refine hf.mono ?_; rintro e w' ⟨rfl, rfl⟩)
      | (go_at_call 57; refine hC.mono ?_; rintro e w' ⟨rfl, nn, rfl⟩))
    go_returns
    exact ⟨rfl, hb.trans ((below_drewN _ nn).mono hb.size)⟩
  · have e : shp op = ([], []) := by unfold shp; rw [if_neg hop]
    rw [e]
    obtain ⟨W, hW⟩ : ∃ W, w.alloc shapesO = W := ⟨_, rfl⟩
    rw [hW] at hf hb
    clear h2 hW e
    have hc : (decide (op < 1) = true) ∨ (decide (op < 1) = false ∧ decide (op > 18) = true ∧ decide (18 < op) = true) := by simp; omega
    clear hop
    rcases hc with q1 | ⟨q1, q2, q3⟩
    all_goals
      go_enter Tryd.func38, Tryd.ntmps38
      go_wp2_with (first
        | (go_at_call 56; refine hf.mono ?_; rintro e w' ⟨rfl, rfl⟩))
      go_returns
      exact ⟨rfl, hb⟩
end Go.Proofs.YtihbgppcacaekaaDoor
