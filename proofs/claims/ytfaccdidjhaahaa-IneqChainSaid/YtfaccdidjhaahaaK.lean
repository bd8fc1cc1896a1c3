import Derived.Test.YtfaccdidjhaahaaJ
namespace Go.Proofs.Ytfaccdidjhaahaa
open Go.RowKit

abbrev rA : Row := ⟨2, 0, 0, 0, 0, 0, 0, 0, -1⟩
abbrev rB : Row := ⟨-2, 0, 0, 0, 0, 0, 0, 0, 1⟩
abbrev rX : Row := ⟨1, 0, 0, 0, 0, 0, 0, 0, 0⟩
abbrev rT : Row := ⟨1, 0, 0, 0, 0, 0, 0, 0, -1⟩
theorem aw1 : neverS [rA, rB] = true := by decide +kernel
theorem aw2 : neverS [rA] = false := by decide +kernel
theorem aw3 : rA.holds rX = true := by decide +kernel
theorem aw4 : rA.tight = rT := by
  have h1 : rA.right = true := by decide +kernel
  have h2 : gcdK rA 8 = 2 := by decide +kernel
  simp [Row.tight, h1, h2, Row.div]

theorem Rd.lit {w : World} {g : Nat} {l : List Row} {arr : Array Value} (h : w.heap[g]? = some (.cells arr 24)) (e : arr.toList = cellsOf l) : Rd w w.heap.size (some ⟨g, 0, none⟩) l := fun _ =>
  ⟨g, 0, rfl, (Array.getElem?_eq_some_iff.1 h).1, fun j _ => by rw [Nat.zero_add, cell_of_row w g j arr 24 (0, 0) h, ← e]; simp⟩

set_option maxRecDepth 100000 in
set_option maxHeartbeats 400000 in
theorem awake_any (w : World) : Calls Try.prog 14 #[] w fun e w' => e = .returned (.bool true) ∧ Below w.heap.size w w' := by
  have hq := eql_row rA.tight rT
  go_enter Try.func14, Try.ntmps14
  go_wp2_with fail
  have hA : HasR (((w.alloc rA.o).alloc rB.o).alloc (.cells (rA.l ++ rB.l).toArray 24)) w.heap.size rA := ((HasR.new w rA).alloc _).alloc _
  have hL : (((w.alloc rA.o).alloc rB.o).alloc (.cells (rA.l ++ rB.l).toArray 24)).heap[w.heap.size + 1 + 1]? = some (.cells (rA.l ++ rB.l).toArray 24) := by
    have := heap_alloc_new ((w.alloc rA.o).alloc rB.o) (.cells (rA.l ++ rB.l).toArray 24)
    simpa using this
  have hB : Below w.heap.size w (((w.alloc rA.o).alloc rB.o).alloc (.cells (rA.l ++ rB.l).toArray 24)) := (((Below.refl _ _).alloc (Nat.le_refl _) _).alloc (by simp) _).alloc (by simp; omega) _
  refine (never_any [rA, rB] (some ⟨w.heap.size + 1 + 1, 0, none⟩) 2 _ (by decide) (Rd.lit hL rfl)).mono ?_
  rintro e w1 ⟨rfl, hb1⟩
  rw [aw1]
  replace hA := hA.below hb1 hA.lt
  replace hB := hB.trans (hb1.mono hB.size)
  clear hb1 hL
  obtain ⟨c0, c1, c2, c3, c4, c5, c6, c7, c8⟩ := hA.cells
  go_wp2_with fail
  clear c0 c1 c2 c3 c4 c5 c6 c7 c8
  have hb1 : Below w1.heap.size w1 (w1.alloc rA.o) := (Below.refl _ _).alloc (Nat.le_refl _) _
  have hL : (w1.alloc rA.o).heap[w1.heap.size]? = some (.cells rA.l.toArray 24) := heap_alloc_new _ _
  replace hA := hA.below hb1 hA.lt
  replace hB := hB.trans (hb1.mono hB.size)
  clear hb1
  refine (never_any [rA] (some ⟨w1.heap.size, 0, none⟩) 1 _ (by decide) (Rd.lit hL rfl)).mono ?_
  rintro e w2 ⟨rfl, hb1⟩
  rw [aw2]
  replace hA := hA.below hb1 hA.lt
  replace hB := hB.trans (hb1.mono hB.size)
  clear hb1 hL
  obtain ⟨c0, c1, c2, c3, c4, c5, c6, c7, c8⟩ := hA.cells
  go_wp2_with fail
  clear c0 c1 c2 c3 c4 c5 c6 c7 c8
  refine (holds_any rA rX _).mono ?_
  rintro e w3 ⟨rfl, hb1⟩
  rw [aw3]
  replace hA := hA.below hb1 hA.lt
  replace hB := hB.trans (hb1.mono hB.size)
  clear hb1
  obtain ⟨c0, c1, c2, c3, c4, c5, c6, c7, c8⟩ := hA.cells
  go_wp2_with fail
  clear c0 c1 c2 c3 c4 c5 c6 c7 c8
  refine (tight_any rA _).mono ?_
  rintro e w4 ⟨rfl, hb1⟩
  replace hB := hB.trans (hb1.mono hB.size)
  have e4 : (rA.tight.F == rT.F && rA.tight.c == rT.c) = true := by rw [aw4]; rfl
  go_wp2_with fail
  go_returns
  exact ⟨rfl, hB⟩

theorem few_any (A : Option Addr) (n : Nat) (cap : Nat) (w : World) : Calls Try.prog 16 #[.slice A n cap] w fun e w' => e = .returned (.bool (decide ((n : Int) ≤ 12))) ∧ w = w' := by
  go_enter Try.func16, Try.ntmps16
  go_wp2
  go_returns
  exact ⟨rfl, rfl⟩
end Go.Proofs.Ytfaccdidjhaahaa
