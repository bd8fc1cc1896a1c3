import Derived.Test.YtdoeinccnfggiaaDoorX
namespace Go.Proofs.YtdoeinccnfggiaaDoor
open Go.RowKit Go.BigFrame

theorem eql_zero (w : World) : (binOp .eql 51 (.agg #[.int .i64 0, .int .i64 0, .int .i64 0, .string ⟨#[]⟩]) (.agg #[.int .i64 0, .int .i64 0, .int .i64 0, .string ⟨#[]⟩])).run Tryd.prog w = .ok (.bool true) w := by
  have h := eql_ty ty0 ty0 w
  rw [tyEq_dec, show decide (ty0 = ty0) = true from by simp] at h
  exact h
set_option maxRecDepth 1000000 in
set_option maxHeartbeats 2000000 in
theorem nobody_any (n : Int) (s : ByteArray) (w : World) (hT : Tab w) : Calls Tryd.prog 7 #[.int .i64 n, .string s] w fun e w' => e = .returned (.bool true) ∧ Below w.heap.size w w' := by
  by_cases hl : 100 < s.size
  · go_enter Tryd.func7, Tryd.ntmps7
    go_wp2_with (first
      | (go_at_call 9; refine (awake_any _ hT).mono ?_; rintro e w1 ⟨rfl, hb1⟩))
    go_returns
    exact ⟨rfl, hb1⟩
  · have hz := eql_zero
    go_enter Tryd.func7, Tryd.ntmps7
    go_wp2_with (first
      | (go_at_call 19; refine (at_nil n _).mono ?_; rintro e w1 ⟨rfl, hb1⟩; have hB1 := hb1.alloc hb1.size (.cells #[.int .i64 0, .int .i64 0, .int .i64 0, .string ⟨#[]⟩] 51))
      | (go_at_call 14; refine (size_nil n _).mono ?_; rintro e w2 ⟨rfl, hb2⟩)
      | (go_at_call 15; refine (field_nil n s _).mono ?_; rintro e w3 ⟨rfl, hb3⟩; have hB3 := hb2.trans (hb3.mono hb2.size))
      | (go_at_call 21; refine (pointer_nil n _).mono ?_; rintro e w4 ⟨rfl, hb4⟩; have hB4 := hB3.trans (hb4.mono hB3.size))
      | (go_at_call 11; refine (array_nil n 1 _).mono ?_; rintro e w5 ⟨rfl, hb5⟩; have hB5 := hB4.trans (hb5.mono hB4.size); have hlt5 : w1.heap.size < (w1.alloc (.cells #[.int .i64 0, .int .i64 0, .int .i64 0, .string ⟨#[]⟩] 51)).heap.size := (by simp); have c0 := (hB5.cell (p := ⟨w1.heap.size, 0, none⟩) hlt5).trans (cell_of_heap (heap_alloc_new _ _) 0 _ rfl); have c1 := (hB5.cell (p := ⟨w1.heap.size, 1, none⟩) hlt5).trans (cell_of_heap (heap_alloc_new _ _) 1 _ rfl); have c2 := (hB5.cell (p := ⟨w1.heap.size, 2, none⟩) hlt5).trans (cell_of_heap (heap_alloc_new _ _) 2 _ rfl); have c3 := (hB5.cell (p := ⟨w1.heap.size, 3, none⟩) hlt5).trans (cell_of_heap (heap_alloc_new _ _) 3 _ rfl); have hBB := hB1.trans (hB5.mono hB1.size))
      | (go_at_call 13; refine (struct_nil s _).mono ?_; rintro e w' ⟨rfl, rfl⟩)
      | (go_at_call 12; refine (define_nil s _ _).mono ?_; rintro e w' ⟨rfl, rfl⟩)
      | (go_at_call 18; refine (len_nil _).mono ?_; rintro e w' ⟨rfl, rfl⟩)
      | (go_at_call 24; refine (scalar_nil n _).mono ?_; rintro e w6 ⟨rfl, hb6⟩)
      | (go_at_call 22; refine (text_nil n _).mono ?_; rintro e w7 ⟨rfl, hb7⟩; have hB7 := hBB.trans (Below.mono (hb6.trans (hb7.mono hb6.size)) hBB.size))
      | (go_at_call 9; refine (awake_any _ (hT.below hB7)).mono ?_; rintro e w8 ⟨rfl, hb8⟩))
    go_returns
    exact ⟨rfl, hB7.trans (hb8.mono hB7.size)⟩
end Go.Proofs.YtdoeinccnfggiaaDoor
