import Derived.Test.YtdoeinccnfggiaaDoorFm
namespace Go.Proofs.YtdoeinccnfggiaaDoor
open Go.RowKit Go.BigFrame

theorem conv_name (j : Nat) (hj : j < 10) (w : World) : (convert 22 9 (.slice (some ⟨w.heap.size, 0, none⟩) 1 1)).run Tryd.prog (w.alloc (.cells #[.int .u8 (97 + (j : Int))] 5)) = .ok (.string (nameB j)) (w.alloc (.cells #[.int .u8 (97 + (j : Int))] 5)) := by
  have hc := cell_of_heap (heap_alloc_new w (.cells #[.int .u8 (97 + (j : Int))] 5)) 0 (.int .u8 (97 + (j : Int))) rfl
  have hld : (loadCells ⟨w.heap.size, 0, none⟩ 1).run Tryd.prog (w.alloc (.cells #[.int .u8 (97 + (j : Int))] 5)) = .ok ([97 + (j : Int)].map (Value.int .u8)).toArray (w.alloc (.cells #[.int .u8 (97 + (j : Int))] 5)) := by
    generalize w.alloc (.cells #[.int .u8 (97 + (j : Int))] 5) = W at *
    exact run_loadCells_list W ⟨w.heap.size, 0, none⟩ [.int .u8 (97 + (j : Int))] fun i v hi => by
      have h0 : i = 0 := by have := (List.getElem?_eq_some_iff.1 hi).1; simpa using this
      subst h0
      injection hi with hi
      subst hi
      rw [show (⟨w.heap.size, 0, none⟩ : Addr).add 0 = ⟨w.heap.size, 0, none⟩ by simp [Addr.add]]
      exact hc
  rw [run_convert_bytes_string _ 22 9 5 _ _ _ (by kernel_rfl) (by kernel_rfl) (by kernel_rfl), run_bytesToString _ _ _ _ [97 + (j : Int)] hld]
  have : j = 0 ∨ j = 1 ∨ j = 2 ∨ j = 3 ∨ j = 4 ∨ j = 5 ∨ j = 6 ∨ j = 7 ∨ j = 8 ∨ j = 9 := by omega
  rcases this with rfl | rfl | rfl | rfl | rfl | rfl | rfl | rfl | rfl | rfl <;> rfl
end Go.Proofs.YtdoeinccnfggiaaDoor
