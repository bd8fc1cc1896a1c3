import Derived.Test.YtdoeinccnfggiaaDoorPa
import Derived.Test.YtdoeinccnfggiaaDoorRb
namespace Go.Proofs.YtdoeinccnfggiaaDoor
open Go.RowKit Go.BigFrame

def digB (j : Nat) : ByteArray := ⟨#[UInt8.ofNat (48 + j)]⟩
theorem conv_dig (j : Nat) (hj : j < 10) (w : World) : (convert 22 9 (.slice (some ⟨w.heap.size, 0, none⟩) 1 1)).run Tryd.prog (w.alloc (.cells #[.int .u8 (48 + (j : Int))] 5)) = .ok (.string (digB j)) (w.alloc (.cells #[.int .u8 (48 + (j : Int))] 5)) := by
  have hc := cell_of_heap (heap_alloc_new w (.cells #[.int .u8 (48 + (j : Int))] 5)) 0 (.int .u8 (48 + (j : Int))) rfl
  have hld : (loadCells ⟨w.heap.size, 0, none⟩ 1).run Tryd.prog (w.alloc (.cells #[.int .u8 (48 + (j : Int))] 5)) = .ok ([48 + (j : Int)].map (Value.int .u8)).toArray (w.alloc (.cells #[.int .u8 (48 + (j : Int))] 5)) := by
    generalize w.alloc (.cells #[.int .u8 (48 + (j : Int))] 5) = W at *
    exact run_loadCells_list W ⟨w.heap.size, 0, none⟩ [.int .u8 (48 + (j : Int))] fun i v hi => by
      have h0 : i = 0 := by have := (List.getElem?_eq_some_iff.1 hi).1; simpa using this
      subst h0
      injection hi with hi
      subst hi
      rw [show (⟨w.heap.size, 0, none⟩ : Addr).add 0 = ⟨w.heap.size, 0, none⟩ by simp [Addr.add]]
      exact hc
  rw [run_convert_bytes_string _ 22 9 5 _ _ _ (by kernel_rfl) (by kernel_rfl) (by kernel_rfl), run_bytesToString _ _ _ _ [48 + (j : Int)] hld]
  have : j = 0 ∨ j = 1 ∨ j = 2 ∨ j = 3 ∨ j = 4 ∨ j = 5 ∨ j = 6 ∨ j = 7 ∨ j = 8 ∨ j = 9 := by omega
  rcases this with rfl | rfl | rfl | rfl | rfl | rfl | rfl | rfl | rfl | rfl <;> rfl
/-- the numeral of a number that is not negative, as bytes -/
def numB (n : Nat) : ByteArray := ⟨(Lib.decDigits n).toArray⟩
theorem numB_small {n : Nat} (h : n < 10) : numB n = digB n := by unfold numB digB; rw [Lib.decDigits, dif_pos h]
theorem numB_big {n : Nat} (h : ¬ n < 10) : numB n = numB (n / 10) ++ numB (n % 10) := by
  have h2 : n % 10 < 10 := Nat.mod_lt _ (by omega)
  rw [numB_small h2]
  unfold numB digB
  rw [Lib.decDigits, dif_neg h]
  apply ByteArray.ext
  simp
theorem numB_size : ∀ (k n : Nat), n < 10 ^ (k + 1) → (numB n).size ≤ k + 1
  | 0, n, h => by rw [numB_small (by simpa using h)]; exact Nat.le_refl 1
  | k + 1, n, h => by
    by_cases hn : n < 10
    · rw [numB_small hn]; show 1 ≤ k + 1 + 1; omega
    · rw [numB_big hn, ByteArray.size_append]
      have h1 := numB_size k (n / 10) (by rw [Nat.pow_succ] at h; omega)
      have h2 : (numB (n % 10)).size = 1 := by rw [numB_small (Nat.mod_lt _ (by omega))]; rfl
      omega
set_option maxRecDepth 1000000 in
set_option maxHeartbeats 1000000 in
/-- the document's digits -/
theorem digits_any : ∀ (k n : Nat) (w : World), k ≤ 5 → n < 10 ^ (k + 1) → Calls Tryd.prog 40 #[.int .i64 n] w fun e w' => e = .returned (.string (numB n)) ∧ Below w.heap.size w w'
  | k, n, w, hk, h => by
    by_cases hn : n < 10
    · rw [numB_small hn]
      have hc := fun w => conv_dig n hn w
      have q1 : decide ((n : Int) < 10) = true := by simp; omega
      have hwr : wrap64 (48 + (n : Int)) = 48 + (n : Int) := by unfold wrap64; omega
      clear h
      go_enter Tryd.func40, Tryd.ntmps40
      go_wp2
      go_returns
      exact ⟨rfl, Below.one _ _⟩
    · cases k with
      | zero => exact absurd (by simpa using h) hn
      | succ k =>
        have h1 : n / 10 < 10 ^ (k + 1) := by rw [Nat.pow_succ] at h; omega
        have ih1 := fun w => digits_any k (n / 10) w (by omega) h1
        have h2 : n % 10 < 10 := Nat.mod_lt _ (by omega)
        have ih2 := fun w => digits_any 0 (n % 10) w (by omega) (by simpa using h2)
        have hs1 := numB_size k (n / 10) h1
        have hs2 := numB_size 0 (n % 10) (by simpa using h2)
        rw [numB_big hn]
        have q1 : decide ((n : Int) < 10) = false := by simp; omega
        have q2 : (n : Int).tdiv 10 = ((n / 10 : Nat) : Int) := by rw [Int.tdiv_eq_ediv_of_nonneg (by omega)]; omega
        have q3 : (n : Int).tmod 10 = ((n % 10 : Nat) : Int) := by rw [Int.tmod_eq_emod_of_nonneg (by omega)]; omega
        have hn6 : n < 10 ^ 6 := Nat.lt_of_lt_of_le h (Nat.pow_le_pow_right (by omega) (by omega))
        have hwa : wrap64 ((n / 10 : Nat) : Int) = ((n / 10 : Nat) : Int) := by unfold wrap64; omega
        have hwb : wrap64 ((n % 10 : Nat) : Int) = ((n % 10 : Nat) : Int) := by unfold wrap64; omega
        clear hn6
        generalize n / 10 = a at *
        generalize n % 10 = b at *
        generalize numB a = s at *
        generalize numB b = t at *
        have hsum : s.size + t.size ≤ 9223372036854775807 := by omega
        clear h h1 h2 hs1 hs2
        go_enter Tryd.func40, Tryd.ntmps40
        go_wp2_with (first
          | (go_at_call 40; refine (ih2 w1).mono ?_; rintro e w2 ⟨rfl, hb2⟩)
          | (go_at_call 40; refine (ih1 _).mono ?_; rintro e w1 ⟨rfl, hb1⟩))
        go_returns
        exact ⟨rfl, hb1.trans (hb2.mono hb1.size)⟩
termination_by k => k
end Go.Proofs.YtdoeinccnfggiaaDoor
