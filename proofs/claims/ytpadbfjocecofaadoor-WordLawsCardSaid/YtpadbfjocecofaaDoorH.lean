import Derived.Test.YtpadbfjocecofaaDoorG
namespace Go.Proofs.YtpadbfjocecofaaDoor
open Go.RowKit Go.BigFrame

theorem pow_split (n : Nat) (hn : n ≤ 32) : (2 : Int) ^ (32 - n) * 2 ^ n = 4294967296 := by
  rw [← Int.pow_add, Nat.sub_add_cancel hn]; decide
theorem pl_shl (A : Int) (n : Nat) (hn : n ≤ 32) : pl (wr (A * 2 ^ n)) = (A % 2 ^ (32 - n)) * 2 ^ n := by
  have h1 : pl (wr (A * 2 ^ n)) = (A * 2 ^ n) % 4294967296 := by unfold pl wr; omega
  rw [h1, ← pow_split n hn, Int.mul_comm A, Int.mul_comm (2 ^ (32 - n)), Int.mul_emod_mul_of_pos _ _ (show (0 : Int) < 2 ^ n from Int.pow_pos (by decide)), Int.mul_comm]
theorem shr_shl (A : Int) (n : Nat) (hn : n ≤ 32) : pl (wr (wr (A * 2 ^ n))) / 2 ^ n = A % 2 ^ (32 - n) := by
  rw [wr_wr, pl_shl A n hn, Int.mul_ediv_cancel _ (Int.ne_of_gt (Int.pow_pos (by decide)))]
theorem ones_shr (n : Nat) (hn : n ≤ 32) : pl (wr (-1)) / 2 ^ n = ((2 ^ (32 - n) - 1 : Nat) : Int) := by
  have h0 : pl (wr (-1)) = 4294967295 := by decide
  rw [h0]
  have hp := pow_split n hn
  have h2 : (0 : Int) < 2 ^ n := Int.pow_pos (by decide)
  have h3 : (0 : Int) < 2 ^ (32 - n) := Int.pow_pos (by decide)
  have h4 : (4294967295 : Int) = (2 ^ n - 1) + (2 ^ (32 - n) - 1) * 2 ^ n := by
    rw [Int.sub_mul, hp]; omega
  rw [h4, Int.add_mul_ediv_right _ _ (Int.ne_of_gt h2), Int.ediv_eq_zero_of_lt (by omega) (by omega)]
  have h5 : 1 ≤ 2 ^ (32 - n) := Nat.one_le_two_pow
  rw [Int.zero_add, Int.natCast_sub h5]
  simp
theorem shifts_eq (a : Int) (n : Nat) (hn : n < 32) : wr (bits .and .i64 (wr a) (wr (wr (pl (wr (-1)) / 2 ^ n)))) = wr (pl (wr (wr (wr a * 2 ^ n))) / 2 ^ n) := by
  rw [shr_shl _ n (by omega), ones_shr n (by omega), wr_wr]
  by_cases h : n = 0
  · subst h
    rw [show wr ((2 ^ (32 - 0) - 1 : Nat) : Int) = -1 by decide]
    have h1 : bits .and .i64 (wr a) (-1) = wr a := by
      show IntKind.i64.wrap ((BitVec.ofInt 64 (wr a) &&& BitVec.ofInt 64 (-1)).toNat : Int) = _
      have h1 : BitVec.ofInt 64 (-1) = BitVec.allOnes 64 := by decide
      have h2 := wr_bd a
      rw [h1, BitVec.and_allOnes, BitVec.toNat_ofInt, k64]
      unfold wrap64
      omega
    rw [h1]
    unfold wr; omega
  · have h1 : 2 ^ (32 - n) ≤ 2 ^ 31 := Nat.pow_le_pow_right (by decide) (by omega)
    have h2 : wr ((2 ^ (32 - n) - 1 : Nat) : Int) = ((2 ^ (32 - n) - 1 : Nat) : Int) := by
      have h3 : 0 < 2 ^ (32 - n) := Nat.pow_pos (by decide)
      unfold wr
      omega
    rw [h2, and_mask _ _ (by omega)]

set_option maxRecDepth 1000000 in
set_option maxHeartbeats 2000000 in
theorem shifts_any (a k : Int) (w : World) (h : Tab w) : Calls Tryd.prog 5 #[.int .i64 a, .int .i64 k] w fun e w' => e = .returned (.bool true) ∧ Below w.heap.size w w' := by
  have hk := ofInt_and31 k
  obtain ⟨q, hq⟩ : ∃ q, q = k % 32 := ⟨_, rfl⟩
  have hq0 : 0 ≤ q := by omega
  have hq1 : q < 32 := by omega
  rw [← hq] at hk
  have w1 : wr q = q := by unfold wr; omega
  have w2 : wr (q + 32) % 32 = q := by unfold wr; omega
  have w3 : wr q % 32 = q := by rw [w1]; omega
  have hm := shifts_eq a q.toNat (by omega)
  have c1 := fun w => do_11 a q w
  have c2 := fun w => do_13 (wr (wr a * 2 ^ q.toNat)) q w
  have c3 := fun w => do_11 a (q + 32) w
  have c4 := fun w => do_13 (-1) q w
  have c5 := fun w => do_8 a (wr (pl (wr (-1)) / 2 ^ q.toNat)) w
  rw [w3] at c1 c2 c4
  rw [w2] at c3
  rw [hm] at c5
  clear hm w1 w2 w3
  have f1 : wrap64 (q + 32) = q + 32 := w64 (by omega)
  generalize wr (wr a * 2 ^ q.toNat) = x at *
  generalize wr (pl (wr x) / 2 ^ q.toNat) = y at *
  generalize wr (pl (wr (-1)) / 2 ^ q.toNat) = m at *
  clear hq
  go_enter Tryd.func5, Tryd.ntmps5
  go_wp2_with (first
    | (go_at_call_of 11 (#[Value.int IntKind.i64 11, Value.int IntKind.i64 a, Value.int IntKind.i64 q]); refine (c1 _).mono ?_; rintro e w' ⟨rfl, rfl⟩)
    | (go_at_call_of 11 (#[Value.int IntKind.i64 13, Value.int IntKind.i64 x, Value.int IntKind.i64 q]); refine (c2 _).mono ?_; rintro e w' ⟨rfl, rfl⟩)
    | (go_at_call_of 11 (11 : Int); refine (c3 _).mono ?_; rintro e w' ⟨rfl, rfl⟩)
    | (go_at_call_of 11 (13 : Int); refine (c4 _).mono ?_; rintro e w' ⟨rfl, rfl⟩)
    | (go_at_call_of 11 (8 : Int); refine (c5 _).mono ?_; rintro e w' ⟨rfl, rfl⟩)
    | (go_at_call 13; refine (awake_any _ h).mono ?_; rintro e w3 ⟨rfl, hb3⟩))

  go_returns
  exact ⟨rfl, hb3⟩
end Go.Proofs.YtpadbfjocecofaaDoor
