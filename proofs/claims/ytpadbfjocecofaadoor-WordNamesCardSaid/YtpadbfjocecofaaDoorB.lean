import Derived.Test.YtpadbfjocecofaaDoorA
import Derived.Laws.Shifts
namespace Go.Proofs.YtpadbfjocecofaaDoor
open Go.RowKit Go.BigFrame

theorem ofInt_and31 (n : Int) : bits .and .i64 n 31 = n % 32 := by
  show IntKind.i64.wrap ((BitVec.ofInt 64 n &&& BitVec.ofInt 64 31).toNat : Int) = _
  have h1 : BitVec.ofInt 64 31 = 31#64 := by decide
  rw [h1, BitVec.toNat_and, show (31#64).toNat = 2 ^ 5 - 1 from rfl, Nat.and_two_pow_sub_one_eq_mod, k64]
  simp [BitVec.toNat_ofInt, wrap64]
  omega
theorem mul_bd {a b : Int} (h1 : -2147483648 ≤ a ∧ a < 2147483648) (h2 : -2147483648 ≤ b ∧ b < 2147483648) : -9223372036854775808 ≤ a * b ∧ a * b < 9223372036854775808 := by
  have h := Int.natAbs_mul a b
  have h3 : a.natAbs * b.natAbs ≤ 2147483648 * 2147483648 := Nat.mul_le_mul (by omega) (by omega)
  omega
theorem shl_bd {a : Int} {k : Nat} (h1 : -2147483648 ≤ a ∧ a < 2147483648) (hk : k < 32) : -9223372036854775808 ≤ a * 2 ^ k ∧ a * 2 ^ k < 9223372036854775808 := by
  have h := Int.natAbs_mul a (2 ^ k)
  have h2 : ((2 : Int) ^ k).natAbs = 2 ^ k := by rw [Int.natAbs_pow]; rfl
  rw [h2] at h
  have hp : 2 ^ k ≤ 2 ^ 31 := Nat.pow_le_pow_right (by decide) (by omega)
  have h3 : a.natAbs * 2 ^ k ≤ 2147483648 * 2147483648 := Nat.mul_le_mul (by omega) hp
  omega
set_option maxRecDepth 1000000 in
set_option maxHeartbeats 1000000 in
theorem do_1 (a b : Int) (w : World) : Calls Tryd.prog 11 #[.int .i64 1, .int .i64 a, .int .i64 b] w fun e w' => e = .returned (.tuple #[.int .i64 (wr (wr a + wr b)), .bool (true)]) ∧ w = w' := by
  have h1 := wr_bd a
  have h2 := wr_bd b
  have h3 : wrap64 (wr a + wr b) = wr a + wr b := w64 (by omega)
  go_enter Tryd.func11, Tryd.ntmps11
  go_wp2_with (first
    | (go_at_call 12; refine (wrap_any _ _).mono ?_; rintro e w' ⟨rfl, rfl⟩)
    | (go_at_call 20; refine (plain_any _ _).mono ?_; rintro e w' ⟨rfl, rfl⟩)
    | (go_at_call 30; refine (truth_any _ _).mono ?_; rintro e w' ⟨rfl, rfl⟩)
    | (go_at_call 28; refine (told_any _ _).mono ?_; rintro e w' ⟨rfl, rfl⟩))
  go_returns
  exact ⟨rfl, rfl⟩
set_option maxRecDepth 1000000 in
set_option maxHeartbeats 1000000 in
theorem do_2 (a b : Int) (w : World) : Calls Tryd.prog 11 #[.int .i64 2, .int .i64 a, .int .i64 b] w fun e w' => e = .returned (.tuple #[.int .i64 (wr (wr a - wr b)), .bool (true)]) ∧ w = w' := by
  have h1 := wr_bd a
  have h2 := wr_bd b
  have h3 : wrap64 (wr a - wr b) = wr a - wr b := w64 (by omega)
  go_enter Tryd.func11, Tryd.ntmps11
  go_wp2_with (first
    | (go_at_call 12; refine (wrap_any _ _).mono ?_; rintro e w' ⟨rfl, rfl⟩)
    | (go_at_call 20; refine (plain_any _ _).mono ?_; rintro e w' ⟨rfl, rfl⟩)
    | (go_at_call 30; refine (truth_any _ _).mono ?_; rintro e w' ⟨rfl, rfl⟩)
    | (go_at_call 28; refine (told_any _ _).mono ?_; rintro e w' ⟨rfl, rfl⟩))
  go_returns
  exact ⟨rfl, rfl⟩
set_option maxRecDepth 1000000 in
set_option maxHeartbeats 1000000 in
theorem do_3 (a b : Int) (w : World) : Calls Tryd.prog 11 #[.int .i64 3, .int .i64 a, .int .i64 b] w fun e w' => e = .returned (.tuple #[.int .i64 (wr (wr a * wr b)), .bool (true)]) ∧ w = w' := by
  have h1 := wr_bd a
  have h2 := wr_bd b
  have h3 : wrap64 (wr a * wr b) = wr a * wr b := w64 (mul_bd h1 h2)
  go_enter Tryd.func11, Tryd.ntmps11
  go_wp2_with (first
    | (go_at_call 12; refine (wrap_any _ _).mono ?_; rintro e w' ⟨rfl, rfl⟩)
    | (go_at_call 20; refine (plain_any _ _).mono ?_; rintro e w' ⟨rfl, rfl⟩)
    | (go_at_call 30; refine (truth_any _ _).mono ?_; rintro e w' ⟨rfl, rfl⟩)
    | (go_at_call 28; refine (told_any _ _).mono ?_; rintro e w' ⟨rfl, rfl⟩))
  go_returns
  exact ⟨rfl, rfl⟩
set_option maxRecDepth 1000000 in
set_option maxHeartbeats 1000000 in
theorem do_4 (a b : Int) (w : World) : Calls Tryd.prog 11 #[.int .i64 4, .int .i64 a, .int .i64 b] w fun e w' => e = .returned (.tuple #[.int .i64 (wr (dv (wr a) (wr b))), .bool (!decide (wr b = 0))]) ∧ Below w.heap.size w w' := by
  have h1 := wr_bd a
  have h2 := wr_bd b
  have h3 : -4294967296 ≤ wr a ∧ wr a < 4294967296 := by omega
  have h4 : -4294967296 ≤ wr b ∧ wr b < 4294967296 := by omega
  go_enter Tryd.func11, Tryd.ntmps11
  go_wp2_with (first
    | (go_at_call 12; refine (wrap_any _ _).mono ?_; rintro e w' ⟨rfl, rfl⟩)
    | (go_at_call 20; refine (plain_any _ _).mono ?_; rintro e w' ⟨rfl, rfl⟩)
    | (go_at_call 30; refine (truth_any _ _).mono ?_; rintro e w' ⟨rfl, rfl⟩)
    | (go_at_call 29; refine (divide_any _ _ _ h3 h4).mono ?_; rintro e w' ⟨rfl, hb⟩)
    | (go_at_call 28; refine (told_any _ _).mono ?_; rintro e w' ⟨rfl, rfl⟩))
  go_returns
  exact ⟨rfl, hb⟩
set_option maxRecDepth 1000000 in
set_option maxHeartbeats 1000000 in
theorem do_5 (a b : Int) (w : World) : Calls Tryd.prog 11 #[.int .i64 5, .int .i64 a, .int .i64 b] w fun e w' => e = .returned (.tuple #[.int .i64 (wr (md (wr a) (wr b))), .bool (!decide (wr b = 0))]) ∧ Below w.heap.size w w' := by
  have h1 := wr_bd a
  have h2 := wr_bd b
  have h3 : -4294967296 ≤ wr a ∧ wr a < 4294967296 := by omega
  have h4 : -4294967296 ≤ wr b ∧ wr b < 4294967296 := by omega
  go_enter Tryd.func11, Tryd.ntmps11
  go_wp2_with (first
    | (go_at_call 12; refine (wrap_any _ _).mono ?_; rintro e w' ⟨rfl, rfl⟩)
    | (go_at_call 20; refine (plain_any _ _).mono ?_; rintro e w' ⟨rfl, rfl⟩)
    | (go_at_call 30; refine (truth_any _ _).mono ?_; rintro e w' ⟨rfl, rfl⟩)
    | (go_at_call 29; refine (divide_any _ _ _ h3 h4).mono ?_; rintro e w' ⟨rfl, hb⟩)
    | (go_at_call 28; refine (told_any _ _).mono ?_; rintro e w' ⟨rfl, rfl⟩))
  go_returns
  exact ⟨rfl, hb⟩
set_option maxRecDepth 1000000 in
set_option maxHeartbeats 1000000 in
theorem do_6 (a b : Int) (w : World) : Calls Tryd.prog 11 #[.int .i64 6, .int .i64 a, .int .i64 b] w fun e w' => e = .returned (.tuple #[.int .i64 (wr (dv (pl (wr a)) (pl (wr b)))), .bool (!decide (pl (wr b) = 0))]) ∧ Below w.heap.size w w' := by
  have h1 := wr_bd a
  have h2 := wr_bd b
  have h3 : -4294967296 ≤ pl (wr a) ∧ pl (wr a) < 4294967296 := by have := pl_bd (wr a); omega
  have h4 : -4294967296 ≤ pl (wr b) ∧ pl (wr b) < 4294967296 := by have := pl_bd (wr b); omega
  go_enter Tryd.func11, Tryd.ntmps11
  go_wp2_with (first
    | (go_at_call 12; refine (wrap_any _ _).mono ?_; rintro e w' ⟨rfl, rfl⟩)
    | (go_at_call 20; refine (plain_any _ _).mono ?_; rintro e w' ⟨rfl, rfl⟩)
    | (go_at_call 30; refine (truth_any _ _).mono ?_; rintro e w' ⟨rfl, rfl⟩)
    | (go_at_call 29; refine (divide_any _ _ _ h3 h4).mono ?_; rintro e w' ⟨rfl, hb⟩)
    | (go_at_call 28; refine (told_any _ _).mono ?_; rintro e w' ⟨rfl, rfl⟩))
  go_returns
  exact ⟨rfl, hb⟩
set_option maxRecDepth 1000000 in
set_option maxHeartbeats 1000000 in
theorem do_7 (a b : Int) (w : World) : Calls Tryd.prog 11 #[.int .i64 7, .int .i64 a, .int .i64 b] w fun e w' => e = .returned (.tuple #[.int .i64 (wr (md (pl (wr a)) (pl (wr b)))), .bool (!decide (pl (wr b) = 0))]) ∧ Below w.heap.size w w' := by
  have h1 := wr_bd a
  have h2 := wr_bd b
  have h3 : -4294967296 ≤ pl (wr a) ∧ pl (wr a) < 4294967296 := by have := pl_bd (wr a); omega
  have h4 : -4294967296 ≤ pl (wr b) ∧ pl (wr b) < 4294967296 := by have := pl_bd (wr b); omega
  go_enter Tryd.func11, Tryd.ntmps11
  go_wp2_with (first
    | (go_at_call 12; refine (wrap_any _ _).mono ?_; rintro e w' ⟨rfl, rfl⟩)
    | (go_at_call 20; refine (plain_any _ _).mono ?_; rintro e w' ⟨rfl, rfl⟩)
    | (go_at_call 30; refine (truth_any _ _).mono ?_; rintro e w' ⟨rfl, rfl⟩)
    | (go_at_call 29; refine (divide_any _ _ _ h3 h4).mono ?_; rintro e w' ⟨rfl, hb⟩)
    | (go_at_call 28; refine (told_any _ _).mono ?_; rintro e w' ⟨rfl, rfl⟩))
  go_returns
  exact ⟨rfl, hb⟩
set_option maxRecDepth 1000000 in
set_option maxHeartbeats 1000000 in
theorem do_8 (a b : Int) (w : World) : Calls Tryd.prog 11 #[.int .i64 8, .int .i64 a, .int .i64 b] w fun e w' => e = .returned (.tuple #[.int .i64 (wr (bits .and .i64 (wr a) (wr b))), .bool (true)]) ∧ w = w' := by
  have h1 := wr_bd a
  have h2 := wr_bd b
  go_enter Tryd.func11, Tryd.ntmps11
  go_wp2_with (first
    | (go_at_call 12; refine (wrap_any _ _).mono ?_; rintro e w' ⟨rfl, rfl⟩)
    | (go_at_call 20; refine (plain_any _ _).mono ?_; rintro e w' ⟨rfl, rfl⟩)
    | (go_at_call 30; refine (truth_any _ _).mono ?_; rintro e w' ⟨rfl, rfl⟩)
    | (go_at_call 28; refine (told_any _ _).mono ?_; rintro e w' ⟨rfl, rfl⟩))
  go_returns
  exact ⟨rfl, rfl⟩
set_option maxRecDepth 1000000 in
set_option maxHeartbeats 1000000 in
theorem do_9 (a b : Int) (w : World) : Calls Tryd.prog 11 #[.int .i64 9, .int .i64 a, .int .i64 b] w fun e w' => e = .returned (.tuple #[.int .i64 (wr (bits .or .i64 (wr a) (wr b))), .bool (true)]) ∧ w = w' := by
  have h1 := wr_bd a
  have h2 := wr_bd b
  go_enter Tryd.func11, Tryd.ntmps11
  go_wp2_with (first
    | (go_at_call 12; refine (wrap_any _ _).mono ?_; rintro e w' ⟨rfl, rfl⟩)
    | (go_at_call 20; refine (plain_any _ _).mono ?_; rintro e w' ⟨rfl, rfl⟩)
    | (go_at_call 30; refine (truth_any _ _).mono ?_; rintro e w' ⟨rfl, rfl⟩)
    | (go_at_call 28; refine (told_any _ _).mono ?_; rintro e w' ⟨rfl, rfl⟩))
  go_returns
  exact ⟨rfl, rfl⟩
set_option maxRecDepth 1000000 in
set_option maxHeartbeats 1000000 in
theorem do_10 (a b : Int) (w : World) : Calls Tryd.prog 11 #[.int .i64 10, .int .i64 a, .int .i64 b] w fun e w' => e = .returned (.tuple #[.int .i64 (wr (bits .xor .i64 (wr a) (wr b))), .bool (true)]) ∧ w = w' := by
  have h1 := wr_bd a
  have h2 := wr_bd b
  go_enter Tryd.func11, Tryd.ntmps11
  go_wp2_with (first
    | (go_at_call 12; refine (wrap_any _ _).mono ?_; rintro e w' ⟨rfl, rfl⟩)
    | (go_at_call 20; refine (plain_any _ _).mono ?_; rintro e w' ⟨rfl, rfl⟩)
    | (go_at_call 30; refine (truth_any _ _).mono ?_; rintro e w' ⟨rfl, rfl⟩)
    | (go_at_call 28; refine (told_any _ _).mono ?_; rintro e w' ⟨rfl, rfl⟩))
  go_returns
  exact ⟨rfl, rfl⟩
set_option maxRecDepth 1000000 in
set_option maxHeartbeats 1000000 in
theorem do_11 (a b : Int) (w : World) : Calls Tryd.prog 11 #[.int .i64 11, .int .i64 a, .int .i64 b] w fun e w' => e = .returned (.tuple #[.int .i64 (wr (wr a * 2 ^ (wr b % 32).toNat)), .bool (true)]) ∧ w = w' := by
  have h1 := wr_bd a
  have h2 := wr_bd b
  have h3 : bits .and .i64 (wr b) 31 = wr b % 32 := ofInt_and31 _
  have h4 : decide (wr b % 32 < 0) = false := by simp; omega
  have h5 : ¬ (wr b % 32 < 0) := by omega
  have h6 : 0 ≤ wr b % 32 := by omega
  have h7 : IntKind.i64.wrap (wr a * 2 ^ (wr b % 32).toNat) = wr a * 2 ^ (wr b % 32).toNat := by rw [k64]; exact w64 (shl_bd h1 (by omega))
  have h8 : min (wr b % 32).toNat 64 = (wr b % 32).toNat := by omega
  have h9 : wrap64 (wr a * 2 ^ (wr b % 32).toNat) = wr a * 2 ^ (wr b % 32).toNat := w64 (shl_bd h1 (by omega))
  go_enter Tryd.func11, Tryd.ntmps11
  go_wp2_with (first
    | (go_at_call 12; refine (wrap_any _ _).mono ?_; rintro e w' ⟨rfl, rfl⟩)
    | (go_at_call 20; refine (plain_any _ _).mono ?_; rintro e w' ⟨rfl, rfl⟩)
    | (go_at_call 30; refine (truth_any _ _).mono ?_; rintro e w' ⟨rfl, rfl⟩)
    | (go_at_call 28; refine (told_any _ _).mono ?_; rintro e w' ⟨rfl, rfl⟩))
  go_returns
  exact ⟨rfl, rfl⟩
set_option maxRecDepth 1000000 in
set_option maxHeartbeats 1000000 in
theorem do_12 (a b : Int) (w : World) : Calls Tryd.prog 11 #[.int .i64 12, .int .i64 a, .int .i64 b] w fun e w' => e = .returned (.tuple #[.int .i64 (wr (wr a / 2 ^ (wr b % 32).toNat)), .bool (true)]) ∧ w = w' := by
  have h1 := wr_bd a
  have h2 := wr_bd b
  have h3 : bits .and .i64 (wr b) 31 = wr b % 32 := ofInt_and31 _
  have h4 : decide (wr b % 32 < 0) = false := by simp; omega
  have h5 : ¬ (wr b % 32 < 0) := by omega
  have h6 : 0 ≤ wr b % 32 := by omega
  go_enter Tryd.func11, Tryd.ntmps11
  go_wp2_with (first
    | (go_at_call 12; refine (wrap_any _ _).mono ?_; rintro e w' ⟨rfl, rfl⟩)
    | (go_at_call 20; refine (plain_any _ _).mono ?_; rintro e w' ⟨rfl, rfl⟩)
    | (go_at_call 30; refine (truth_any _ _).mono ?_; rintro e w' ⟨rfl, rfl⟩)
    | (go_at_call 28; refine (told_any _ _).mono ?_; rintro e w' ⟨rfl, rfl⟩))
  go_returns
  exact ⟨rfl, rfl⟩
set_option maxRecDepth 1000000 in
set_option maxHeartbeats 1000000 in
theorem do_13 (a b : Int) (w : World) : Calls Tryd.prog 11 #[.int .i64 13, .int .i64 a, .int .i64 b] w fun e w' => e = .returned (.tuple #[.int .i64 (wr (pl (wr a) / 2 ^ (wr b % 32).toNat)), .bool (true)]) ∧ w = w' := by
  have h1 := wr_bd a
  have h2 := wr_bd b
  have h3 : bits .and .i64 (wr b) 31 = wr b % 32 := ofInt_and31 _
  have h4 : decide (wr b % 32 < 0) = false := by simp; omega
  have h5 : ¬ (wr b % 32 < 0) := by omega
  have h6 : 0 ≤ wr b % 32 := by omega
  go_enter Tryd.func11, Tryd.ntmps11
  go_wp2_with (first
    | (go_at_call 12; refine (wrap_any _ _).mono ?_; rintro e w' ⟨rfl, rfl⟩)
    | (go_at_call 20; refine (plain_any _ _).mono ?_; rintro e w' ⟨rfl, rfl⟩)
    | (go_at_call 30; refine (truth_any _ _).mono ?_; rintro e w' ⟨rfl, rfl⟩)
    | (go_at_call 28; refine (told_any _ _).mono ?_; rintro e w' ⟨rfl, rfl⟩))
  go_returns
  exact ⟨rfl, rfl⟩
set_option maxRecDepth 1000000 in
set_option maxHeartbeats 1000000 in
theorem do_14 (a b : Int) (w : World) : Calls Tryd.prog 11 #[.int .i64 14, .int .i64 a, .int .i64 b] w fun e w' => e = .returned (.tuple #[.int .i64 (wr (tv (wr a == wr b))), .bool (true)]) ∧ w = w' := by
  have h1 := wr_bd a
  have h2 := wr_bd b
  go_enter Tryd.func11, Tryd.ntmps11
  go_wp2_with (first
    | (go_at_call 12; refine (wrap_any _ _).mono ?_; rintro e w' ⟨rfl, rfl⟩)
    | (go_at_call 20; refine (plain_any _ _).mono ?_; rintro e w' ⟨rfl, rfl⟩)
    | (go_at_call 30; refine (truth_any _ _).mono ?_; rintro e w' ⟨rfl, rfl⟩)
    | (go_at_call 28; refine (told_any _ _).mono ?_; rintro e w' ⟨rfl, rfl⟩))
  go_returns
  exact ⟨rfl, rfl⟩
set_option maxRecDepth 1000000 in
set_option maxHeartbeats 1000000 in
theorem do_15 (a b : Int) (w : World) : Calls Tryd.prog 11 #[.int .i64 15, .int .i64 a, .int .i64 b] w fun e w' => e = .returned (.tuple #[.int .i64 (wr (tv (wr a != wr b))), .bool (true)]) ∧ w = w' := by
  have h1 := wr_bd a
  have h2 := wr_bd b
  go_enter Tryd.func11, Tryd.ntmps11
  go_wp2_with (first
    | (go_at_call 12; refine (wrap_any _ _).mono ?_; rintro e w' ⟨rfl, rfl⟩)
    | (go_at_call 20; refine (plain_any _ _).mono ?_; rintro e w' ⟨rfl, rfl⟩)
    | (go_at_call 30; refine (truth_any _ _).mono ?_; rintro e w' ⟨rfl, rfl⟩)
    | (go_at_call 28; refine (told_any _ _).mono ?_; rintro e w' ⟨rfl, rfl⟩))
  go_returns
  exact ⟨rfl, rfl⟩
set_option maxRecDepth 1000000 in
set_option maxHeartbeats 1000000 in
theorem do_16 (a b : Int) (w : World) : Calls Tryd.prog 11 #[.int .i64 16, .int .i64 a, .int .i64 b] w fun e w' => e = .returned (.tuple #[.int .i64 (wr (tv (decide (wr a < wr b)))), .bool (true)]) ∧ w = w' := by
  have h1 := wr_bd a
  have h2 := wr_bd b
  go_enter Tryd.func11, Tryd.ntmps11
  go_wp2_with (first
    | (go_at_call 12; refine (wrap_any _ _).mono ?_; rintro e w' ⟨rfl, rfl⟩)
    | (go_at_call 20; refine (plain_any _ _).mono ?_; rintro e w' ⟨rfl, rfl⟩)
    | (go_at_call 30; refine (truth_any _ _).mono ?_; rintro e w' ⟨rfl, rfl⟩)
    | (go_at_call 28; refine (told_any _ _).mono ?_; rintro e w' ⟨rfl, rfl⟩))
  go_returns
  exact ⟨rfl, rfl⟩
set_option maxRecDepth 1000000 in
set_option maxHeartbeats 1000000 in
theorem do_17 (a b : Int) (w : World) : Calls Tryd.prog 11 #[.int .i64 17, .int .i64 a, .int .i64 b] w fun e w' => e = .returned (.tuple #[.int .i64 (wr (tv (decide (wr a ≤ wr b)))), .bool (true)]) ∧ w = w' := by
  have h1 := wr_bd a
  have h2 := wr_bd b
  go_enter Tryd.func11, Tryd.ntmps11
  go_wp2_with (first
    | (go_at_call 12; refine (wrap_any _ _).mono ?_; rintro e w' ⟨rfl, rfl⟩)
    | (go_at_call 20; refine (plain_any _ _).mono ?_; rintro e w' ⟨rfl, rfl⟩)
    | (go_at_call 30; refine (truth_any _ _).mono ?_; rintro e w' ⟨rfl, rfl⟩)
    | (go_at_call 28; refine (told_any _ _).mono ?_; rintro e w' ⟨rfl, rfl⟩))
  go_returns
  exact ⟨rfl, rfl⟩
set_option maxRecDepth 1000000 in
set_option maxHeartbeats 1000000 in
theorem do_18 (a b : Int) (w : World) : Calls Tryd.prog 11 #[.int .i64 18, .int .i64 a, .int .i64 b] w fun e w' => e = .returned (.tuple #[.int .i64 (wr (tv (decide (pl (wr a) < pl (wr b))))), .bool (true)]) ∧ w = w' := by
  have h1 := wr_bd a
  have h2 := wr_bd b
  go_enter Tryd.func11, Tryd.ntmps11
  go_wp2_with (first
    | (go_at_call 12; refine (wrap_any _ _).mono ?_; rintro e w' ⟨rfl, rfl⟩)
    | (go_at_call 20; refine (plain_any _ _).mono ?_; rintro e w' ⟨rfl, rfl⟩)
    | (go_at_call 30; refine (truth_any _ _).mono ?_; rintro e w' ⟨rfl, rfl⟩)
    | (go_at_call 28; refine (told_any _ _).mono ?_; rintro e w' ⟨rfl, rfl⟩))
  go_returns
  exact ⟨rfl, rfl⟩
set_option maxRecDepth 1000000 in
set_option maxHeartbeats 1000000 in
theorem do_19 (a b : Int) (w : World) : Calls Tryd.prog 11 #[.int .i64 19, .int .i64 a, .int .i64 b] w fun e w' => e = .returned (.tuple #[.int .i64 (wr (tv (decide (pl (wr a) ≤ pl (wr b))))), .bool (true)]) ∧ w = w' := by
  have h1 := wr_bd a
  have h2 := wr_bd b
  go_enter Tryd.func11, Tryd.ntmps11
  go_wp2_with (first
    | (go_at_call 12; refine (wrap_any _ _).mono ?_; rintro e w' ⟨rfl, rfl⟩)
    | (go_at_call 20; refine (plain_any _ _).mono ?_; rintro e w' ⟨rfl, rfl⟩)
    | (go_at_call 30; refine (truth_any _ _).mono ?_; rintro e w' ⟨rfl, rfl⟩)
    | (go_at_call 28; refine (told_any _ _).mono ?_; rintro e w' ⟨rfl, rfl⟩))
  go_returns
  exact ⟨rfl, rfl⟩
set_option maxRecDepth 1000000 in
set_option maxHeartbeats 1000000 in
theorem do_20 (a b : Int) (w : World) : Calls Tryd.prog 11 #[.int .i64 20, .int .i64 a, .int .i64 b] w fun e w' => e = .returned (.tuple #[.int .i64 (wr (-wr a)), .bool (true)]) ∧ w = w' := by
  have h1 := wr_bd a
  have h2 := wr_bd b
  have h3 : wrap64 (-wr a) = -wr a := w64 (by omega)
  go_enter Tryd.func11, Tryd.ntmps11
  go_wp2_with (first
    | (go_at_call 12; refine (wrap_any _ _).mono ?_; rintro e w' ⟨rfl, rfl⟩)
    | (go_at_call 20; refine (plain_any _ _).mono ?_; rintro e w' ⟨rfl, rfl⟩)
    | (go_at_call 30; refine (truth_any _ _).mono ?_; rintro e w' ⟨rfl, rfl⟩)
    | (go_at_call 28; refine (told_any _ _).mono ?_; rintro e w' ⟨rfl, rfl⟩))
  go_returns
  exact ⟨rfl, rfl⟩
set_option maxRecDepth 1000000 in
set_option maxHeartbeats 1000000 in
theorem do_21 (a b : Int) (w : World) : Calls Tryd.prog 11 #[.int .i64 21, .int .i64 a, .int .i64 b] w fun e w' => e = .returned (.tuple #[.int .i64 (wr (bits .xor .i64 (-1) (wr a))), .bool (true)]) ∧ w = w' := by
  have h1 := wr_bd a
  have h2 := wr_bd b
  go_enter Tryd.func11, Tryd.ntmps11
  go_wp2_with (first
    | (go_at_call 12; refine (wrap_any _ _).mono ?_; rintro e w' ⟨rfl, rfl⟩)
    | (go_at_call 20; refine (plain_any _ _).mono ?_; rintro e w' ⟨rfl, rfl⟩)
    | (go_at_call 30; refine (truth_any _ _).mono ?_; rintro e w' ⟨rfl, rfl⟩)
    | (go_at_call 28; refine (told_any _ _).mono ?_; rintro e w' ⟨rfl, rfl⟩))
  go_returns
  exact ⟨rfl, rfl⟩
set_option maxRecDepth 1000000 in
set_option maxHeartbeats 1000000 in
theorem do_22 (a b : Int) (w : World) : Calls Tryd.prog 11 #[.int .i64 22, .int .i64 a, .int .i64 b] w fun e w' => e = .returned (.tuple #[.int .i64 (wr (bits .and .i64 (wr a) 255)), .bool (true)]) ∧ w = w' := by
  have h1 := wr_bd a
  have h2 := wr_bd b
  go_enter Tryd.func11, Tryd.ntmps11
  go_wp2_with (first
    | (go_at_call 12; refine (wrap_any _ _).mono ?_; rintro e w' ⟨rfl, rfl⟩)
    | (go_at_call 20; refine (plain_any _ _).mono ?_; rintro e w' ⟨rfl, rfl⟩)
    | (go_at_call 30; refine (truth_any _ _).mono ?_; rintro e w' ⟨rfl, rfl⟩)
    | (go_at_call 28; refine (told_any _ _).mono ?_; rintro e w' ⟨rfl, rfl⟩))
  go_returns
  exact ⟨rfl, rfl⟩
set_option maxRecDepth 1000000 in
set_option maxHeartbeats 1000000 in
theorem do_23 (a b : Int) (w : World) : Calls Tryd.prog 11 #[.int .i64 23, .int .i64 a, .int .i64 b] w fun e w' => e = .returned (.tuple #[.int .i64 (wr (tv (wr a == 0))), .bool (true)]) ∧ w = w' := by
  have h1 := wr_bd a
  have h2 := wr_bd b
  go_enter Tryd.func11, Tryd.ntmps11
  go_wp2_with (first
    | (go_at_call 12; refine (wrap_any _ _).mono ?_; rintro e w' ⟨rfl, rfl⟩)
    | (go_at_call 20; refine (plain_any _ _).mono ?_; rintro e w' ⟨rfl, rfl⟩)
    | (go_at_call 30; refine (truth_any _ _).mono ?_; rintro e w' ⟨rfl, rfl⟩)
    | (go_at_call 28; refine (told_any _ _).mono ?_; rintro e w' ⟨rfl, rfl⟩))
  go_returns
  exact ⟨rfl, rfl⟩
end Go.Proofs.YtpadbfjocecofaaDoor
