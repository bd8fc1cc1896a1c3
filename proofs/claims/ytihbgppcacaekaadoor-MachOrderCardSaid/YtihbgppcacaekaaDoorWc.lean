import Derived.Test.YtihbgppcacaekaaDoorWb
import Derived.Test.YtihbgppcacaekaaDoorWl
/- THE DOCUMENT's Do, and word.Do, told. -/
namespace Go.Proofs.YtihbgppcacaekaaDoor
open Go.RowKit Go.BigFrame

theorem tdiv_bd {a b : Int} (h : -2147483648 ≤ a ∧ a < 4294967296) : -9223372036854775808 ≤ a.tdiv b ∧ a.tdiv b < 9223372036854775808 := by
  have h1 := Int.natAbs_tdiv_le_natAbs a b
  omega
theorem sub_tdiv (a b : Int) : a - a.tdiv b * b = a.tmod b := by
  have := Int.tdiv_mul_add_tmod a b
  omega
theorem tmod_bd2 {a b : Int} (h : -2147483648 ≤ a ∧ a < 4294967296) : -9223372036854775808 ≤ a.tmod b ∧ a.tmod b < 9223372036854775808 := by
  have h2 : (a.tmod b).natAbs ≤ a.natAbs := by rw [Int.natAbs_tmod]; exact Nat.mod_le _ _
  omega
theorem tdiv_mul_bd {a b : Int} (h : -2147483648 ≤ a ∧ a < 4294967296) : -9223372036854775808 ≤ a.tdiv b * b ∧ a.tdiv b * b < 9223372036854775808 := by
  have h1 := Int.tdiv_mul_add_tmod a b
  have h2 : (a.tmod b).natAbs ≤ a.natAbs := by rw [Int.natAbs_tmod]; exact Nat.mod_le _ _
  omega
theorem wr_nat (Z : BitVec 32) : wr (Z.toNat : Int) = Z.toInt := by
  rw [wr_b]
  unfold b32
  rw [BitVec.ofInt_natCast, BitVec.ofNat_toNat, BitVec.setWidth_eq]
theorem b32_wr (n : Int) : b32 (wr n) = b32 n := by rw [wr_b, b32_toInt]
theorem pl0n {b : Int} (h : wr b ≠ 0) : pl (wr b) ≠ 0 := by have := wr_bd b; unfold pl; omega
theorem pl0s {b : Int} (h : wr b = 0) : pl (wr b) = 0 := by rw [h]; decide
theorem le_eq {a b : Int} (h : ¬ a < b) : decide (a ≤ b) = (a == b) := by
  by_cases e : a = b
  · subst e; simp
  · rw [beq_eq_false_iff_ne.2 e]; simp; omega
set_option maxRecDepth 1000000 in
set_option maxHeartbeats 4000000 in
theorem ref_1 (a b : Int) (w : World) : Calls Tryd.prog 16 #[.int .i64 1, .int .i64 a, .int .i64 b] w fun e w' => e = .returned (.tuple #[.int .i64 (wr (wr a + wr b)), .bool (true)]) ∧ Below w.heap.size w w' := by
  have h1 := wr_bd a
  have h2 := wr_bd b
  have h5 := pl_bd (wr a)
  have h6 := pl_bd (wr b)
  obtain ⟨kk, hkk⟩ : ∃ kk, kk = (wr b % 32).toNat := ⟨_, rfl⟩
  have hk1 : pl (wr b) % 32 = (kk : Int) := by rw [hkk]; unfold pl; omega
  have hk2 : (pl (wr b)).tmod 32 = (kk : Int) := by rw [Int.tmod_eq_emod_of_nonneg h6.1, hk1]
  have hk3 : kk ≤ 31 := by omega
  clear hkk
  have f1 : wrap64 (wr a + wr b) = wr a + wr b := w64 (by omega)
  by_cases hz : wr b = 0
  · have z1 : (wr b == 0) = true := by simp [hz]
    have z2 : decide (wr b = 0) = true := by simp [hz]
    clear hz
    go_enter Tryd.func16, Tryd.ntmps16
    go_wp2_with (first
      | (go_at_call 15; refine (refwrap_any _ _).mono ?_; rintro e w' ⟨rfl, rfl⟩)
      | (go_at_call 27; refine (refplain_any _ _).mono ?_; rintro e w' ⟨rfl, rfl⟩)
      | (go_at_call 26; refine (power_any kk hk3 _).mono ?_; rintro e w' ⟨rfl, rfl⟩)
      | (go_at_call 30; refine (reftruth_any _ _).mono ?_; rintro e w' ⟨rfl, rfl⟩))
    go_returns
    exact ⟨rfl, Below.refl _ _⟩
  · have z1 : (wr b == 0) = false := by simp [hz]
    have z2 : decide (wr b = 0) = false := by simp [hz]
    go_enter Tryd.func16, Tryd.ntmps16
    go_wp2_with (first
      | (go_at_call 15; refine (refwrap_any _ _).mono ?_; rintro e w' ⟨rfl, rfl⟩)
      | (go_at_call 27; refine (refplain_any _ _).mono ?_; rintro e w' ⟨rfl, rfl⟩)
      | (go_at_call 26; refine (power_any kk hk3 _).mono ?_; rintro e w' ⟨rfl, rfl⟩)
      | (go_at_call 30; refine (reftruth_any _ _).mono ?_; rintro e w' ⟨rfl, rfl⟩))
    go_returns
    exact ⟨rfl, Below.refl _ _⟩
set_option maxRecDepth 1000000 in
set_option maxHeartbeats 4000000 in
theorem ref_2 (a b : Int) (w : World) : Calls Tryd.prog 16 #[.int .i64 2, .int .i64 a, .int .i64 b] w fun e w' => e = .returned (.tuple #[.int .i64 (wr (wr a - wr b)), .bool (true)]) ∧ Below w.heap.size w w' := by
  have h1 := wr_bd a
  have h2 := wr_bd b
  have h5 := pl_bd (wr a)
  have h6 := pl_bd (wr b)
  obtain ⟨kk, hkk⟩ : ∃ kk, kk = (wr b % 32).toNat := ⟨_, rfl⟩
  have hk1 : pl (wr b) % 32 = (kk : Int) := by rw [hkk]; unfold pl; omega
  have hk2 : (pl (wr b)).tmod 32 = (kk : Int) := by rw [Int.tmod_eq_emod_of_nonneg h6.1, hk1]
  have hk3 : kk ≤ 31 := by omega
  clear hkk
  have f1 : wrap64 (wr a - wr b) = wr a - wr b := w64 (by omega)
  by_cases hz : wr b = 0
  · have z1 : (wr b == 0) = true := by simp [hz]
    have z2 : decide (wr b = 0) = true := by simp [hz]
    clear hz
    go_enter Tryd.func16, Tryd.ntmps16
    go_wp2_with (first
      | (go_at_call 15; refine (refwrap_any _ _).mono ?_; rintro e w' ⟨rfl, rfl⟩)
      | (go_at_call 27; refine (refplain_any _ _).mono ?_; rintro e w' ⟨rfl, rfl⟩)
      | (go_at_call 26; refine (power_any kk hk3 _).mono ?_; rintro e w' ⟨rfl, rfl⟩)
      | (go_at_call 30; refine (reftruth_any _ _).mono ?_; rintro e w' ⟨rfl, rfl⟩))
    go_returns
    exact ⟨rfl, Below.refl _ _⟩
  · have z1 : (wr b == 0) = false := by simp [hz]
    have z2 : decide (wr b = 0) = false := by simp [hz]
    go_enter Tryd.func16, Tryd.ntmps16
    go_wp2_with (first
      | (go_at_call 15; refine (refwrap_any _ _).mono ?_; rintro e w' ⟨rfl, rfl⟩)
      | (go_at_call 27; refine (refplain_any _ _).mono ?_; rintro e w' ⟨rfl, rfl⟩)
      | (go_at_call 26; refine (power_any kk hk3 _).mono ?_; rintro e w' ⟨rfl, rfl⟩)
      | (go_at_call 30; refine (reftruth_any _ _).mono ?_; rintro e w' ⟨rfl, rfl⟩))
    go_returns
    exact ⟨rfl, Below.refl _ _⟩
set_option maxRecDepth 1000000 in
set_option maxHeartbeats 4000000 in
theorem ref_3 (a b : Int) (w : World) : Calls Tryd.prog 16 #[.int .i64 3, .int .i64 a, .int .i64 b] w fun e w' => e = .returned (.tuple #[.int .i64 (wr (wr a * wr b)), .bool (true)]) ∧ Below w.heap.size w w' := by
  have h1 := wr_bd a
  have h2 := wr_bd b
  have h5 := pl_bd (wr a)
  have h6 := pl_bd (wr b)
  obtain ⟨kk, hkk⟩ : ∃ kk, kk = (wr b % 32).toNat := ⟨_, rfl⟩
  have hk1 : pl (wr b) % 32 = (kk : Int) := by rw [hkk]; unfold pl; omega
  have hk2 : (pl (wr b)).tmod 32 = (kk : Int) := by rw [Int.tmod_eq_emod_of_nonneg h6.1, hk1]
  have hk3 : kk ≤ 31 := by omega
  clear hkk
  have f1 : wrap64 (wr a * wr b) = wr a * wr b := w64 (mul_bd h1 h2)
  by_cases hz : wr b = 0
  · have z1 : (wr b == 0) = true := by simp [hz]
    have z2 : decide (wr b = 0) = true := by simp [hz]
    clear hz
    go_enter Tryd.func16, Tryd.ntmps16
    go_wp2_with (first
      | (go_at_call 15; refine (refwrap_any _ _).mono ?_; rintro e w' ⟨rfl, rfl⟩)
      | (go_at_call 27; refine (refplain_any _ _).mono ?_; rintro e w' ⟨rfl, rfl⟩)
      | (go_at_call 26; refine (power_any kk hk3 _).mono ?_; rintro e w' ⟨rfl, rfl⟩)
      | (go_at_call 30; refine (reftruth_any _ _).mono ?_; rintro e w' ⟨rfl, rfl⟩))
    go_returns
    exact ⟨rfl, Below.refl _ _⟩
  · have z1 : (wr b == 0) = false := by simp [hz]
    have z2 : decide (wr b = 0) = false := by simp [hz]
    go_enter Tryd.func16, Tryd.ntmps16
    go_wp2_with (first
      | (go_at_call 15; refine (refwrap_any _ _).mono ?_; rintro e w' ⟨rfl, rfl⟩)
      | (go_at_call 27; refine (refplain_any _ _).mono ?_; rintro e w' ⟨rfl, rfl⟩)
      | (go_at_call 26; refine (power_any kk hk3 _).mono ?_; rintro e w' ⟨rfl, rfl⟩)
      | (go_at_call 30; refine (reftruth_any _ _).mono ?_; rintro e w' ⟨rfl, rfl⟩))
    go_returns
    exact ⟨rfl, Below.refl _ _⟩
set_option maxRecDepth 1000000 in
set_option maxHeartbeats 4000000 in
theorem ref_4 (a b : Int) (w : World) : Calls Tryd.prog 16 #[.int .i64 4, .int .i64 a, .int .i64 b] w fun e w' => e = .returned (.tuple #[.int .i64 (wr (dv (wr a) (wr b))), .bool (!decide (wr b = 0))]) ∧ Below w.heap.size w w' := by
  have h1 := wr_bd a
  have h2 := wr_bd b
  have h5 := pl_bd (wr a)
  have h6 := pl_bd (wr b)
  obtain ⟨kk, hkk⟩ : ∃ kk, kk = (wr b % 32).toNat := ⟨_, rfl⟩
  have hk1 : pl (wr b) % 32 = (kk : Int) := by rw [hkk]; unfold pl; omega
  have hk2 : (pl (wr b)).tmod 32 = (kk : Int) := by rw [Int.tmod_eq_emod_of_nonneg h6.1, hk1]
  have hk3 : kk ≤ 31 := by omega
  clear hkk
  have f1 : wrap64 ((wr a).tdiv (wr b)) = (wr a).tdiv (wr b) := w64 (tdiv_bd ⟨by omega, by omega⟩)
  by_cases hz : wr b = 0
  · have z1 : (wr b == 0) = true := by simp [hz]
    have z2 : decide (wr b = 0) = true := by simp [hz]
    rw [show wr (dv (wr a) (wr b)) = 0 by rw [hz]; simp [dv, wr], show (!decide (wr b = 0)) = false by simp [hz]]
    clear hz
    go_enter Tryd.func16, Tryd.ntmps16
    go_wp2_with (first
      | (go_at_call 15; refine (refwrap_any _ _).mono ?_; rintro e w' ⟨rfl, rfl⟩)
      | (go_at_call 27; refine (refplain_any _ _).mono ?_; rintro e w' ⟨rfl, rfl⟩)
      | (go_at_call 26; refine (power_any kk hk3 _).mono ?_; rintro e w' ⟨rfl, rfl⟩)
      | (go_at_call 30; refine (reftruth_any _ _).mono ?_; rintro e w' ⟨rfl, rfl⟩))
    go_returns
    exact ⟨rfl, Below.refl _ _⟩
  · have z1 : (wr b == 0) = false := by simp [hz]
    have z2 : decide (wr b = 0) = false := by simp [hz]
    rw [show wr (dv (wr a) (wr b)) = wr ((wr a).tdiv (wr b)) by unfold dv; rw [if_neg hz], show (!decide (wr b = 0)) = true by simp [hz]]
    go_enter Tryd.func16, Tryd.ntmps16
    go_wp2_with (first
      | (go_at_call 15; refine (refwrap_any _ _).mono ?_; rintro e w' ⟨rfl, rfl⟩)
      | (go_at_call 27; refine (refplain_any _ _).mono ?_; rintro e w' ⟨rfl, rfl⟩)
      | (go_at_call 26; refine (power_any kk hk3 _).mono ?_; rintro e w' ⟨rfl, rfl⟩)
      | (go_at_call 30; refine (reftruth_any _ _).mono ?_; rintro e w' ⟨rfl, rfl⟩))
    go_returns
    exact ⟨rfl, Below.refl _ _⟩
set_option maxRecDepth 1000000 in
set_option maxHeartbeats 4000000 in
theorem ref_5 (a b : Int) (w : World) : Calls Tryd.prog 16 #[.int .i64 5, .int .i64 a, .int .i64 b] w fun e w' => e = .returned (.tuple #[.int .i64 (wr (md (wr a) (wr b))), .bool (!decide (wr b = 0))]) ∧ Below w.heap.size w w' := by
  have h1 := wr_bd a
  have h2 := wr_bd b
  have h5 := pl_bd (wr a)
  have h6 := pl_bd (wr b)
  obtain ⟨kk, hkk⟩ : ∃ kk, kk = (wr b % 32).toNat := ⟨_, rfl⟩
  have hk1 : pl (wr b) % 32 = (kk : Int) := by rw [hkk]; unfold pl; omega
  have hk2 : (pl (wr b)).tmod 32 = (kk : Int) := by rw [Int.tmod_eq_emod_of_nonneg h6.1, hk1]
  have hk3 : kk ≤ 31 := by omega
  clear hkk
  have f1 : wrap64 ((wr a).tdiv (wr b)) = (wr a).tdiv (wr b) := w64 (tdiv_bd ⟨by omega, by omega⟩)
  have f2 : wrap64 ((wr a).tdiv (wr b) * wr b) = (wr a).tdiv (wr b) * wr b := w64 (tdiv_mul_bd ⟨by omega, by omega⟩)
  have f3 : wrap64 (wr a - (wr a).tdiv (wr b) * wr b) = (wr a).tmod (wr b) := by rw [sub_tdiv]; exact w64 (tmod_bd2 ⟨by omega, by omega⟩)
  by_cases hz : wr b = 0
  · have z1 : (wr b == 0) = true := by simp [hz]
    have z2 : decide (wr b = 0) = true := by simp [hz]
    rw [show wr (md (wr a) (wr b)) = 0 by rw [hz]; simp [md, wr], show (!decide (wr b = 0)) = false by simp [hz]]
    clear hz
    go_enter Tryd.func16, Tryd.ntmps16
    go_wp2_with (first
      | (go_at_call 15; refine (refwrap_any _ _).mono ?_; rintro e w' ⟨rfl, rfl⟩)
      | (go_at_call 27; refine (refplain_any _ _).mono ?_; rintro e w' ⟨rfl, rfl⟩)
      | (go_at_call 26; refine (power_any kk hk3 _).mono ?_; rintro e w' ⟨rfl, rfl⟩)
      | (go_at_call 30; refine (reftruth_any _ _).mono ?_; rintro e w' ⟨rfl, rfl⟩))
    go_returns
    exact ⟨rfl, Below.refl _ _⟩
  · have z1 : (wr b == 0) = false := by simp [hz]
    have z2 : decide (wr b = 0) = false := by simp [hz]
    rw [show wr (md (wr a) (wr b)) = wr ((wr a).tmod (wr b)) by unfold md; rw [if_neg hz], show (!decide (wr b = 0)) = true by simp [hz]]
    go_enter Tryd.func16, Tryd.ntmps16
    go_wp2_with (first
      | (go_at_call 15; refine (refwrap_any _ _).mono ?_; rintro e w' ⟨rfl, rfl⟩)
      | (go_at_call 27; refine (refplain_any _ _).mono ?_; rintro e w' ⟨rfl, rfl⟩)
      | (go_at_call 26; refine (power_any kk hk3 _).mono ?_; rintro e w' ⟨rfl, rfl⟩)
      | (go_at_call 30; refine (reftruth_any _ _).mono ?_; rintro e w' ⟨rfl, rfl⟩))
    go_returns
    exact ⟨rfl, Below.refl _ _⟩
set_option maxRecDepth 1000000 in
set_option maxHeartbeats 4000000 in
theorem ref_6 (a b : Int) (w : World) : Calls Tryd.prog 16 #[.int .i64 6, .int .i64 a, .int .i64 b] w fun e w' => e = .returned (.tuple #[.int .i64 (wr (dv (pl (wr a)) (pl (wr b)))), .bool (!decide (pl (wr b) = 0))]) ∧ Below w.heap.size w w' := by
  have h1 := wr_bd a
  have h2 := wr_bd b
  have h5 := pl_bd (wr a)
  have h6 := pl_bd (wr b)
  obtain ⟨kk, hkk⟩ : ∃ kk, kk = (wr b % 32).toNat := ⟨_, rfl⟩
  have hk1 : pl (wr b) % 32 = (kk : Int) := by rw [hkk]; unfold pl; omega
  have hk2 : (pl (wr b)).tmod 32 = (kk : Int) := by rw [Int.tmod_eq_emod_of_nonneg h6.1, hk1]
  have hk3 : kk ≤ 31 := by omega
  clear hkk
  have f1 : wrap64 ((pl (wr a)).tdiv (pl (wr b))) = (pl (wr a)).tdiv (pl (wr b)) := w64 (tdiv_bd ⟨by omega, by omega⟩)
  by_cases hz : wr b = 0
  · have z1 : (wr b == 0) = true := by simp [hz]
    have z2 : decide (wr b = 0) = true := by simp [hz]
    rw [show wr (dv (pl (wr a)) (pl (wr b))) = 0 by rw [pl0s hz]; simp [dv, wr], show (!decide (pl (wr b) = 0)) = false by simp [pl0s hz]]
    clear hz
    go_enter Tryd.func16, Tryd.ntmps16
    go_wp2_with (first
      | (go_at_call 15; refine (refwrap_any _ _).mono ?_; rintro e w' ⟨rfl, rfl⟩)
      | (go_at_call 27; refine (refplain_any _ _).mono ?_; rintro e w' ⟨rfl, rfl⟩)
      | (go_at_call 26; refine (power_any kk hk3 _).mono ?_; rintro e w' ⟨rfl, rfl⟩)
      | (go_at_call 30; refine (reftruth_any _ _).mono ?_; rintro e w' ⟨rfl, rfl⟩))
    go_returns
    exact ⟨rfl, Below.refl _ _⟩
  · have z1 : (wr b == 0) = false := by simp [hz]
    have z2 : decide (wr b = 0) = false := by simp [hz]
    rw [show wr (dv (pl (wr a)) (pl (wr b))) = wr (pl (wr a) / pl (wr b)) by unfold dv; rw [if_neg (pl0n hz), Int.tdiv_eq_ediv_of_nonneg h5.1], show (!decide (pl (wr b) = 0)) = true by simp [pl0n hz]]
    have q1 : (pl (wr b) == 0) = false := by simp [pl0n hz]
    have q2 : decide (pl (wr b) = 0) = false := by simp [pl0n hz]
    have q3 := pl0n hz
    go_enter Tryd.func16, Tryd.ntmps16
    go_wp2_with (first
      | (go_at_call 15; refine (refwrap_any _ _).mono ?_; rintro e w' ⟨rfl, rfl⟩)
      | (go_at_call 27; refine (refplain_any _ _).mono ?_; rintro e w' ⟨rfl, rfl⟩)
      | (go_at_call 26; refine (power_any kk hk3 _).mono ?_; rintro e w' ⟨rfl, rfl⟩)
      | (go_at_call 30; refine (reftruth_any _ _).mono ?_; rintro e w' ⟨rfl, rfl⟩))
    go_returns
    exact ⟨rfl, Below.refl _ _⟩
set_option maxRecDepth 1000000 in
set_option maxHeartbeats 4000000 in
theorem ref_7 (a b : Int) (w : World) : Calls Tryd.prog 16 #[.int .i64 7, .int .i64 a, .int .i64 b] w fun e w' => e = .returned (.tuple #[.int .i64 (wr (md (pl (wr a)) (pl (wr b)))), .bool (!decide (pl (wr b) = 0))]) ∧ Below w.heap.size w w' := by
  have h1 := wr_bd a
  have h2 := wr_bd b
  have h5 := pl_bd (wr a)
  have h6 := pl_bd (wr b)
  obtain ⟨kk, hkk⟩ : ∃ kk, kk = (wr b % 32).toNat := ⟨_, rfl⟩
  have hk1 : pl (wr b) % 32 = (kk : Int) := by rw [hkk]; unfold pl; omega
  have hk2 : (pl (wr b)).tmod 32 = (kk : Int) := by rw [Int.tmod_eq_emod_of_nonneg h6.1, hk1]
  have hk3 : kk ≤ 31 := by omega
  clear hkk
  have f1 : wrap64 ((pl (wr a)).tdiv (pl (wr b))) = (pl (wr a)).tdiv (pl (wr b)) := w64 (tdiv_bd ⟨by omega, by omega⟩)
  have f2 : wrap64 ((pl (wr a)).tdiv (pl (wr b)) * pl (wr b)) = (pl (wr a)).tdiv (pl (wr b)) * pl (wr b) := w64 (tdiv_mul_bd ⟨by omega, by omega⟩)
  have f3 : wrap64 (pl (wr a) - (pl (wr a)).tdiv (pl (wr b)) * pl (wr b)) = (pl (wr a)).tmod (pl (wr b)) := by rw [sub_tdiv]; exact w64 (tmod_bd2 ⟨by omega, by omega⟩)
  have e0 : (pl (wr a)).tdiv (pl (wr b)) = pl (wr a) / pl (wr b) := Int.tdiv_eq_ediv_of_nonneg h5.1
  have g1 := f1
  have g2 := f2
  have g3 := f3
  rw [e0] at g1 g2 g3
  by_cases hz : wr b = 0
  · have z1 : (wr b == 0) = true := by simp [hz]
    have z2 : decide (wr b = 0) = true := by simp [hz]
    rw [show wr (md (pl (wr a)) (pl (wr b))) = 0 by rw [pl0s hz]; simp [md, wr], show (!decide (pl (wr b) = 0)) = false by simp [pl0s hz]]
    clear hz
    go_enter Tryd.func16, Tryd.ntmps16
    go_wp2_with (first
      | (go_at_call 15; refine (refwrap_any _ _).mono ?_; rintro e w' ⟨rfl, rfl⟩)
      | (go_at_call 27; refine (refplain_any _ _).mono ?_; rintro e w' ⟨rfl, rfl⟩)
      | (go_at_call 26; refine (power_any kk hk3 _).mono ?_; rintro e w' ⟨rfl, rfl⟩)
      | (go_at_call 30; refine (reftruth_any _ _).mono ?_; rintro e w' ⟨rfl, rfl⟩))
    go_returns
    exact ⟨rfl, Below.refl _ _⟩
  · have z1 : (wr b == 0) = false := by simp [hz]
    have z2 : decide (wr b = 0) = false := by simp [hz]
    rw [show wr (md (pl (wr a)) (pl (wr b))) = wr (pl (wr a) % pl (wr b)) by unfold md; rw [if_neg (pl0n hz), Int.tmod_eq_emod_of_nonneg h5.1], show (!decide (pl (wr b) = 0)) = true by simp [pl0n hz]]
    have q1 : (pl (wr b) == 0) = false := by simp [pl0n hz]
    have q2 : decide (pl (wr b) = 0) = false := by simp [pl0n hz]
    have q3 := pl0n hz
    go_enter Tryd.func16, Tryd.ntmps16
    go_wp2_with (first
      | (go_at_call 15; refine (refwrap_any _ _).mono ?_; rintro e w' ⟨rfl, rfl⟩)
      | (go_at_call 27; refine (refplain_any _ _).mono ?_; rintro e w' ⟨rfl, rfl⟩)
      | (go_at_call 26; refine (power_any kk hk3 _).mono ?_; rintro e w' ⟨rfl, rfl⟩)
      | (go_at_call 30; refine (reftruth_any _ _).mono ?_; rintro e w' ⟨rfl, rfl⟩))
    refine wp_region_later (by kernel_rfl) (by kernel_rfl) ?_
    repeat (go_big_quiet_step ((go_at_call 27; exact Calls.later_same (refplain_any _ _))))
    refine wpQuiet_nil ?_
    rintro w1 ⟨s, rfl⟩
    have hb1 := s.h
    go_wp2_with (go_at_call 15; refine (refwrap_any _ _).mono ?_; rintro e w' ⟨rfl, rfl⟩)
    go_returns
    exact ⟨rfl, hb1⟩
set_option maxRecDepth 1000000 in
set_option maxHeartbeats 4000000 in
theorem ref_8 (a b : Int) (w : World) : Calls Tryd.prog 16 #[.int .i64 8, .int .i64 a, .int .i64 b] w fun e w' => e = .returned (.tuple #[.int .i64 (wr (bits .and .i64 (wr a) (wr b))), .bool (true)]) ∧ Below w.heap.size w w' := by
  have h1 := wr_bd a
  have h2 := wr_bd b
  have h5 := pl_bd (wr a)
  have h6 := pl_bd (wr b)
  obtain ⟨kk, hkk⟩ : ∃ kk, kk = (wr b % 32).toNat := ⟨_, rfl⟩
  have hk1 : pl (wr b) % 32 = (kk : Int) := by rw [hkk]; unfold pl; omega
  have hk2 : (pl (wr b)).tmod 32 = (kk : Int) := by rw [Int.tmod_eq_emod_of_nonneg h6.1, hk1]
  have hk3 : kk ≤ 31 := by omega
  clear hkk
  rw [(show wr (bits .and .i64 (wr a) (wr b)) = wr (((b32 (wr a) &&& b32 (wr b)).toNat : Nat) : Int) by rw [v_and, wr_nat, b32_wr, b32_wr])]
  by_cases hz : wr b = 0
  · have z1 : (wr b == 0) = true := by simp [hz]
    have z2 : decide (wr b = 0) = true := by simp [hz]
    clear hz
    go_enter Tryd.func16, Tryd.ntmps16
    go_wp2_with (first
      | (go_at_call 15; refine (refwrap_any _ _).mono ?_; rintro e w' ⟨rfl, rfl⟩)
      | (go_at_call 27; refine (refplain_any _ _).mono ?_; rintro e w' ⟨rfl, rfl⟩)
      | (go_at_call 26; refine (power_any kk hk3 _).mono ?_; rintro e w' ⟨rfl, rfl⟩)
      | (go_at_call 28; refine (bits0_any (wr a) (wr b) _).mono ?_; rintro e w1 ⟨rfl, hb1⟩)
      | (go_at_call 30; refine (reftruth_any _ _).mono ?_; rintro e w' ⟨rfl, rfl⟩))
    go_returns
    exact ⟨rfl, hb1⟩
  · have z1 : (wr b == 0) = false := by simp [hz]
    have z2 : decide (wr b = 0) = false := by simp [hz]
    go_enter Tryd.func16, Tryd.ntmps16
    go_wp2_with (first
      | (go_at_call 15; refine (refwrap_any _ _).mono ?_; rintro e w' ⟨rfl, rfl⟩)
      | (go_at_call 27; refine (refplain_any _ _).mono ?_; rintro e w' ⟨rfl, rfl⟩)
      | (go_at_call 26; refine (power_any kk hk3 _).mono ?_; rintro e w' ⟨rfl, rfl⟩)
      | (go_at_call 28; refine (bits0_any (wr a) (wr b) _).mono ?_; rintro e w1 ⟨rfl, hb1⟩)
      | (go_at_call 30; refine (reftruth_any _ _).mono ?_; rintro e w' ⟨rfl, rfl⟩))
    go_returns
    exact ⟨rfl, hb1⟩
set_option maxRecDepth 1000000 in
set_option maxHeartbeats 4000000 in
theorem ref_9 (a b : Int) (w : World) : Calls Tryd.prog 16 #[.int .i64 9, .int .i64 a, .int .i64 b] w fun e w' => e = .returned (.tuple #[.int .i64 (wr (bits .or .i64 (wr a) (wr b))), .bool (true)]) ∧ Below w.heap.size w w' := by
  have h1 := wr_bd a
  have h2 := wr_bd b
  have h5 := pl_bd (wr a)
  have h6 := pl_bd (wr b)
  obtain ⟨kk, hkk⟩ : ∃ kk, kk = (wr b % 32).toNat := ⟨_, rfl⟩
  have hk1 : pl (wr b) % 32 = (kk : Int) := by rw [hkk]; unfold pl; omega
  have hk2 : (pl (wr b)).tmod 32 = (kk : Int) := by rw [Int.tmod_eq_emod_of_nonneg h6.1, hk1]
  have hk3 : kk ≤ 31 := by omega
  clear hkk
  rw [(show wr (bits .or .i64 (wr a) (wr b)) = wr (((b32 (wr a) ||| b32 (wr b)).toNat : Nat) : Int) by rw [v_or, wr_nat, b32_wr, b32_wr])]
  by_cases hz : wr b = 0
  · have z1 : (wr b == 0) = true := by simp [hz]
    have z2 : decide (wr b = 0) = true := by simp [hz]
    clear hz
    go_enter Tryd.func16, Tryd.ntmps16
    go_wp2_with (first
      | (go_at_call 15; refine (refwrap_any _ _).mono ?_; rintro e w' ⟨rfl, rfl⟩)
      | (go_at_call 27; refine (refplain_any _ _).mono ?_; rintro e w' ⟨rfl, rfl⟩)
      | (go_at_call 26; refine (power_any kk hk3 _).mono ?_; rintro e w' ⟨rfl, rfl⟩)
      | (go_at_call 28; refine (bits1_any (wr a) (wr b) _).mono ?_; rintro e w1 ⟨rfl, hb1⟩)
      | (go_at_call 30; refine (reftruth_any _ _).mono ?_; rintro e w' ⟨rfl, rfl⟩))
    go_returns
    exact ⟨rfl, hb1⟩
  · have z1 : (wr b == 0) = false := by simp [hz]
    have z2 : decide (wr b = 0) = false := by simp [hz]
    go_enter Tryd.func16, Tryd.ntmps16
    go_wp2_with (first
      | (go_at_call 15; refine (refwrap_any _ _).mono ?_; rintro e w' ⟨rfl, rfl⟩)
      | (go_at_call 27; refine (refplain_any _ _).mono ?_; rintro e w' ⟨rfl, rfl⟩)
      | (go_at_call 26; refine (power_any kk hk3 _).mono ?_; rintro e w' ⟨rfl, rfl⟩)
      | (go_at_call 28; refine (bits1_any (wr a) (wr b) _).mono ?_; rintro e w1 ⟨rfl, hb1⟩)
      | (go_at_call 30; refine (reftruth_any _ _).mono ?_; rintro e w' ⟨rfl, rfl⟩))
    go_returns
    exact ⟨rfl, hb1⟩
set_option maxRecDepth 1000000 in
set_option maxHeartbeats 4000000 in
theorem ref_10 (a b : Int) (w : World) : Calls Tryd.prog 16 #[.int .i64 10, .int .i64 a, .int .i64 b] w fun e w' => e = .returned (.tuple #[.int .i64 (wr (bits .xor .i64 (wr a) (wr b))), .bool (true)]) ∧ Below w.heap.size w w' := by
  have h1 := wr_bd a
  have h2 := wr_bd b
  have h5 := pl_bd (wr a)
  have h6 := pl_bd (wr b)
  obtain ⟨kk, hkk⟩ : ∃ kk, kk = (wr b % 32).toNat := ⟨_, rfl⟩
  have hk1 : pl (wr b) % 32 = (kk : Int) := by rw [hkk]; unfold pl; omega
  have hk2 : (pl (wr b)).tmod 32 = (kk : Int) := by rw [Int.tmod_eq_emod_of_nonneg h6.1, hk1]
  have hk3 : kk ≤ 31 := by omega
  clear hkk
  rw [(show wr (bits .xor .i64 (wr a) (wr b)) = wr (((b32 (wr a) ^^^ b32 (wr b)).toNat : Nat) : Int) by rw [v_xor, wr_nat, b32_wr, b32_wr])]
  by_cases hz : wr b = 0
  · have z1 : (wr b == 0) = true := by simp [hz]
    have z2 : decide (wr b = 0) = true := by simp [hz]
    clear hz
    go_enter Tryd.func16, Tryd.ntmps16
    go_wp2_with (first
      | (go_at_call 15; refine (refwrap_any _ _).mono ?_; rintro e w' ⟨rfl, rfl⟩)
      | (go_at_call 27; refine (refplain_any _ _).mono ?_; rintro e w' ⟨rfl, rfl⟩)
      | (go_at_call 26; refine (power_any kk hk3 _).mono ?_; rintro e w' ⟨rfl, rfl⟩)
      | (go_at_call 28; refine (bits2_any (wr a) (wr b) _).mono ?_; rintro e w1 ⟨rfl, hb1⟩)
      | (go_at_call 30; refine (reftruth_any _ _).mono ?_; rintro e w' ⟨rfl, rfl⟩))
    go_returns
    exact ⟨rfl, hb1⟩
  · have z1 : (wr b == 0) = false := by simp [hz]
    have z2 : decide (wr b = 0) = false := by simp [hz]
    go_enter Tryd.func16, Tryd.ntmps16
    go_wp2_with (first
      | (go_at_call 15; refine (refwrap_any _ _).mono ?_; rintro e w' ⟨rfl, rfl⟩)
      | (go_at_call 27; refine (refplain_any _ _).mono ?_; rintro e w' ⟨rfl, rfl⟩)
      | (go_at_call 26; refine (power_any kk hk3 _).mono ?_; rintro e w' ⟨rfl, rfl⟩)
      | (go_at_call 28; refine (bits2_any (wr a) (wr b) _).mono ?_; rintro e w1 ⟨rfl, hb1⟩)
      | (go_at_call 30; refine (reftruth_any _ _).mono ?_; rintro e w' ⟨rfl, rfl⟩))
    go_returns
    exact ⟨rfl, hb1⟩
set_option maxRecDepth 1000000 in
set_option maxHeartbeats 4000000 in
theorem ref_11 (a b : Int) (w : World) : Calls Tryd.prog 16 #[.int .i64 11, .int .i64 a, .int .i64 b] w fun e w' => e = .returned (.tuple #[.int .i64 (wr (wr a * 2 ^ (wr b % 32).toNat)), .bool (true)]) ∧ Below w.heap.size w w' := by
  have h1 := wr_bd a
  have h2 := wr_bd b
  have h5 := pl_bd (wr a)
  have h6 := pl_bd (wr b)
  obtain ⟨kk, hkk⟩ : ∃ kk, kk = (wr b % 32).toNat := ⟨_, rfl⟩
  have hk1 : pl (wr b) % 32 = (kk : Int) := by rw [hkk]; unfold pl; omega
  have hk2 : (pl (wr b)).tmod 32 = (kk : Int) := by rw [Int.tmod_eq_emod_of_nonneg h6.1, hk1]
  have hk3 : kk ≤ 31 := by omega
  rw [← hkk]
  clear hkk
  have f1 : wrap64 (wr a * 2 ^ kk) = wr a * 2 ^ kk := w64 (shl_bd h1 (by omega))
  by_cases hz : wr b = 0
  · have z1 : (wr b == 0) = true := by simp [hz]
    have z2 : decide (wr b = 0) = true := by simp [hz]
    clear hz
    go_enter Tryd.func16, Tryd.ntmps16
    go_wp2_with (first
      | (go_at_call 15; refine (refwrap_any _ _).mono ?_; rintro e w' ⟨rfl, rfl⟩)
      | (go_at_call 27; refine (refplain_any _ _).mono ?_; rintro e w' ⟨rfl, rfl⟩)
      | (go_at_call 26; refine (power_any kk hk3 _).mono ?_; rintro e w' ⟨rfl, rfl⟩)
      | (go_at_call 30; refine (reftruth_any _ _).mono ?_; rintro e w' ⟨rfl, rfl⟩))
    go_returns
    exact ⟨rfl, Below.refl _ _⟩
  · have z1 : (wr b == 0) = false := by simp [hz]
    have z2 : decide (wr b = 0) = false := by simp [hz]
    go_enter Tryd.func16, Tryd.ntmps16
    go_wp2_with (first
      | (go_at_call 15; refine (refwrap_any _ _).mono ?_; rintro e w' ⟨rfl, rfl⟩)
      | (go_at_call 27; refine (refplain_any _ _).mono ?_; rintro e w' ⟨rfl, rfl⟩)
      | (go_at_call 26; refine (power_any kk hk3 _).mono ?_; rintro e w' ⟨rfl, rfl⟩)
      | (go_at_call 30; refine (reftruth_any _ _).mono ?_; rintro e w' ⟨rfl, rfl⟩))
    go_returns
    exact ⟨rfl, Below.refl _ _⟩
set_option maxRecDepth 1000000 in
set_option maxHeartbeats 4000000 in
theorem ref_12 (a b : Int) (w : World) : Calls Tryd.prog 16 #[.int .i64 12, .int .i64 a, .int .i64 b] w fun e w' => e = .returned (.tuple #[.int .i64 (wr (wr a / 2 ^ (wr b % 32).toNat)), .bool (true)]) ∧ Below w.heap.size w w' := by
  have h1 := wr_bd a
  have h2 := wr_bd b
  have h5 := pl_bd (wr a)
  have h6 := pl_bd (wr b)
  obtain ⟨kk, hkk⟩ : ∃ kk, kk = (wr b % 32).toNat := ⟨_, rfl⟩
  have hk1 : pl (wr b) % 32 = (kk : Int) := by rw [hkk]; unfold pl; omega
  have hk2 : (pl (wr b)).tmod 32 = (kk : Int) := by rw [Int.tmod_eq_emod_of_nonneg h6.1, hk1]
  have hk3 : kk ≤ 31 := by omega
  rw [← hkk]
  clear hkk
  by_cases hz : wr b = 0
  · have z1 : (wr b == 0) = true := by simp [hz]
    have z2 : decide (wr b = 0) = true := by simp [hz]
    clear hz
    go_enter Tryd.func16, Tryd.ntmps16
    go_wp2_with (first
      | (go_at_call 15; refine (refwrap_any _ _).mono ?_; rintro e w' ⟨rfl, rfl⟩)
      | (go_at_call 27; refine (refplain_any _ _).mono ?_; rintro e w' ⟨rfl, rfl⟩)
      | (go_at_call 26; refine (power_any kk hk3 _).mono ?_; rintro e w' ⟨rfl, rfl⟩)
      | (go_at_call 29; refine (down_any (wr a) kk h1 (by omega) _).mono ?_; rintro e w1 ⟨rfl, hb1⟩)
      | (go_at_call 30; refine (reftruth_any _ _).mono ?_; rintro e w' ⟨rfl, rfl⟩))
    go_returns
    exact ⟨rfl, hb1⟩
  · have z1 : (wr b == 0) = false := by simp [hz]
    have z2 : decide (wr b = 0) = false := by simp [hz]
    go_enter Tryd.func16, Tryd.ntmps16
    go_wp2_with (first
      | (go_at_call 15; refine (refwrap_any _ _).mono ?_; rintro e w' ⟨rfl, rfl⟩)
      | (go_at_call 27; refine (refplain_any _ _).mono ?_; rintro e w' ⟨rfl, rfl⟩)
      | (go_at_call 26; refine (power_any kk hk3 _).mono ?_; rintro e w' ⟨rfl, rfl⟩)
      | (go_at_call 29; refine (down_any (wr a) kk h1 (by omega) _).mono ?_; rintro e w1 ⟨rfl, hb1⟩)
      | (go_at_call 30; refine (reftruth_any _ _).mono ?_; rintro e w' ⟨rfl, rfl⟩))
    go_returns
    exact ⟨rfl, hb1⟩
set_option maxRecDepth 1000000 in
set_option maxHeartbeats 4000000 in
theorem ref_13 (a b : Int) (w : World) : Calls Tryd.prog 16 #[.int .i64 13, .int .i64 a, .int .i64 b] w fun e w' => e = .returned (.tuple #[.int .i64 (wr (pl (wr a) / 2 ^ (wr b % 32).toNat)), .bool (true)]) ∧ Below w.heap.size w w' := by
  have h1 := wr_bd a
  have h2 := wr_bd b
  have h5 := pl_bd (wr a)
  have h6 := pl_bd (wr b)
  obtain ⟨kk, hkk⟩ : ∃ kk, kk = (wr b % 32).toNat := ⟨_, rfl⟩
  have hk1 : pl (wr b) % 32 = (kk : Int) := by rw [hkk]; unfold pl; omega
  have hk2 : (pl (wr b)).tmod 32 = (kk : Int) := by rw [Int.tmod_eq_emod_of_nonneg h6.1, hk1]
  have hk3 : kk ≤ 31 := by omega
  rw [← hkk]
  clear hkk
  have f00 : (0 : Int) < 2 ^ kk := Int.pow_pos (by decide)
  have f0 : 0 ≤ pl (wr a) / 2 ^ kk := Int.ediv_nonneg h5.1 (Int.le_of_lt f00)
  have f9 : pl (wr a) / 2 ^ kk ≤ pl (wr a) := Int.ediv_le_self _ h5.1
  have f1 : (pl (wr a)).tdiv (2 ^ kk) = pl (wr a) / 2 ^ kk := Int.tdiv_eq_ediv_of_nonneg h5.1
  have f2 : wrap64 ((pl (wr a)).tdiv (2 ^ kk)) = pl (wr a) / 2 ^ kk := by rw [f1]; exact w64 (by omega)
  have f3 : wrap64 (pl (wr a) / 2 ^ kk) = pl (wr a) / 2 ^ kk := w64 (by omega)
  have f5 : ¬ (2 : Int) ^ kk = 0 := by omega
  have f4 : ((2 : Int) ^ kk == 0) = false := beq_eq_false_iff_ne.2 f5
  by_cases hz : wr b = 0
  · have z1 : (wr b == 0) = true := by simp [hz]
    have z2 : decide (wr b = 0) = true := by simp [hz]
    clear hz
    go_enter Tryd.func16, Tryd.ntmps16
    go_wp2_with (first
      | (go_at_call 15; refine (refwrap_any _ _).mono ?_; rintro e w' ⟨rfl, rfl⟩)
      | (go_at_call 27; refine (refplain_any _ _).mono ?_; rintro e w' ⟨rfl, rfl⟩)
      | (go_at_call 26; refine (power_any kk hk3 _).mono ?_; rintro e w' ⟨rfl, rfl⟩)
      | (go_at_call 30; refine (reftruth_any _ _).mono ?_; rintro e w' ⟨rfl, rfl⟩))
    go_returns
    exact ⟨rfl, Below.refl _ _⟩
  · have z1 : (wr b == 0) = false := by simp [hz]
    have z2 : decide (wr b = 0) = false := by simp [hz]
    go_enter Tryd.func16, Tryd.ntmps16
    go_wp2_with (first
      | (go_at_call 15; refine (refwrap_any _ _).mono ?_; rintro e w' ⟨rfl, rfl⟩)
      | (go_at_call 27; refine (refplain_any _ _).mono ?_; rintro e w' ⟨rfl, rfl⟩)
      | (go_at_call 26; refine (power_any kk hk3 _).mono ?_; rintro e w' ⟨rfl, rfl⟩)
      | (go_at_call 30; refine (reftruth_any _ _).mono ?_; rintro e w' ⟨rfl, rfl⟩))
    go_returns
    exact ⟨rfl, Below.refl _ _⟩
set_option maxRecDepth 1000000 in
set_option maxHeartbeats 4000000 in
theorem ref_14 (a b : Int) (w : World) : Calls Tryd.prog 16 #[.int .i64 14, .int .i64 a, .int .i64 b] w fun e w' => e = .returned (.tuple #[.int .i64 (wr (tv (wr a == wr b))), .bool (true)]) ∧ Below w.heap.size w w' := by
  have h1 := wr_bd a
  have h2 := wr_bd b
  have h5 := pl_bd (wr a)
  have h6 := pl_bd (wr b)
  obtain ⟨kk, hkk⟩ : ∃ kk, kk = (wr b % 32).toNat := ⟨_, rfl⟩
  have hk1 : pl (wr b) % 32 = (kk : Int) := by rw [hkk]; unfold pl; omega
  have hk2 : (pl (wr b)).tmod 32 = (kk : Int) := by rw [Int.tmod_eq_emod_of_nonneg h6.1, hk1]
  have hk3 : kk ≤ 31 := by omega
  clear hkk
  by_cases hz : wr b = 0
  · have z1 : (wr b == 0) = true := by simp [hz]
    have z2 : decide (wr b = 0) = true := by simp [hz]
    clear hz
    go_enter Tryd.func16, Tryd.ntmps16
    go_wp2_with (first
      | (go_at_call 15; refine (refwrap_any _ _).mono ?_; rintro e w' ⟨rfl, rfl⟩)
      | (go_at_call 27; refine (refplain_any _ _).mono ?_; rintro e w' ⟨rfl, rfl⟩)
      | (go_at_call 26; refine (power_any kk hk3 _).mono ?_; rintro e w' ⟨rfl, rfl⟩)
      | (go_at_call 30; refine (reftruth_any _ _).mono ?_; rintro e w' ⟨rfl, rfl⟩))
    go_returns
    exact ⟨rfl, Below.refl _ _⟩
  · have z1 : (wr b == 0) = false := by simp [hz]
    have z2 : decide (wr b = 0) = false := by simp [hz]
    go_enter Tryd.func16, Tryd.ntmps16
    go_wp2_with (first
      | (go_at_call 15; refine (refwrap_any _ _).mono ?_; rintro e w' ⟨rfl, rfl⟩)
      | (go_at_call 27; refine (refplain_any _ _).mono ?_; rintro e w' ⟨rfl, rfl⟩)
      | (go_at_call 26; refine (power_any kk hk3 _).mono ?_; rintro e w' ⟨rfl, rfl⟩)
      | (go_at_call 30; refine (reftruth_any _ _).mono ?_; rintro e w' ⟨rfl, rfl⟩))
    go_returns
    exact ⟨rfl, Below.refl _ _⟩
set_option maxRecDepth 1000000 in
set_option maxHeartbeats 4000000 in
theorem ref_15 (a b : Int) (w : World) : Calls Tryd.prog 16 #[.int .i64 15, .int .i64 a, .int .i64 b] w fun e w' => e = .returned (.tuple #[.int .i64 (wr (tv (wr a != wr b))), .bool (true)]) ∧ Below w.heap.size w w' := by
  have h1 := wr_bd a
  have h2 := wr_bd b
  have h5 := pl_bd (wr a)
  have h6 := pl_bd (wr b)
  obtain ⟨kk, hkk⟩ : ∃ kk, kk = (wr b % 32).toNat := ⟨_, rfl⟩
  have hk1 : pl (wr b) % 32 = (kk : Int) := by rw [hkk]; unfold pl; omega
  have hk2 : (pl (wr b)).tmod 32 = (kk : Int) := by rw [Int.tmod_eq_emod_of_nonneg h6.1, hk1]
  have hk3 : kk ≤ 31 := by omega
  clear hkk
  by_cases hz : wr b = 0
  · have z1 : (wr b == 0) = true := by simp [hz]
    have z2 : decide (wr b = 0) = true := by simp [hz]
    clear hz
    go_enter Tryd.func16, Tryd.ntmps16
    go_wp2_with (first
      | (go_at_call 15; refine (refwrap_any _ _).mono ?_; rintro e w' ⟨rfl, rfl⟩)
      | (go_at_call 27; refine (refplain_any _ _).mono ?_; rintro e w' ⟨rfl, rfl⟩)
      | (go_at_call 26; refine (power_any kk hk3 _).mono ?_; rintro e w' ⟨rfl, rfl⟩)
      | (go_at_call 30; refine (reftruth_any _ _).mono ?_; rintro e w' ⟨rfl, rfl⟩))
    go_returns
    exact ⟨rfl, Below.refl _ _⟩
  · have z1 : (wr b == 0) = false := by simp [hz]
    have z2 : decide (wr b = 0) = false := by simp [hz]
    go_enter Tryd.func16, Tryd.ntmps16
    go_wp2_with (first
      | (go_at_call 15; refine (refwrap_any _ _).mono ?_; rintro e w' ⟨rfl, rfl⟩)
      | (go_at_call 27; refine (refplain_any _ _).mono ?_; rintro e w' ⟨rfl, rfl⟩)
      | (go_at_call 26; refine (power_any kk hk3 _).mono ?_; rintro e w' ⟨rfl, rfl⟩)
      | (go_at_call 30; refine (reftruth_any _ _).mono ?_; rintro e w' ⟨rfl, rfl⟩))
    go_returns
    exact ⟨rfl, Below.refl _ _⟩
set_option maxRecDepth 1000000 in
set_option maxHeartbeats 4000000 in
theorem ref_16 (a b : Int) (w : World) : Calls Tryd.prog 16 #[.int .i64 16, .int .i64 a, .int .i64 b] w fun e w' => e = .returned (.tuple #[.int .i64 (wr (tv (decide (wr a < wr b)))), .bool (true)]) ∧ Below w.heap.size w w' := by
  have h1 := wr_bd a
  have h2 := wr_bd b
  have h5 := pl_bd (wr a)
  have h6 := pl_bd (wr b)
  obtain ⟨kk, hkk⟩ : ∃ kk, kk = (wr b % 32).toNat := ⟨_, rfl⟩
  have hk1 : pl (wr b) % 32 = (kk : Int) := by rw [hkk]; unfold pl; omega
  have hk2 : (pl (wr b)).tmod 32 = (kk : Int) := by rw [Int.tmod_eq_emod_of_nonneg h6.1, hk1]
  have hk3 : kk ≤ 31 := by omega
  clear hkk
  by_cases hz : wr b = 0
  · have z1 : (wr b == 0) = true := by simp [hz]
    have z2 : decide (wr b = 0) = true := by simp [hz]
    clear hz
    go_enter Tryd.func16, Tryd.ntmps16
    go_wp2_with (first
      | (go_at_call 15; refine (refwrap_any _ _).mono ?_; rintro e w' ⟨rfl, rfl⟩)
      | (go_at_call 27; refine (refplain_any _ _).mono ?_; rintro e w' ⟨rfl, rfl⟩)
      | (go_at_call 26; refine (power_any kk hk3 _).mono ?_; rintro e w' ⟨rfl, rfl⟩)
      | (go_at_call 30; refine (reftruth_any _ _).mono ?_; rintro e w' ⟨rfl, rfl⟩))
    go_returns
    exact ⟨rfl, Below.refl _ _⟩
  · have z1 : (wr b == 0) = false := by simp [hz]
    have z2 : decide (wr b = 0) = false := by simp [hz]
    go_enter Tryd.func16, Tryd.ntmps16
    go_wp2_with (first
      | (go_at_call 15; refine (refwrap_any _ _).mono ?_; rintro e w' ⟨rfl, rfl⟩)
      | (go_at_call 27; refine (refplain_any _ _).mono ?_; rintro e w' ⟨rfl, rfl⟩)
      | (go_at_call 26; refine (power_any kk hk3 _).mono ?_; rintro e w' ⟨rfl, rfl⟩)
      | (go_at_call 30; refine (reftruth_any _ _).mono ?_; rintro e w' ⟨rfl, rfl⟩))
    go_returns
    exact ⟨rfl, Below.refl _ _⟩
set_option maxRecDepth 1000000 in
set_option maxHeartbeats 4000000 in
theorem ref_17 (a b : Int) (w : World) : Calls Tryd.prog 16 #[.int .i64 17, .int .i64 a, .int .i64 b] w fun e w' => e = .returned (.tuple #[.int .i64 (wr (tv (decide (wr a ≤ wr b)))), .bool (true)]) ∧ Below w.heap.size w w' := by
  have h1 := wr_bd a
  have h2 := wr_bd b
  have h5 := pl_bd (wr a)
  have h6 := pl_bd (wr b)
  obtain ⟨kk, hkk⟩ : ∃ kk, kk = (wr b % 32).toNat := ⟨_, rfl⟩
  have hk1 : pl (wr b) % 32 = (kk : Int) := by rw [hkk]; unfold pl; omega
  have hk2 : (pl (wr b)).tmod 32 = (kk : Int) := by rw [Int.tmod_eq_emod_of_nonneg h6.1, hk1]
  have hk3 : kk ≤ 31 := by omega
  clear hkk
  by_cases hl : wr a < wr b
  · have l1 : decide (wr a < wr b) = true := by simp [hl]
    rw [show wr (tv (decide (wr a ≤ wr b))) = wr (tv true) by rw [show decide (wr a ≤ wr b) = true by simp; omega]]
    by_cases hz : wr b = 0
    · have z1 : (wr b == 0) = true := by simp [hz]
      have z2 : decide (wr b = 0) = true := by simp [hz]
      clear hz
      go_enter Tryd.func16, Tryd.ntmps16
      go_wp2_with (first
        | (go_at_call 15; refine (refwrap_any _ _).mono ?_; rintro e w' ⟨rfl, rfl⟩)
        | (go_at_call 27; refine (refplain_any _ _).mono ?_; rintro e w' ⟨rfl, rfl⟩)
        | (go_at_call 26; refine (power_any kk hk3 _).mono ?_; rintro e w' ⟨rfl, rfl⟩)
        | (go_at_call 30; refine (reftruth_any _ _).mono ?_; rintro e w' ⟨rfl, rfl⟩))
      go_returns
      exact ⟨rfl, Below.refl _ _⟩
    · have z1 : (wr b == 0) = false := by simp [hz]
      have z2 : decide (wr b = 0) = false := by simp [hz]
      go_enter Tryd.func16, Tryd.ntmps16
      go_wp2_with (first
        | (go_at_call 15; refine (refwrap_any _ _).mono ?_; rintro e w' ⟨rfl, rfl⟩)
        | (go_at_call 27; refine (refplain_any _ _).mono ?_; rintro e w' ⟨rfl, rfl⟩)
        | (go_at_call 26; refine (power_any kk hk3 _).mono ?_; rintro e w' ⟨rfl, rfl⟩)
        | (go_at_call 30; refine (reftruth_any _ _).mono ?_; rintro e w' ⟨rfl, rfl⟩))
      go_returns
      exact ⟨rfl, Below.refl _ _⟩
  · have l1 : decide (wr a < wr b) = false := by simp [hl]
    rw [show wr (tv (decide (wr a ≤ wr b))) = wr (tv (wr a == wr b)) by rw [le_eq hl]]
    by_cases hz : wr b = 0
    · have z1 : (wr b == 0) = true := by simp [hz]
      have z2 : decide (wr b = 0) = true := by simp [hz]
      clear hz
      go_enter Tryd.func16, Tryd.ntmps16
      go_wp2_with (first
        | (go_at_call 15; refine (refwrap_any _ _).mono ?_; rintro e w' ⟨rfl, rfl⟩)
        | (go_at_call 27; refine (refplain_any _ _).mono ?_; rintro e w' ⟨rfl, rfl⟩)
        | (go_at_call 26; refine (power_any kk hk3 _).mono ?_; rintro e w' ⟨rfl, rfl⟩)
        | (go_at_call 30; refine (reftruth_any _ _).mono ?_; rintro e w' ⟨rfl, rfl⟩))
      go_returns
      exact ⟨rfl, Below.refl _ _⟩
    · have z1 : (wr b == 0) = false := by simp [hz]
      have z2 : decide (wr b = 0) = false := by simp [hz]
      go_enter Tryd.func16, Tryd.ntmps16
      go_wp2_with (first
        | (go_at_call 15; refine (refwrap_any _ _).mono ?_; rintro e w' ⟨rfl, rfl⟩)
        | (go_at_call 27; refine (refplain_any _ _).mono ?_; rintro e w' ⟨rfl, rfl⟩)
        | (go_at_call 26; refine (power_any kk hk3 _).mono ?_; rintro e w' ⟨rfl, rfl⟩)
        | (go_at_call 30; refine (reftruth_any _ _).mono ?_; rintro e w' ⟨rfl, rfl⟩))
      go_returns
      exact ⟨rfl, Below.refl _ _⟩
set_option maxRecDepth 1000000 in
set_option maxHeartbeats 4000000 in
theorem ref_18 (a b : Int) (w : World) : Calls Tryd.prog 16 #[.int .i64 18, .int .i64 a, .int .i64 b] w fun e w' => e = .returned (.tuple #[.int .i64 (wr (tv (decide (pl (wr a) < pl (wr b))))), .bool (true)]) ∧ Below w.heap.size w w' := by
  have h1 := wr_bd a
  have h2 := wr_bd b
  have h5 := pl_bd (wr a)
  have h6 := pl_bd (wr b)
  obtain ⟨kk, hkk⟩ : ∃ kk, kk = (wr b % 32).toNat := ⟨_, rfl⟩
  have hk1 : pl (wr b) % 32 = (kk : Int) := by rw [hkk]; unfold pl; omega
  have hk2 : (pl (wr b)).tmod 32 = (kk : Int) := by rw [Int.tmod_eq_emod_of_nonneg h6.1, hk1]
  have hk3 : kk ≤ 31 := by omega
  clear hkk
  by_cases hz : wr b = 0
  · have z1 : (wr b == 0) = true := by simp [hz]
    have z2 : decide (wr b = 0) = true := by simp [hz]
    clear hz
    go_enter Tryd.func16, Tryd.ntmps16
    go_wp2_with (first
      | (go_at_call 15; refine (refwrap_any _ _).mono ?_; rintro e w' ⟨rfl, rfl⟩)
      | (go_at_call 27; refine (refplain_any _ _).mono ?_; rintro e w' ⟨rfl, rfl⟩)
      | (go_at_call 26; refine (power_any kk hk3 _).mono ?_; rintro e w' ⟨rfl, rfl⟩)
      | (go_at_call 30; refine (reftruth_any _ _).mono ?_; rintro e w' ⟨rfl, rfl⟩))
    go_returns
    exact ⟨rfl, Below.refl _ _⟩
  · have z1 : (wr b == 0) = false := by simp [hz]
    have z2 : decide (wr b = 0) = false := by simp [hz]
    go_enter Tryd.func16, Tryd.ntmps16
    go_wp2_with (first
      | (go_at_call 15; refine (refwrap_any _ _).mono ?_; rintro e w' ⟨rfl, rfl⟩)
      | (go_at_call 27; refine (refplain_any _ _).mono ?_; rintro e w' ⟨rfl, rfl⟩)
      | (go_at_call 26; refine (power_any kk hk3 _).mono ?_; rintro e w' ⟨rfl, rfl⟩)
      | (go_at_call 30; refine (reftruth_any _ _).mono ?_; rintro e w' ⟨rfl, rfl⟩))
    go_returns
    exact ⟨rfl, Below.refl _ _⟩
set_option maxRecDepth 1000000 in
set_option maxHeartbeats 4000000 in
theorem ref_19 (a b : Int) (w : World) : Calls Tryd.prog 16 #[.int .i64 19, .int .i64 a, .int .i64 b] w fun e w' => e = .returned (.tuple #[.int .i64 (wr (tv (decide (pl (wr a) ≤ pl (wr b))))), .bool (true)]) ∧ Below w.heap.size w w' := by
  have h1 := wr_bd a
  have h2 := wr_bd b
  have h5 := pl_bd (wr a)
  have h6 := pl_bd (wr b)
  obtain ⟨kk, hkk⟩ : ∃ kk, kk = (wr b % 32).toNat := ⟨_, rfl⟩
  have hk1 : pl (wr b) % 32 = (kk : Int) := by rw [hkk]; unfold pl; omega
  have hk2 : (pl (wr b)).tmod 32 = (kk : Int) := by rw [Int.tmod_eq_emod_of_nonneg h6.1, hk1]
  have hk3 : kk ≤ 31 := by omega
  clear hkk
  by_cases hz : wr b = 0
  · have z1 : (wr b == 0) = true := by simp [hz]
    have z2 : decide (wr b = 0) = true := by simp [hz]
    clear hz
    go_enter Tryd.func16, Tryd.ntmps16
    go_wp2_with (first
      | (go_at_call 15; refine (refwrap_any _ _).mono ?_; rintro e w' ⟨rfl, rfl⟩)
      | (go_at_call 27; refine (refplain_any _ _).mono ?_; rintro e w' ⟨rfl, rfl⟩)
      | (go_at_call 26; refine (power_any kk hk3 _).mono ?_; rintro e w' ⟨rfl, rfl⟩)
      | (go_at_call 30; refine (reftruth_any _ _).mono ?_; rintro e w' ⟨rfl, rfl⟩))
    go_returns
    exact ⟨rfl, Below.refl _ _⟩
  · have z1 : (wr b == 0) = false := by simp [hz]
    have z2 : decide (wr b = 0) = false := by simp [hz]
    go_enter Tryd.func16, Tryd.ntmps16
    go_wp2_with (first
      | (go_at_call 15; refine (refwrap_any _ _).mono ?_; rintro e w' ⟨rfl, rfl⟩)
      | (go_at_call 27; refine (refplain_any _ _).mono ?_; rintro e w' ⟨rfl, rfl⟩)
      | (go_at_call 26; refine (power_any kk hk3 _).mono ?_; rintro e w' ⟨rfl, rfl⟩)
      | (go_at_call 30; refine (reftruth_any _ _).mono ?_; rintro e w' ⟨rfl, rfl⟩))
    go_returns
    exact ⟨rfl, Below.refl _ _⟩
set_option maxRecDepth 1000000 in
set_option maxHeartbeats 4000000 in
theorem ref_20 (a b : Int) (w : World) : Calls Tryd.prog 16 #[.int .i64 20, .int .i64 a, .int .i64 b] w fun e w' => e = .returned (.tuple #[.int .i64 (wr (-wr a)), .bool (true)]) ∧ Below w.heap.size w w' := by
  have h1 := wr_bd a
  have h2 := wr_bd b
  have h5 := pl_bd (wr a)
  have h6 := pl_bd (wr b)
  obtain ⟨kk, hkk⟩ : ∃ kk, kk = (wr b % 32).toNat := ⟨_, rfl⟩
  have hk1 : pl (wr b) % 32 = (kk : Int) := by rw [hkk]; unfold pl; omega
  have hk2 : (pl (wr b)).tmod 32 = (kk : Int) := by rw [Int.tmod_eq_emod_of_nonneg h6.1, hk1]
  have hk3 : kk ≤ 31 := by omega
  clear hkk
  have f1 : wrap64 (0 - wr a) = -wr a := by rw [Int.zero_sub]; exact w64 (by omega)
  have f2 : wrap64 (-wr a) = -wr a := w64 (by omega)
  by_cases hz : wr b = 0
  · have z1 : (wr b == 0) = true := by simp [hz]
    have z2 : decide (wr b = 0) = true := by simp [hz]
    clear hz
    go_enter Tryd.func16, Tryd.ntmps16
    go_wp2_with (first
      | (go_at_call 15; refine (refwrap_any _ _).mono ?_; rintro e w' ⟨rfl, rfl⟩)
      | (go_at_call 27; refine (refplain_any _ _).mono ?_; rintro e w' ⟨rfl, rfl⟩)
      | (go_at_call 26; refine (power_any kk hk3 _).mono ?_; rintro e w' ⟨rfl, rfl⟩)
      | (go_at_call 30; refine (reftruth_any _ _).mono ?_; rintro e w' ⟨rfl, rfl⟩))
    go_returns
    exact ⟨rfl, Below.refl _ _⟩
  · have z1 : (wr b == 0) = false := by simp [hz]
    have z2 : decide (wr b = 0) = false := by simp [hz]
    go_enter Tryd.func16, Tryd.ntmps16
    go_wp2_with (first
      | (go_at_call 15; refine (refwrap_any _ _).mono ?_; rintro e w' ⟨rfl, rfl⟩)
      | (go_at_call 27; refine (refplain_any _ _).mono ?_; rintro e w' ⟨rfl, rfl⟩)
      | (go_at_call 26; refine (power_any kk hk3 _).mono ?_; rintro e w' ⟨rfl, rfl⟩)
      | (go_at_call 30; refine (reftruth_any _ _).mono ?_; rintro e w' ⟨rfl, rfl⟩))
    go_returns
    exact ⟨rfl, Below.refl _ _⟩
set_option maxRecDepth 1000000 in
set_option maxHeartbeats 4000000 in
theorem ref_21 (a b : Int) (w : World) : Calls Tryd.prog 16 #[.int .i64 21, .int .i64 a, .int .i64 b] w fun e w' => e = .returned (.tuple #[.int .i64 (wr (bits .xor .i64 (-1) (wr a))), .bool (true)]) ∧ Below w.heap.size w w' := by
  have h1 := wr_bd a
  have h2 := wr_bd b
  have h5 := pl_bd (wr a)
  have h6 := pl_bd (wr b)
  obtain ⟨kk, hkk⟩ : ∃ kk, kk = (wr b % 32).toNat := ⟨_, rfl⟩
  have hk1 : pl (wr b) % 32 = (kk : Int) := by rw [hkk]; unfold pl; omega
  have hk2 : (pl (wr b)).tmod 32 = (kk : Int) := by rw [Int.tmod_eq_emod_of_nonneg h6.1, hk1]
  have hk3 : kk ≤ 31 := by omega
  clear hkk
  have f1 : wrap64 (0 - wr a) = -wr a := by rw [Int.zero_sub]; exact w64 (by omega)
  have f2 : wrap64 (-wr a) = -wr a := w64 (by omega)
  have f3 : wrap64 (-wr a - 1) = -wr a - 1 := w64 (by omega)
  rw [(show wr (bits .xor .i64 (-1) (wr a)) = wr (-wr a - 1) by rw [xor_m1 _ h1]; congr 1; omega)]
  by_cases hz : wr b = 0
  · have z1 : (wr b == 0) = true := by simp [hz]
    have z2 : decide (wr b = 0) = true := by simp [hz]
    clear hz
    go_enter Tryd.func16, Tryd.ntmps16
    go_wp2_with (first
      | (go_at_call 15; refine (refwrap_any _ _).mono ?_; rintro e w' ⟨rfl, rfl⟩)
      | (go_at_call 27; refine (refplain_any _ _).mono ?_; rintro e w' ⟨rfl, rfl⟩)
      | (go_at_call 26; refine (power_any kk hk3 _).mono ?_; rintro e w' ⟨rfl, rfl⟩)
      | (go_at_call 30; refine (reftruth_any _ _).mono ?_; rintro e w' ⟨rfl, rfl⟩))
    go_returns
    exact ⟨rfl, Below.refl _ _⟩
  · have z1 : (wr b == 0) = false := by simp [hz]
    have z2 : decide (wr b = 0) = false := by simp [hz]
    go_enter Tryd.func16, Tryd.ntmps16
    go_wp2_with (first
      | (go_at_call 15; refine (refwrap_any _ _).mono ?_; rintro e w' ⟨rfl, rfl⟩)
      | (go_at_call 27; refine (refplain_any _ _).mono ?_; rintro e w' ⟨rfl, rfl⟩)
      | (go_at_call 26; refine (power_any kk hk3 _).mono ?_; rintro e w' ⟨rfl, rfl⟩)
      | (go_at_call 30; refine (reftruth_any _ _).mono ?_; rintro e w' ⟨rfl, rfl⟩))
    go_returns
    exact ⟨rfl, Below.refl _ _⟩
set_option maxRecDepth 1000000 in
set_option maxHeartbeats 4000000 in
theorem ref_22 (a b : Int) (w : World) : Calls Tryd.prog 16 #[.int .i64 22, .int .i64 a, .int .i64 b] w fun e w' => e = .returned (.tuple #[.int .i64 (wr (bits .and .i64 (wr a) 255)), .bool (true)]) ∧ Below w.heap.size w w' := by
  have h1 := wr_bd a
  have h2 := wr_bd b
  have h5 := pl_bd (wr a)
  have h6 := pl_bd (wr b)
  obtain ⟨kk, hkk⟩ : ∃ kk, kk = (wr b % 32).toNat := ⟨_, rfl⟩
  have hk1 : pl (wr b) % 32 = (kk : Int) := by rw [hkk]; unfold pl; omega
  have hk2 : (pl (wr b)).tmod 32 = (kk : Int) := by rw [Int.tmod_eq_emod_of_nonneg h6.1, hk1]
  have hk3 : kk ≤ 31 := by omega
  clear hkk
  have f1 : (pl (wr a)).tmod 256 = wr a % 256 := by rw [Int.tmod_eq_emod_of_nonneg h5.1]; unfold pl; omega
  have f2 : pl (wr a) % 256 = wr a % 256 := by unfold pl; omega
  rw [(show wr (bits .and .i64 (wr a) 255) = wr (wr a % 256) by rw [and255])]
  by_cases hz : wr b = 0
  · have z1 : (wr b == 0) = true := by simp [hz]
    have z2 : decide (wr b = 0) = true := by simp [hz]
    clear hz
    go_enter Tryd.func16, Tryd.ntmps16
    go_wp2_with (first
      | (go_at_call 15; refine (refwrap_any _ _).mono ?_; rintro e w' ⟨rfl, rfl⟩)
      | (go_at_call 27; refine (refplain_any _ _).mono ?_; rintro e w' ⟨rfl, rfl⟩)
      | (go_at_call 26; refine (power_any kk hk3 _).mono ?_; rintro e w' ⟨rfl, rfl⟩)
      | (go_at_call 30; refine (reftruth_any _ _).mono ?_; rintro e w' ⟨rfl, rfl⟩))
    go_returns
    exact ⟨rfl, Below.refl _ _⟩
  · have z1 : (wr b == 0) = false := by simp [hz]
    have z2 : decide (wr b = 0) = false := by simp [hz]
    go_enter Tryd.func16, Tryd.ntmps16
    go_wp2_with (first
      | (go_at_call 15; refine (refwrap_any _ _).mono ?_; rintro e w' ⟨rfl, rfl⟩)
      | (go_at_call 27; refine (refplain_any _ _).mono ?_; rintro e w' ⟨rfl, rfl⟩)
      | (go_at_call 26; refine (power_any kk hk3 _).mono ?_; rintro e w' ⟨rfl, rfl⟩)
      | (go_at_call 30; refine (reftruth_any _ _).mono ?_; rintro e w' ⟨rfl, rfl⟩))
    go_returns
    exact ⟨rfl, Below.refl _ _⟩
set_option maxRecDepth 1000000 in
set_option maxHeartbeats 4000000 in
theorem ref_23 (a b : Int) (w : World) : Calls Tryd.prog 16 #[.int .i64 23, .int .i64 a, .int .i64 b] w fun e w' => e = .returned (.tuple #[.int .i64 (wr (tv (wr a == 0))), .bool (true)]) ∧ Below w.heap.size w w' := by
  have h1 := wr_bd a
  have h2 := wr_bd b
  have h5 := pl_bd (wr a)
  have h6 := pl_bd (wr b)
  obtain ⟨kk, hkk⟩ : ∃ kk, kk = (wr b % 32).toNat := ⟨_, rfl⟩
  have hk1 : pl (wr b) % 32 = (kk : Int) := by rw [hkk]; unfold pl; omega
  have hk2 : (pl (wr b)).tmod 32 = (kk : Int) := by rw [Int.tmod_eq_emod_of_nonneg h6.1, hk1]
  have hk3 : kk ≤ 31 := by omega
  clear hkk
  by_cases hz : wr b = 0
  · have z1 : (wr b == 0) = true := by simp [hz]
    have z2 : decide (wr b = 0) = true := by simp [hz]
    clear hz
    go_enter Tryd.func16, Tryd.ntmps16
    go_wp2_with (first
      | (go_at_call 15; refine (refwrap_any _ _).mono ?_; rintro e w' ⟨rfl, rfl⟩)
      | (go_at_call 27; refine (refplain_any _ _).mono ?_; rintro e w' ⟨rfl, rfl⟩)
      | (go_at_call 26; refine (power_any kk hk3 _).mono ?_; rintro e w' ⟨rfl, rfl⟩)
      | (go_at_call 30; refine (reftruth_any _ _).mono ?_; rintro e w' ⟨rfl, rfl⟩))
    go_returns
    exact ⟨rfl, Below.refl _ _⟩
  · have z1 : (wr b == 0) = false := by simp [hz]
    have z2 : decide (wr b = 0) = false := by simp [hz]
    go_enter Tryd.func16, Tryd.ntmps16
    go_wp2_with (first
      | (go_at_call 15; refine (refwrap_any _ _).mono ?_; rintro e w' ⟨rfl, rfl⟩)
      | (go_at_call 27; refine (refplain_any _ _).mono ?_; rintro e w' ⟨rfl, rfl⟩)
      | (go_at_call 26; refine (power_any kk hk3 _).mono ?_; rintro e w' ⟨rfl, rfl⟩)
      | (go_at_call 30; refine (reftruth_any _ _).mono ?_; rintro e w' ⟨rfl, rfl⟩))
    go_returns
    exact ⟨rfl, Below.refl _ _⟩
end Go.Proofs.YtihbgppcacaekaaDoor

namespace Go.Proofs.YtihbgppcacaekaaDoor
open Go.RowKit Go.BigFrame

set_option maxRecDepth 1000000 in
set_option maxHeartbeats 2000000 in
theorem do_out (op a b : Int) (h : op < 1 ∨ 23 < op) (w : World) : Calls Tryd.prog 59 #[.int .i64 op, .int .i64 a, .int .i64 b] w fun e w' => e = .returned (.tuple #[.int .i64 0, .bool false]) ∧ w = w' := by
  have hn : ∀ k : Int, 1 ≤ k → k ≤ 23 → (op == k) = false := fun k h1 h2 => beq_eq_false_iff_ne.2 (by omega)
  have n1 := hn 1 (by decide) (by decide); have n2 := hn 2 (by decide) (by decide); have n3 := hn 3 (by decide) (by decide); have n4 := hn 4 (by decide) (by decide)
  have n5 := hn 5 (by decide) (by decide); have n6 := hn 6 (by decide) (by decide); have n7 := hn 7 (by decide) (by decide); have n8 := hn 8 (by decide) (by decide)
  have n9 := hn 9 (by decide) (by decide); have n10 := hn 10 (by decide) (by decide); have n11 := hn 11 (by decide) (by decide); have n12 := hn 12 (by decide) (by decide)
  have n13 := hn 13 (by decide) (by decide); have n14 := hn 14 (by decide) (by decide); have n15 := hn 15 (by decide) (by decide); have n16 := hn 16 (by decide) (by decide)
  have n17 := hn 17 (by decide) (by decide); have n18 := hn 18 (by decide) (by decide); have n19 := hn 19 (by decide) (by decide); have n20 := hn 20 (by decide) (by decide)
  have n21 := hn 21 (by decide) (by decide); have n22 := hn 22 (by decide) (by decide); have n23 := hn 23 (by decide) (by decide)
  clear hn h
  go_enter Tryd.func59, Tryd.ntmps59
  go_wp2_with (go_at_call 55; refine (wrap_any _ _).mono ?_; rintro e w' ⟨rfl, rfl⟩)
  go_returns
  exact ⟨rfl, rfl⟩

set_option maxRecDepth 1000000 in
set_option maxHeartbeats 2000000 in
theorem ref_out (op a b : Int) (h : op < 1 ∨ 23 < op) (w : World) : Calls Tryd.prog 16 #[.int .i64 op, .int .i64 a, .int .i64 b] w fun e w' => e = .returned (.tuple #[.int .i64 0, .bool false]) ∧ w = w' := by
  have h6 := pl_bd (wr b)
  obtain ⟨kk, hkk⟩ : ∃ kk, kk = (wr b % 32).toNat := ⟨_, rfl⟩
  have hk1 : pl (wr b) % 32 = (kk : Int) := by rw [hkk]; unfold pl; omega
  have hk2 : (pl (wr b)).tmod 32 = (kk : Int) := by rw [Int.tmod_eq_emod_of_nonneg h6.1, hk1]
  have hk3 : kk ≤ 31 := by omega
  clear hkk
  by_cases h1 : op < 1
  · have l1 : decide (op < 1) = true := by simp [h1]
    go_enter Tryd.func16, Tryd.ntmps16
    go_wp2_with (first
      | (go_at_call 15; refine (refwrap_any _ _).mono ?_; rintro e w' ⟨rfl, rfl⟩)
      | (go_at_call 27; refine (refplain_any _ _).mono ?_; rintro e w' ⟨rfl, rfl⟩)
      | (go_at_call 26; refine (power_any kk hk3 _).mono ?_; rintro e w' ⟨rfl, rfl⟩))
    go_returns
    exact ⟨rfl, rfl⟩
  · have h2 : 23 < op := by omega
    have l1 : decide (op < 1) = false := by simp [h1]
    have l2 : decide (23 < op) = true := by simp [h2]
    go_enter Tryd.func16, Tryd.ntmps16
    go_wp2_with (first
      | (go_at_call 15; refine (refwrap_any _ _).mono ?_; rintro e w' ⟨rfl, rfl⟩)
      | (go_at_call 27; refine (refplain_any _ _).mono ?_; rintro e w' ⟨rfl, rfl⟩)
      | (go_at_call 26; refine (power_any kk hk3 _).mono ?_; rintro e w' ⟨rfl, rfl⟩))
    go_returns
    exact ⟨rfl, rfl⟩
theorem same_below {f : FuncId} {args : Array Value} {v : Ending} {w : World} (h : Calls Tryd.prog f args w fun e w' => e = v ∧ w = w') : Calls Tryd.prog f args w fun e w' => e = v ∧ Below w.heap.size w w' :=
  h.mono fun _ _ ⟨he, hw⟩ => ⟨he, by subst hw; exact Below.refl _ _⟩
/-- word.Do -/
theorem do_any (op a b : Int) (w : World) : Calls Tryd.prog 59 #[.int .i64 op, .int .i64 a, .int .i64 b] w fun e w' => e = .returned (.tuple #[.int .i64 (dov op a b).1, .bool (dov op a b).2]) ∧ Below w.heap.size w w' := by
  by_cases ho : op < 1 ∨ 23 < op
  · have e : dov op a b = (0, false) := by
      unfold dov
      repeat rw [if_neg (by omega)]
    rw [e]
    exact same_below (do_out op a b ho w)
  · have hc : op = 1 ∨ op = 2 ∨ op = 3 ∨ op = 4 ∨ op = 5 ∨ op = 6 ∨ op = 7 ∨ op = 8 ∨ op = 9 ∨ op = 10 ∨ op = 11 ∨ op = 12 ∨ op = 13 ∨ op = 14 ∨ op = 15 ∨ op = 16 ∨ op = 17 ∨ op = 18 ∨ op = 19 ∨ op = 20 ∨ op = 21 ∨ op = 22 ∨ op = 23 := by omega
    rcases hc with rfl | rfl | rfl | rfl | rfl | rfl | rfl | rfl | rfl | rfl | rfl | rfl | rfl | rfl | rfl | rfl | rfl | rfl | rfl | rfl | rfl | rfl | rfl
    · exact same_below (do_1 a b w)
    · exact same_below (do_2 a b w)
    · exact same_below (do_3 a b w)
    · exact do_4 a b w
    · exact do_5 a b w
    · exact do_6 a b w
    · exact do_7 a b w
    · exact same_below (do_8 a b w)
    · exact same_below (do_9 a b w)
    · exact same_below (do_10 a b w)
    · exact same_below (do_11 a b w)
    · exact same_below (do_12 a b w)
    · exact same_below (do_13 a b w)
    · exact same_below (do_14 a b w)
    · exact same_below (do_15 a b w)
    · exact same_below (do_16 a b w)
    · exact same_below (do_17 a b w)
    · exact same_below (do_18 a b w)
    · exact same_below (do_19 a b w)
    · exact same_below (do_20 a b w)
    · exact same_below (do_21 a b w)
    · exact same_below (do_22 a b w)
    · exact same_below (do_23 a b w)
/-- the document's Do -/
theorem refdo_any (op a b : Int) (w : World) : Calls Tryd.prog 16 #[.int .i64 op, .int .i64 a, .int .i64 b] w fun e w' => e = .returned (.tuple #[.int .i64 (dov op a b).1, .bool (dov op a b).2]) ∧ Below w.heap.size w w' := by
  by_cases ho : op < 1 ∨ 23 < op
  · have e : dov op a b = (0, false) := by
      unfold dov
      repeat rw [if_neg (by omega)]
    rw [e]
    exact same_below (ref_out op a b ho w)
  · have hc : op = 1 ∨ op = 2 ∨ op = 3 ∨ op = 4 ∨ op = 5 ∨ op = 6 ∨ op = 7 ∨ op = 8 ∨ op = 9 ∨ op = 10 ∨ op = 11 ∨ op = 12 ∨ op = 13 ∨ op = 14 ∨ op = 15 ∨ op = 16 ∨ op = 17 ∨ op = 18 ∨ op = 19 ∨ op = 20 ∨ op = 21 ∨ op = 22 ∨ op = 23 := by omega
    rcases hc with rfl | rfl | rfl | rfl | rfl | rfl | rfl | rfl | rfl | rfl | rfl | rfl | rfl | rfl | rfl | rfl | rfl | rfl | rfl | rfl | rfl | rfl | rfl
    · exact ref_1 a b w
    · exact ref_2 a b w
    · exact ref_3 a b w
    · exact ref_4 a b w
    · exact ref_5 a b w
    · exact ref_6 a b w
    · exact ref_7 a b w
    · exact ref_8 a b w
    · exact ref_9 a b w
    · exact ref_10 a b w
    · exact ref_11 a b w
    · exact ref_12 a b w
    · exact ref_13 a b w
    · exact ref_14 a b w
    · exact ref_15 a b w
    · exact ref_16 a b w
    · exact ref_17 a b w
    · exact ref_18 a b w
    · exact ref_19 a b w
    · exact ref_20 a b w
    · exact ref_21 a b w
    · exact ref_22 a b w
    · exact ref_23 a b w
end Go.Proofs.YtihbgppcacaekaaDoor
