import Derived.Test.YtihbgppcacaekaaDoorChecked
import Derived.Test.YtihbgppcacaekaaDoorPa
import Derived.Deep.RegionWith
import Derived.ProofKit
import Derived.WalkKit
import Derived.WalkLawsBesides
import Derived.WalkSpells
import Derived.Outline
import Derived.Laws.Rows
import Derived.Lib.Hide
import Derived.Handy
import Derived.WalkMore
import Derived.ScopeJumps
import Derived.Deep.QuietTactic
import Derived.BigQuiet
import Derived.Laws.BitsLemmas
import Derived.Laws.Shifts
/- THE WORDS: word.Wrap, Is, One, Two, Plain, Do, and the document's parts. -/
namespace Go.Proofs.YtihbgppcacaekaaDoor
open Go.RowKit Go.BigFrame

theorem wrap_any (n : Int) (w : World) : Calls Tryd.prog 55 #[.int .i64 n] w fun e w' => e = .returned (.int .i64 (wr n)) ∧ w = w' := by
  have h1 : wrap64 (wrap32 (n % 4294967296)) = wr n := by unfold wrap64 wrap32 wr; omega
  go_enter Tryd.func55, Tryd.ntmps55
  go_wp2
  go_returns
  exact ⟨congrArg (fun x => Ending.returned (.int .i64 x)) h1, rfl⟩
theorem is_any (n : Int) (w : World) : Calls Tryd.prog 37 #[.int .i64 n] w fun e w' => e = .returned (.bool (decide (-2147483648 ≤ n ∧ n ≤ 2147483647))) ∧ w = w' := by
  have h : (wr n == n) = decide (-2147483648 ≤ n ∧ n ≤ 2147483647) := by
    rw [Bool.eq_iff_iff]
    simp [wr]
    omega
  rw [← h]
  clear h
  go_enter Tryd.func37, Tryd.ntmps37
  go_wp2_with (first
    | (go_at_call 55; refine (wrap_any n _).mono ?_; rintro e w1 ⟨rfl, hw⟩; subst hw))
  go_returns
  exact ⟨rfl, rfl⟩
theorem one_any (n : Int) (w : World) : Calls Tryd.prog 49 #[.int .i64 n] w fun e w' => e = .returned (.bool (decide (20 ≤ n ∧ n ≤ 23))) ∧ w = w' := by
  have hc : (decide (n ≥ 20) = true ∧ decide (20 ≤ n) = true ∧ decide (n ≤ 23) = true ∧ decide (20 ≤ n ∧ n ≤ 23) = true) ∨ (decide (n ≥ 20) = true ∧ decide (20 ≤ n) = true ∧ decide (n ≤ 23) = false ∧ decide (20 ≤ n ∧ n ≤ 23) = false) ∨ (decide (n ≥ 20) = false ∧ decide (20 ≤ n) = false ∧ decide (n ≤ 23) = true ∧ decide (20 ≤ n ∧ n ≤ 23) = false) := by simp; omega
  rcases hc with ⟨q1, q2, q3, q4⟩ | ⟨q1, q2, q3, q4⟩ | ⟨q1, q2, q3, q4⟩
  all_goals
    rw [q4]
    clear q4
    go_enter Tryd.func49, Tryd.ntmps49
    go_wp2
    go_returns
    exact ⟨rfl, rfl⟩
theorem two_any (n : Int) (w : World) : Calls Tryd.prog 50 #[.int .i64 n] w fun e w' => e = .returned (.bool (decide (1 ≤ n ∧ n ≤ 19))) ∧ w = w' := by
  have hc : (decide (n ≥ 1) = true ∧ decide (1 ≤ n) = true ∧ decide (n ≤ 19) = true ∧ decide (1 ≤ n ∧ n ≤ 19) = true) ∨ (decide (n ≥ 1) = true ∧ decide (1 ≤ n) = true ∧ decide (n ≤ 19) = false ∧ decide (1 ≤ n ∧ n ≤ 19) = false) ∨ (decide (n ≥ 1) = false ∧ decide (1 ≤ n) = false ∧ decide (n ≤ 19) = true ∧ decide (1 ≤ n ∧ n ≤ 19) = false) := by simp; omega
  rcases hc with ⟨q1, q2, q3, q4⟩ | ⟨q1, q2, q3, q4⟩ | ⟨q1, q2, q3, q4⟩
  all_goals
    rw [q4]
    clear q4
    go_enter Tryd.func50, Tryd.ntmps50
    go_wp2
    go_returns
    exact ⟨rfl, rfl⟩

theorem wr_bd (n : Int) : -2147483648 ≤ wr n ∧ wr n < 2147483648 := by unfold wr; omega
theorem pl_bd (n : Int) : 0 ≤ pl n ∧ pl n < 4294967296 := by unfold pl; omega
theorem w64 {n : Int} (h : -9223372036854775808 ≤ n ∧ n < 9223372036854775808) : wrap64 n = n := by unfold wrap64; omega
theorem k64 (n : Int) : IntKind.i64.wrap n = wrap64 n := by rw [IntKind.wrap_i64]; unfold wrap64; rfl
theorem plain_any (n : Int) (w : World) : Calls Tryd.prog 58 #[.int .i64 n] w fun e w' => e = .returned (.int .i64 (pl n)) ∧ w = w' := by
  go_enter Tryd.func58, Tryd.ntmps58
  go_wp2
  go_returns
  exact ⟨rfl, rfl⟩
theorem truth_any (b : Bool) (w : World) : Calls Tryd.prog 76 #[.bool b] w fun e w' => e = .returned (.int .i64 (tv b)) ∧ w = w' := by
  cases b <;> (go_enter Tryd.func76, Tryd.ntmps76; go_wp2; go_returns; exact ⟨rfl, rfl⟩)
theorem told_any (n : Int) (w : World) : Calls Tryd.prog 74 #[.int .i64 n] w fun e w' => e = .returned (.tuple #[.int .i64 (wr n), .bool true]) ∧ w = w' := by
  go_enter Tryd.func74, Tryd.ntmps74
  go_wp2_with (go_at_call 55; refine (wrap_any _ _).mono ?_; rintro e w' ⟨rfl, rfl⟩)
  go_returns
  exact ⟨rfl, rfl⟩
theorem divide_any (a b : Int) (w : World) (ha : -4294967296 ≤ a ∧ a < 4294967296) (hb : -4294967296 ≤ b ∧ b < 4294967296) :
    Calls Tryd.prog 75 #[.int .i64 a, .int .i64 b] w fun e w' => e = .returned (.tuple #[.int .i64 (dv a b), .int .i64 (md a b), .bool (!decide (b = 0))]) ∧ Below w.heap.size w w' := by
  by_cases h : b = 0
  · subst h
    go_enter Tryd.func75, Tryd.ntmps75
    go_wp2
    refine wp_scope_jumps 0 (fun a' w' => w' = w ∧ ∃ (u2 u3 u9 u10 u11 u12 u13 u14 : Value), a' = { tmps := #[.int .i64 a, .int .i64 0, u2, u3, .int .i64 0, .int .i64 0, .bool false, .int .i64 0, .bool true, u9, u10, u11, u12, u13, u14], defers := [] }) (fun _ _ => 0) rfl ?_ ?_
    · go_wp2
      go_step3
      exact ⟨rfl, rfl, _, _, _, _, _, _, _, _, rfl⟩
    · rintro _ _ ⟨rfl, u2, u3, u9, u10, u11, u12, u13, u14, rfl⟩
      go_wp2
      simp only [Exit.jump]
      go_returns
      exact ⟨rfl, Below.refl _ _⟩
  · have h1 : (b == 0) = false := by simp [h]
    have hq : wrap64 (a.tdiv b) = a.tdiv b := w64 (by
      have h1 := Int.natAbs_tdiv_le_natAbs a b
      omega)
    have hm : wrap64 (a.tmod b) = a.tmod b := w64 (by
      have h1 := Int.tmod_add_mul_tdiv a b
      have h2 : (a.tmod b).natAbs ≤ a.natAbs := by rw [Int.natAbs_tmod]; exact Nat.mod_le _ _
      omega)
    go_enter Tryd.func75, Tryd.ntmps75
    go_wp2
    go_step3
    go_wp2
    have hq' : IntKind.i64.wrap (a.tdiv b) = a.tdiv b := by rw [k64]; exact hq
    have hm' : IntKind.i64.wrap (a.tmod b) = a.tmod b := by rw [k64]; exact hm
    go_quiet (fail)
    go_wp2
    rw [Exit.noGoto_ret]
    go_returns
    exact ⟨by simp [h, dv, md], below_drewN (Below.refl _ _) nq⟩
end Go.Proofs.YtihbgppcacaekaaDoor

namespace Go.Proofs.YtihbgppcacaekaaDoor
open Go.RowKit Go.BigFrame

theorem ofInt_and31 (n : Int) : bits .and .i64 n 31 = n % 32 := by
  show IntKind.i64.wrap ((BitVec.ofInt 64 n &&& BitVec.ofInt 64 31).toNat : Int) = _
  have h1 : BitVec.ofInt 64 31 = 31#64 := by decide
  rw [h1, BitVec.toNat_and, show (31#64).toNat = 2 ^ 5 - 1 from rfl, Nat.and_two_pow_sub_one_eq_mod, k64]
  simp [BitVec.toNat_ofInt, wrap64]
  omega
theorem mul_bd {a b : Int} (h1 : -2147483648 ≤ a ∧ a < 2147483648) (h2 : -2147483648 ≤ b ∧ b < 2147483648) : -9223372036854775808 ≤ a * b ∧ a * b < 9223372036854775808 := by
  have h := Int.natAbs_mul a b
  have h3 : a.natAbs * b.natAbs ≤ 2147483648 * 2147483648 := Nat.mul_le_mul (by omega) (by omega)
  omega
theorem shl_bd {a : Int} {k : Nat} (h1 : -2147483648 ≤ a ∧ a < 2147483648) (hk : k < 32) : -9223372036854775808 ≤ a * 2 ^ k ∧ a * 2 ^ k < 9223372036854775808 := by
  have h := Int.natAbs_mul a (2 ^ k)
  have h2 : ((2 : Int) ^ k).natAbs = 2 ^ k := by rw [Int.natAbs_pow]; rfl
  rw [h2] at h
  have hp : 2 ^ k ≤ 2 ^ 31 := Nat.pow_le_pow_right (by decide) (by omega)
  have h3 : a.natAbs * 2 ^ k ≤ 2147483648 * 2147483648 := Nat.mul_le_mul (by omega) hp
  omega
set_option maxRecDepth 1000000 in
set_option maxHeartbeats 1000000 in
theorem do_1 (a b : Int) (w : World) : Calls Tryd.prog 59 #[.int .i64 1, .int .i64 a, .int .i64 b] w fun e w' => e = .returned (.tuple #[.int .i64 (wr (wr a + wr b)), .bool (true)]) ∧ w = w' := by
  have h1 := wr_bd a
  have h2 := wr_bd b
  have h3 : wrap64 (wr a + wr b) = wr a + wr b := w64 (by omega)
  go_enter Tryd.func59, Tryd.ntmps59
  go_wp2_with (first
    | (go_at_call 55; refine (wrap_any _ _).mono ?_; rintro e w' ⟨rfl, rfl⟩)
    | (go_at_call 58; refine (plain_any _ _).mono ?_; rintro e w' ⟨rfl, rfl⟩)
    | (go_at_call 76; refine (truth_any _ _).mono ?_; rintro e w' ⟨rfl, rfl⟩)
    | (go_at_call 74; refine (told_any _ _).mono ?_; rintro e w' ⟨rfl, rfl⟩))
  go_returns
  exact ⟨rfl, rfl⟩
set_option maxRecDepth 1000000 in
set_option maxHeartbeats 1000000 in
theorem do_2 (a b : Int) (w : World) : Calls Tryd.prog 59 #[.int .i64 2, .int .i64 a, .int .i64 b] w fun e w' => e = .returned (.tuple #[.int .i64 (wr (wr a - wr b)), .bool (true)]) ∧ w = w' := by
  have h1 := wr_bd a
  have h2 := wr_bd b
  have h3 : wrap64 (wr a - wr b) = wr a - wr b := w64 (by omega)
  go_enter Tryd.func59, Tryd.ntmps59
  go_wp2_with (first
    | (go_at_call 55; refine (wrap_any _ _).mono ?_; rintro e w' ⟨rfl, rfl⟩)
    | (go_at_call 58; refine (plain_any _ _).mono ?_; rintro e w' ⟨rfl, rfl⟩)
    | (go_at_call 76; refine (truth_any _ _).mono ?_; rintro e w' ⟨rfl, rfl⟩)
    | (go_at_call 74; refine (told_any _ _).mono ?_; rintro e w' ⟨rfl, rfl⟩))
  go_returns
  exact ⟨rfl, rfl⟩
set_option maxRecDepth 1000000 in
set_option maxHeartbeats 1000000 in
theorem do_3 (a b : Int) (w : World) : Calls Tryd.prog 59 #[.int .i64 3, .int .i64 a, .int .i64 b] w fun e w' => e = .returned (.tuple #[.int .i64 (wr (wr a * wr b)), .bool (true)]) ∧ w = w' := by
  have h1 := wr_bd a
  have h2 := wr_bd b
  have h3 : wrap64 (wr a * wr b) = wr a * wr b := w64 (mul_bd h1 h2)
  go_enter Tryd.func59, Tryd.ntmps59
  go_wp2_with (first
    | (go_at_call 55; refine (wrap_any _ _).mono ?_; rintro e w' ⟨rfl, rfl⟩)
    | (go_at_call 58; refine (plain_any _ _).mono ?_; rintro e w' ⟨rfl, rfl⟩)
    | (go_at_call 76; refine (truth_any _ _).mono ?_; rintro e w' ⟨rfl, rfl⟩)
    | (go_at_call 74; refine (told_any _ _).mono ?_; rintro e w' ⟨rfl, rfl⟩))
  go_returns
  exact ⟨rfl, rfl⟩
set_option maxRecDepth 1000000 in
set_option maxHeartbeats 1000000 in
theorem do_4 (a b : Int) (w : World) : Calls Tryd.prog 59 #[.int .i64 4, .int .i64 a, .int .i64 b] w fun e w' => e = .returned (.tuple #[.int .i64 (wr (dv (wr a) (wr b))), .bool (!decide (wr b = 0))]) ∧ Below w.heap.size w w' := by
  have h1 := wr_bd a
  have h2 := wr_bd b
  have h3 : -4294967296 ≤ wr a ∧ wr a < 4294967296 := by omega
  have h4 : -4294967296 ≤ wr b ∧ wr b < 4294967296 := by omega
  go_enter Tryd.func59, Tryd.ntmps59
  go_wp2_with (first
    | (go_at_call 55; refine (wrap_any _ _).mono ?_; rintro e w' ⟨rfl, rfl⟩)
    | (go_at_call 58; refine (plain_any _ _).mono ?_; rintro e w' ⟨rfl, rfl⟩)
    | (go_at_call 76; refine (truth_any _ _).mono ?_; rintro e w' ⟨rfl, rfl⟩)
    | (go_at_call 75; refine (divide_any _ _ _ h3 h4).mono ?_; rintro e w' ⟨rfl, hb⟩)
    | (go_at_call 74; refine (told_any _ _).mono ?_; rintro e w' ⟨rfl, rfl⟩))
  go_returns
  exact ⟨rfl, hb⟩
set_option maxRecDepth 1000000 in
set_option maxHeartbeats 1000000 in
theorem do_5 (a b : Int) (w : World) : Calls Tryd.prog 59 #[.int .i64 5, .int .i64 a, .int .i64 b] w fun e w' => e = .returned (.tuple #[.int .i64 (wr (md (wr a) (wr b))), .bool (!decide (wr b = 0))]) ∧ Below w.heap.size w w' := by
  have h1 := wr_bd a
  have h2 := wr_bd b
  have h3 : -4294967296 ≤ wr a ∧ wr a < 4294967296 := by omega
  have h4 : -4294967296 ≤ wr b ∧ wr b < 4294967296 := by omega
  go_enter Tryd.func59, Tryd.ntmps59
  go_wp2_with (first
    | (go_at_call 55; refine (wrap_any _ _).mono ?_; rintro e w' ⟨rfl, rfl⟩)
    | (go_at_call 58; refine (plain_any _ _).mono ?_; rintro e w' ⟨rfl, rfl⟩)
    | (go_at_call 76; refine (truth_any _ _).mono ?_; rintro e w' ⟨rfl, rfl⟩)
    | (go_at_call 75; refine (divide_any _ _ _ h3 h4).mono ?_; rintro e w' ⟨rfl, hb⟩)
    | (go_at_call 74; refine (told_any _ _).mono ?_; rintro e w' ⟨rfl, rfl⟩))
  go_returns
  exact ⟨rfl, hb⟩
set_option maxRecDepth 1000000 in
set_option maxHeartbeats 1000000 in
theorem do_6 (a b : Int) (w : World) : Calls Tryd.prog 59 #[.int .i64 6, .int .i64 a, .int .i64 b] w fun e w' => e = .returned (.tuple #[.int .i64 (wr (dv (pl (wr a)) (pl (wr b)))), .bool (!decide (pl (wr b) = 0))]) ∧ Below w.heap.size w w' := by
  have h1 := wr_bd a
  have h2 := wr_bd b
  have h3 : -4294967296 ≤ pl (wr a) ∧ pl (wr a) < 4294967296 := by have := pl_bd (wr a); omega
  have h4 : -4294967296 ≤ pl (wr b) ∧ pl (wr b) < 4294967296 := by have := pl_bd (wr b); omega
  go_enter Tryd.func59, Tryd.ntmps59
  go_wp2_with (first
    | (go_at_call 55; refine (wrap_any _ _).mono ?_; rintro e w' ⟨rfl, rfl⟩)
    | (go_at_call 58; refine (plain_any _ _).mono ?_; rintro e w' ⟨rfl, rfl⟩)
    | (go_at_call 76; refine (truth_any _ _).mono ?_; rintro e w' ⟨rfl, rfl⟩)
    | (go_at_call 75; refine (divide_any _ _ _ h3 h4).mono ?_; rintro e w' ⟨rfl, hb⟩)
    | (go_at_call 74; refine (told_any _ _).mono ?_; rintro e w' ⟨rfl, rfl⟩))
  go_returns
  exact ⟨rfl, hb⟩
set_option maxRecDepth 1000000 in
set_option maxHeartbeats 1000000 in
theorem do_7 (a b : Int) (w : World) : Calls Tryd.prog 59 #[.int .i64 7, .int .i64 a, .int .i64 b] w fun e w' => e = .returned (.tuple #[.int .i64 (wr (md (pl (wr a)) (pl (wr b)))), .bool (!decide (pl (wr b) = 0))]) ∧ Below w.heap.size w w' := by
  have h1 := wr_bd a
  have h2 := wr_bd b
  have h3 : -4294967296 ≤ pl (wr a) ∧ pl (wr a) < 4294967296 := by have := pl_bd (wr a); omega
  have h4 : -4294967296 ≤ pl (wr b) ∧ pl (wr b) < 4294967296 := by have := pl_bd (wr b); omega
  go_enter Tryd.func59, Tryd.ntmps59
  go_wp2_with (first
    | (go_at_call 55; refine (wrap_any _ _).mono ?_; rintro e w' ⟨rfl, rfl⟩)
    | (go_at_call 58; refine (plain_any _ _).mono ?_; rintro e w' ⟨rfl, rfl⟩)
    | (go_at_call 76; refine (truth_any _ _).mono ?_; rintro e w' ⟨rfl, rfl⟩)
    | (go_at_call 75; refine (divide_any _ _ _ h3 h4).mono ?_; rintro e w' ⟨rfl, hb⟩)
    | (go_at_call 74; refine (told_any _ _).mono ?_; rintro e w' ⟨rfl, rfl⟩))
  go_returns
  exact ⟨rfl, hb⟩
set_option maxRecDepth 1000000 in
set_option maxHeartbeats 1000000 in
theorem do_8 (a b : Int) (w : World) : Calls Tryd.prog 59 #[.int .i64 8, .int .i64 a, .int .i64 b] w fun e w' => e = .returned (.tuple #[.int .i64 (wr (bits .and .i64 (wr a) (wr b))), .bool (true)]) ∧ w = w' := by
  have h1 := wr_bd a
  have h2 := wr_bd b
  go_enter Tryd.func59, Tryd.ntmps59
  go_wp2_with (first
    | (go_at_call 55; refine (wrap_any _ _).mono ?_; rintro e w' ⟨rfl, rfl⟩)
    | (go_at_call 58; refine (plain_any _ _).mono ?_; rintro e w' ⟨rfl, rfl⟩)
    | (go_at_call 76; refine (truth_any _ _).mono ?_; rintro e w' ⟨rfl, rfl⟩)
    | (go_at_call 74; refine (told_any _ _).mono ?_; rintro e w' ⟨rfl, rfl⟩))
  go_returns
  exact ⟨rfl, rfl⟩
set_option maxRecDepth 1000000 in
set_option maxHeartbeats 1000000 in
theorem do_9 (a b : Int) (w : World) : Calls Tryd.prog 59 #[.int .i64 9, .int .i64 a, .int .i64 b] w fun e w' => e = .returned (.tuple #[.int .i64 (wr (bits .or .i64 (wr a) (wr b))), .bool (true)]) ∧ w = w' := by
  have h1 := wr_bd a
  have h2 := wr_bd b
  go_enter Tryd.func59, Tryd.ntmps59
  go_wp2_with (first
    | (go_at_call 55; refine (wrap_any _ _).mono ?_; rintro e w' ⟨rfl, rfl⟩)
    | (go_at_call 58; refine (plain_any _ _).mono ?_; rintro e w' ⟨rfl, rfl⟩)
    | (go_at_call 76; refine (truth_any _ _).mono ?_; rintro e w' ⟨rfl, rfl⟩)
    | (go_at_call 74; refine (told_any _ _).mono ?_; rintro e w' ⟨rfl, rfl⟩))
  go_returns
  exact ⟨rfl, rfl⟩
set_option maxRecDepth 1000000 in
set_option maxHeartbeats 1000000 in
theorem do_10 (a b : Int) (w : World) : Calls Tryd.prog 59 #[.int .i64 10, .int .i64 a, .int .i64 b] w fun e w' => e = .returned (.tuple #[.int .i64 (wr (bits .xor .i64 (wr a) (wr b))), .bool (true)]) ∧ w = w' := by
  have h1 := wr_bd a
  have h2 := wr_bd b
  go_enter Tryd.func59, Tryd.ntmps59
  go_wp2_with (first
    | (go_at_call 55; refine (wrap_any _ _).mono ?_; rintro e w' ⟨rfl, rfl⟩)
    | (go_at_call 58; refine (plain_any _ _).mono ?_; rintro e w' ⟨rfl, rfl⟩)
    | (go_at_call 76; refine (truth_any _ _).mono ?_; rintro e w' ⟨rfl, rfl⟩)
    | (go_at_call 74; refine (told_any _ _).mono ?_; rintro e w' ⟨rfl, rfl⟩))
  go_returns
  exact ⟨rfl, rfl⟩
set_option maxRecDepth 1000000 in
set_option maxHeartbeats 1000000 in
theorem do_11 (a b : Int) (w : World) : Calls Tryd.prog 59 #[.int .i64 11, .int .i64 a, .int .i64 b] w fun e w' => e = .returned (.tuple #[.int .i64 (wr (wr a * 2 ^ (wr b % 32).toNat)), .bool (true)]) ∧ w = w' := by
  have h1 := wr_bd a
  have h2 := wr_bd b
  have h3 : bits .and .i64 (wr b) 31 = wr b % 32 := ofInt_and31 _
  have h4 : decide (wr b % 32 < 0) = false := by simp; omega
  have h5 : ¬ (wr b % 32 < 0) := by omega
  have h6 : 0 ≤ wr b % 32 := by omega
  have h7 : IntKind.i64.wrap (wr a * 2 ^ (wr b % 32).toNat) = wr a * 2 ^ (wr b % 32).toNat := by rw [k64]; exact w64 (shl_bd h1 (by omega))
  have h8 : min (wr b % 32).toNat 64 = (wr b % 32).toNat := by omega
  have h9 : wrap64 (wr a * 2 ^ (wr b % 32).toNat) = wr a * 2 ^ (wr b % 32).toNat := w64 (shl_bd h1 (by omega))
  go_enter Tryd.func59, Tryd.ntmps59
  go_wp2_with (first
    | (go_at_call 55; refine (wrap_any _ _).mono ?_; rintro e w' ⟨rfl, rfl⟩)
    | (go_at_call 58; refine (plain_any _ _).mono ?_; rintro e w' ⟨rfl, rfl⟩)
    | (go_at_call 76; refine (truth_any _ _).mono ?_; rintro e w' ⟨rfl, rfl⟩)
    | (go_at_call 74; refine (told_any _ _).mono ?_; rintro e w' ⟨rfl, rfl⟩))
  go_returns
  exact ⟨rfl, rfl⟩
set_option maxRecDepth 1000000 in
set_option maxHeartbeats 1000000 in
theorem do_12 (a b : Int) (w : World) : Calls Tryd.prog 59 #[.int .i64 12, .int .i64 a, .int .i64 b] w fun e w' => e = .returned (.tuple #[.int .i64 (wr (wr a / 2 ^ (wr b % 32).toNat)), .bool (true)]) ∧ w = w' := by
  have h1 := wr_bd a
  have h2 := wr_bd b
  have h3 : bits .and .i64 (wr b) 31 = wr b % 32 := ofInt_and31 _
  have h4 : decide (wr b % 32 < 0) = false := by simp; omega
  have h5 : ¬ (wr b % 32 < 0) := by omega
  have h6 : 0 ≤ wr b % 32 := by omega
  go_enter Tryd.func59, Tryd.ntmps59
  go_wp2_with (first
    | (go_at_call 55; refine (wrap_any _ _).mono ?_; rintro e w' ⟨rfl, rfl⟩)
    | (go_at_call 58; refine (plain_any _ _).mono ?_; rintro e w' ⟨rfl, rfl⟩)
    | (go_at_call 76; refine (truth_any _ _).mono ?_; rintro e w' ⟨rfl, rfl⟩)
    | (go_at_call 74; refine (told_any _ _).mono ?_; rintro e w' ⟨rfl, rfl⟩))
  go_returns
  exact ⟨rfl, rfl⟩
set_option maxRecDepth 1000000 in
set_option maxHeartbeats 1000000 in
theorem do_13 (a b : Int) (w : World) : Calls Tryd.prog 59 #[.int .i64 13, .int .i64 a, .int .i64 b] w fun e w' => e = .returned (.tuple #[.int .i64 (wr (pl (wr a) / 2 ^ (wr b % 32).toNat)), .bool (true)]) ∧ w = w' := by
  have h1 := wr_bd a
  have h2 := wr_bd b
  have h3 : bits .and .i64 (wr b) 31 = wr b % 32 := ofInt_and31 _
  have h4 : decide (wr b % 32 < 0) = false := by simp; omega
  have h5 : ¬ (wr b % 32 < 0) := by omega
  have h6 : 0 ≤ wr b % 32 := by omega
  go_enter Tryd.func59, Tryd.ntmps59
  go_wp2_with (first
    | (go_at_call 55; refine (wrap_any _ _).mono ?_; rintro e w' ⟨rfl, rfl⟩)
    | (go_at_call 58; refine (plain_any _ _).mono ?_; rintro e w' ⟨rfl, rfl⟩)
    | (go_at_call 76; refine (truth_any _ _).mono ?_; rintro e w' ⟨rfl, rfl⟩)
    | (go_at_call 74; refine (told_any _ _).mono ?_; rintro e w' ⟨rfl, rfl⟩))
  go_returns
  exact ⟨rfl, rfl⟩
set_option maxRecDepth 1000000 in
set_option maxHeartbeats 1000000 in
theorem do_14 (a b : Int) (w : World) : Calls Tryd.prog 59 #[.int .i64 14, .int .i64 a, .int .i64 b] w fun e w' => e = .returned (.tuple #[.int .i64 (wr (tv (wr a == wr b))), .bool (true)]) ∧ w = w' := by
  have h1 := wr_bd a
  have h2 := wr_bd b
  go_enter Tryd.func59, Tryd.ntmps59
  go_wp2_with (first
    | (go_at_call 55; refine (wrap_any _ _).mono ?_; rintro e w' ⟨rfl, rfl⟩)
    | (go_at_call 58; refine (plain_any _ _).mono ?_; rintro e w' ⟨rfl, rfl⟩)
    | (go_at_call 76; refine (truth_any _ _).mono ?_; rintro e w' ⟨rfl, rfl⟩)
    | (go_at_call 74; refine (told_any _ _).mono ?_; rintro e w' ⟨rfl, rfl⟩))
  go_returns
  exact ⟨rfl, rfl⟩
set_option maxRecDepth 1000000 in
set_option maxHeartbeats 1000000 in
theorem do_15 (a b : Int) (w : World) : Calls Tryd.prog 59 #[.int .i64 15, .int .i64 a, .int .i64 b] w fun e w' => e = .returned (.tuple #[.int .i64 (wr (tv (wr a != wr b))), .bool (true)]) ∧ w = w' := by
  have h1 := wr_bd a
  have h2 := wr_bd b
  go_enter Tryd.func59, Tryd.ntmps59
  go_wp2_with (first
    | (go_at_call 55; refine (wrap_any _ _).mono ?_; rintro e w' ⟨rfl, rfl⟩)
    | (go_at_call 58; refine (plain_any _ _).mono ?_; rintro e w' ⟨rfl, rfl⟩)
    | (go_at_call 76; refine (truth_any _ _).mono ?_; rintro e w' ⟨rfl, rfl⟩)
    | (go_at_call 74; refine (told_any _ _).mono ?_; rintro e w' ⟨rfl, rfl⟩))
  go_returns
  exact ⟨rfl, rfl⟩
set_option maxRecDepth 1000000 in
set_option maxHeartbeats 1000000 in
theorem do_16 (a b : Int) (w : World) : Calls Tryd.prog 59 #[.int .i64 16, .int .i64 a, .int .i64 b] w fun e w' => e = .returned (.tuple #[.int .i64 (wr (tv (decide (wr a < wr b)))), .bool (true)]) ∧ w = w' := by
  have h1 := wr_bd a
  have h2 := wr_bd b
  go_enter Tryd.func59, Tryd.ntmps59
  go_wp2_with (first
    | (go_at_call 55; refine (wrap_any _ _).mono ?_; rintro e w' ⟨rfl, rfl⟩)
    | (go_at_call 58; refine (plain_any _ _).mono ?_; rintro e w' ⟨rfl, rfl⟩)
    | (go_at_call 76; refine (truth_any _ _).mono ?_; rintro e w' ⟨rfl, rfl⟩)
    | (go_at_call 74; refine (told_any _ _).mono ?_; rintro e w' ⟨rfl, rfl⟩))
  go_returns
  exact ⟨rfl, rfl⟩
set_option maxRecDepth 1000000 in
set_option maxHeartbeats 1000000 in
theorem do_17 (a b : Int) (w : World) : Calls Tryd.prog 59 #[.int .i64 17, .int .i64 a, .int .i64 b] w fun e w' => e = .returned (.tuple #[.int .i64 (wr (tv (decide (wr a ≤ wr b)))), .bool (true)]) ∧ w = w' := by
  have h1 := wr_bd a
  have h2 := wr_bd b
  go_enter Tryd.func59, Tryd.ntmps59
  go_wp2_with (first
    | (go_at_call 55; refine (wrap_any _ _).mono ?_; rintro e w' ⟨rfl, rfl⟩)
    | (go_at_call 58; refine (plain_any _ _).mono ?_; rintro e w' ⟨rfl, rfl⟩)
    | (go_at_call 76; refine (truth_any _ _).mono ?_; rintro e w' ⟨rfl, rfl⟩)
    | (go_at_call 74; refine (told_any _ _).mono ?_; rintro e w' ⟨rfl, rfl⟩))
  go_returns
  exact ⟨rfl, rfl⟩
set_option maxRecDepth 1000000 in
set_option maxHeartbeats 1000000 in
theorem do_18 (a b : Int) (w : World) : Calls Tryd.prog 59 #[.int .i64 18, .int .i64 a, .int .i64 b] w fun e w' => e = .returned (.tuple #[.int .i64 (wr (tv (decide (pl (wr a) < pl (wr b))))), .bool (true)]) ∧ w = w' := by
  have h1 := wr_bd a
  have h2 := wr_bd b
  go_enter Tryd.func59, Tryd.ntmps59
  go_wp2_with (first
    | (go_at_call 55; refine (wrap_any _ _).mono ?_; rintro e w' ⟨rfl, rfl⟩)
    | (go_at_call 58; refine (plain_any _ _).mono ?_; rintro e w' ⟨rfl, rfl⟩)
    | (go_at_call 76; refine (truth_any _ _).mono ?_; rintro e w' ⟨rfl, rfl⟩)
    | (go_at_call 74; refine (told_any _ _).mono ?_; rintro e w' ⟨rfl, rfl⟩))
  go_returns
  exact ⟨rfl, rfl⟩
set_option maxRecDepth 1000000 in
set_option maxHeartbeats 1000000 in
theorem do_19 (a b : Int) (w : World) : Calls Tryd.prog 59 #[.int .i64 19, .int .i64 a, .int .i64 b] w fun e w' => e = .returned (.tuple #[.int .i64 (wr (tv (decide (pl (wr a) ≤ pl (wr b))))), .bool (true)]) ∧ w = w' := by
  have h1 := wr_bd a
  have h2 := wr_bd b
  go_enter Tryd.func59, Tryd.ntmps59
  go_wp2_with (first
    | (go_at_call 55; refine (wrap_any _ _).mono ?_; rintro e w' ⟨rfl, rfl⟩)
    | (go_at_call 58; refine (plain_any _ _).mono ?_; rintro e w' ⟨rfl, rfl⟩)
    | (go_at_call 76; refine (truth_any _ _).mono ?_; rintro e w' ⟨rfl, rfl⟩)
    | (go_at_call 74; refine (told_any _ _).mono ?_; rintro e w' ⟨rfl, rfl⟩))
  go_returns
  exact ⟨rfl, rfl⟩
set_option maxRecDepth 1000000 in
set_option maxHeartbeats 1000000 in
theorem do_20 (a b : Int) (w : World) : Calls Tryd.prog 59 #[.int .i64 20, .int .i64 a, .int .i64 b] w fun e w' => e = .returned (.tuple #[.int .i64 (wr (-wr a)), .bool (true)]) ∧ w = w' := by
  have h1 := wr_bd a
  have h2 := wr_bd b
  have h3 : wrap64 (-wr a) = -wr a := w64 (by omega)
  go_enter Tryd.func59, Tryd.ntmps59
  go_wp2_with (first
    | (go_at_call 55; refine (wrap_any _ _).mono ?_; rintro e w' ⟨rfl, rfl⟩)
    | (go_at_call 58; refine (plain_any _ _).mono ?_; rintro e w' ⟨rfl, rfl⟩)
    | (go_at_call 76; refine (truth_any _ _).mono ?_; rintro e w' ⟨rfl, rfl⟩)
    | (go_at_call 74; refine (told_any _ _).mono ?_; rintro e w' ⟨rfl, rfl⟩))
  go_returns
  exact ⟨rfl, rfl⟩
set_option maxRecDepth 1000000 in
set_option maxHeartbeats 1000000 in
theorem do_21 (a b : Int) (w : World) : Calls Tryd.prog 59 #[.int .i64 21, .int .i64 a, .int .i64 b] w fun e w' => e = .returned (.tuple #[.int .i64 (wr (bits .xor .i64 (-1) (wr a))), .bool (true)]) ∧ w = w' := by
  have h1 := wr_bd a
  have h2 := wr_bd b
  go_enter Tryd.func59, Tryd.ntmps59
  go_wp2_with (first
    | (go_at_call 55; refine (wrap_any _ _).mono ?_; rintro e w' ⟨rfl, rfl⟩)
    | (go_at_call 58; refine (plain_any _ _).mono ?_; rintro e w' ⟨rfl, rfl⟩)
    | (go_at_call 76; refine (truth_any _ _).mono ?_; rintro e w' ⟨rfl, rfl⟩)
    | (go_at_call 74; refine (told_any _ _).mono ?_; rintro e w' ⟨rfl, rfl⟩))
  go_returns
  exact ⟨rfl, rfl⟩
set_option maxRecDepth 1000000 in
set_option maxHeartbeats 1000000 in
theorem do_22 (a b : Int) (w : World) : Calls Tryd.prog 59 #[.int .i64 22, .int .i64 a, .int .i64 b] w fun e w' => e = .returned (.tuple #[.int .i64 (wr (bits .and .i64 (wr a) 255)), .bool (true)]) ∧ w = w' := by
  have h1 := wr_bd a
  have h2 := wr_bd b
  go_enter Tryd.func59, Tryd.ntmps59
  go_wp2_with (first
    | (go_at_call 55; refine (wrap_any _ _).mono ?_; rintro e w' ⟨rfl, rfl⟩)
    | (go_at_call 58; refine (plain_any _ _).mono ?_; rintro e w' ⟨rfl, rfl⟩)
    | (go_at_call 76; refine (truth_any _ _).mono ?_; rintro e w' ⟨rfl, rfl⟩)
    | (go_at_call 74; refine (told_any _ _).mono ?_; rintro e w' ⟨rfl, rfl⟩))
  go_returns
  exact ⟨rfl, rfl⟩
set_option maxRecDepth 1000000 in
set_option maxHeartbeats 1000000 in
theorem do_23 (a b : Int) (w : World) : Calls Tryd.prog 59 #[.int .i64 23, .int .i64 a, .int .i64 b] w fun e w' => e = .returned (.tuple #[.int .i64 (wr (tv (wr a == 0))), .bool (true)]) ∧ w = w' := by
  have h1 := wr_bd a
  have h2 := wr_bd b
  go_enter Tryd.func59, Tryd.ntmps59
  go_wp2_with (first
    | (go_at_call 55; refine (wrap_any _ _).mono ?_; rintro e w' ⟨rfl, rfl⟩)
    | (go_at_call 58; refine (plain_any _ _).mono ?_; rintro e w' ⟨rfl, rfl⟩)
    | (go_at_call 76; refine (truth_any _ _).mono ?_; rintro e w' ⟨rfl, rfl⟩)
    | (go_at_call 74; refine (told_any _ _).mono ?_; rintro e w' ⟨rfl, rfl⟩))
  go_returns
  exact ⟨rfl, rfl⟩
end Go.Proofs.YtihbgppcacaekaaDoor

namespace Go.Proofs.YtihbgppcacaekaaDoor
open Go.RowKit Go.BigFrame

theorem and_mask (n : Int) (j : Nat) (hj : j ≤ 32) : bits .and .i64 n ((2 ^ j - 1 : Nat) : Int) = n % 2 ^ j := by
  show IntKind.i64.wrap ((BitVec.ofInt 64 n &&& BitVec.ofInt 64 ((2 ^ j - 1 : Nat) : Int)).toNat : Int) = _
  have hp : 2 ^ j ≤ 2 ^ 32 := Nat.pow_le_pow_right (by decide) hj
  have hp0 : 0 < 2 ^ j := Nat.pow_pos (by decide)
  have h1 : (BitVec.ofInt 64 ((2 ^ j - 1 : Nat) : Int)).toNat = 2 ^ j - 1 := by
    rw [BitVec.toNat_ofInt]
    omega
  rw [BitVec.toNat_and, h1, Nat.and_two_pow_sub_one_eq_mod, k64, BitVec.toNat_ofInt]
  have h2 : ((n % (2 ^ 64 : Nat)).toNat % 2 ^ j : Nat) = n % 2 ^ j := by
    have h3 : 0 ≤ n % ((2 ^ 64 : Nat) : Int) := Int.emod_nonneg _ (by decide)
    rw [Int.natCast_emod, Int.toNat_of_nonneg h3]
    have hd : ((2 : Int) ^ j) ∣ ((2 ^ 64 : Nat) : Int) := by
      have : (2 ^ j : Nat) ∣ 2 ^ 64 := Nat.pow_dvd_pow 2 (by omega)
      exact_mod_cast Int.natCast_dvd_natCast.2 this
    have := Int.emod_emod_of_dvd n hd
    simpa using this
  have h4 : n % 2 ^ j < 2 ^ 32 := by
    have h5 := Int.emod_lt_of_pos n (show (0 : Int) < 2 ^ j by exact_mod_cast hp0)
    have h6 : (2 : Int) ^ j ≤ 2 ^ 32 := by exact_mod_cast hp
    omega
  have h7 : 0 ≤ n % 2 ^ j := Int.emod_nonneg _ (by have : (0 : Int) < 2 ^ j := (by exact_mod_cast hp0); omega)
  rw [h2]
  exact w64 (by omega)
theorem and255 (n : Int) : bits .and .i64 n 255 = n % 256 := by
  have h := and_mask n 8 (by decide)
  simpa using h
theorem xor_m1 (n : Int) (h : -2147483648 ≤ n ∧ n < 2147483648) : bits .xor .i64 (-1) n = -1 - n := by
  show IntKind.i64.wrap ((BitVec.ofInt 64 (-1) ^^^ BitVec.ofInt 64 n).toNat : Int) = _
  have h1 : BitVec.ofInt 64 (-1) = BitVec.allOnes 64 := by decide
  rw [h1, BitVec.allOnes_xor, BitVec.toNat_not, BitVec.toNat_ofInt, k64]
  unfold wrap64
  omega
end Go.Proofs.YtihbgppcacaekaaDoor

namespace Go.Proofs.YtihbgppcacaekaaDoor
open Go.RowKit Go.BigFrame

def b32 (n : Int) : BitVec 32 := BitVec.ofInt 32 n
theorem wr_b (n : Int) : wr n = (b32 n).toInt := by
  unfold b32
  rw [BitVec.toInt_ofInt]
  rw [Int.bmod_def]
  unfold wr
  split <;> omega
theorem b32_toInt (X : BitVec 32) : b32 X.toInt = X := by unfold b32; exact BitVec.ofInt_toInt
theorem wrap_toNat (Z : BitVec 64) : IntKind.i64.wrap (Z.toNat : Int) = Z.toInt := by
  rw [k64, BitVec.toInt_eq_toNat_bmod]
  have := Z.isLt
  rw [Int.bmod_def]
  unfold wrap64
  split <;> omega
theorem bits_and32 (X Y : BitVec 32) : bits .and .i64 X.toInt Y.toInt = (X &&& Y).toInt := by
  show IntKind.i64.wrap ((X.signExtend 64 &&& Y.signExtend 64).toNat : Int) = _
  rw [← BitVec.signExtend_and, wrap_toNat, BitVec.toInt_signExtend_of_le (by decide)]
theorem bits_or32 (X Y : BitVec 32) : bits .or .i64 X.toInt Y.toInt = (X ||| Y).toInt := by
  show IntKind.i64.wrap ((X.signExtend 64 ||| Y.signExtend 64).toNat : Int) = _
  rw [← BitVec.signExtend_or, wrap_toNat, BitVec.toInt_signExtend_of_le (by decide)]
theorem bits_xor32 (X Y : BitVec 32) : bits .xor .i64 X.toInt Y.toInt = (X ^^^ Y).toInt := by
  show IntKind.i64.wrap ((X.signExtend 64 ^^^ Y.signExtend 64).toNat : Int) = _
  rw [← BitVec.signExtend_xor, wrap_toNat, BitVec.toInt_signExtend_of_le (by decide)]
theorem wr_toInt (X : BitVec 32) : wr X.toInt = X.toInt := by rw [wr_b, b32_toInt]
theorem bits_not32 (X : BitVec 32) : bits .xor .i64 (-1) X.toInt = (~~~X).toInt := by
  have h := bits_xor32 (BitVec.allOnes 32) X
  rw [BitVec.allOnes_xor] at h
  rw [← h]
  congr 1
theorem v_not (n : Int) : wr (bits .xor .i64 (-1) (wr n)) = (~~~(b32 n)).toInt := by rw [wr_b n, bits_not32, wr_toInt]
theorem v_and (m n : Int) : wr (bits .and .i64 (wr m) (wr n)) = (b32 m &&& b32 n).toInt := by rw [wr_b m, wr_b n, bits_and32, wr_toInt]
theorem v_or (m n : Int) : wr (bits .or .i64 (wr m) (wr n)) = (b32 m ||| b32 n).toInt := by rw [wr_b m, wr_b n, bits_or32, wr_toInt]
theorem v_xor (m n : Int) : wr (bits .xor .i64 (wr m) (wr n)) = (b32 m ^^^ b32 n).toInt := by rw [wr_b m, wr_b n, bits_xor32, wr_toInt]
end Go.Proofs.YtihbgppcacaekaaDoor

namespace Go.Proofs.YtihbgppcacaekaaDoor
open Go.RowKit Go.BigFrame

theorem tmod_bd (n : Int) : (n.tmod 4294967296 = n % 4294967296 ∧ 0 ≤ n) ∨ (n.tmod 4294967296 = n % 4294967296 - 4294967296 ∧ n % 4294967296 ≠ 0 ∧ n < 0) ∨ (n.tmod 4294967296 = 0 ∧ n % 4294967296 = 0 ∧ n < 0) := by
  rcases Int.le_total 0 n with h | h
  · exact .inl ⟨Int.tmod_eq_emod_of_nonneg h, h⟩
  · have h1 := Int.tmod_add_mul_tdiv n 4294967296
    have h2 : n.tmod 4294967296 ≤ 0 := by
      have := Int.tmod_nonneg 4294967296 (show 0 ≤ -n by omega)
      rw [Int.neg_tmod] at this
      omega
    have h3 : (n.tmod 4294967296).natAbs < 4294967296 := by
      rw [Int.natAbs_tmod]; exact Nat.mod_lt _ (by decide)
    omega

theorem refwrap_any (n : Int) (w : World) : Calls Tryd.prog 15 #[.int .i64 n] w fun e w' => e = .returned (.int .i64 (wr n)) ∧ w = w' := by
  have h0 := tmod_bd n
  by_cases h1 : 2147483648 ≤ n.tmod 4294967296
  · have h2 : wrap64 (n.tmod 4294967296 - 4294967296) = n.tmod 4294967296 - 4294967296 := w64 (by omega)
    have h3 : n % 4294967296 - 4294967296 = wr n := by unfold wr; omega
    go_enter Tryd.func15, Tryd.ntmps15
    go_wp2
    go_returns
    exact ⟨rfl, rfl⟩
  · by_cases h3 : n.tmod 4294967296 < -2147483648
    · have h2 : n.tmod 4294967296 + 4294967296 = wr n := by unfold wr; omega
      go_enter Tryd.func15, Tryd.ntmps15
      go_wp2
      go_returns
      exact ⟨rfl, rfl⟩
    · have h2 : n.tmod 4294967296 = wr n := by unfold wr; omega
      go_enter Tryd.func15, Tryd.ntmps15
      go_wp2
      go_returns
      exact ⟨rfl, rfl⟩
theorem refplain_any (n : Int) (w : World) : Calls Tryd.prog 27 #[.int .i64 n] w fun e w' => e = .returned (.int .i64 (pl n)) ∧ w = w' := by
  have h1 := wr_bd n
  by_cases h : wr n < 0
  · have h2 : wrap64 (wr n + 4294967296) = wr n + 4294967296 := w64 (by omega)
    have h3 : wr n + 4294967296 = pl n := by unfold wr pl at *; omega
    go_enter Tryd.func27, Tryd.ntmps27
    go_wp2_with (go_at_call 15; refine (refwrap_any _ _).mono ?_; rintro e w' ⟨rfl, rfl⟩)
    go_returns
    exact ⟨rfl, rfl⟩
  · have h3 : wr n = pl n := by unfold wr pl at *; omega
    go_enter Tryd.func27, Tryd.ntmps27
    go_wp2_with (go_at_call 15; refine (refwrap_any _ _).mono ?_; rintro e w' ⟨rfl, rfl⟩)
    go_returns
    exact ⟨rfl, rfl⟩
theorem is_eq (n : Int) : (wr n == n) = (decide (-2147483648 ≤ n) && decide (n < 2147483648)) := by
  by_cases h1 : -2147483648 ≤ n <;> by_cases h2 : n < 2147483648 <;> simp [h1, h2] <;> unfold wr <;> omega
end Go.Proofs.YtihbgppcacaekaaDoor

namespace Go.Proofs.YtihbgppcacaekaaDoor
open Go.RowKit Go.BigFrame

theorem reftruth_any (b : Bool) (w : World) : Calls Tryd.prog 30 #[.bool b] w fun e w' => e = .returned (.int .i64 (tv b)) ∧ w = w' := by
  cases b <;> (go_enter Tryd.func30, Tryd.ntmps30; go_wp2; go_returns; exact ⟨rfl, rfl⟩)
theorem half_step (p : Int) (j : Nat) (hp : 0 ≤ p) : (p / 2 ^ j).tdiv 2 = p / 2 ^ (j + 1) := by
  have h : 0 ≤ p / 2 ^ j := Int.ediv_nonneg hp (Int.le_of_lt (Int.pow_pos (by decide)))
  rw [Int.tdiv_eq_ediv_of_nonneg h, Int.ediv_ediv_of_nonneg (Int.le_of_lt (Int.pow_pos (by decide))), Int.pow_succ]
set_option maxRecDepth 100000 in
theorem bit_any (n : Int) (k : Nat) (hk : k ≤ 32) (w : World) : Calls Tryd.prog 45 #[.int .i64 n, .int .i64 k] w fun e w' => e = .returned (.int .i64 ((pl n / 2 ^ k) % 2)) ∧ Below w.heap.size w w' := by
  have hpl := pl_bd n
  go_enter Tryd.func45, Tryd.ntmps45
  go_wp2_with (go_at_call 27; refine (refplain_any _ _).mono ?_; rintro e w' ⟨rfl, rfl⟩)
  go_loopw [5, 6] (fun p i w8 => ∃ j : Nat, j ≤ k ∧ i = .int .i64 j ∧ p = .int .i64 (pl n / 2 ^ j) ∧ Below w.heap.size w w8) (fun _ i _ => k - (intOf i).toNat)
  case atStart => exact ⟨0, by omega, rfl, by simp, Below.refl _ _⟩
  case round =>
    obtain ⟨j, hj, rfl, rfl, hB⟩ := hrel
    have hs := half_step (pl n) j hpl.1
    have h0 : 0 ≤ pl n / 2 ^ j := Int.ediv_nonneg hpl.1 (Int.le_of_lt (Int.pow_pos (by decide)))
    have h1 : pl n / 2 ^ j ≤ pl n := Int.ediv_le_self _ hpl.1
    by_cases hlt : j < k
    · have hd : wrap64 ((pl n / 2 ^ j).tdiv 2) = pl n / 2 ^ (j + 1) := by
        rw [hs]
        have h2 : 0 ≤ pl n / 2 ^ (j + 1) := Int.ediv_nonneg hpl.1 (Int.le_of_lt (Int.pow_pos (by decide)))
        have h3 : pl n / 2 ^ (j + 1) ≤ pl n := Int.ediv_le_self _ hpl.1
        exact w64 (by omega)
      have hq : wrap64 (pl n / 2 ^ (j + 1)) = pl n / 2 ^ (j + 1) := by rw [← hs]; rw [hs] at hd ⊢; exact hd
      have HQ := Lib.hid hq
      clear hq
      generalize pl n / 2 ^ j = p at *
      generalize hp' : pl n / 2 ^ (j + 1) = p' at *
      go_wp2_with fail
      exact ⟨⟨j + 1, by omega, by go_num, by rw [hp']; exact congrArg (Value.int .i64) HQ.out, hB⟩, by simp [intOf]; omega⟩
    · have hjk : j = k := by omega
      subst hjk
      generalize hpp : pl n / 2 ^ j = p at *
      have hm : p.tmod 2 = p % 2 := Int.tmod_eq_emod_of_nonneg h0
      go_wp2_with fail
      go_returns
      exact ⟨by rw [hpp]; rfl, hB⟩
theorem power_any (k : Nat) (hk : k ≤ 31) (w : World) : Calls Tryd.prog 26 #[.int .i64 k] w fun e w' => e = .returned (.int .i64 (2 ^ k)) ∧ w = w' := by
  go_enter Tryd.func26, Tryd.ntmps26
  go_wp2_with fail
  go_loopw [3, 4] (fun p i w8 => ∃ j : Nat, j ≤ k ∧ i = .int .i64 j ∧ p = .int .i64 (2 ^ j) ∧ w8 = w) (fun _ i _ => k - (intOf i).toNat)
  case atStart => exact ⟨0, by omega, rfl, by simp, rfl⟩
  case round =>
    obtain ⟨j, hj, rfl, rfl, hB⟩ := hrel
    subst hB
    by_cases hlt : j < k
    · have hp : (2 : Int) ^ j ≤ 2 ^ 31 := by
        have := Nat.pow_le_pow_right (show 0 < 2 by decide) (show j ≤ 31 by omega)
        exact_mod_cast this
      have hp0 : (0 : Int) < 2 ^ j := Int.pow_pos (by decide)
      have hs : wrap64 (2 ^ j * 2) = 2 ^ (j + 1) := by rw [Int.pow_succ]; exact w64 (by omega)
      go_wp2_with fail
      exact ⟨⟨j + 1, by omega, by go_num, rfl, trivial⟩, by simp [intOf]; omega⟩
    · have hjk : j = k := by omega
      subst hjk
      go_wp2_with fail
      go_returns
      exact ⟨rfl, rfl⟩
theorem down_eq (a : Int) (k : Nat) : (if a < 0 ∧ a.tdiv (2 ^ k) * 2 ^ k ≠ a then a.tdiv (2 ^ k) - 1 else a.tdiv (2 ^ k)) = a / 2 ^ k := by
  have hp : (0 : Int) < 2 ^ k := Int.pow_pos (by decide)
  have h1 := Int.tdiv_mul_add_tmod a (2 ^ k)
  have h2 := Int.ediv_mul_add_emod a (2 ^ k)
  by_cases h0 : 0 ≤ a
  · rw [if_neg (by omega), Int.tdiv_eq_ediv_of_nonneg h0]
  · by_cases hd : (2 : Int) ^ k ∣ a
    · have hq : a.tdiv (2 ^ k) = a / 2 ^ k := by rw [Int.tdiv_eq_ediv, if_pos (Or.inr hd), Int.add_zero]
      have h3 : a / 2 ^ k * 2 ^ k = a := Int.ediv_mul_cancel hd
      rw [hq, if_neg (fun h => h.2 h3)]
    · have hq : a.tdiv (2 ^ k) = a / 2 ^ k + 1 := by
        rw [Int.tdiv_eq_ediv, if_neg (fun h => h.elim h0 hd), Int.sign_eq_one_of_pos hp]
      rw [hq, if_pos ⟨by omega, fun h => hd ⟨a / 2 ^ k + 1, by rw [Int.mul_comm]; exact h.symm⟩⟩]
      omega
end Go.Proofs.YtihbgppcacaekaaDoor

namespace Go.Proofs.YtihbgppcacaekaaDoor
open Go.RowKit Go.BigFrame

theorem down_any (a : Int) (k : Nat) (ha : -2147483648 ≤ a ∧ a < 2147483648) (hk : k < 32) (w : World) : Calls Tryd.prog 29 #[.int .i64 a, .int .i64 (2 ^ k)] w fun e w' => e = .returned (.int .i64 (a / 2 ^ k)) ∧ Below w.heap.size w w' := by
  have hd := down_eq a k
  have hp : (0 : Int) < 2 ^ k := Int.pow_pos (by decide)
  have hp2 : (2 : Int) ^ k ≤ 2147483648 := by
    have h1 := Nat.pow_le_pow_right (show 0 < 2 by decide) (show k ≤ 31 by omega)
    have h2 : (2 : Int) ^ k ≤ 2 ^ 31 := by exact_mod_cast h1
    omega
  have hq0 : (a.tdiv (2 ^ k)).natAbs ≤ a.natAbs := Int.natAbs_tdiv_le_natAbs _ _
  generalize a / 2 ^ k = r at *
  generalize (2 : Int) ^ k = D at *
  have hD : (D == 0) = false := by simp; omega
  have hq : wrap64 (a.tdiv D) = a.tdiv D := w64 (by omega)
  have hm : wrap64 (a.tdiv D * D) = a.tdiv D * D := w64 (by
    have h1 := Int.natAbs_mul (a.tdiv D) D
    have h2 : (a.tdiv D).natAbs * D.natAbs ≤ 2147483648 * 2147483648 := Nat.mul_le_mul (by omega) (by omega)
    omega)
  have hs : wrap64 (a.tdiv D - 1) = a.tdiv D - 1 := w64 (by omega)
  by_cases h0 : a < 0
  · by_cases h1 : a.tdiv D * D = a
    · rw [if_neg (fun h => h.2 h1)] at hd
      subst hd
      have h2 : (a.tdiv D * D == a) = true := by simp [h1]
      have h3 : (a.tdiv D * D != a) = false := by simp [h1]
      have h4 : decide (a.tdiv D * D = a) = true := by simp [h1]
      go_enter Tryd.func29, Tryd.ntmps29
      go_wp2_with fail
      go_returns
      exact ⟨rfl, Below.refl _ _⟩
    · rw [if_pos ⟨h0, h1⟩] at hd
      have h2 : (a.tdiv D * D == a) = false := by simp [h1]
      have h3 : (a.tdiv D * D != a) = true := by simp [h1]
      have h4 : decide (a.tdiv D * D = a) = false := by simp [h1]
      go_enter Tryd.func29, Tryd.ntmps29
      go_wp2_with fail
      go_returns
      exact ⟨by rw [← hd]; rfl, Below.refl _ _⟩
  · rw [if_neg (fun h => h0 h.1)] at hd
    subst hd
    go_enter Tryd.func29, Tryd.ntmps29
    go_wp2_with fail
    go_returns
    exact ⟨rfl, Below.refl _ _⟩

theorem pl_b (a : Int) : pl a = ((b32 a).toNat : Int) := by
  unfold b32 pl
  rw [BitVec.toNat_ofInt]
  omega
theorem bit_val (a : Int) (j : Nat) : (pl a / 2 ^ j) % 2 = (((b32 a).toNat.testBit j).toNat : Int) := by
  rw [Nat.toNat_testBit, pl_b]
  simp
theorem sum_step (Z : Nat) (j : Nat) : Z % 2 ^ (j + 1) = Z % 2 ^ j + 2 ^ j * (Z.testBit j).toNat := by rw [Nat.mod_pow_succ, Nat.toNat_testBit]
theorem bit_b (a : Int) (j : Nat) (bx : Bool) (hb : (b32 a).toNat.testBit j = bx) (hj : j ≤ 32) (w : World) : Calls Tryd.prog 45 #[.int .i64 a, .int .i64 j] w fun e w' => e = .returned (.int .i64 (bx.toNat : Int)) ∧ Below w.heap.size w w' := by
  have h := bit_any a j hj w
  rw [bit_val, hb] at h
  exact h

set_option maxRecDepth 1000000 in
set_option maxHeartbeats 4000000 in
theorem bits0_any (a b : Int) (w : World) : Calls Tryd.prog 28 #[.int .i64 a, .int .i64 b, .int .i64 0] w fun e w' => e = .returned (.int .i64 ((b32 a &&& b32 b).toNat : Int)) ∧ Below w.heap.size w w' := by
  obtain ⟨Z, hZ⟩ : ∃ Z, Z = (b32 a &&& b32 b).toNat := ⟨_, rfl⟩
  have hlt : Z < 4294967296 := by rw [hZ]; exact (b32 a &&& b32 b).isLt
  have hbit : ∀ j, Z.testBit j = ((b32 a).toNat.testBit j && (b32 b).toNat.testBit j) := fun j => by rw [hZ, BitVec.toNat_and, Nat.testBit_and]
  rw [← hZ]
  clear hZ
  go_enter Tryd.func28, Tryd.ntmps28
  go_wp2_with fail
  go_loopw [7, 8] (fun n i w8 => ∃ j : Nat, j ≤ 32 ∧ i = .int .i64 j ∧ n = .int .i64 ((Z % 2 ^ j : Nat) : Int) ∧ Below w.heap.size w w8) (fun _ i _ => 32 - (intOf i).toNat)
  case atStart => exact ⟨0, by omega, rfl, by simp [Nat.mod_one], Below.refl _ _⟩
  case round =>
    obtain ⟨j, hj, rfl, rfl, hB⟩ := hrel
    by_cases hl : j < 32
    · have hb := hbit j
      have hs := sum_step Z j
      have hm : Z % 2 ^ (j + 1) ≤ Z := Nat.mod_le _ _
      rw [hb] at hs
      have cx := fun w => bit_b a j _ rfl (by omega) w
      have cy := fun w => bit_b b j _ rfl (by omega) w
      generalize (b32 a).toNat.testBit j = bx at *
      generalize (b32 b).toNat.testBit j = bb at *
      clear hbit hb
      have cp := fun w => power_any j (by omega) w
      have hpw : (2 : Int) ^ j = ((2 ^ j : Nat) : Int) := by simp
      generalize Z % 2 ^ j = N at *
      generalize hN' : Z % 2 ^ (j + 1) = N' at *
      have hP : 0 < 2 ^ j := Nat.pow_pos (by decide)
      rw [hpw] at cp
      generalize (2 : Nat) ^ j = P at *
      cases bx <;> cases bb
      all_goals
        simp at hs
        have HS := Lib.hid hs
        have hw : N' = N ∨ wrap64 ((N : Int) + (P : Int)) = (N' : Int) := by
          by_cases h : N' = N
          · exact .inl h
          · refine .inr ?_
            rw [w64 (by omega)]
            omega
        have HW := Lib.hid hw
        clear hs hw
        go_wp2_with (first
          | (go_at_call_of 45 a; refine (cx _).mono ?_; rintro e w1 ⟨rfl, hb1⟩)
          | (go_at_call_of 45 b; refine (cy _).mono ?_; rintro e w2 ⟨rfl, hb2⟩)
          | (go_at_call 26; refine (cp _).mono ?_; rintro e w' ⟨rfl, rfl⟩))
        exact ⟨⟨j + 1, by omega, by go_num, by rw [hN']; first | exact congrArg (Value.int .i64) (by have := HS.out; omega) | exact congrArg (Value.int .i64) (HW.out.resolve_left (by have := HS.out; omega)), (hB.trans (hb1.mono hB.size)).trans (hb2.mono (Nat.le_trans hB.size hb1.size))⟩, by simp [intOf]; omega⟩
    · have hj2 : j = 32 := by omega
      subst hj2
      have hmod : Z % 2 ^ 32 = Z := Nat.mod_eq_of_lt hlt
      rw [hmod]
      go_wp2_with fail
      go_returns
      exact ⟨rfl, hB⟩

set_option maxRecDepth 1000000 in
set_option maxHeartbeats 4000000 in
theorem bits1_any (a b : Int) (w : World) : Calls Tryd.prog 28 #[.int .i64 a, .int .i64 b, .int .i64 1] w fun e w' => e = .returned (.int .i64 ((b32 a ||| b32 b).toNat : Int)) ∧ Below w.heap.size w w' := by
  obtain ⟨Z, hZ⟩ : ∃ Z, Z = (b32 a ||| b32 b).toNat := ⟨_, rfl⟩
  have hlt : Z < 4294967296 := by rw [hZ]; exact (b32 a ||| b32 b).isLt
  have hbit : ∀ j, Z.testBit j = ((b32 a).toNat.testBit j || (b32 b).toNat.testBit j) := fun j => by rw [hZ, BitVec.toNat_or, Nat.testBit_or]
  rw [← hZ]
  clear hZ
  go_enter Tryd.func28, Tryd.ntmps28
  go_wp2_with fail
  go_loopw [7, 8] (fun n i w8 => ∃ j : Nat, j ≤ 32 ∧ i = .int .i64 j ∧ n = .int .i64 ((Z % 2 ^ j : Nat) : Int) ∧ Below w.heap.size w w8) (fun _ i _ => 32 - (intOf i).toNat)
  case atStart => exact ⟨0, by omega, rfl, by simp [Nat.mod_one], Below.refl _ _⟩
  case round =>
    obtain ⟨j, hj, rfl, rfl, hB⟩ := hrel
    by_cases hl : j < 32
    · have hb := hbit j
      have hs := sum_step Z j
      have hm : Z % 2 ^ (j + 1) ≤ Z := Nat.mod_le _ _
      rw [hb] at hs
      have cx := fun w => bit_b a j _ rfl (by omega) w
      have cy := fun w => bit_b b j _ rfl (by omega) w
      generalize (b32 a).toNat.testBit j = bx at *
      generalize (b32 b).toNat.testBit j = bb at *
      clear hbit hb
      have cp := fun w => power_any j (by omega) w
      have hpw : (2 : Int) ^ j = ((2 ^ j : Nat) : Int) := by simp
      generalize Z % 2 ^ j = N at *
      generalize hN' : Z % 2 ^ (j + 1) = N' at *
      have hP : 0 < 2 ^ j := Nat.pow_pos (by decide)
      rw [hpw] at cp
      generalize (2 : Nat) ^ j = P at *
      cases bx <;> cases bb
      all_goals
        simp at hs
        have HS := Lib.hid hs
        have hw : N' = N ∨ wrap64 ((N : Int) + (P : Int)) = (N' : Int) := by
          by_cases h : N' = N
          · exact .inl h
          · refine .inr ?_
            rw [w64 (by omega)]
            omega
        have HW := Lib.hid hw
        clear hs hw
        go_wp2_with (first
          | (go_at_call_of 45 a; refine (cx _).mono ?_; rintro e w1 ⟨rfl, hb1⟩)
          | (go_at_call_of 45 b; refine (cy _).mono ?_; rintro e w2 ⟨rfl, hb2⟩)
          | (go_at_call 26; refine (cp _).mono ?_; rintro e w' ⟨rfl, rfl⟩))
        exact ⟨⟨j + 1, by omega, by go_num, by rw [hN']; first | exact congrArg (Value.int .i64) (by have := HS.out; omega) | exact congrArg (Value.int .i64) (HW.out.resolve_left (by have := HS.out; omega)), (hB.trans (hb1.mono hB.size)).trans (hb2.mono (Nat.le_trans hB.size hb1.size))⟩, by simp [intOf]; omega⟩
    · have hj2 : j = 32 := by omega
      subst hj2
      have hmod : Z % 2 ^ 32 = Z := Nat.mod_eq_of_lt hlt
      rw [hmod]
      go_wp2_with fail
      go_returns
      exact ⟨rfl, hB⟩

set_option maxRecDepth 1000000 in
set_option maxHeartbeats 4000000 in
theorem bits2_any (a b : Int) (w : World) : Calls Tryd.prog 28 #[.int .i64 a, .int .i64 b, .int .i64 2] w fun e w' => e = .returned (.int .i64 ((b32 a ^^^ b32 b).toNat : Int)) ∧ Below w.heap.size w w' := by
  obtain ⟨Z, hZ⟩ : ∃ Z, Z = (b32 a ^^^ b32 b).toNat := ⟨_, rfl⟩
  have hlt : Z < 4294967296 := by rw [hZ]; exact (b32 a ^^^ b32 b).isLt
  have hbit : ∀ j, Z.testBit j = ((b32 a).toNat.testBit j ^^ (b32 b).toNat.testBit j) := fun j => by rw [hZ, BitVec.toNat_xor, Nat.testBit_xor]
  rw [← hZ]
  clear hZ
  go_enter Tryd.func28, Tryd.ntmps28
  go_wp2_with fail
  go_loopw [7, 8] (fun n i w8 => ∃ j : Nat, j ≤ 32 ∧ i = .int .i64 j ∧ n = .int .i64 ((Z % 2 ^ j : Nat) : Int) ∧ Below w.heap.size w w8) (fun _ i _ => 32 - (intOf i).toNat)
  case atStart => exact ⟨0, by omega, rfl, by simp [Nat.mod_one], Below.refl _ _⟩
  case round =>
    obtain ⟨j, hj, rfl, rfl, hB⟩ := hrel
    by_cases hl : j < 32
    · have hb := hbit j
      have hs := sum_step Z j
      have hm : Z % 2 ^ (j + 1) ≤ Z := Nat.mod_le _ _
      rw [hb] at hs
      have cx := fun w => bit_b a j _ rfl (by omega) w
      have cy := fun w => bit_b b j _ rfl (by omega) w
      generalize (b32 a).toNat.testBit j = bx at *
      generalize (b32 b).toNat.testBit j = bb at *
      clear hbit hb
      have cp := fun w => power_any j (by omega) w
      have hpw : (2 : Int) ^ j = ((2 ^ j : Nat) : Int) := by simp
      generalize Z % 2 ^ j = N at *
      generalize hN' : Z % 2 ^ (j + 1) = N' at *
      have hP : 0 < 2 ^ j := Nat.pow_pos (by decide)
      rw [hpw] at cp
      generalize (2 : Nat) ^ j = P at *
      cases bx <;> cases bb
      all_goals
        simp at hs
        have HS := Lib.hid hs
        have hw : N' = N ∨ wrap64 ((N : Int) + (P : Int)) = (N' : Int) := by
          by_cases h : N' = N
          · exact .inl h
          · refine .inr ?_
            rw [w64 (by omega)]
            omega
        have HW := Lib.hid hw
        clear hs hw
        go_wp2_with (first
          | (go_at_call_of 45 a; refine (cx _).mono ?_; rintro e w1 ⟨rfl, hb1⟩)
          | (go_at_call_of 45 b; refine (cy _).mono ?_; rintro e w2 ⟨rfl, hb2⟩)
          | (go_at_call 26; refine (cp _).mono ?_; rintro e w' ⟨rfl, rfl⟩))
        exact ⟨⟨j + 1, by omega, by go_num, by rw [hN']; first | exact congrArg (Value.int .i64) (by have := HS.out; omega) | exact congrArg (Value.int .i64) (HW.out.resolve_left (by have := HS.out; omega)), (hB.trans (hb1.mono hB.size)).trans (hb2.mono (Nat.le_trans hB.size hb1.size))⟩, by simp [intOf]; omega⟩
    · have hj2 : j = 32 := by omega
      subst hj2
      have hmod : Z % 2 ^ 32 = Z := Nat.mod_eq_of_lt hlt
      rw [hmod]
      go_wp2_with fail
      go_returns
      exact ⟨rfl, hB⟩
end Go.Proofs.YtihbgppcacaekaaDoor
