import Derived.Test.YtkcclefonmnpnaaZc
import Derived.Deep.RegionWith
import Derived.ProofKit
import Derived.WalkKit
import Derived.WalkLawsBesides
import Derived.WalkSpells
import Derived.Outline
import Derived.Laws.Rows
import Derived.Lib.Hide
import Derived.Handy
import Derived.WalkMore
import Derived.ScopeJumps
import Derived.Deep.QuietTactic
import Derived.BigQuiet
import Derived.Laws.BitsLemmas
import Derived.Laws.Shifts
import Derived.Test.YtkcclefonmnpnaaZf
import Derived.Laws.Tables
import Derived.Laws.CopyOwn
import Derived.Laws.CopyRow
import Derived.Laws.MakeOwn
import Derived.Maps.AppendAt
import Derived.Deep.LoopGhost
import Derived.Deep.RegionHeld3
import Derived.Test.YtkcclefonmnpnaaZa
import Derived.Deep.Slices
import Derived.ChangeArms
import Derived.OpenShut
import Derived.SizedLaws
import Derived.Carry
namespace Go.Proofs.Ytkcclefonmnpnaa
open Go.RowKit Go.BigFrame
def pl (n : Int) : Int := n % 4294967296

theorem wr_bd (n : Int) : -2147483648 ≤ wr n ∧ wr n < 2147483648 := by unfold wr; omega
theorem pl_bd (n : Int) : 0 ≤ pl n ∧ pl n < 4294967296 := by unfold pl; omega
theorem w64 {n : Int} (h : -9223372036854775808 ≤ n ∧ n < 9223372036854775808) : wrap64 n = n := by unfold wrap64; omega
theorem k64 (n : Int) : IntKind.i64.wrap n = wrap64 n := by rw [IntKind.wrap_i64]; unfold wrap64; rfl
theorem plain_any (n : Int) (w : World) : Calls Try.prog 107 #[.int .i64 n] w fun e w' => e = .returned (.int .i64 (pl n)) ∧ w = w' := by
  go_enter Try.func107, Try.ntmps107
  go_wp2
  go_returns
  exact ⟨rfl, rfl⟩
def tv (b : Bool) : Int := if b then 1 else 0
def dv (a b : Int) : Int := if b = 0 then 0 else a.tdiv b
def md (a b : Int) : Int := if b = 0 then 0 else a.tmod b
theorem truth_any (b : Bool) (w : World) : Calls Try.prog 108 #[.bool b] w fun e w' => e = .returned (.int .i64 (tv b)) ∧ w = w' := by
  cases b <;> (go_enter Try.func108, Try.ntmps108; go_wp2; go_returns; exact ⟨rfl, rfl⟩)
theorem told_any (n : Int) (w : World) : Calls Try.prog 105 #[.int .i64 n] w fun e w' => e = .returned (.tuple #[.int .i64 (wr n), .bool true]) ∧ w = w' := by
  go_enter Try.func105, Try.ntmps105
  go_wp2_with (go_at_call 104; refine (wrap_any _ _).mono ?_; rintro e w' ⟨rfl, rfl⟩)
  go_returns
  exact ⟨rfl, rfl⟩
theorem divide_any (a b : Int) (w : World) (ha : -4294967296 ≤ a ∧ a < 4294967296) (hb : -4294967296 ≤ b ∧ b < 4294967296) :
    Calls Try.prog 106 #[.int .i64 a, .int .i64 b] w fun e w' => e = .returned (.tuple #[.int .i64 (dv a b), .int .i64 (md a b), .bool (!decide (b = 0))]) ∧ Below w.heap.size w w' := by
  by_cases h : b = 0
  · subst h
    go_enter Try.func106, Try.ntmps106
    go_wp2
    refine wp_scope_jumps 0 (fun a' w' => w' = w ∧ ∃ (u2 u3 u9 u10 u11 u12 u13 u14 : Value), a' = { tmps := #[.int .i64 a, .int .i64 0, u2, u3, .int .i64 0, .int .i64 0, .bool false, .int .i64 0, .bool true, u9, u10, u11, u12, u13, u14], defers := [] }) (fun _ _ => 0) rfl ?_ ?_
    · go_wp2
      go_step3
      exact ⟨rfl, rfl, _, _, _, _, _, _, _, _, rfl⟩
    · rintro _ _ ⟨rfl, u2, u3, u9, u10, u11, u12, u13, u14, rfl⟩
      go_wp2
      simp only [Exit.jump]
      go_returns
      exact ⟨rfl, Below.refl _ _⟩
  · have h1 : (b == 0) = false := by simp [h]
    have hq : wrap64 (a.tdiv b) = a.tdiv b := w64 (by
      have h1 := Int.natAbs_tdiv_le_natAbs a b
      omega)
    have hm : wrap64 (a.tmod b) = a.tmod b := w64 (by
      have h1 := Int.tmod_add_mul_tdiv a b
      have h2 : (a.tmod b).natAbs ≤ a.natAbs := by rw [Int.natAbs_tmod]; exact Nat.mod_le _ _
      omega)
    go_enter Try.func106, Try.ntmps106
    go_wp2
    go_step3
    go_wp2
    have hq' : IntKind.i64.wrap (a.tdiv b) = a.tdiv b := by rw [k64]; exact hq
    have hm' : IntKind.i64.wrap (a.tmod b) = a.tmod b := by rw [k64]; exact hm
    go_quiet (fail)
    go_wp2
    rw [Exit.noGoto_ret]
    go_returns
    exact ⟨by simp [h, dv, md], below_drewN (Below.refl _ _) nq⟩
end Go.Proofs.Ytkcclefonmnpnaa

namespace Go.Proofs.Ytkcclefonmnpnaa
open Go.RowKit Go.BigFrame

theorem ofInt_and31 (n : Int) : bits .and .i64 n 31 = n % 32 := by
  show IntKind.i64.wrap ((BitVec.ofInt 64 n &&& BitVec.ofInt 64 31).toNat : Int) = _
  have h1 : BitVec.ofInt 64 31 = 31#64 := by decide
  rw [h1, BitVec.toNat_and, show (31#64).toNat = 2 ^ 5 - 1 from rfl, Nat.and_two_pow_sub_one_eq_mod, k64]
  simp [BitVec.toNat_ofInt, wrap64]
  omega
theorem mul_bd {a b : Int} (h1 : -2147483648 ≤ a ∧ a < 2147483648) (h2 : -2147483648 ≤ b ∧ b < 2147483648) : -9223372036854775808 ≤ a * b ∧ a * b < 9223372036854775808 := by
  have h := Int.natAbs_mul a b
  have h3 : a.natAbs * b.natAbs ≤ 2147483648 * 2147483648 := Nat.mul_le_mul (by omega) (by omega)
  omega
theorem shl_bd {a : Int} {k : Nat} (h1 : -2147483648 ≤ a ∧ a < 2147483648) (hk : k < 32) : -9223372036854775808 ≤ a * 2 ^ k ∧ a * 2 ^ k < 9223372036854775808 := by
  have h := Int.natAbs_mul a (2 ^ k)
  have h2 : ((2 : Int) ^ k).natAbs = 2 ^ k := by rw [Int.natAbs_pow]; rfl
  rw [h2] at h
  have hp : 2 ^ k ≤ 2 ^ 31 := Nat.pow_le_pow_right (by decide) (by omega)
  have h3 : a.natAbs * 2 ^ k ≤ 2147483648 * 2147483648 := Nat.mul_le_mul (by omega) hp
  omega
set_option maxRecDepth 1000000 in
set_option maxHeartbeats 1000000 in
theorem do_1 (a b : Int) (w : World) : Calls Try.prog 88 #[.int .i64 1, .int .i64 a, .int .i64 b] w fun e w' => e = .returned (.tuple #[.int .i64 (wr (wr a + wr b)), .bool (true)]) ∧ w = w' := by
  have h1 := wr_bd a
  have h2 := wr_bd b
  have h3 : wrap64 (wr a + wr b) = wr a + wr b := w64 (by omega)
  go_enter Try.func88, Try.ntmps88
  go_wp2_with (first
    | (go_at_call 104; refine (wrap_any _ _).mono ?_; rintro e w' ⟨rfl, rfl⟩)
    | (go_at_call 107; refine (plain_any _ _).mono ?_; rintro e w' ⟨rfl, rfl⟩)
    | (go_at_call 108; refine (truth_any _ _).mono ?_; rintro e w' ⟨rfl, rfl⟩)
    | (go_at_call 105; refine (told_any _ _).mono ?_; rintro e w' ⟨rfl, rfl⟩))
  go_returns
  exact ⟨rfl, rfl⟩
set_option maxRecDepth 1000000 in
set_option maxHeartbeats 1000000 in
theorem do_2 (a b : Int) (w : World) : Calls Try.prog 88 #[.int .i64 2, .int .i64 a, .int .i64 b] w fun e w' => e = .returned (.tuple #[.int .i64 (wr (wr a - wr b)), .bool (true)]) ∧ w = w' := by
  have h1 := wr_bd a
  have h2 := wr_bd b
  have h3 : wrap64 (wr a - wr b) = wr a - wr b := w64 (by omega)
  go_enter Try.func88, Try.ntmps88
  go_wp2_with (first
    | (go_at_call 104; refine (wrap_any _ _).mono ?_; rintro e w' ⟨rfl, rfl⟩)
    | (go_at_call 107; refine (plain_any _ _).mono ?_; rintro e w' ⟨rfl, rfl⟩)
    | (go_at_call 108; refine (truth_any _ _).mono ?_; rintro e w' ⟨rfl, rfl⟩)
    | (go_at_call 105; refine (told_any _ _).mono ?_; rintro e w' ⟨rfl, rfl⟩))
  go_returns
  exact ⟨rfl, rfl⟩
set_option maxRecDepth 1000000 in
set_option maxHeartbeats 1000000 in
theorem do_3 (a b : Int) (w : World) : Calls Try.prog 88 #[.int .i64 3, .int .i64 a, .int .i64 b] w fun e w' => e = .returned (.tuple #[.int .i64 (wr (wr a * wr b)), .bool (true)]) ∧ w = w' := by
  have h1 := wr_bd a
  have h2 := wr_bd b
  have h3 : wrap64 (wr a * wr b) = wr a * wr b := w64 (mul_bd h1 h2)
  go_enter Try.func88, Try.ntmps88
  go_wp2_with (first
    | (go_at_call 104; refine (wrap_any _ _).mono ?_; rintro e w' ⟨rfl, rfl⟩)
    | (go_at_call 107; refine (plain_any _ _).mono ?_; rintro e w' ⟨rfl, rfl⟩)
    | (go_at_call 108; refine (truth_any _ _).mono ?_; rintro e w' ⟨rfl, rfl⟩)
    | (go_at_call 105; refine (told_any _ _).mono ?_; rintro e w' ⟨rfl, rfl⟩))
  go_returns
  exact ⟨rfl, rfl⟩
set_option maxRecDepth 1000000 in
set_option maxHeartbeats 1000000 in
theorem do_4 (a b : Int) (w : World) : Calls Try.prog 88 #[.int .i64 4, .int .i64 a, .int .i64 b] w fun e w' => e = .returned (.tuple #[.int .i64 (wr (dv (wr a) (wr b))), .bool (!decide (wr b = 0))]) ∧ Below w.heap.size w w' := by
  have h1 := wr_bd a
  have h2 := wr_bd b
  have h3 : -4294967296 ≤ wr a ∧ wr a < 4294967296 := by omega
  have h4 : -4294967296 ≤ wr b ∧ wr b < 4294967296 := by omega
  go_enter Try.func88, Try.ntmps88
  go_wp2_with (first
    | (go_at_call 104; refine (wrap_any _ _).mono ?_; rintro e w' ⟨rfl, rfl⟩)
    | (go_at_call 107; refine (plain_any _ _).mono ?_; rintro e w' ⟨rfl, rfl⟩)
    | (go_at_call 108; refine (truth_any _ _).mono ?_; rintro e w' ⟨rfl, rfl⟩)
    | (go_at_call 106; refine (divide_any _ _ _ h3 h4).mono ?_; rintro e w' ⟨rfl, hb⟩)
    | (go_at_call 105; refine (told_any _ _).mono ?_; rintro e w' ⟨rfl, rfl⟩))
  go_returns
  exact ⟨rfl, hb⟩
set_option maxRecDepth 1000000 in
set_option maxHeartbeats 1000000 in
theorem do_5 (a b : Int) (w : World) : Calls Try.prog 88 #[.int .i64 5, .int .i64 a, .int .i64 b] w fun e w' => e = .returned (.tuple #[.int .i64 (wr (md (wr a) (wr b))), .bool (!decide (wr b = 0))]) ∧ Below w.heap.size w w' := by
  have h1 := wr_bd a
  have h2 := wr_bd b
  have h3 : -4294967296 ≤ wr a ∧ wr a < 4294967296 := by omega
  have h4 : -4294967296 ≤ wr b ∧ wr b < 4294967296 := by omega
  go_enter Try.func88, Try.ntmps88
  go_wp2_with (first
    | (go_at_call 104; refine (wrap_any _ _).mono ?_; rintro e w' ⟨rfl, rfl⟩)
    | (go_at_call 107; refine (plain_any _ _).mono ?_; rintro e w' ⟨rfl, rfl⟩)
    | (go_at_call 108; refine (truth_any _ _).mono ?_; rintro e w' ⟨rfl, rfl⟩)
    | (go_at_call 106; refine (divide_any _ _ _ h3 h4).mono ?_; rintro e w' ⟨rfl, hb⟩)
    | (go_at_call 105; refine (told_any _ _).mono ?_; rintro e w' ⟨rfl, rfl⟩))
  go_returns
  exact ⟨rfl, hb⟩
set_option maxRecDepth 1000000 in
set_option maxHeartbeats 1000000 in
theorem do_6 (a b : Int) (w : World) : Calls Try.prog 88 #[.int .i64 6, .int .i64 a, .int .i64 b] w fun e w' => e = .returned (.tuple #[.int .i64 (wr (dv (pl (wr a)) (pl (wr b)))), .bool (!decide (pl (wr b) = 0))]) ∧ Below w.heap.size w w' := by
  have h1 := wr_bd a
  have h2 := wr_bd b
  have h3 : -4294967296 ≤ pl (wr a) ∧ pl (wr a) < 4294967296 := by have := pl_bd (wr a); omega
  have h4 : -4294967296 ≤ pl (wr b) ∧ pl (wr b) < 4294967296 := by have := pl_bd (wr b); omega
  go_enter Try.func88, Try.ntmps88
  go_wp2_with (first
    | (go_at_call 104; refine (wrap_any _ _).mono ?_; rintro e w' ⟨rfl, rfl⟩)
    | (go_at_call 107; refine (plain_any _ _).mono ?_; rintro e w' ⟨rfl, rfl⟩)
    | (go_at_call 108; refine (truth_any _ _).mono ?_; rintro e w' ⟨rfl, rfl⟩)
    | (go_at_call 106; refine (divide_any _ _ _ h3 h4).mono ?_; rintro e w' ⟨rfl, hb⟩)
    | (go_at_call 105; refine (told_any _ _).mono ?_; rintro e w' ⟨rfl, rfl⟩))
  go_returns
  exact ⟨rfl, hb⟩
set_option maxRecDepth 1000000 in
set_option maxHeartbeats 1000000 in
theorem do_7 (a b : Int) (w : World) : Calls Try.prog 88 #[.int .i64 7, .int .i64 a, .int .i64 b] w fun e w' => e = .returned (.tuple #[.int .i64 (wr (md (pl (wr a)) (pl (wr b)))), .bool (!decide (pl (wr b) = 0))]) ∧ Below w.heap.size w w' := by
  have h1 := wr_bd a
  have h2 := wr_bd b
  have h3 : -4294967296 ≤ pl (wr a) ∧ pl (wr a) < 4294967296 := by have := pl_bd (wr a); omega
  have h4 : -4294967296 ≤ pl (wr b) ∧ pl (wr b) < 4294967296 := by have := pl_bd (wr b); omega
  go_enter Try.func88, Try.ntmps88
  go_wp2_with (first
    | (go_at_call 104; refine (wrap_any _ _).mono ?_; rintro e w' ⟨rfl, rfl⟩)
    | (go_at_call 107; refine (plain_any _ _).mono ?_; rintro e w' ⟨rfl, rfl⟩)
    | (go_at_call 108; refine (truth_any _ _).mono ?_; rintro e w' ⟨rfl, rfl⟩)
    | (go_at_call 106; refine (divide_any _ _ _ h3 h4).mono ?_; rintro e w' ⟨rfl, hb⟩)
    | (go_at_call 105; refine (told_any _ _).mono ?_; rintro e w' ⟨rfl, rfl⟩))
  go_returns
  exact ⟨rfl, hb⟩
set_option maxRecDepth 1000000 in
set_option maxHeartbeats 1000000 in
theorem do_8 (a b : Int) (w : World) : Calls Try.prog 88 #[.int .i64 8, .int .i64 a, .int .i64 b] w fun e w' => e = .returned (.tuple #[.int .i64 (wr (bits .and .i64 (wr a) (wr b))), .bool (true)]) ∧ w = w' := by
  have h1 := wr_bd a
  have h2 := wr_bd b
  go_enter Try.func88, Try.ntmps88
  go_wp2_with (first
    | (go_at_call 104; refine (wrap_any _ _).mono ?_; rintro e w' ⟨rfl, rfl⟩)
    | (go_at_call 107; refine (plain_any _ _).mono ?_; rintro e w' ⟨rfl, rfl⟩)
    | (go_at_call 108; refine (truth_any _ _).mono ?_; rintro e w' ⟨rfl, rfl⟩)
    | (go_at_call 105; refine (told_any _ _).mono ?_; rintro e w' ⟨rfl, rfl⟩))
  go_returns
  exact ⟨rfl, rfl⟩
set_option maxRecDepth 1000000 in
set_option maxHeartbeats 1000000 in
theorem do_9 (a b : Int) (w : World) : Calls Try.prog 88 #[.int .i64 9, .int .i64 a, .int .i64 b] w fun e w' => e = .returned (.tuple #[.int .i64 (wr (bits .or .i64 (wr a) (wr b))), .bool (true)]) ∧ w = w' := by
  have h1 := wr_bd a
  have h2 := wr_bd b
  go_enter Try.func88, Try.ntmps88
  go_wp2_with (first
    | (go_at_call 104; refine (wrap_any _ _).mono ?_; rintro e w' ⟨rfl, rfl⟩)
    | (go_at_call 107; refine (plain_any _ _).mono ?_; rintro e w' ⟨rfl, rfl⟩)
    | (go_at_call 108; refine (truth_any _ _).mono ?_; rintro e w' ⟨rfl, rfl⟩)
    | (go_at_call 105; refine (told_any _ _).mono ?_; rintro e w' ⟨rfl, rfl⟩))
  go_returns
  exact ⟨rfl, rfl⟩
set_option maxRecDepth 1000000 in
set_option maxHeartbeats 1000000 in
theorem do_10 (a b : Int) (w : World) : Calls Try.prog 88 #[.int .i64 10, .int .i64 a, .int .i64 b] w fun e w' => e = .returned (.tuple #[.int .i64 (wr (bits .xor .i64 (wr a) (wr b))), .bool (true)]) ∧ w = w' := by
  have h1 := wr_bd a
  have h2 := wr_bd b
  go_enter Try.func88, Try.ntmps88
  go_wp2_with (first
    | (go_at_call 104; refine (wrap_any _ _).mono ?_; rintro e w' ⟨rfl, rfl⟩)
    | (go_at_call 107; refine (plain_any _ _).mono ?_; rintro e w' ⟨rfl, rfl⟩)
    | (go_at_call 108; refine (truth_any _ _).mono ?_; rintro e w' ⟨rfl, rfl⟩)
    | (go_at_call 105; refine (told_any _ _).mono ?_; rintro e w' ⟨rfl, rfl⟩))
  go_returns
  exact ⟨rfl, rfl⟩
set_option maxRecDepth 1000000 in
set_option maxHeartbeats 1000000 in
theorem do_11 (a b : Int) (w : World) : Calls Try.prog 88 #[.int .i64 11, .int .i64 a, .int .i64 b] w fun e w' => e = .returned (.tuple #[.int .i64 (wr (wr a * 2 ^ (wr b % 32).toNat)), .bool (true)]) ∧ w = w' := by
  have h1 := wr_bd a
  have h2 := wr_bd b
  have h3 : bits .and .i64 (wr b) 31 = wr b % 32 := ofInt_and31 _
  have h4 : decide (wr b % 32 < 0) = false := by simp; omega
  have h5 : ¬ (wr b % 32 < 0) := by omega
  have h6 : 0 ≤ wr b % 32 := by omega
  have h7 : IntKind.i64.wrap (wr a * 2 ^ (wr b % 32).toNat) = wr a * 2 ^ (wr b % 32).toNat := by rw [k64]; exact w64 (shl_bd h1 (by omega))
  have h8 : min (wr b % 32).toNat 64 = (wr b % 32).toNat := by omega
  have h9 : wrap64 (wr a * 2 ^ (wr b % 32).toNat) = wr a * 2 ^ (wr b % 32).toNat := w64 (shl_bd h1 (by omega))
  go_enter Try.func88, Try.ntmps88
  go_wp2_with (first
    | (go_at_call 104; refine (wrap_any _ _).mono ?_; rintro e w' ⟨rfl, rfl⟩)
    | (go_at_call 107; refine (plain_any _ _).mono ?_; rintro e w' ⟨rfl, rfl⟩)
    | (go_at_call 108; refine (truth_any _ _).mono ?_; rintro e w' ⟨rfl, rfl⟩)
    | (go_at_call 105; refine (told_any _ _).mono ?_; rintro e w' ⟨rfl, rfl⟩))
  go_returns
  exact ⟨rfl, rfl⟩
set_option maxRecDepth 1000000 in
set_option maxHeartbeats 1000000 in
theorem do_12 (a b : Int) (w : World) : Calls Try.prog 88 #[.int .i64 12, .int .i64 a, .int .i64 b] w fun e w' => e = .returned (.tuple #[.int .i64 (wr (wr a / 2 ^ (wr b % 32).toNat)), .bool (true)]) ∧ w = w' := by
  have h1 := wr_bd a
  have h2 := wr_bd b
  have h3 : bits .and .i64 (wr b) 31 = wr b % 32 := ofInt_and31 _
  have h4 : decide (wr b % 32 < 0) = false := by simp; omega
  have h5 : ¬ (wr b % 32 < 0) := by omega
  have h6 : 0 ≤ wr b % 32 := by omega
  go_enter Try.func88, Try.ntmps88
  go_wp2_with (first
    | (go_at_call 104; refine (wrap_any _ _).mono ?_; rintro e w' ⟨rfl, rfl⟩)
    | (go_at_call 107; refine (plain_any _ _).mono ?_; rintro e w' ⟨rfl, rfl⟩)
    | (go_at_call 108; refine (truth_any _ _).mono ?_; rintro e w' ⟨rfl, rfl⟩)
    | (go_at_call 105; refine (told_any _ _).mono ?_; rintro e w' ⟨rfl, rfl⟩))
  go_returns
  exact ⟨rfl, rfl⟩
set_option maxRecDepth 1000000 in
set_option maxHeartbeats 1000000 in
theorem do_13 (a b : Int) (w : World) : Calls Try.prog 88 #[.int .i64 13, .int .i64 a, .int .i64 b] w fun e w' => e = .returned (.tuple #[.int .i64 (wr (pl (wr a) / 2 ^ (wr b % 32).toNat)), .bool (true)]) ∧ w = w' := by
  have h1 := wr_bd a
  have h2 := wr_bd b
  have h3 : bits .and .i64 (wr b) 31 = wr b % 32 := ofInt_and31 _
  have h4 : decide (wr b % 32 < 0) = false := by simp; omega
  have h5 : ¬ (wr b % 32 < 0) := by omega
  have h6 : 0 ≤ wr b % 32 := by omega
  go_enter Try.func88, Try.ntmps88
  go_wp2_with (first
    | (go_at_call 104; refine (wrap_any _ _).mono ?_; rintro e w' ⟨rfl, rfl⟩)
    | (go_at_call 107; refine (plain_any _ _).mono ?_; rintro e w' ⟨rfl, rfl⟩)
    | (go_at_call 108; refine (truth_any _ _).mono ?_; rintro e w' ⟨rfl, rfl⟩)
    | (go_at_call 105; refine (told_any _ _).mono ?_; rintro e w' ⟨rfl, rfl⟩))
  go_returns
  exact ⟨rfl, rfl⟩
set_option maxRecDepth 1000000 in
set_option maxHeartbeats 1000000 in
theorem do_14 (a b : Int) (w : World) : Calls Try.prog 88 #[.int .i64 14, .int .i64 a, .int .i64 b] w fun e w' => e = .returned (.tuple #[.int .i64 (wr (tv (wr a == wr b))), .bool (true)]) ∧ w = w' := by
  have h1 := wr_bd a
  have h2 := wr_bd b
  go_enter Try.func88, Try.ntmps88
  go_wp2_with (first
    | (go_at_call 104; refine (wrap_any _ _).mono ?_; rintro e w' ⟨rfl, rfl⟩)
    | (go_at_call 107; refine (plain_any _ _).mono ?_; rintro e w' ⟨rfl, rfl⟩)
    | (go_at_call 108; refine (truth_any _ _).mono ?_; rintro e w' ⟨rfl, rfl⟩)
    | (go_at_call 105; refine (told_any _ _).mono ?_; rintro e w' ⟨rfl, rfl⟩))
  go_returns
  exact ⟨rfl, rfl⟩
set_option maxRecDepth 1000000 in
set_option maxHeartbeats 1000000 in
theorem do_15 (a b : Int) (w : World) : Calls Try.prog 88 #[.int .i64 15, .int .i64 a, .int .i64 b] w fun e w' => e = .returned (.tuple #[.int .i64 (wr (tv (wr a != wr b))), .bool (true)]) ∧ w = w' := by
  have h1 := wr_bd a
  have h2 := wr_bd b
  go_enter Try.func88, Try.ntmps88
  go_wp2_with (first
    | (go_at_call 104; refine (wrap_any _ _).mono ?_; rintro e w' ⟨rfl, rfl⟩)
    | (go_at_call 107; refine (plain_any _ _).mono ?_; rintro e w' ⟨rfl, rfl⟩)
    | (go_at_call 108; refine (truth_any _ _).mono ?_; rintro e w' ⟨rfl, rfl⟩)
    | (go_at_call 105; refine (told_any _ _).mono ?_; rintro e w' ⟨rfl, rfl⟩))
  go_returns
  exact ⟨rfl, rfl⟩
set_option maxRecDepth 1000000 in
set_option maxHeartbeats 1000000 in
theorem do_16 (a b : Int) (w : World) : Calls Try.prog 88 #[.int .i64 16, .int .i64 a, .int .i64 b] w fun e w' => e = .returned (.tuple #[.int .i64 (wr (tv (decide (wr a < wr b)))), .bool (true)]) ∧ w = w' := by
  have h1 := wr_bd a
  have h2 := wr_bd b
  go_enter Try.func88, Try.ntmps88
  go_wp2_with (first
    | (go_at_call 104; refine (wrap_any _ _).mono ?_; rintro e w' ⟨rfl, rfl⟩)
    | (go_at_call 107; refine (plain_any _ _).mono ?_; rintro e w' ⟨rfl, rfl⟩)
    | (go_at_call 108; refine (truth_any _ _).mono ?_; rintro e w' ⟨rfl, rfl⟩)
    | (go_at_call 105; refine (told_any _ _).mono ?_; rintro e w' ⟨rfl, rfl⟩))
  go_returns
  exact ⟨rfl, rfl⟩
set_option maxRecDepth 1000000 in
set_option maxHeartbeats 1000000 in
theorem do_17 (a b : Int) (w : World) : Calls Try.prog 88 #[.int .i64 17, .int .i64 a, .int .i64 b] w fun e w' => e = .returned (.tuple #[.int .i64 (wr (tv (decide (wr a ≤ wr b)))), .bool (true)]) ∧ w = w' := by
  have h1 := wr_bd a
  have h2 := wr_bd b
  go_enter Try.func88, Try.ntmps88
  go_wp2_with (first
    | (go_at_call 104; refine (wrap_any _ _).mono ?_; rintro e w' ⟨rfl, rfl⟩)
    | (go_at_call 107; refine (plain_any _ _).mono ?_; rintro e w' ⟨rfl, rfl⟩)
    | (go_at_call 108; refine (truth_any _ _).mono ?_; rintro e w' ⟨rfl, rfl⟩)
    | (go_at_call 105; refine (told_any _ _).mono ?_; rintro e w' ⟨rfl, rfl⟩))
  go_returns
  exact ⟨rfl, rfl⟩
set_option maxRecDepth 1000000 in
set_option maxHeartbeats 1000000 in
theorem do_18 (a b : Int) (w : World) : Calls Try.prog 88 #[.int .i64 18, .int .i64 a, .int .i64 b] w fun e w' => e = .returned (.tuple #[.int .i64 (wr (tv (decide (pl (wr a) < pl (wr b))))), .bool (true)]) ∧ w = w' := by
  have h1 := wr_bd a
  have h2 := wr_bd b
  go_enter Try.func88, Try.ntmps88
  go_wp2_with (first
    | (go_at_call 104; refine (wrap_any _ _).mono ?_; rintro e w' ⟨rfl, rfl⟩)
    | (go_at_call 107; refine (plain_any _ _).mono ?_; rintro e w' ⟨rfl, rfl⟩)
    | (go_at_call 108; refine (truth_any _ _).mono ?_; rintro e w' ⟨rfl, rfl⟩)
    | (go_at_call 105; refine (told_any _ _).mono ?_; rintro e w' ⟨rfl, rfl⟩))
  go_returns
  exact ⟨rfl, rfl⟩
set_option maxRecDepth 1000000 in
set_option maxHeartbeats 1000000 in
theorem do_19 (a b : Int) (w : World) : Calls Try.prog 88 #[.int .i64 19, .int .i64 a, .int .i64 b] w fun e w' => e = .returned (.tuple #[.int .i64 (wr (tv (decide (pl (wr a) ≤ pl (wr b))))), .bool (true)]) ∧ w = w' := by
  have h1 := wr_bd a
  have h2 := wr_bd b
  go_enter Try.func88, Try.ntmps88
  go_wp2_with (first
    | (go_at_call 104; refine (wrap_any _ _).mono ?_; rintro e w' ⟨rfl, rfl⟩)
    | (go_at_call 107; refine (plain_any _ _).mono ?_; rintro e w' ⟨rfl, rfl⟩)
    | (go_at_call 108; refine (truth_any _ _).mono ?_; rintro e w' ⟨rfl, rfl⟩)
    | (go_at_call 105; refine (told_any _ _).mono ?_; rintro e w' ⟨rfl, rfl⟩))
  go_returns
  exact ⟨rfl, rfl⟩
set_option maxRecDepth 1000000 in
set_option maxHeartbeats 1000000 in
theorem do_20 (a b : Int) (w : World) : Calls Try.prog 88 #[.int .i64 20, .int .i64 a, .int .i64 b] w fun e w' => e = .returned (.tuple #[.int .i64 (wr (-wr a)), .bool (true)]) ∧ w = w' := by
  have h1 := wr_bd a
  have h2 := wr_bd b
  have h3 : wrap64 (-wr a) = -wr a := w64 (by omega)
  go_enter Try.func88, Try.ntmps88
  go_wp2_with (first
    | (go_at_call 104; refine (wrap_any _ _).mono ?_; rintro e w' ⟨rfl, rfl⟩)
    | (go_at_call 107; refine (plain_any _ _).mono ?_; rintro e w' ⟨rfl, rfl⟩)
    | (go_at_call 108; refine (truth_any _ _).mono ?_; rintro e w' ⟨rfl, rfl⟩)
    | (go_at_call 105; refine (told_any _ _).mono ?_; rintro e w' ⟨rfl, rfl⟩))
  go_returns
  exact ⟨rfl, rfl⟩
set_option maxRecDepth 1000000 in
set_option maxHeartbeats 1000000 in
theorem do_21 (a b : Int) (w : World) : Calls Try.prog 88 #[.int .i64 21, .int .i64 a, .int .i64 b] w fun e w' => e = .returned (.tuple #[.int .i64 (wr (bits .xor .i64 (-1) (wr a))), .bool (true)]) ∧ w = w' := by
  have h1 := wr_bd a
  have h2 := wr_bd b
  go_enter Try.func88, Try.ntmps88
  go_wp2_with (first
    | (go_at_call 104; refine (wrap_any _ _).mono ?_; rintro e w' ⟨rfl, rfl⟩)
    | (go_at_call 107; refine (plain_any _ _).mono ?_; rintro e w' ⟨rfl, rfl⟩)
    | (go_at_call 108; refine (truth_any _ _).mono ?_; rintro e w' ⟨rfl, rfl⟩)
    | (go_at_call 105; refine (told_any _ _).mono ?_; rintro e w' ⟨rfl, rfl⟩))
  go_returns
  exact ⟨rfl, rfl⟩
set_option maxRecDepth 1000000 in
set_option maxHeartbeats 1000000 in
theorem do_22 (a b : Int) (w : World) : Calls Try.prog 88 #[.int .i64 22, .int .i64 a, .int .i64 b] w fun e w' => e = .returned (.tuple #[.int .i64 (wr (bits .and .i64 (wr a) 255)), .bool (true)]) ∧ w = w' := by
  have h1 := wr_bd a
  have h2 := wr_bd b
  go_enter Try.func88, Try.ntmps88
  go_wp2_with (first
    | (go_at_call 104; refine (wrap_any _ _).mono ?_; rintro e w' ⟨rfl, rfl⟩)
    | (go_at_call 107; refine (plain_any _ _).mono ?_; rintro e w' ⟨rfl, rfl⟩)
    | (go_at_call 108; refine (truth_any _ _).mono ?_; rintro e w' ⟨rfl, rfl⟩)
    | (go_at_call 105; refine (told_any _ _).mono ?_; rintro e w' ⟨rfl, rfl⟩))
  go_returns
  exact ⟨rfl, rfl⟩
set_option maxRecDepth 1000000 in
set_option maxHeartbeats 1000000 in
theorem do_23 (a b : Int) (w : World) : Calls Try.prog 88 #[.int .i64 23, .int .i64 a, .int .i64 b] w fun e w' => e = .returned (.tuple #[.int .i64 (wr (tv (wr a == 0))), .bool (true)]) ∧ w = w' := by
  have h1 := wr_bd a
  have h2 := wr_bd b
  go_enter Try.func88, Try.ntmps88
  go_wp2_with (first
    | (go_at_call 104; refine (wrap_any _ _).mono ?_; rintro e w' ⟨rfl, rfl⟩)
    | (go_at_call 107; refine (plain_any _ _).mono ?_; rintro e w' ⟨rfl, rfl⟩)
    | (go_at_call 108; refine (truth_any _ _).mono ?_; rintro e w' ⟨rfl, rfl⟩)
    | (go_at_call 105; refine (told_any _ _).mono ?_; rintro e w' ⟨rfl, rfl⟩))
  go_returns
  exact ⟨rfl, rfl⟩
end Go.Proofs.Ytkcclefonmnpnaa

namespace Go.Proofs.Ytkcclefonmnpnaa
open Go.RowKit Go.BigFrame

theorem and_mask (n : Int) (j : Nat) (hj : j ≤ 32) : bits .and .i64 n ((2 ^ j - 1 : Nat) : Int) = n % 2 ^ j := by
  show IntKind.i64.wrap ((BitVec.ofInt 64 n &&& BitVec.ofInt 64 ((2 ^ j - 1 : Nat) : Int)).toNat : Int) = _
  have hp : 2 ^ j ≤ 2 ^ 32 := Nat.pow_le_pow_right (by decide) hj
  have hp0 : 0 < 2 ^ j := Nat.pow_pos (by decide)
  have h1 : (BitVec.ofInt 64 ((2 ^ j - 1 : Nat) : Int)).toNat = 2 ^ j - 1 := by
    rw [BitVec.toNat_ofInt]
    omega
  rw [BitVec.toNat_and, h1, Nat.and_two_pow_sub_one_eq_mod, k64, BitVec.toNat_ofInt]
  have h2 : ((n % (2 ^ 64 : Nat)).toNat % 2 ^ j : Nat) = n % 2 ^ j := by
    have h3 : 0 ≤ n % ((2 ^ 64 : Nat) : Int) := Int.emod_nonneg _ (by decide)
    rw [Int.natCast_emod, Int.toNat_of_nonneg h3]
    have hd : ((2 : Int) ^ j) ∣ ((2 ^ 64 : Nat) : Int) := by
      have : (2 ^ j : Nat) ∣ 2 ^ 64 := Nat.pow_dvd_pow 2 (by omega)
      exact_mod_cast Int.natCast_dvd_natCast.2 this
    have := Int.emod_emod_of_dvd n hd
    simpa using this
  have h4 : n % 2 ^ j < 2 ^ 32 := by
    have h5 := Int.emod_lt_of_pos n (show (0 : Int) < 2 ^ j by exact_mod_cast hp0)
    have h6 : (2 : Int) ^ j ≤ 2 ^ 32 := by exact_mod_cast hp
    omega
  have h7 : 0 ≤ n % 2 ^ j := Int.emod_nonneg _ (by have : (0 : Int) < 2 ^ j := by exact_mod_cast hp0
                                                   omega)
  rw [h2]
  exact w64 (by omega)
theorem and255 (n : Int) : bits .and .i64 n 255 = n % 256 := by
  have h := and_mask n 8 (by decide)
  simpa using h
theorem xor_m1 (n : Int) (h : -2147483648 ≤ n ∧ n < 2147483648) : bits .xor .i64 (-1) n = -1 - n := by
  show IntKind.i64.wrap ((BitVec.ofInt 64 (-1) ^^^ BitVec.ofInt 64 n).toNat : Int) = _
  have h1 : BitVec.ofInt 64 (-1) = BitVec.allOnes 64 := by decide
  rw [h1, BitVec.allOnes_xor, BitVec.toNat_not, BitVec.toNat_ofInt, k64]
  unfold wrap64
  omega
end Go.Proofs.Ytkcclefonmnpnaa

namespace Go.Proofs.Ytkcclefonmnpnaa
open Go.RowKit Go.BigFrame

def b32 (n : Int) : BitVec 32 := BitVec.ofInt 32 n
theorem wr_b (n : Int) : wr n = (b32 n).toInt := by
  unfold b32
  rw [BitVec.toInt_ofInt]
  rw [Int.bmod_def]
  unfold wr
  split <;> omega
theorem b32_toInt (X : BitVec 32) : b32 X.toInt = X := by unfold b32; exact BitVec.ofInt_toInt
theorem wrap_toNat (Z : BitVec 64) : IntKind.i64.wrap (Z.toNat : Int) = Z.toInt := by
  rw [k64, BitVec.toInt_eq_toNat_bmod]
  have := Z.isLt
  rw [Int.bmod_def]
  unfold wrap64
  split <;> omega
theorem bits_and32 (X Y : BitVec 32) : bits .and .i64 X.toInt Y.toInt = (X &&& Y).toInt := by
  show IntKind.i64.wrap ((X.signExtend 64 &&& Y.signExtend 64).toNat : Int) = _
  rw [← BitVec.signExtend_and, wrap_toNat, BitVec.toInt_signExtend_of_le (by decide)]
theorem bits_or32 (X Y : BitVec 32) : bits .or .i64 X.toInt Y.toInt = (X ||| Y).toInt := by
  show IntKind.i64.wrap ((X.signExtend 64 ||| Y.signExtend 64).toNat : Int) = _
  rw [← BitVec.signExtend_or, wrap_toNat, BitVec.toInt_signExtend_of_le (by decide)]
theorem bits_xor32 (X Y : BitVec 32) : bits .xor .i64 X.toInt Y.toInt = (X ^^^ Y).toInt := by
  show IntKind.i64.wrap ((X.signExtend 64 ^^^ Y.signExtend 64).toNat : Int) = _
  rw [← BitVec.signExtend_xor, wrap_toNat, BitVec.toInt_signExtend_of_le (by decide)]
theorem wr_toInt (X : BitVec 32) : wr X.toInt = X.toInt := by rw [wr_b, b32_toInt]
theorem bits_not32 (X : BitVec 32) : bits .xor .i64 (-1) X.toInt = (~~~X).toInt := by
  have h := bits_xor32 (BitVec.allOnes 32) X
  rw [BitVec.allOnes_xor] at h
  rw [← h]
  congr 1
theorem v_not (n : Int) : wr (bits .xor .i64 (-1) (wr n)) = (~~~(b32 n)).toInt := by rw [wr_b n, bits_not32, wr_toInt]
theorem v_and (m n : Int) : wr (bits .and .i64 (wr m) (wr n)) = (b32 m &&& b32 n).toInt := by rw [wr_b m, wr_b n, bits_and32, wr_toInt]
theorem v_or (m n : Int) : wr (bits .or .i64 (wr m) (wr n)) = (b32 m ||| b32 n).toInt := by rw [wr_b m, wr_b n, bits_or32, wr_toInt]
theorem v_xor (m n : Int) : wr (bits .xor .i64 (wr m) (wr n)) = (b32 m ^^^ b32 n).toInt := by rw [wr_b m, wr_b n, bits_xor32, wr_toInt]
end Go.Proofs.Ytkcclefonmnpnaa

namespace Go.Proofs.Ytkcclefonmnpnaa
open Go.RowKit Go.BigFrame

theorem tmod_bd (n : Int) : (n.tmod 4294967296 = n % 4294967296 ∧ 0 ≤ n) ∨ (n.tmod 4294967296 = n % 4294967296 - 4294967296 ∧ n % 4294967296 ≠ 0 ∧ n < 0) ∨ (n.tmod 4294967296 = 0 ∧ n % 4294967296 = 0 ∧ n < 0) := by
  rcases Int.le_total 0 n with h | h
  · exact .inl ⟨Int.tmod_eq_emod_of_nonneg h, h⟩
  · have h1 := Int.tmod_add_mul_tdiv n 4294967296
    have h2 : n.tmod 4294967296 ≤ 0 := by
      have := Int.tmod_nonneg 4294967296 (show 0 ≤ -n by omega)
      rw [Int.neg_tmod] at this
      omega
    have h3 : (n.tmod 4294967296).natAbs < 4294967296 := by
      rw [Int.natAbs_tmod]; exact Nat.mod_lt _ (by decide)
    omega

theorem refwrap_any (n : Int) (w : World) : Calls Try.prog 73 #[.int .i64 n] w fun e w' => e = .returned (.int .i64 (wr n)) ∧ w = w' := by
  have h0 := tmod_bd n
  by_cases h1 : 2147483648 ≤ n.tmod 4294967296
  · have h2 : wrap64 (n.tmod 4294967296 - 4294967296) = n.tmod 4294967296 - 4294967296 := w64 (by omega)
    have h3 : n % 4294967296 - 4294967296 = wr n := by unfold wr; omega
    go_enter Try.func73, Try.ntmps73
    go_wp2
    go_returns
    exact ⟨rfl, rfl⟩
  · by_cases h3 : n.tmod 4294967296 < -2147483648
    · have h2 : n.tmod 4294967296 + 4294967296 = wr n := by unfold wr; omega
      go_enter Try.func73, Try.ntmps73
      go_wp2
      go_returns
      exact ⟨rfl, rfl⟩
    · have h2 : n.tmod 4294967296 = wr n := by unfold wr; omega
      go_enter Try.func73, Try.ntmps73
      go_wp2
      go_returns
      exact ⟨rfl, rfl⟩
theorem refplain_any (n : Int) (w : World) : Calls Try.prog 59 #[.int .i64 n] w fun e w' => e = .returned (.int .i64 (pl n)) ∧ w = w' := by
  have h1 := wr_bd n
  by_cases h : wr n < 0
  · have h2 : wrap64 (wr n + 4294967296) = wr n + 4294967296 := w64 (by omega)
    have h3 : wr n + 4294967296 = pl n := by unfold wr pl at *; omega
    go_enter Try.func59, Try.ntmps59
    go_wp2_with (go_at_call 73; refine (refwrap_any _ _).mono ?_; rintro e w' ⟨rfl, rfl⟩)
    go_returns
    exact ⟨rfl, rfl⟩
  · have h3 : wr n = pl n := by unfold wr pl at *; omega
    go_enter Try.func59, Try.ntmps59
    go_wp2_with (go_at_call 73; refine (refwrap_any _ _).mono ?_; rintro e w' ⟨rfl, rfl⟩)
    go_returns
    exact ⟨rfl, rfl⟩
theorem is_eq (n : Int) : (wr n == n) = (decide (-2147483648 ≤ n) && decide (n < 2147483648)) := by
  by_cases h1 : -2147483648 ≤ n <;> by_cases h2 : n < 2147483648 <;> simp [h1, h2] <;> unfold wr <;> omega
end Go.Proofs.Ytkcclefonmnpnaa

namespace Go.Proofs.Ytkcclefonmnpnaa
open Go.RowKit Go.BigFrame

theorem reftruth_any (b : Bool) (w : World) : Calls Try.prog 77 #[.bool b] w fun e w' => e = .returned (.int .i64 (tv b)) ∧ w = w' := by
  cases b <;> (go_enter Try.func77, Try.ntmps77; go_wp2; go_returns; exact ⟨rfl, rfl⟩)
theorem half_step (p : Int) (j : Nat) (hp : 0 ≤ p) : (p / 2 ^ j).tdiv 2 = p / 2 ^ (j + 1) := by
  have h : 0 ≤ p / 2 ^ j := Int.ediv_nonneg hp (Int.le_of_lt (Int.pow_pos (by decide)))
  rw [Int.tdiv_eq_ediv_of_nonneg h, Int.ediv_ediv_of_nonneg (Int.le_of_lt (Int.pow_pos (by decide))), Int.pow_succ]
set_option maxRecDepth 100000 in
theorem bit_any (n : Int) (k : Nat) (hk : k ≤ 32) (w : World) : Calls Try.prog 94 #[.int .i64 n, .int .i64 k] w fun e w' => e = .returned (.int .i64 ((pl n / 2 ^ k) % 2)) ∧ Below w.heap.size w w' := by
  have hpl := pl_bd n
  go_enter Try.func94, Try.ntmps94
  go_wp2_with (go_at_call 59; refine (refplain_any _ _).mono ?_; rintro e w' ⟨rfl, rfl⟩)
  go_loopw [5, 6] (fun p i w8 => ∃ j : Nat, j ≤ k ∧ i = .int .i64 j ∧ p = .int .i64 (pl n / 2 ^ j) ∧ Below w.heap.size w w8) (fun _ i _ => k - (intOf i).toNat)
  case atStart => exact ⟨0, by omega, rfl, by simp, Below.refl _ _⟩
  case round =>
    obtain ⟨j, hj, rfl, rfl, hB⟩ := hrel
    have hs := half_step (pl n) j hpl.1
    have h0 : 0 ≤ pl n / 2 ^ j := Int.ediv_nonneg hpl.1 (Int.le_of_lt (Int.pow_pos (by decide)))
    have h1 : pl n / 2 ^ j ≤ pl n := Int.ediv_le_self _ hpl.1
    by_cases hlt : j < k
    · have hd : wrap64 ((pl n / 2 ^ j).tdiv 2) = pl n / 2 ^ (j + 1) := by
        rw [hs]
        have h2 : 0 ≤ pl n / 2 ^ (j + 1) := Int.ediv_nonneg hpl.1 (Int.le_of_lt (Int.pow_pos (by decide)))
        have h3 : pl n / 2 ^ (j + 1) ≤ pl n := Int.ediv_le_self _ hpl.1
        exact w64 (by omega)
      have hq : wrap64 (pl n / 2 ^ (j + 1)) = pl n / 2 ^ (j + 1) := by rw [← hs]; rw [hs] at hd ⊢; exact hd
      have HQ := Lib.hid hq
      clear hq
      generalize pl n / 2 ^ j = p at *
      generalize hp' : pl n / 2 ^ (j + 1) = p' at *
      go_wp2_with fail
      exact ⟨⟨j + 1, by omega, by go_num, by rw [hp']; exact congrArg (Value.int .i64) HQ.out, hB⟩, by simp [intOf]; omega⟩
    · have hjk : j = k := by omega
      subst hjk
      generalize hpp : pl n / 2 ^ j = p at *
      have hm : p.tmod 2 = p % 2 := Int.tmod_eq_emod_of_nonneg h0
      go_wp2_with fail
      go_returns
      exact ⟨by rw [hpp]; rfl, hB⟩
theorem power_any (k : Nat) (hk : k ≤ 31) (w : World) : Calls Try.prog 74 #[.int .i64 k] w fun e w' => e = .returned (.int .i64 (2 ^ k)) ∧ w = w' := by
  go_enter Try.func74, Try.ntmps74
  go_wp2_with fail
  go_loopw [3, 4] (fun p i w8 => ∃ j : Nat, j ≤ k ∧ i = .int .i64 j ∧ p = .int .i64 (2 ^ j) ∧ w8 = w) (fun _ i _ => k - (intOf i).toNat)
  case atStart => exact ⟨0, by omega, rfl, by simp, rfl⟩
  case round =>
    obtain ⟨j, hj, rfl, rfl, hB⟩ := hrel
    subst hB
    by_cases hlt : j < k
    · have hp : (2 : Int) ^ j ≤ 2 ^ 31 := by
        have := Nat.pow_le_pow_right (show 0 < 2 by decide) (show j ≤ 31 by omega)
        exact_mod_cast this
      have hp0 : (0 : Int) < 2 ^ j := Int.pow_pos (by decide)
      have hs : wrap64 (2 ^ j * 2) = 2 ^ (j + 1) := by rw [Int.pow_succ]; exact w64 (by omega)
      go_wp2_with fail
      exact ⟨⟨j + 1, by omega, by go_num, rfl, trivial⟩, by simp [intOf]; omega⟩
    · have hjk : j = k := by omega
      subst hjk
      go_wp2_with fail
      go_returns
      exact ⟨rfl, rfl⟩
theorem down_eq (a : Int) (k : Nat) : (if a < 0 ∧ a.tdiv (2 ^ k) * 2 ^ k ≠ a then a.tdiv (2 ^ k) - 1 else a.tdiv (2 ^ k)) = a / 2 ^ k := by
  have hp : (0 : Int) < 2 ^ k := Int.pow_pos (by decide)
  have h1 := Int.tdiv_mul_add_tmod a (2 ^ k)
  have h2 := Int.ediv_mul_add_emod a (2 ^ k)
  by_cases h0 : 0 ≤ a
  · rw [if_neg (by omega), Int.tdiv_eq_ediv_of_nonneg h0]
  · by_cases hd : (2 : Int) ^ k ∣ a
    · have hq : a.tdiv (2 ^ k) = a / 2 ^ k := by rw [Int.tdiv_eq_ediv, if_pos (Or.inr hd), Int.add_zero]
      have h3 : a / 2 ^ k * 2 ^ k = a := Int.ediv_mul_cancel hd
      rw [hq, if_neg (fun h => h.2 h3)]
    · have hq : a.tdiv (2 ^ k) = a / 2 ^ k + 1 := by
        rw [Int.tdiv_eq_ediv, if_neg (fun h => h.elim h0 hd), Int.sign_eq_one_of_pos hp]
      rw [hq, if_pos ⟨by omega, fun h => hd ⟨a / 2 ^ k + 1, by rw [Int.mul_comm]; exact h.symm⟩⟩]
      omega
end Go.Proofs.Ytkcclefonmnpnaa

namespace Go.Proofs.Ytkcclefonmnpnaa
open Go.RowKit Go.BigFrame

theorem down_any (a : Int) (k : Nat) (ha : -2147483648 ≤ a ∧ a < 2147483648) (hk : k < 32) (w : World) : Calls Try.prog 76 #[.int .i64 a, .int .i64 (2 ^ k)] w fun e w' => e = .returned (.int .i64 (a / 2 ^ k)) ∧ Below w.heap.size w w' := by
  have hd := down_eq a k
  have hp : (0 : Int) < 2 ^ k := Int.pow_pos (by decide)
  have hp2 : (2 : Int) ^ k ≤ 2147483648 := by
    have h1 := Nat.pow_le_pow_right (show 0 < 2 by decide) (show k ≤ 31 by omega)
    have h2 : (2 : Int) ^ k ≤ 2 ^ 31 := by exact_mod_cast h1
    omega
  have hq0 : (a.tdiv (2 ^ k)).natAbs ≤ a.natAbs := Int.natAbs_tdiv_le_natAbs _ _
  generalize a / 2 ^ k = r at *
  generalize (2 : Int) ^ k = D at *
  have hD : (D == 0) = false := by simp; omega
  have hq : wrap64 (a.tdiv D) = a.tdiv D := w64 (by omega)
  have hm : wrap64 (a.tdiv D * D) = a.tdiv D * D := w64 (by
    have h1 := Int.natAbs_mul (a.tdiv D) D
    have h2 : (a.tdiv D).natAbs * D.natAbs ≤ 2147483648 * 2147483648 := Nat.mul_le_mul (by omega) (by omega)
    omega)
  have hs : wrap64 (a.tdiv D - 1) = a.tdiv D - 1 := w64 (by omega)
  by_cases h0 : a < 0
  · by_cases h1 : a.tdiv D * D = a
    · rw [if_neg (fun h => h.2 h1)] at hd
      subst hd
      have h2 : (a.tdiv D * D == a) = true := by simp [h1]
      have h3 : (a.tdiv D * D != a) = false := by simp [h1]
      have h4 : decide (a.tdiv D * D = a) = true := by simp [h1]
      go_enter Try.func76, Try.ntmps76
      go_wp2_with fail
      go_returns
      exact ⟨rfl, Below.refl _ _⟩
    · rw [if_pos ⟨h0, h1⟩] at hd
      have h2 : (a.tdiv D * D == a) = false := by simp [h1]
      have h3 : (a.tdiv D * D != a) = true := by simp [h1]
      have h4 : decide (a.tdiv D * D = a) = false := by simp [h1]
      go_enter Try.func76, Try.ntmps76
      go_wp2_with fail
      go_returns
      exact ⟨by rw [← hd]; rfl, Below.refl _ _⟩
  · rw [if_neg (fun h => h0 h.1)] at hd
    subst hd
    go_enter Try.func76, Try.ntmps76
    go_wp2_with fail
    go_returns
    exact ⟨rfl, Below.refl _ _⟩

theorem pl_b (a : Int) : pl a = ((b32 a).toNat : Int) := by
  unfold b32 pl
  rw [BitVec.toNat_ofInt]
  omega
theorem bit_val (a : Int) (j : Nat) : (pl a / 2 ^ j) % 2 = (((b32 a).toNat.testBit j).toNat : Int) := by
  rw [Nat.toNat_testBit, pl_b]
  simp
theorem sum_step (Z : Nat) (j : Nat) : Z % 2 ^ (j + 1) = Z % 2 ^ j + 2 ^ j * (Z.testBit j).toNat := by rw [Nat.mod_pow_succ, Nat.toNat_testBit]
theorem bit_b (a : Int) (j : Nat) (bx : Bool) (hb : (b32 a).toNat.testBit j = bx) (hj : j ≤ 32) (w : World) : Calls Try.prog 94 #[.int .i64 a, .int .i64 j] w fun e w' => e = .returned (.int .i64 (bx.toNat : Int)) ∧ Below w.heap.size w w' := by
  have h := bit_any a j hj w
  rw [bit_val, hb] at h
  exact h

set_option maxRecDepth 1000000 in
set_option maxHeartbeats 4000000 in
theorem bits0_any (a b : Int) (w : World) : Calls Try.prog 75 #[.int .i64 a, .int .i64 b, .int .i64 0] w fun e w' => e = .returned (.int .i64 ((b32 a &&& b32 b).toNat : Int)) ∧ Below w.heap.size w w' := by
  obtain ⟨Z, hZ⟩ : ∃ Z, Z = (b32 a &&& b32 b).toNat := ⟨_, rfl⟩
  have hlt : Z < 4294967296 := by rw [hZ]; exact (b32 a &&& b32 b).isLt
  have hbit : ∀ j, Z.testBit j = ((b32 a).toNat.testBit j && (b32 b).toNat.testBit j) := fun j => by rw [hZ, BitVec.toNat_and, Nat.testBit_and]
  rw [← hZ]
  clear hZ
  go_enter Try.func75, Try.ntmps75
  go_wp2_with fail
  go_loopw [7, 8] (fun n i w8 => ∃ j : Nat, j ≤ 32 ∧ i = .int .i64 j ∧ n = .int .i64 ((Z % 2 ^ j : Nat) : Int) ∧ Below w.heap.size w w8) (fun _ i _ => 32 - (intOf i).toNat)
  case atStart => exact ⟨0, by omega, rfl, by simp [Nat.mod_one], Below.refl _ _⟩
  case round =>
    obtain ⟨j, hj, rfl, rfl, hB⟩ := hrel
    by_cases hl : j < 32
    · have hb := hbit j
      have hs := sum_step Z j
      have hm : Z % 2 ^ (j + 1) ≤ Z := Nat.mod_le _ _
      rw [hb] at hs
      have cx := fun w => bit_b a j _ rfl (by omega) w
      have cy := fun w => bit_b b j _ rfl (by omega) w
      generalize (b32 a).toNat.testBit j = bx at *
      generalize (b32 b).toNat.testBit j = bb at *
      clear hbit hb
      have cp := fun w => power_any j (by omega) w
      have hpw : (2 : Int) ^ j = ((2 ^ j : Nat) : Int) := by simp
      generalize Z % 2 ^ j = N at *
      generalize hN' : Z % 2 ^ (j + 1) = N' at *
      have hP : 0 < 2 ^ j := Nat.pow_pos (by decide)
      rw [hpw] at cp
      generalize (2 : Nat) ^ j = P at *
      cases bx <;> cases bb
      all_goals
        simp at hs
        have HS := Lib.hid hs
        have hw : N' = N ∨ wrap64 ((N : Int) + (P : Int)) = (N' : Int) := by
          by_cases h : N' = N
          · exact .inl h
          · refine .inr ?_
            rw [w64 (by omega)]
            omega
        have HW := Lib.hid hw
        clear hs hw
        go_wp2_with (first
          | (go_at_call_of 94 a; refine (cx _).mono ?_; rintro e w1 ⟨rfl, hb1⟩)
          | (go_at_call_of 94 b; refine (cy _).mono ?_; rintro e w2 ⟨rfl, hb2⟩)
          | (go_at_call 74; refine (cp _).mono ?_; rintro e w' ⟨rfl, rfl⟩))
        exact ⟨⟨j + 1, by omega, by go_num, by rw [hN']; first | exact congrArg (Value.int .i64) (by have := HS.out; omega) | exact congrArg (Value.int .i64) (HW.out.resolve_left (by have := HS.out; omega)), (hB.trans (hb1.mono hB.size)).trans (hb2.mono (Nat.le_trans hB.size hb1.size))⟩, by simp [intOf]; omega⟩
    · have hj2 : j = 32 := by omega
      subst hj2
      have hmod : Z % 2 ^ 32 = Z := Nat.mod_eq_of_lt hlt
      rw [hmod]
      go_wp2_with fail
      go_returns
      exact ⟨rfl, hB⟩

set_option maxRecDepth 1000000 in
set_option maxHeartbeats 4000000 in
theorem bits1_any (a b : Int) (w : World) : Calls Try.prog 75 #[.int .i64 a, .int .i64 b, .int .i64 1] w fun e w' => e = .returned (.int .i64 ((b32 a ||| b32 b).toNat : Int)) ∧ Below w.heap.size w w' := by
  obtain ⟨Z, hZ⟩ : ∃ Z, Z = (b32 a ||| b32 b).toNat := ⟨_, rfl⟩
  have hlt : Z < 4294967296 := by rw [hZ]; exact (b32 a ||| b32 b).isLt
  have hbit : ∀ j, Z.testBit j = ((b32 a).toNat.testBit j || (b32 b).toNat.testBit j) := fun j => by rw [hZ, BitVec.toNat_or, Nat.testBit_or]
  rw [← hZ]
  clear hZ
  go_enter Try.func75, Try.ntmps75
  go_wp2_with fail
  go_loopw [7, 8] (fun n i w8 => ∃ j : Nat, j ≤ 32 ∧ i = .int .i64 j ∧ n = .int .i64 ((Z % 2 ^ j : Nat) : Int) ∧ Below w.heap.size w w8) (fun _ i _ => 32 - (intOf i).toNat)
  case atStart => exact ⟨0, by omega, rfl, by simp [Nat.mod_one], Below.refl _ _⟩
  case round =>
    obtain ⟨j, hj, rfl, rfl, hB⟩ := hrel
    by_cases hl : j < 32
    · have hb := hbit j
      have hs := sum_step Z j
      have hm : Z % 2 ^ (j + 1) ≤ Z := Nat.mod_le _ _
      rw [hb] at hs
      have cx := fun w => bit_b a j _ rfl (by omega) w
      have cy := fun w => bit_b b j _ rfl (by omega) w
      generalize (b32 a).toNat.testBit j = bx at *
      generalize (b32 b).toNat.testBit j = bb at *
      clear hbit hb
      have cp := fun w => power_any j (by omega) w
      have hpw : (2 : Int) ^ j = ((2 ^ j : Nat) : Int) := by simp
      generalize Z % 2 ^ j = N at *
      generalize hN' : Z % 2 ^ (j + 1) = N' at *
      have hP : 0 < 2 ^ j := Nat.pow_pos (by decide)
      rw [hpw] at cp
      generalize (2 : Nat) ^ j = P at *
      cases bx <;> cases bb
      all_goals
        simp at hs
        have HS := Lib.hid hs
        have hw : N' = N ∨ wrap64 ((N : Int) + (P : Int)) = (N' : Int) := by
          by_cases h : N' = N
          · exact .inl h
          · refine .inr ?_
            rw [w64 (by omega)]
            omega
        have HW := Lib.hid hw
        clear hs hw
        go_wp2_with (first
          | (go_at_call_of 94 a; refine (cx _).mono ?_; rintro e w1 ⟨rfl, hb1⟩)
          | (go_at_call_of 94 b; refine (cy _).mono ?_; rintro e w2 ⟨rfl, hb2⟩)
          | (go_at_call 74; refine (cp _).mono ?_; rintro e w' ⟨rfl, rfl⟩))
        exact ⟨⟨j + 1, by omega, by go_num, by rw [hN']; first | exact congrArg (Value.int .i64) (by have := HS.out; omega) | exact congrArg (Value.int .i64) (HW.out.resolve_left (by have := HS.out; omega)), (hB.trans (hb1.mono hB.size)).trans (hb2.mono (Nat.le_trans hB.size hb1.size))⟩, by simp [intOf]; omega⟩
    · have hj2 : j = 32 := by omega
      subst hj2
      have hmod : Z % 2 ^ 32 = Z := Nat.mod_eq_of_lt hlt
      rw [hmod]
      go_wp2_with fail
      go_returns
      exact ⟨rfl, hB⟩

set_option maxRecDepth 1000000 in
set_option maxHeartbeats 4000000 in
theorem bits2_any (a b : Int) (w : World) : Calls Try.prog 75 #[.int .i64 a, .int .i64 b, .int .i64 2] w fun e w' => e = .returned (.int .i64 ((b32 a ^^^ b32 b).toNat : Int)) ∧ Below w.heap.size w w' := by
  obtain ⟨Z, hZ⟩ : ∃ Z, Z = (b32 a ^^^ b32 b).toNat := ⟨_, rfl⟩
  have hlt : Z < 4294967296 := by rw [hZ]; exact (b32 a ^^^ b32 b).isLt
  have hbit : ∀ j, Z.testBit j = ((b32 a).toNat.testBit j ^^ (b32 b).toNat.testBit j) := fun j => by rw [hZ, BitVec.toNat_xor, Nat.testBit_xor]
  rw [← hZ]
  clear hZ
  go_enter Try.func75, Try.ntmps75
  go_wp2_with fail
  go_loopw [7, 8] (fun n i w8 => ∃ j : Nat, j ≤ 32 ∧ i = .int .i64 j ∧ n = .int .i64 ((Z % 2 ^ j : Nat) : Int) ∧ Below w.heap.size w w8) (fun _ i _ => 32 - (intOf i).toNat)
  case atStart => exact ⟨0, by omega, rfl, by simp [Nat.mod_one], Below.refl _ _⟩
  case round =>
    obtain ⟨j, hj, rfl, rfl, hB⟩ := hrel
    by_cases hl : j < 32
    · have hb := hbit j
      have hs := sum_step Z j
      have hm : Z % 2 ^ (j + 1) ≤ Z := Nat.mod_le _ _
      rw [hb] at hs
      have cx := fun w => bit_b a j _ rfl (by omega) w
      have cy := fun w => bit_b b j _ rfl (by omega) w
      generalize (b32 a).toNat.testBit j = bx at *
      generalize (b32 b).toNat.testBit j = bb at *
      clear hbit hb
      have cp := fun w => power_any j (by omega) w
      have hpw : (2 : Int) ^ j = ((2 ^ j : Nat) : Int) := by simp
      generalize Z % 2 ^ j = N at *
      generalize hN' : Z % 2 ^ (j + 1) = N' at *
      have hP : 0 < 2 ^ j := Nat.pow_pos (by decide)
      rw [hpw] at cp
      generalize (2 : Nat) ^ j = P at *
      cases bx <;> cases bb
      all_goals
        simp at hs
        have HS := Lib.hid hs
        have hw : N' = N ∨ wrap64 ((N : Int) + (P : Int)) = (N' : Int) := by
          by_cases h : N' = N
          · exact .inl h
          · refine .inr ?_
            rw [w64 (by omega)]
            omega
        have HW := Lib.hid hw
        clear hs hw
        go_wp2_with (first
          | (go_at_call_of 94 a; refine (cx _).mono ?_; rintro e w1 ⟨rfl, hb1⟩)
          | (go_at_call_of 94 b; refine (cy _).mono ?_; rintro e w2 ⟨rfl, hb2⟩)
          | (go_at_call 74; refine (cp _).mono ?_; rintro e w' ⟨rfl, rfl⟩))
        exact ⟨⟨j + 1, by omega, by go_num, by rw [hN']; first | exact congrArg (Value.int .i64) (by have := HS.out; omega) | exact congrArg (Value.int .i64) (HW.out.resolve_left (by have := HS.out; omega)), (hB.trans (hb1.mono hB.size)).trans (hb2.mono (Nat.le_trans hB.size hb1.size))⟩, by simp [intOf]; omega⟩
    · have hj2 : j = 32 := by omega
      subst hj2
      have hmod : Z % 2 ^ 32 = Z := Nat.mod_eq_of_lt hlt
      rw [hmod]
      go_wp2_with fail
      go_returns
      exact ⟨rfl, hB⟩
end Go.Proofs.Ytkcclefonmnpnaa

/- VALUES OF REGISTERS (plain): joining, what an instruction sets, the least that holds together. -/
namespace Go.Proofs.Ytkcclefonmnpnaa
open Go.RowKit Go.BigFrame

structure Vl where
  k : Int
  n : Int
instance : DecidableEq Vl := fun x y => decidable_of_iff (x.k = y.k ∧ x.n = y.n) ⟨fun h => by cases x; cases y; simp_all, fun h => by subst h; simp⟩
abbrev nv : Vl := ⟨0, 0⟩
abbrev av : Vl := ⟨2, 0⟩
def Vl.wf (v : Vl) : Prop := v = nv ∨ v.k = 1 ∨ v = av
def Vl.ok (v : Vl) : Prop := v.k = 1 ∨ v = av
theorem Vl.ok.wf {v : Vl} (h : v.ok) : v.wf := Or.inr h
theorem Vl.wf.ok {v : Vl} (h : v.wf) (h0 : v.k ≠ 0) : v.ok := by
  rcases h with rfl | h
  · exact absurd rfl h0
  · exact h
def join (a b : Vl) : Vl := if a.k = 0 then b else if b.k = 0 ∨ a = b then a else av
def le (a b : Vl) : Prop := a = nv ∨ a = b ∨ b = av
theorem le.refl (a : Vl) : le a a := Or.inr (Or.inl rfl)
theorem le.trans {a b c : Vl} (h1 : le a b) (h2 : le b c) : le a c := by
  rcases h1 with rfl | rfl | rfl
  · exact Or.inl rfl
  · exact h2
  · rcases h2 with h2 | rfl | rfl
    · cases h2
    · exact Or.inr (Or.inr rfl)
    · exact Or.inr (Or.inr rfl)
theorem le.anti {a b : Vl} (h1 : le a b) (h2 : le b a) : a = b := by
  rcases h1 with rfl | rfl | rfl
  · rcases h2 with rfl | rfl | h
    · rfl
    · rfl
    · cases h
  · rfl
  · rcases h2 with h | rfl | rfl
    · cases h
    · rfl
    · rfl
theorem le.join {a b : Vl} (ha : a.wf) (hb : b.wf) : join a b = b ↔ le a b := by
  unfold Go.Proofs.Ytkcclefonmnpnaa.join
  rcases ha with rfl | ha | rfl
  · simp [le]
  · rw [if_neg (by omega)]
    rcases hb with rfl | hb | rfl
    · rw [if_pos (Or.inl rfl)]
      constructor
      · intro h; rw [h] at ha; cases ha
      · rintro (h | h | h)
        · rw [h] at ha; cases ha
        · rw [h] at ha; cases ha
        · cases h
    · by_cases h : a = b
      · rw [if_pos (Or.inr h)]; exact ⟨fun _ => h ▸ le.refl _, fun _ => h⟩
      · rw [if_neg (by simp [h]; omega)]
        constructor
        · intro e; rw [← e] at hb; cases hb
        · rintro (e | e | e)
          · rw [e] at ha; cases ha
          · exact absurd e h
          · rw [e] at hb; cases hb
    · by_cases h : a = av
      · rw [h]; exact ⟨fun _ => le.refl _, fun _ => by simp⟩
      · rw [if_neg (by simp [h])]; exact ⟨fun _ => Or.inr (Or.inr rfl), fun _ => rfl⟩
  · rw [if_neg (by decide)]
    rcases hb with rfl | hb | rfl
    · rw [if_pos (Or.inl rfl)]
      constructor
      · intro h; cases h
      · rintro (h | h | h) <;> cases h
    · rw [if_neg (by rintro (h | h); exact absurd h (by omega); rw [← h] at hb; cases hb)]
      constructor
      · intro e; rw [← e] at hb; cases hb
      · rintro (e | e | e)
        · cases e
        · rw [← e] at hb; cases hb
        · rw [e] at hb; cases hb
    · simp [le]
theorem join.wf {a b : Vl} (ha : a.wf) (hb : b.wf) : (join a b).wf := by
  unfold join
  split
  · exact hb
  · split
    · exact ha
    · exact Or.inr (Or.inr rfl)
theorem join.left {a b : Vl} (ha : a.wf) : le a (join a b) := by
  unfold join
  rcases ha with rfl | ha | rfl
  · exact Or.inl rfl
  · rw [if_neg (by omega)]
    split
    · exact le.refl _
    · exact Or.inr (Or.inr rfl)
  · rw [if_neg (by decide)]
    split
    · exact le.refl _
    · exact Or.inr (Or.inr rfl)
theorem join.right {a b : Vl} (hb : b.wf) : le b (join a b) := by
  unfold join
  split
  · exact le.refl _
  · split
    · rename_i h
      rcases h with h | h
      · rcases hb with rfl | hb | rfl
        · exact Or.inl rfl
        · omega
        · cases h
      · rw [h]; exact le.refl _
    · exact Or.inr (Or.inr rfl)
theorem join.least {a b c : Vl} (h1 : le a c) (h2 : le b c) : le (join a b) c := by
  unfold join
  split
  · exact h2
  · split
    · exact h1
    · rename_i h h'
      rcases h1 with rfl | rfl | rfl
      · exact absurd rfl h
      · rcases h2 with rfl | rfl | rfl
        · simp at h'
        · simp at h'
        · exact Or.inr (Or.inr rfl)
      · exact Or.inr (Or.inr rfl)
theorem join.ok {a b : Vl} (ha : a.wf) (hb : b.ok) : (join a b).ok := by
  unfold join
  split
  · exact hb
  · rename_i h
    split
    · exact ha.ok h
    · exact Or.inr rfl
theorem le.ok {a b : Vl} (h : le a b) (ha : a.ok) : b.ok := by
  rcases h with rfl | rfl | rfl
  · rcases ha with h | h <;> cases h
  · exact ha
  · exact Or.inr rfl
theorem le.known {a b : Vl} (h : le a b) (ha : a.ok) (hb : b.k ≠ 2) : a = b := by
  rcases h with rfl | rfl | rfl
  · rcases ha with h | h <;> cases h
  · rfl
  · exact absurd rfl hb
theorem le.any {a b : Vl} (h : le a b) (ha : a.k = 2) : b.k = 2 := by
  rcases h with rfl | rfl | rfl
  · cases ha
  · exact ha
  · rfl
/-- rows -/
abbrev at_ (v : List Vl) (r : Nat) : Vl := v.getD r nv
def Rw (R : Nat) (v : List Vl) : Prop := v.length = R ∧ ∀ x ∈ v, x.wf
def rok (v : List Vl) : Prop := ∀ x ∈ v, x.ok
def rle (u v : List Vl) : Prop := ∀ r, le (at_ u r) (at_ v r)
theorem rle.refl (v : List Vl) : rle v v := fun _ => le.refl _
theorem rle.trans {u v w : List Vl} (h1 : rle u v) (h2 : rle v w) : rle u w := fun r => (h1 r).trans (h2 r)
theorem at_in {v : List Vl} {r : Nat} (h : r < v.length) : at_ v r = v[r] := by simp [at_, List.getD, h]
theorem at_out {v : List Vl} {r : Nat} (h : v.length ≤ r) : at_ v r = nv := by simp [at_, List.getD, h]
theorem at_some {v : List Vl} {r : Nat} {x : Vl} (h : v[r]? = some x) : at_ v r = x := by simp [at_, List.getD, h]
theorem Rw.at_ {R : Nat} {v : List Vl} (h : Rw R v) (r : Nat) : (at_ v r).wf := by
  by_cases hr : r < v.length
  · rw [at_in hr]; exact h.2 _ (List.getElem_mem hr)
  · rw [at_out (by omega)]; exact Or.inl rfl
theorem rok.at_ {v : List Vl} (h : rok v) {r : Nat} (hr : r < v.length) : (at_ v r).ok := by rw [at_in hr]; exact h _ (List.getElem_mem hr)
theorem row_ext {R : Nat} {u v : List Vl} (hu : u.length = R) (hv : v.length = R) (h : ∀ r, r < R → at_ u r = at_ v r) : u = v := by
  apply List.ext_getElem (by omega)
  intro r h1 h2
  have := h r (by omega)
  rwa [at_in h1, at_in h2] at this
theorem rle.anti {R : Nat} {u v : List Vl} (hu : u.length = R) (hv : v.length = R) (h1 : rle u v) (h2 : rle v u) : u = v := row_ext hu hv fun r _ => (h1 r).anti (h2 r)
theorem rle.rok {u v : List Vl} (h : rle u v) (hu : rok u) (hl : u.length = v.length) : rok v := fun x hx => by
  obtain ⟨r, hr, rfl⟩ := List.mem_iff_getElem.1 hx
  have := (h r).ok (hu.at_ (by omega))
  rwa [at_in hr] at this
/-- what an operation tells -/
def wrd (n : Int) : Int := (n + 2147483648) % 4294967296 - 2147483648
def pln (n : Int) : Int := n % 4294967296
def tvl (b : Bool) : Int := if b then 1 else 0
def dvl (a b : Int) : Int := if b = 0 then 0 else a.tdiv b
def mdl (a b : Int) : Int := if b = 0 then 0 else a.tmod b
def dov (op a b : Int) : Int × Bool :=
  if op = 1 then (wrd (wrd a + wrd b), true)
  else if op = 2 then (wrd (wrd a - wrd b), true)
  else if op = 3 then (wrd (wrd a * wrd b), true)
  else if op = 4 then (wrd (dvl (wrd a) (wrd b)), !decide (wrd b = 0))
  else if op = 5 then (wrd (mdl (wrd a) (wrd b)), !decide (wrd b = 0))
  else if op = 6 then (wrd (dvl (pln (wrd a)) (pln (wrd b))), !decide (pln (wrd b) = 0))
  else if op = 7 then (wrd (mdl (pln (wrd a)) (pln (wrd b))), !decide (pln (wrd b) = 0))
  else if op = 8 then (wrd (bits .and .i64 (wrd a) (wrd b)), true)
  else if op = 9 then (wrd (bits .or .i64 (wrd a) (wrd b)), true)
  else if op = 10 then (wrd (bits .xor .i64 (wrd a) (wrd b)), true)
  else if op = 11 then (wrd (wrd a * 2 ^ (wrd b % 32).toNat), true)
  else if op = 12 then (wrd (wrd a / 2 ^ (wrd b % 32).toNat), true)
  else if op = 13 then (wrd (pln (wrd a) / 2 ^ (wrd b % 32).toNat), true)
  else if op = 14 then (wrd (tvl (wrd a == wrd b)), true)
  else if op = 15 then (wrd (tvl (wrd a != wrd b)), true)
  else if op = 16 then (wrd (tvl (decide (wrd a < wrd b))), true)
  else if op = 17 then (wrd (tvl (decide (wrd a ≤ wrd b))), true)
  else if op = 18 then (wrd (tvl (decide (pln (wrd a) < pln (wrd b)))), true)
  else if op = 19 then (wrd (tvl (decide (pln (wrd a) ≤ pln (wrd b)))), true)
  else if op = 20 then (wrd (-wrd a), true)
  else if op = 21 then (wrd (bits .xor .i64 (-1) (wrd a)), true)
  else if op = 22 then (wrd (bits .and .i64 (wrd a) 255), true)
  else if op = 23 then (wrd (tvl (wrd a == 0)), true)
  else (0, false)
theorem wrd_bd (n : Int) : -2147483648 ≤ wrd n ∧ wrd n ≤ 2147483647 := by unfold wrd; omega
def BdW (x : Int × Bool) : Prop := -2147483648 ≤ x.1 ∧ x.1 ≤ 2147483647
theorem ite_bd {c : Prop} [Decidable c] {x y : Int × Bool} (hx : BdW x) (hy : BdW y) : BdW (if c then x else y) := by
  split
  · exact hx
  · exact hy
theorem dov_bd (op a b : Int) : -2147483648 ≤ (dov op a b).1 ∧ (dov op a b).1 ≤ 2147483647 := by
  show BdW (dov op a b)
  unfold dov
  repeat refine ite_bd (wrd_bd _) ?_
  exact ⟨by decide, by decide⟩
/-- what an instruction sets -/
def bval (i : Ins) (v : List Vl) : Vl := if i.kind = 3 then at_ v i.b.toNat else ⟨1, 0⟩
def setV (i : Ins) (v : List Vl) : Vl × Bool :=
  if i.kind = 1 then (⟨1, i.n⟩, true)
  else if i.kind = 4 then (at_ v i.a.toNat, true)
  else if i.kind = 2 ∨ i.kind = 3 then
    if (at_ v i.a.toNat).k = 2 ∨ (bval i v).k = 2 then (av, true)
    else (⟨1, (dov i.op (at_ v i.a.toNat).n (bval i v).n).1⟩, (dov i.op (at_ v i.a.toNat).n (bval i v).n).2)
  else (av, true)
def upd (i : Ins) (v : List Vl) : List Vl := if 0 ≤ i.sets then v.set i.sets.toNat (setV i v).1 else v
def nextV (i : Ins) (p : Nat) (v : List Vl) : List Int :=
  if i.kind = 12 then (if (at_ v i.a.toNat).k = 1 then (if (at_ v i.a.toNat).n = 0 then [i.els] else [i.to_]) else [i.to_, i.els]) else i.next p
theorem Ok.a_in {i : Ins} {R Fr : Int} {L : Nat} (h : Ok i R Fr L) (hk : kA i.kind = true) : 0 ≤ i.a ∧ i.a < R := h.uses _ (by simp [Ins.uses, hk])
theorem Ok.b_in {i : Ins} {R Fr : Int} {L : Nat} (h : Ok i R Fr L) (hk : kB i.kind = true) : 0 ≤ i.b ∧ i.b < R := h.uses _ (by simp [Ins.uses, hk])
theorem setV_mono {i : Ins} {R : Nat} {Fr : Int} {L : Nat} (h : Ok i R Fr L) {v v' : List Vl} (hv : rok v) (hl : v.length = R) (hle : rle v v') (hs : (setV i v).2 = true) : (setV i v').2 = true ∧ le (setV i v).1 (setV i v').1 := by
  unfold setV at hs ⊢
  by_cases h1 : i.kind = 1
  · simp only [if_pos h1] at hs ⊢; exact ⟨by trivial, le.refl _⟩
  simp only [if_neg h1] at hs ⊢
  by_cases h4 : i.kind = 4
  · simp only [if_pos h4] at hs ⊢; exact ⟨by trivial, hle _⟩
  simp only [if_neg h4] at hs ⊢
  by_cases h2 : i.kind = 2 ∨ i.kind = 3
  · simp only [if_pos h2] at hs ⊢
    have ha := h.a_in (by rcases h2 with e | e <;> rw [e] <;> rfl)
    have hao := hv.at_ (r := i.a.toNat) (by omega)
    have hbo : (bval i v).ok := by
      unfold bval
      split
      · rename_i e
        have hb := h.b_in (by rw [e]; rfl)
        exact hv.at_ (by omega)
      · exact Or.inl rfl
    have hbl : le (bval i v) (bval i v') := by
      unfold bval
      split
      · exact hle _
      · exact le.refl _
    have hal := hle i.a.toNat
    by_cases h5 : (at_ v' i.a.toNat).k = 2 ∨ (bval i v').k = 2
    · simp only [if_pos h5]; exact ⟨by trivial, Or.inr (Or.inr rfl)⟩
    · have e1 := hal.known hao (fun e => h5 (Or.inl e))
      have e2 := hbl.known hbo (fun e => h5 (Or.inr e))
      rw [e1, e2] at hs ⊢
      simp only [if_neg h5] at hs ⊢
      exact ⟨hs, le.refl _⟩
  · simp only [if_neg h2] at hs ⊢; exact ⟨by trivial, le.refl _⟩
theorem setV_ok {i : Ins} {R : Nat} {Fr : Int} {L : Nat} (h : Ok i R Fr L) {v : List Vl} (hv : rok v) (hl : v.length = R) : (setV i v).1.ok := by
  unfold setV
  split
  · exact Or.inl rfl
  · split
    · rename_i e
      have ha := h.a_in (by rw [e]; rfl)
      exact hv.at_ (by omega)
    · split
      · split
        · exact Or.inr rfl
        · exact Or.inl rfl
      · exact Or.inr rfl
theorem upd_len (i : Ins) (v : List Vl) : (upd i v).length = v.length := by unfold upd; split <;> simp
theorem at_set (v : List Vl) (j r : Nat) (x : Vl) : at_ (v.set j x) r = if j = r ∧ r < v.length then x else at_ v r := by
  simp only [at_, List.getD, List.getElem?_set]
  by_cases h : j = r
  · subst h
    by_cases h2 : j < v.length
    · simp [h2]
    · simp [h2]
  · simp [h]
theorem upd_at (i : Ins) (v : List Vl) (r : Nat) : at_ (upd i v) r = if 0 ≤ i.sets ∧ i.sets.toNat = r ∧ r < v.length then (setV i v).1 else at_ v r := by
  unfold upd
  split
  · rename_i h
    rw [at_set]; simp [h]
  · rename_i h
    simp [h]
theorem upd_mono {i : Ins} {R : Nat} {Fr : Int} {L : Nat} (h : Ok i R Fr L) {v v' : List Vl} (hv : rok v) (hl : v.length = R) (hl' : v'.length = R) (hle : rle v v') (hs : (setV i v).2 = true) : rle (upd i v) (upd i v') := fun r => by
  rw [upd_at, upd_at, hl, hl']
  split
  · exact (setV_mono h hv hl hle hs).2
  · exact hle r
theorem upd_ok {i : Ins} {R : Nat} {Fr : Int} {L : Nat} (h : Ok i R Fr L) {v : List Vl} (hv : rok v) (hl : v.length = R) : rok (upd i v) := by
  unfold upd
  split
  · intro x hx
    rcases List.mem_or_eq_of_mem_set hx with hx | rfl
    · exact hv x hx
    · exact setV_ok h hv hl
  · exact hv
theorem kS_not12 {i : Ins} (h : i.kind = 12) : ¬ 0 ≤ i.sets := by simp [Ins.sets, kS, h]
theorem nextV_mono {i : Ins} {R : Nat} {Fr : Int} {L : Nat} (h : Ok i R Fr L) {v v' : List Vl} (hv : rok v) (hl : v.length = R) (hle : rle v v') (p : Nat) : ∀ n ∈ nextV i p (upd i v), n ∈ nextV i p (upd i v') := by
  intro n hn
  unfold nextV at hn ⊢
  by_cases h12 : i.kind = 12
  · simp only [if_pos h12] at hn ⊢
    have e1 : upd i v = v := by unfold upd; rw [if_neg (kS_not12 h12)]
    have e2 : upd i v' = v' := by unfold upd; rw [if_neg (kS_not12 h12)]
    rw [e1] at hn
    rw [e2]
    have ha := h.a_in (by rw [h12]; rfl)
    have hao := hv.at_ (r := i.a.toNat) (by omega)
    have hal := hle i.a.toNat
    by_cases h5 : (at_ v' i.a.toNat).k = 2
    · rw [if_neg (by omega)]
      split at hn
      · split at hn
        · simp at hn; simp [hn]
        · simp at hn; simp [hn]
      · exact hn
    · rw [← hal.known hao h5]; exact hn
  · simp only [if_neg h12] at hn ⊢; exact hn
/-- n is come to from p, with u -/
def Edge (f : Fn7) (M : List (List Vl)) (p n : Nat) (u : List Vl) : Prop :=
  ∃ i v, f.code[p]? = some i ∧ M[p]? = some v ∧ rok v ∧ (setV i v).2 = true ∧ (n : Int) ∈ nextV i p (upd i v) ∧ u = upd i v
def ini (f : Fn7) : List Vl := (List.range f.R.toNat).map fun (r : Nat) => if (r : Int) < f.ps then av else ⟨1, 0⟩
structure Shp (f : Fn7) (M : List (List Vl)) : Prop where
  len : M.length = f.code.length
  rows : ∀ v ∈ M, Rw f.R.toNat v
def row (M : List (List Vl)) (p : Nat) : List Vl := M.getD p []
theorem row_some {M : List (List Vl)} {p : Nat} {v : List Vl} (h : M[p]? = some v) : row M p = v := by simp [row, List.getD, h]
theorem row_in {M : List (List Vl)} {p : Nat} (h : p < M.length) : M[p]? = some (row M p) := by simp [row, List.getD, h]
theorem Shp.at_ {f : Fn7} {M : List (List Vl)} (h : Shp f M) {p : Nat} (hp : p < f.code.length) : Rw f.R.toNat (row M p) := h.rows _ (List.mem_of_getElem? (row_in (by rw [h.len]; exact hp)))
structure Holds (f : Fn7) (M : List (List Vl)) : Prop where
  shp : Shp f M
  start : rle (ini f) (row M 0)
  edge : ∀ p n u, Edge f M p n u → rle u (row M n)
def mle (M N : List (List Vl)) : Prop := ∀ p, rle (row M p) (row N p)
/-- the least that holds together -/
structure Ans (f : Fn7) (M : List (List Vl)) : Prop where
  holds : Holds f M
  least : ∀ N, Holds f N → mle M N
theorem Ans.unique {f : Fn7} {M N : List (List Vl)} (h1 : Ans f M) (h2 : Ans f N) : M = N := by
  have a := h1.least N h2.holds
  have b := h2.least M h1.holds
  apply List.ext_getElem? 
  intro p
  by_cases hp : p < f.code.length
  · rw [row_in (by rw [h1.holds.shp.len]; exact hp), row_in (by rw [h2.holds.shp.len]; exact hp)]
    exact congrArg some (rle.anti (h1.holds.shp.at_ hp).1 (h2.holds.shp.at_ hp).1 (a p) (b p))
  · rw [List.getElem?_eq_none (by rw [h1.holds.shp.len]; omega), List.getElem?_eq_none (by rw [h2.holds.shp.len]; omega)]
end Go.Proofs.Ytkcclefonmnpnaa

/- THE WAY TO THE LEAST THAT HOLDS TOGETHER (plain): a list of what is to do. -/
namespace Go.Proofs.Ytkcclefonmnpnaa
open Go.RowKit Go.BigFrame

def jrow (a b : List Vl) : List Vl := List.zipWith join a b
theorem jrow_len {a b : List Vl} {R : Nat} (ha : a.length = R) (hb : b.length = R) : (jrow a b).length = R := by simp [jrow, ha, hb]
theorem jrow_at {a b : List Vl} {R : Nat} (ha : a.length = R) (hb : b.length = R) (r : Nat) : at_ (jrow a b) r = join (at_ a r) (at_ b r) := by
  by_cases hr : r < R
  · rw [at_in (by rw [jrow_len ha hb]; exact hr), at_in (by omega), at_in (by omega)]
    simp [jrow]
  · rw [at_out (by rw [jrow_len ha hb]; omega), at_out (by omega), at_out (by omega)]
    rfl
theorem jrow_rw {a b : List Vl} {R : Nat} (ha : Rw R a) (hb : Rw R b) : Rw R (jrow a b) :=
  ⟨jrow_len ha.1 hb.1, fun x hx => by
    obtain ⟨r, hr, rfl⟩ := List.mem_iff_getElem.1 hx
    have h := jrow_at ha.1 hb.1 r
    rw [at_in hr] at h
    rw [h]
    exact join.wf (ha.at_ r) (hb.at_ r)⟩
theorem jrow_left {a b : List Vl} {R : Nat} (ha : Rw R a) (hb : Rw R b) : rle a (jrow a b) := fun r => by rw [jrow_at ha.1 hb.1]; exact join.left (ha.at_ r)
theorem jrow_right {a b : List Vl} {R : Nat} (ha : Rw R a) (hb : Rw R b) : rle b (jrow a b) := fun r => by rw [jrow_at ha.1 hb.1]; exact join.right (hb.at_ r)
theorem jrow_least {a b c : List Vl} {R : Nat} (ha : Rw R a) (hb : Rw R b) (h1 : rle a c) (h2 : rle b c) : rle (jrow a b) c := fun r => by rw [jrow_at ha.1 hb.1]; exact join.least (h1 r) (h2 r)
theorem jrow_ok {a b : List Vl} {R : Nat} (ha : Rw R a) (hb : Rw R b) (ho : rok b) : rok (jrow a b) := fun x hx => by
  obtain ⟨r, hr, rfl⟩ := List.mem_iff_getElem.1 hx
  have h := jrow_at ha.1 hb.1 r
  rw [at_in hr] at h
  rw [h]
  have hr' : r < b.length := by have := jrow_len ha.1 hb.1; have := hb.1; omega
  exact join.ok (ha.at_ r) (ho.at_ hr')
/-- how far values may still rise -/
def rk (v : Vl) : Nat := if v.k = 0 then 2 else if v.k = 1 then 1 else 0
def rpot (v : List Vl) : Nat := (v.map rk).sum
def cw (b : Bool) : Nat := if b then 0 else 1
def pot (M : List (List Vl)) (C : List Bool) : Nat := (M.map rpot).sum + (C.map cw).sum
theorem rk_le {a b : Vl} (ha : a.wf) (hb : b.wf) (h : le a b) : rk b ≤ rk a ∧ (a ≠ b → rk b < rk a) := by
  rcases h with rfl | rfl | rfl
  · rcases hb with rfl | hb | rfl
    · simp
    · simp [rk, hb]
    · simp [rk]
  · simp
  · rcases ha with rfl | ha | rfl
    · simp [rk]
    · simp [rk, ha]
    · simp
theorem rpot_le : ∀ {a b : List Vl}, a.length = b.length → (∀ x ∈ a, x.wf) → (∀ x ∈ b, x.wf) → rle a b → rpot b ≤ rpot a ∧ (a ≠ b → rpot b < rpot a)
  | [], [], _, _, _, _ => by simp [rpot]
  | x :: a, y :: b, hl, ha, hb, h => by
    have h0 := rk_le (ha x (by simp)) (hb y (by simp)) (by simpa [at_] using h 0)
    have h1 := rpot_le (a := a) (b := b) (by simpa using hl) (fun z hz => ha z (by simp [hz])) (fun z hz => hb z (by simp [hz])) (fun r => by simpa [at_] using h (r + 1))
    simp only [rpot, List.map_cons, List.sum_cons] at h1 ⊢
    refine ⟨by omega, fun hne => ?_⟩
    by_cases e : x = y
    · subst e
      have := h1.2 (fun e => hne (by rw [e]))
      omega
    · have := h0.2 e
      omega
  | [], _ :: _, hl, _, _, _ => by simp at hl
  | _ :: _, [], hl, _, _, _ => by simp at hl
theorem sum_set {α : Type} (g : α → Nat) : ∀ (l : List α) (p : Nat) (x y : α), l[p]? = some x → ((l.set p y).map g).sum + g x = (l.map g).sum + g y
  | [], p, x, y, h => by simp at h
  | a :: l, 0, x, y, h => by
    simp at h
    subst h
    simp
    omega
  | a :: l, p + 1, x, y, h => by
    have := sum_set g l p x y (by simpa using h)
    simp only [List.set_cons_succ, List.map_cons, List.sum_cons]
    omega
theorem row_set (M : List (List Vl)) (n p : Nat) (v : List Vl) : row (M.set n v) p = if n = p ∧ p < M.length then v else row M p := by
  simp only [row, List.getD, List.getElem?_set]
  by_cases h : n = p
  · subst h
    by_cases h2 : n < M.length
    · simp [h2]
    · simp [h2]
  · simp [h]
abbrev cm (C : List Bool) (p : Nat) : Bool := C.getD p false
theorem cm_set (C : List Bool) (n p : Nat) : cm (C.set n true) p = if n = p ∧ p < C.length then true else cm C p := by
  simp only [cm, List.getD, List.getElem?_set]
  by_cases h : n = p
  · subst h
    by_cases h2 : n < C.length
    · simp [h2]
    · simp [h2]
  · simp [h]
theorem cm_lt {C : List Bool} {p : Nat} (h : cm C p = true) : p < C.length := by
  by_cases hp : p < C.length
  · exact hp
  · simp [cm, List.getD, List.getElem?_eq_none (Nat.le_of_not_lt hp)] at h
/-- what holds all along -/
structure Way (f : Fn7) (M : List (List Vl)) (C : List Bool) (T : List Nat) : Prop where
  shp : Shp f M
  clen : C.length = f.code.length
  least : ∀ N, Holds f N → mle M N
  start : rle (ini f) (row M 0)
  come : ∀ p, cm C p = true → rok (row M p)
  gone : ∀ p, cm C p = false → ∀ r, at_ (row M p) r = nv
  c0 : cm C 0 = true
  tin : ∀ p ∈ T, cm C p = true
def Met (f : Fn7) (M : List (List Vl)) (p : Nat) : Prop := ∀ n u, Edge f M p n u → rle u (row M n)
/-- at the head of a round -/
structure Head (f : Fn7) (M : List (List Vl)) (C : List Bool) (T : List Nat) : Prop where
  way : Way f M C T
  q : ∀ p, cm C p = true → p ∈ T ∨ Met f M p
theorem Head.ans {f : Fn7} {M : List (List Vl)} {C : List Bool} (h : Head f M C []) : Ans f M :=
  ⟨⟨h.way.shp, h.way.start, fun p n u he => by
    cases hc : cm C p
    · obtain ⟨i, v, h1, h2, h3, _, _, rfl⟩ := he
      have hp : p < f.code.length := (List.getElem?_eq_some_iff.1 h1).1
      have hv := h.way.shp.at_ hp
      rw [row_some h2] at hv
      have hg := h.way.gone p hc
      rw [row_some h2] at hg
      intro r
      by_cases hr : r < v.length
      · have := h3.at_ hr
        rw [hg r] at this
        rcases this with e | e <;> cases e
      · rw [at_out (by rw [upd_len]; omega)]
        exact Or.inl rfl
    · rcases h.q p hc with hq | hq
      · cases hq
      · exact hq n u he⟩, h.way.least⟩
/-- within a round: p was taken, with v; the next ones D are done -/
structure Mid (f : Fn7) (p : Nat) (i : Ins) (v : List Vl) (D : List Int) (M : List (List Vl)) (C : List Bool) (T : List Nat) : Prop where
  way : Way f M C T
  ip : f.code[p]? = some i
  okf : Ok i (f.R.toNat : Int) f.Fr f.code.length
  vrw : Rw f.R.toNat v
  vok : rok v
  vle : rle v (row M p)
  on : (setV i v).2 = true
  q : ∀ p', cm C p' = true → p' ∈ T ∨ p' = p ∨ Met f M p'
  mine : p ∈ T ∨ row M p = v
  cp : cm C p = true
  done : ∀ n : Nat, (n : Int) ∈ D → rle (upd i v) (row M n)
theorem Way.tail {f : Fn7} {M : List (List Vl)} {C : List Bool} {p : Nat} {T : List Nat} (h : Way f M C (p :: T)) : Way f M C T :=
  ⟨h.shp, h.clen, h.least, h.start, h.come, h.gone, h.c0, fun p hp => h.tin p (by simp [hp])⟩
theorem Head.skip {f : Fn7} {M : List (List Vl)} {C : List Bool} {p : Nat} {T : List Nat} {i : Ins} (h : Head f M C (p :: T)) (hi : f.code[p]? = some i) (ho : (setV i (row M p)).2 = false) : Head f M C T :=
  ⟨h.way.tail, fun p' hp' => by
    rcases h.q p' hp' with hq | hq
    · rcases List.mem_cons.1 hq with rfl | hq
      · right
        rintro n u ⟨i', v, h1, h2, _, h4, _, _⟩
        rw [hi] at h1
        injection h1 with h1
        subst h1
        rw [row_some h2] at ho
        rw [ho] at h4
        cases h4
      · exact Or.inl hq
    · exact Or.inr hq⟩
theorem Head.mid {f : Fn7} {M : List (List Vl)} {C : List Bool} {p : Nat} {T : List Nat} {i : Ins} (hf : OkF f) (h : Head f M C (p :: T)) (hi : f.code[p]? = some i) (ho : (setV i (row M p)).2 = true) : Mid f p i (row M p) [] M C T :=
  ⟨h.way.tail, hi, by have h1 := hf.ok _ (List.mem_of_getElem? hi); have h2 := hf.ps; have h3 := hf.R; rwa [show ((f.R.toNat : Nat) : Int) = f.R by omega], h.way.shp.at_ (List.getElem?_eq_some_iff.1 hi).1, h.way.come p (h.way.tin p (by simp)), rle.refl _, ho, fun p' hp' => by
    rcases h.q p' hp' with hq | hq
    · rcases List.mem_cons.1 hq with rfl | hq
      · exact Or.inr (Or.inl rfl)
      · exact Or.inl hq
    · exact Or.inr (Or.inr hq), Or.inr rfl, h.way.tin p (by simp), fun n hn => by simp at hn⟩
theorem Mid.head {f : Fn7} {M : List (List Vl)} {C : List Bool} {p : Nat} {T : List Nat} {i : Ins} {v : List Vl} {D : List Int} (h : Mid f p i v D M C T) (hD : D = nextV i p (upd i v)) : Head f M C T :=
  ⟨h.way, fun p' hp' => by
    rcases h.q p' hp' with hq | rfl | hq
    · exact Or.inl hq
    · rcases h.mine with hm | hm
      · exact Or.inl hm
      · right
        rintro n u ⟨i', v', h1, h2, _, _, h5, rfl⟩
        rw [h.ip] at h1
        injection h1 with h1
        subst h1
        have e := row_some h2
        rw [hm] at e
        subst e
        exact h.done n (by rw [hD]; exact h5)
    · exact Or.inr hq⟩
/-- an edge is gone -/
theorem Mid.step {f : Fn7} {M : List (List Vl)} {C : List Bool} {p n : Nat} {T : List Nat} {i : Ins} {v : List Vl} {D : List Int} (h : Mid f p i v D M C T) (hn : n < f.code.length) (hin : (n : Int) ∈ nextV i p (upd i v))
    (ch : Bool) (hch : ch = (!cm C n || decide (jrow (row M n) (upd i v) ≠ row M n))) :
    Mid f p i v (D ++ [(n : Int)]) (M.set n (jrow (row M n) (upd i v))) (C.set n true) (if ch then T ++ [n] else T) ∧
      (if ch then T ++ [n] else T).length + 2 * pot (M.set n (jrow (row M n) (upd i v))) (C.set n true) ≤ T.length + 2 * pot M C := by
  have hnM : n < M.length := by rw [h.way.shp.len]; exact hn
  have hnC : n < C.length := by rw [h.way.clen]; exact hn
  have hrn := h.way.shp.at_ hn
  have hur : Rw f.R.toNat (upd i v) := ⟨by rw [upd_len]; exact h.vrw.1, fun x hx => (upd_ok h.okf h.vok h.vrw.1 x hx).wf⟩
  have huo := upd_ok h.okf h.vok h.vrw.1
  have hj := jrow_rw hrn hur
  obtain ⟨J, hJ⟩ : ∃ J, jrow (row M n) (upd i v) = J := ⟨_, rfl⟩
  have hJl : rle (row M n) J := hJ ▸ jrow_left hrn hur
  have hJr : rle (upd i v) J := hJ ▸ jrow_right hrn hur
  have hJo : rok J := hJ ▸ jrow_ok hrn hur huo
  have hJle : ∀ c, rle (row M n) c → rle (upd i v) c → rle J c := fun c => hJ ▸ jrow_least hrn hur
  rw [hJ] at hj hch ⊢
  have hup : ∀ q, rle (row M q) (row (M.set n J) q) := fun q => by
    rw [row_set]
    split
    · rename_i e; rw [← e.1]; exact hJl
    · exact rle.refl _
  have hsame : ch = false → J = row M n ∧ cm C n = true := fun e => by
    rw [e] at hch
    cases hc : cm C n
    · rw [hc] at hch; simp at hch
    · rw [hc] at hch; simp at hch; exact ⟨hch, rfl⟩
  have hT : ∀ q, q ∈ T → q ∈ (if ch then T ++ [n] else T) := fun q hq => by split <;> simp [hq]
  have hshp : Shp f (M.set n J) := ⟨by simp [h.way.shp.len], fun x hx => by
    rcases List.mem_or_eq_of_mem_set hx with hx | rfl
    · exact h.way.shp.rows x hx
    · exact hj⟩
  have hleast : ∀ N, Holds f N → mle (M.set n J) N := fun N hN q => by
    rw [row_set]
    split
    · rename_i e
      have hMN := h.way.least N hN
      have hpN := hN.shp.at_ (List.getElem?_eq_some_iff.1 h.ip).1
      have hle := h.vle.trans (hMN p)
      have hokN := hle.rok h.vok (by rw [h.vrw.1, hpN.1])
      have hm := setV_mono h.okf h.vok h.vrw.1 hle h.on
      have he : Edge f N p n (upd i (row N p)) := ⟨i, row N p, h.ip, row_in (by rw [hN.shp.len]; exact (List.getElem?_eq_some_iff.1 h.ip).1), hokN, hm.1, nextV_mono h.okf h.vok h.vrw.1 hle p _ hin, rfl⟩
      rw [← e.1]
      exact hJle _ (hMN n) ((upd_mono h.okf h.vok h.vrw.1 hpN.1 hle h.on).trans (hN.edge _ _ _ he))
    · exact h.way.least N hN q
  have hway : Way f (M.set n J) (C.set n true) (if ch then T ++ [n] else T) := ⟨hshp, by simp [h.way.clen], hleast, h.way.start.trans (hup 0), fun q hq => by
      rw [row_set]
      split
      · exact hJo
      · rename_i e
        rw [cm_set] at hq
        by_cases hnq : n = q
        · subst hnq; exact absurd ⟨rfl, hnM⟩ e
        · rw [if_neg (fun e => hnq e.1)] at hq; exact h.way.come q hq,
    fun q hq r => by
      rw [cm_set] at hq
      by_cases hnq : n = q
      · subst hnq; rw [if_pos ⟨rfl, hnC⟩] at hq; cases hq
      · rw [if_neg (fun e => hnq e.1)] at hq
        rw [row_set, if_neg (fun e => hnq e.1)]
        exact h.way.gone q hq r,
    by rw [cm_set]; split; rfl; exact h.way.c0,
    fun q hq => by
      rw [cm_set]
      split
      · rfl
      · rename_i e
        have : q ∈ T := by
          split at hq
          · rcases List.mem_append.1 hq with hq | hq
            · exact hq
            · simp at hq; subst hq; exact absurd ⟨rfl, hnC⟩ e
          · exact hq
        exact h.way.tin q this⟩
  have hmet : ∀ q, (n ≠ q ∨ ch = false) → Met f M q → Met f (M.set n J) q := fun q hq hm k u he => by
    have he' : Edge f M q k u := by
      obtain ⟨i', v', h1, h2, h3⟩ := he
      refine ⟨i', v', h1, ?_, h3⟩
      rcases hq with hq | hq
      · rwa [List.getElem?_set_ne hq] at h2
      · by_cases hnq : n = q
        · subst hnq
          rw [List.getElem?_set_self hnM, (hsame hq).1] at h2
          rw [row_in hnM]
          exact h2
        · rwa [List.getElem?_set_ne hnq] at h2
    exact (hm k u he').trans (hup k)
  refine ⟨⟨hway, h.ip, h.okf, h.vrw, h.vok, h.vle.trans (hup p), h.on, fun q hq => ?_, ?_, by rw [cm_set]; split; rfl; exact h.cp, fun k hk => ?_⟩, ?_⟩
  · by_cases hnq : n = q ∧ ch = true
    · left; rw [if_pos hnq.2]; simp [hnq.1]
    · have hq' : cm C q = true := by
        rw [cm_set] at hq
        by_cases e : n = q
        · have hc : ch = false := by cases hc : ch; rfl; exact absurd ⟨e, hc⟩ hnq
          rw [← e]; exact (hsame hc).2
        · rwa [if_neg (fun h => e h.1)] at hq
      rcases h.q q hq' with h1 | h1 | h1
      · exact Or.inl (hT q h1)
      · exact Or.inr (Or.inl h1)
      · refine Or.inr (Or.inr (hmet q ?_ h1))
        by_cases e : n = q
        · right; cases hc : ch; rfl; exact absurd ⟨e, hc⟩ hnq
        · exact Or.inl e
  · rcases h.mine with hm | hm
    · exact Or.inl (hT p hm)
    · by_cases hnp : n = p
      · cases hc : ch
        · right
          rw [row_set, if_pos ⟨hnp, by rw [← hnp]; exact hnM⟩, (hsame hc).1, hnp]
          exact hm
        · left; simp [hnp]
      · right; rw [row_set, if_neg (fun e => hnp e.1)]; exact hm
  · rcases List.mem_append.1 hk with hk | hk
    · exact (h.done k hk).trans (hup k)
    · obtain rfl : k = n := by have := List.mem_singleton.1 hk; omega
      rw [row_set, if_pos ⟨rfl, hnM⟩]
      exact hJr
  · have hp1 := rpot_le (a := row M n) (b := J) (by rw [hrn.1, hj.1]) hrn.2 hj.2 hJl
    have hs1 := sum_set rpot M n (row M n) J (row_in hnM)
    have hcn : C[n]? = some (cm C n) := by simp [cm, List.getD, hnC]
    have hs2 := sum_set cw C n (cm C n) true hcn
    have hw1 : cw true = 0 := rfl
    have hw0 : cw false = 1 := rfl
    unfold pot
    generalize ((M.set n J).map rpot).sum = a1 at *
    generalize ((C.set n true).map cw).sum = a2 at *
    generalize (M.map rpot).sum = a3 at *
    generalize (C.map cw).sum = a4 at *
    cases hc : ch
    · have h0 := hsame hc
      rw [h0.1] at hs1
      rw [h0.2] at hs2
      rw [if_neg (by decide)]
      omega
    · rw [hc] at hch
      have hch' := hch.symm
      simp only [Bool.or_eq_true, Bool.not_eq_true', decide_eq_true_eq] at hch'
      rw [if_pos rfl, List.length_append, List.length_singleton]
      have hcw : cw (cm C n) ≤ 1 := by cases cm C n <;> decide
      rcases hch' with e | e
      · rw [e] at hs2
        have := hp1.1
        omega
      · have := hp1.2 (Ne.symm e)
        omega
end Go.Proofs.Ytkcclefonmnpnaa

namespace Go.Proofs.Ytkcclefonmnpnaa
open Go.RowKit Go.BigFrame

theorem tdiv_bd {a b : Int} (h : -2147483648 ≤ a ∧ a < 4294967296) : -9223372036854775808 ≤ a.tdiv b ∧ a.tdiv b < 9223372036854775808 := by
  have h1 := Int.natAbs_tdiv_le_natAbs a b
  omega
theorem sub_tdiv (a b : Int) : a - a.tdiv b * b = a.tmod b := by
  have := Int.tdiv_mul_add_tmod a b
  omega
theorem tmod_bd2 {a b : Int} (h : -2147483648 ≤ a ∧ a < 4294967296) : -9223372036854775808 ≤ a.tmod b ∧ a.tmod b < 9223372036854775808 := by
  have h2 : (a.tmod b).natAbs ≤ a.natAbs := by rw [Int.natAbs_tmod]; exact Nat.mod_le _ _
  omega
theorem tdiv_mul_bd {a b : Int} (h : -2147483648 ≤ a ∧ a < 4294967296) : -9223372036854775808 ≤ a.tdiv b * b ∧ a.tdiv b * b < 9223372036854775808 := by
  have h1 := Int.tdiv_mul_add_tmod a b
  have h2 : (a.tmod b).natAbs ≤ a.natAbs := by rw [Int.natAbs_tmod]; exact Nat.mod_le _ _
  omega
theorem wr_nat (Z : BitVec 32) : wr (Z.toNat : Int) = Z.toInt := by
  rw [wr_b]
  unfold b32
  rw [BitVec.ofInt_natCast, BitVec.ofNat_toNat, BitVec.setWidth_eq]
theorem b32_wr (n : Int) : b32 (wr n) = b32 n := by rw [wr_b, b32_toInt]
theorem pl0n {b : Int} (h : wr b ≠ 0) : pl (wr b) ≠ 0 := by have := wr_bd b; unfold pl; omega
theorem pl0s {b : Int} (h : wr b = 0) : pl (wr b) = 0 := by rw [h]; decide
theorem le_eq {a b : Int} (h : ¬ a < b) : decide (a ≤ b) = (a == b) := by
  by_cases e : a = b
  · subst e; simp
  · rw [beq_eq_false_iff_ne.2 e]; simp; omega
set_option maxRecDepth 1000000 in
set_option maxHeartbeats 4000000 in
theorem ref_1 (a b : Int) (w : World) : Calls Try.prog 46 #[.int .i64 1, .int .i64 a, .int .i64 b] w fun e w' => e = .returned (.tuple #[.int .i64 (wr (wr a + wr b)), .bool (true)]) ∧ Below w.heap.size w w' := by
  have h1 := wr_bd a
  have h2 := wr_bd b
  have h5 := pl_bd (wr a)
  have h6 := pl_bd (wr b)
  obtain ⟨kk, hkk⟩ : ∃ kk, kk = (wr b % 32).toNat := ⟨_, rfl⟩
  have hk1 : pl (wr b) % 32 = (kk : Int) := by rw [hkk]; unfold pl; omega
  have hk2 : (pl (wr b)).tmod 32 = (kk : Int) := by rw [Int.tmod_eq_emod_of_nonneg h6.1, hk1]
  have hk3 : kk ≤ 31 := by omega
  clear hkk
  have f1 : wrap64 (wr a + wr b) = wr a + wr b := w64 (by omega)
  by_cases hz : wr b = 0
  · have z1 : (wr b == 0) = true := by simp [hz]
    have z2 : decide (wr b = 0) = true := by simp [hz]
    clear hz
    go_enter Try.func46, Try.ntmps46
    go_wp2_with (first
      | (go_at_call 73; refine (refwrap_any _ _).mono ?_; rintro e w' ⟨rfl, rfl⟩)
      | (go_at_call 59; refine (refplain_any _ _).mono ?_; rintro e w' ⟨rfl, rfl⟩)
      | (go_at_call 74; refine (power_any kk hk3 _).mono ?_; rintro e w' ⟨rfl, rfl⟩)
      | (go_at_call 77; refine (reftruth_any _ _).mono ?_; rintro e w' ⟨rfl, rfl⟩))
    go_returns
    exact ⟨rfl, Below.refl _ _⟩
  · have z1 : (wr b == 0) = false := by simp [hz]
    have z2 : decide (wr b = 0) = false := by simp [hz]
    go_enter Try.func46, Try.ntmps46
    go_wp2_with (first
      | (go_at_call 73; refine (refwrap_any _ _).mono ?_; rintro e w' ⟨rfl, rfl⟩)
      | (go_at_call 59; refine (refplain_any _ _).mono ?_; rintro e w' ⟨rfl, rfl⟩)
      | (go_at_call 74; refine (power_any kk hk3 _).mono ?_; rintro e w' ⟨rfl, rfl⟩)
      | (go_at_call 77; refine (reftruth_any _ _).mono ?_; rintro e w' ⟨rfl, rfl⟩))
    go_returns
    exact ⟨rfl, Below.refl _ _⟩
set_option maxRecDepth 1000000 in
set_option maxHeartbeats 4000000 in
theorem ref_2 (a b : Int) (w : World) : Calls Try.prog 46 #[.int .i64 2, .int .i64 a, .int .i64 b] w fun e w' => e = .returned (.tuple #[.int .i64 (wr (wr a - wr b)), .bool (true)]) ∧ Below w.heap.size w w' := by
  have h1 := wr_bd a
  have h2 := wr_bd b
  have h5 := pl_bd (wr a)
  have h6 := pl_bd (wr b)
  obtain ⟨kk, hkk⟩ : ∃ kk, kk = (wr b % 32).toNat := ⟨_, rfl⟩
  have hk1 : pl (wr b) % 32 = (kk : Int) := by rw [hkk]; unfold pl; omega
  have hk2 : (pl (wr b)).tmod 32 = (kk : Int) := by rw [Int.tmod_eq_emod_of_nonneg h6.1, hk1]
  have hk3 : kk ≤ 31 := by omega
  clear hkk
  have f1 : wrap64 (wr a - wr b) = wr a - wr b := w64 (by omega)
  by_cases hz : wr b = 0
  · have z1 : (wr b == 0) = true := by simp [hz]
    have z2 : decide (wr b = 0) = true := by simp [hz]
    clear hz
    go_enter Try.func46, Try.ntmps46
    go_wp2_with (first
      | (go_at_call 73; refine (refwrap_any _ _).mono ?_; rintro e w' ⟨rfl, rfl⟩)
      | (go_at_call 59; refine (refplain_any _ _).mono ?_; rintro e w' ⟨rfl, rfl⟩)
      | (go_at_call 74; refine (power_any kk hk3 _).mono ?_; rintro e w' ⟨rfl, rfl⟩)
      | (go_at_call 77; refine (reftruth_any _ _).mono ?_; rintro e w' ⟨rfl, rfl⟩))
    go_returns
    exact ⟨rfl, Below.refl _ _⟩
  · have z1 : (wr b == 0) = false := by simp [hz]
    have z2 : decide (wr b = 0) = false := by simp [hz]
    go_enter Try.func46, Try.ntmps46
    go_wp2_with (first
      | (go_at_call 73; refine (refwrap_any _ _).mono ?_; rintro e w' ⟨rfl, rfl⟩)
      | (go_at_call 59; refine (refplain_any _ _).mono ?_; rintro e w' ⟨rfl, rfl⟩)
      | (go_at_call 74; refine (power_any kk hk3 _).mono ?_; rintro e w' ⟨rfl, rfl⟩)
      | (go_at_call 77; refine (reftruth_any _ _).mono ?_; rintro e w' ⟨rfl, rfl⟩))
    go_returns
    exact ⟨rfl, Below.refl _ _⟩
set_option maxRecDepth 1000000 in
set_option maxHeartbeats 4000000 in
theorem ref_3 (a b : Int) (w : World) : Calls Try.prog 46 #[.int .i64 3, .int .i64 a, .int .i64 b] w fun e w' => e = .returned (.tuple #[.int .i64 (wr (wr a * wr b)), .bool (true)]) ∧ Below w.heap.size w w' := by
  have h1 := wr_bd a
  have h2 := wr_bd b
  have h5 := pl_bd (wr a)
  have h6 := pl_bd (wr b)
  obtain ⟨kk, hkk⟩ : ∃ kk, kk = (wr b % 32).toNat := ⟨_, rfl⟩
  have hk1 : pl (wr b) % 32 = (kk : Int) := by rw [hkk]; unfold pl; omega
  have hk2 : (pl (wr b)).tmod 32 = (kk : Int) := by rw [Int.tmod_eq_emod_of_nonneg h6.1, hk1]
  have hk3 : kk ≤ 31 := by omega
  clear hkk
  have f1 : wrap64 (wr a * wr b) = wr a * wr b := w64 (mul_bd h1 h2)
  by_cases hz : wr b = 0
  · have z1 : (wr b == 0) = true := by simp [hz]
    have z2 : decide (wr b = 0) = true := by simp [hz]
    clear hz
    go_enter Try.func46, Try.ntmps46
    go_wp2_with (first
      | (go_at_call 73; refine (refwrap_any _ _).mono ?_; rintro e w' ⟨rfl, rfl⟩)
      | (go_at_call 59; refine (refplain_any _ _).mono ?_; rintro e w' ⟨rfl, rfl⟩)
      | (go_at_call 74; refine (power_any kk hk3 _).mono ?_; rintro e w' ⟨rfl, rfl⟩)
      | (go_at_call 77; refine (reftruth_any _ _).mono ?_; rintro e w' ⟨rfl, rfl⟩))
    go_returns
    exact ⟨rfl, Below.refl _ _⟩
  · have z1 : (wr b == 0) = false := by simp [hz]
    have z2 : decide (wr b = 0) = false := by simp [hz]
    go_enter Try.func46, Try.ntmps46
    go_wp2_with (first
      | (go_at_call 73; refine (refwrap_any _ _).mono ?_; rintro e w' ⟨rfl, rfl⟩)
      | (go_at_call 59; refine (refplain_any _ _).mono ?_; rintro e w' ⟨rfl, rfl⟩)
      | (go_at_call 74; refine (power_any kk hk3 _).mono ?_; rintro e w' ⟨rfl, rfl⟩)
      | (go_at_call 77; refine (reftruth_any _ _).mono ?_; rintro e w' ⟨rfl, rfl⟩))
    go_returns
    exact ⟨rfl, Below.refl _ _⟩
set_option maxRecDepth 1000000 in
set_option maxHeartbeats 4000000 in
theorem ref_4 (a b : Int) (w : World) : Calls Try.prog 46 #[.int .i64 4, .int .i64 a, .int .i64 b] w fun e w' => e = .returned (.tuple #[.int .i64 (wr (dv (wr a) (wr b))), .bool (!decide (wr b = 0))]) ∧ Below w.heap.size w w' := by
  have h1 := wr_bd a
  have h2 := wr_bd b
  have h5 := pl_bd (wr a)
  have h6 := pl_bd (wr b)
  obtain ⟨kk, hkk⟩ : ∃ kk, kk = (wr b % 32).toNat := ⟨_, rfl⟩
  have hk1 : pl (wr b) % 32 = (kk : Int) := by rw [hkk]; unfold pl; omega
  have hk2 : (pl (wr b)).tmod 32 = (kk : Int) := by rw [Int.tmod_eq_emod_of_nonneg h6.1, hk1]
  have hk3 : kk ≤ 31 := by omega
  clear hkk
  have f1 : wrap64 ((wr a).tdiv (wr b)) = (wr a).tdiv (wr b) := w64 (tdiv_bd ⟨by omega, by omega⟩)
  by_cases hz : wr b = 0
  · have z1 : (wr b == 0) = true := by simp [hz]
    have z2 : decide (wr b = 0) = true := by simp [hz]
    rw [show wr (dv (wr a) (wr b)) = 0 by rw [hz]; simp [dv, wr], show (!decide (wr b = 0)) = false by simp [hz]]
    clear hz
    go_enter Try.func46, Try.ntmps46
    go_wp2_with (first
      | (go_at_call 73; refine (refwrap_any _ _).mono ?_; rintro e w' ⟨rfl, rfl⟩)
      | (go_at_call 59; refine (refplain_any _ _).mono ?_; rintro e w' ⟨rfl, rfl⟩)
      | (go_at_call 74; refine (power_any kk hk3 _).mono ?_; rintro e w' ⟨rfl, rfl⟩)
      | (go_at_call 77; refine (reftruth_any _ _).mono ?_; rintro e w' ⟨rfl, rfl⟩))
    go_returns
    exact ⟨rfl, Below.refl _ _⟩
  · have z1 : (wr b == 0) = false := by simp [hz]
    have z2 : decide (wr b = 0) = false := by simp [hz]
    rw [show wr (dv (wr a) (wr b)) = wr ((wr a).tdiv (wr b)) by unfold dv; rw [if_neg hz], show (!decide (wr b = 0)) = true by simp [hz]]
    go_enter Try.func46, Try.ntmps46
    go_wp2_with (first
      | (go_at_call 73; refine (refwrap_any _ _).mono ?_; rintro e w' ⟨rfl, rfl⟩)
      | (go_at_call 59; refine (refplain_any _ _).mono ?_; rintro e w' ⟨rfl, rfl⟩)
      | (go_at_call 74; refine (power_any kk hk3 _).mono ?_; rintro e w' ⟨rfl, rfl⟩)
      | (go_at_call 77; refine (reftruth_any _ _).mono ?_; rintro e w' ⟨rfl, rfl⟩))
    go_returns
    exact ⟨rfl, Below.refl _ _⟩
set_option maxRecDepth 1000000 in
set_option maxHeartbeats 4000000 in
theorem ref_5 (a b : Int) (w : World) : Calls Try.prog 46 #[.int .i64 5, .int .i64 a, .int .i64 b] w fun e w' => e = .returned (.tuple #[.int .i64 (wr (md (wr a) (wr b))), .bool (!decide (wr b = 0))]) ∧ Below w.heap.size w w' := by
  have h1 := wr_bd a
  have h2 := wr_bd b
  have h5 := pl_bd (wr a)
  have h6 := pl_bd (wr b)
  obtain ⟨kk, hkk⟩ : ∃ kk, kk = (wr b % 32).toNat := ⟨_, rfl⟩
  have hk1 : pl (wr b) % 32 = (kk : Int) := by rw [hkk]; unfold pl; omega
  have hk2 : (pl (wr b)).tmod 32 = (kk : Int) := by rw [Int.tmod_eq_emod_of_nonneg h6.1, hk1]
  have hk3 : kk ≤ 31 := by omega
  clear hkk
  have f1 : wrap64 ((wr a).tdiv (wr b)) = (wr a).tdiv (wr b) := w64 (tdiv_bd ⟨by omega, by omega⟩)
  have f2 : wrap64 ((wr a).tdiv (wr b) * wr b) = (wr a).tdiv (wr b) * wr b := w64 (tdiv_mul_bd ⟨by omega, by omega⟩)
  have f3 : wrap64 (wr a - (wr a).tdiv (wr b) * wr b) = (wr a).tmod (wr b) := by rw [sub_tdiv]; exact w64 (tmod_bd2 ⟨by omega, by omega⟩)
  by_cases hz : wr b = 0
  · have z1 : (wr b == 0) = true := by simp [hz]
    have z2 : decide (wr b = 0) = true := by simp [hz]
    rw [show wr (md (wr a) (wr b)) = 0 by rw [hz]; simp [md, wr], show (!decide (wr b = 0)) = false by simp [hz]]
    clear hz
    go_enter Try.func46, Try.ntmps46
    go_wp2_with (first
      | (go_at_call 73; refine (refwrap_any _ _).mono ?_; rintro e w' ⟨rfl, rfl⟩)
      | (go_at_call 59; refine (refplain_any _ _).mono ?_; rintro e w' ⟨rfl, rfl⟩)
      | (go_at_call 74; refine (power_any kk hk3 _).mono ?_; rintro e w' ⟨rfl, rfl⟩)
      | (go_at_call 77; refine (reftruth_any _ _).mono ?_; rintro e w' ⟨rfl, rfl⟩))
    go_returns
    exact ⟨rfl, Below.refl _ _⟩
  · have z1 : (wr b == 0) = false := by simp [hz]
    have z2 : decide (wr b = 0) = false := by simp [hz]
    rw [show wr (md (wr a) (wr b)) = wr ((wr a).tmod (wr b)) by unfold md; rw [if_neg hz], show (!decide (wr b = 0)) = true by simp [hz]]
    go_enter Try.func46, Try.ntmps46
    go_wp2_with (first
      | (go_at_call 73; refine (refwrap_any _ _).mono ?_; rintro e w' ⟨rfl, rfl⟩)
      | (go_at_call 59; refine (refplain_any _ _).mono ?_; rintro e w' ⟨rfl, rfl⟩)
      | (go_at_call 74; refine (power_any kk hk3 _).mono ?_; rintro e w' ⟨rfl, rfl⟩)
      | (go_at_call 77; refine (reftruth_any _ _).mono ?_; rintro e w' ⟨rfl, rfl⟩))
    go_returns
    exact ⟨rfl, Below.refl _ _⟩
set_option maxRecDepth 1000000 in
set_option maxHeartbeats 4000000 in
theorem ref_6 (a b : Int) (w : World) : Calls Try.prog 46 #[.int .i64 6, .int .i64 a, .int .i64 b] w fun e w' => e = .returned (.tuple #[.int .i64 (wr (dv (pl (wr a)) (pl (wr b)))), .bool (!decide (pl (wr b) = 0))]) ∧ Below w.heap.size w w' := by
  have h1 := wr_bd a
  have h2 := wr_bd b
  have h5 := pl_bd (wr a)
  have h6 := pl_bd (wr b)
  obtain ⟨kk, hkk⟩ : ∃ kk, kk = (wr b % 32).toNat := ⟨_, rfl⟩
  have hk1 : pl (wr b) % 32 = (kk : Int) := by rw [hkk]; unfold pl; omega
  have hk2 : (pl (wr b)).tmod 32 = (kk : Int) := by rw [Int.tmod_eq_emod_of_nonneg h6.1, hk1]
  have hk3 : kk ≤ 31 := by omega
  clear hkk
  have f1 : wrap64 ((pl (wr a)).tdiv (pl (wr b))) = (pl (wr a)).tdiv (pl (wr b)) := w64 (tdiv_bd ⟨by omega, by omega⟩)
  by_cases hz : wr b = 0
  · have z1 : (wr b == 0) = true := by simp [hz]
    have z2 : decide (wr b = 0) = true := by simp [hz]
    rw [show wr (dv (pl (wr a)) (pl (wr b))) = 0 by rw [pl0s hz]; simp [dv, wr], show (!decide (pl (wr b) = 0)) = false by simp [pl0s hz]]
    clear hz
    go_enter Try.func46, Try.ntmps46
    go_wp2_with (first
      | (go_at_call 73; refine (refwrap_any _ _).mono ?_; rintro e w' ⟨rfl, rfl⟩)
      | (go_at_call 59; refine (refplain_any _ _).mono ?_; rintro e w' ⟨rfl, rfl⟩)
      | (go_at_call 74; refine (power_any kk hk3 _).mono ?_; rintro e w' ⟨rfl, rfl⟩)
      | (go_at_call 77; refine (reftruth_any _ _).mono ?_; rintro e w' ⟨rfl, rfl⟩))
    go_returns
    exact ⟨rfl, Below.refl _ _⟩
  · have z1 : (wr b == 0) = false := by simp [hz]
    have z2 : decide (wr b = 0) = false := by simp [hz]
    rw [show wr (dv (pl (wr a)) (pl (wr b))) = wr (pl (wr a) / pl (wr b)) by unfold dv; rw [if_neg (pl0n hz), Int.tdiv_eq_ediv_of_nonneg h5.1], show (!decide (pl (wr b) = 0)) = true by simp [pl0n hz]]
    have q1 : (pl (wr b) == 0) = false := by simp [pl0n hz]
    have q2 : decide (pl (wr b) = 0) = false := by simp [pl0n hz]
    have q3 := pl0n hz
    go_enter Try.func46, Try.ntmps46
    go_wp2_with (first
      | (go_at_call 73; refine (refwrap_any _ _).mono ?_; rintro e w' ⟨rfl, rfl⟩)
      | (go_at_call 59; refine (refplain_any _ _).mono ?_; rintro e w' ⟨rfl, rfl⟩)
      | (go_at_call 74; refine (power_any kk hk3 _).mono ?_; rintro e w' ⟨rfl, rfl⟩)
      | (go_at_call 77; refine (reftruth_any _ _).mono ?_; rintro e w' ⟨rfl, rfl⟩))
    go_returns
    exact ⟨rfl, Below.refl _ _⟩
set_option maxRecDepth 1000000 in
set_option maxHeartbeats 4000000 in
theorem ref_7 (a b : Int) (w : World) : Calls Try.prog 46 #[.int .i64 7, .int .i64 a, .int .i64 b] w fun e w' => e = .returned (.tuple #[.int .i64 (wr (md (pl (wr a)) (pl (wr b)))), .bool (!decide (pl (wr b) = 0))]) ∧ Below w.heap.size w w' := by
  have h1 := wr_bd a
  have h2 := wr_bd b
  have h5 := pl_bd (wr a)
  have h6 := pl_bd (wr b)
  obtain ⟨kk, hkk⟩ : ∃ kk, kk = (wr b % 32).toNat := ⟨_, rfl⟩
  have hk1 : pl (wr b) % 32 = (kk : Int) := by rw [hkk]; unfold pl; omega
  have hk2 : (pl (wr b)).tmod 32 = (kk : Int) := by rw [Int.tmod_eq_emod_of_nonneg h6.1, hk1]
  have hk3 : kk ≤ 31 := by omega
  clear hkk
  have f1 : wrap64 ((pl (wr a)).tdiv (pl (wr b))) = (pl (wr a)).tdiv (pl (wr b)) := w64 (tdiv_bd ⟨by omega, by omega⟩)
  have f2 : wrap64 ((pl (wr a)).tdiv (pl (wr b)) * pl (wr b)) = (pl (wr a)).tdiv (pl (wr b)) * pl (wr b) := w64 (tdiv_mul_bd ⟨by omega, by omega⟩)
  have f3 : wrap64 (pl (wr a) - (pl (wr a)).tdiv (pl (wr b)) * pl (wr b)) = (pl (wr a)).tmod (pl (wr b)) := by rw [sub_tdiv]; exact w64 (tmod_bd2 ⟨by omega, by omega⟩)
  have e0 : (pl (wr a)).tdiv (pl (wr b)) = pl (wr a) / pl (wr b) := Int.tdiv_eq_ediv_of_nonneg h5.1
  have g1 := f1
  have g2 := f2
  have g3 := f3
  rw [e0] at g1 g2 g3
  by_cases hz : wr b = 0
  · have z1 : (wr b == 0) = true := by simp [hz]
    have z2 : decide (wr b = 0) = true := by simp [hz]
    rw [show wr (md (pl (wr a)) (pl (wr b))) = 0 by rw [pl0s hz]; simp [md, wr], show (!decide (pl (wr b) = 0)) = false by simp [pl0s hz]]
    clear hz
    go_enter Try.func46, Try.ntmps46
    go_wp2_with (first
      | (go_at_call 73; refine (refwrap_any _ _).mono ?_; rintro e w' ⟨rfl, rfl⟩)
      | (go_at_call 59; refine (refplain_any _ _).mono ?_; rintro e w' ⟨rfl, rfl⟩)
      | (go_at_call 74; refine (power_any kk hk3 _).mono ?_; rintro e w' ⟨rfl, rfl⟩)
      | (go_at_call 77; refine (reftruth_any _ _).mono ?_; rintro e w' ⟨rfl, rfl⟩))
    go_returns
    exact ⟨rfl, Below.refl _ _⟩
  · have z1 : (wr b == 0) = false := by simp [hz]
    have z2 : decide (wr b = 0) = false := by simp [hz]
    rw [show wr (md (pl (wr a)) (pl (wr b))) = wr (pl (wr a) % pl (wr b)) by unfold md; rw [if_neg (pl0n hz), Int.tmod_eq_emod_of_nonneg h5.1], show (!decide (pl (wr b) = 0)) = true by simp [pl0n hz]]
    have q1 : (pl (wr b) == 0) = false := by simp [pl0n hz]
    have q2 : decide (pl (wr b) = 0) = false := by simp [pl0n hz]
    have q3 := pl0n hz
    go_enter Try.func46, Try.ntmps46
    go_wp2_with (first
      | (go_at_call 73; refine (refwrap_any _ _).mono ?_; rintro e w' ⟨rfl, rfl⟩)
      | (go_at_call 59; refine (refplain_any _ _).mono ?_; rintro e w' ⟨rfl, rfl⟩)
      | (go_at_call 74; refine (power_any kk hk3 _).mono ?_; rintro e w' ⟨rfl, rfl⟩)
      | (go_at_call 77; refine (reftruth_any _ _).mono ?_; rintro e w' ⟨rfl, rfl⟩))
    refine wp_region_later (by kernel_rfl) (by kernel_rfl) ?_
    repeat (go_big_quiet_step ((go_at_call 59; exact Calls.later_same (refplain_any _ _))))
    refine wpQuiet_nil ?_
    rintro w1 ⟨s, rfl⟩
    have hb1 := s.h
    go_wp2_with (go_at_call 73; refine (refwrap_any _ _).mono ?_; rintro e w' ⟨rfl, rfl⟩)
    go_returns
    exact ⟨rfl, hb1⟩
set_option maxRecDepth 1000000 in
set_option maxHeartbeats 4000000 in
theorem ref_8 (a b : Int) (w : World) : Calls Try.prog 46 #[.int .i64 8, .int .i64 a, .int .i64 b] w fun e w' => e = .returned (.tuple #[.int .i64 (wr (bits .and .i64 (wr a) (wr b))), .bool (true)]) ∧ Below w.heap.size w w' := by
  have h1 := wr_bd a
  have h2 := wr_bd b
  have h5 := pl_bd (wr a)
  have h6 := pl_bd (wr b)
  obtain ⟨kk, hkk⟩ : ∃ kk, kk = (wr b % 32).toNat := ⟨_, rfl⟩
  have hk1 : pl (wr b) % 32 = (kk : Int) := by rw [hkk]; unfold pl; omega
  have hk2 : (pl (wr b)).tmod 32 = (kk : Int) := by rw [Int.tmod_eq_emod_of_nonneg h6.1, hk1]
  have hk3 : kk ≤ 31 := by omega
  clear hkk
  rw [(show wr (bits .and .i64 (wr a) (wr b)) = wr (((b32 (wr a) &&& b32 (wr b)).toNat : Nat) : Int) by rw [v_and, wr_nat, b32_wr, b32_wr])]
  by_cases hz : wr b = 0
  · have z1 : (wr b == 0) = true := by simp [hz]
    have z2 : decide (wr b = 0) = true := by simp [hz]
    clear hz
    go_enter Try.func46, Try.ntmps46
    go_wp2_with (first
      | (go_at_call 73; refine (refwrap_any _ _).mono ?_; rintro e w' ⟨rfl, rfl⟩)
      | (go_at_call 59; refine (refplain_any _ _).mono ?_; rintro e w' ⟨rfl, rfl⟩)
      | (go_at_call 74; refine (power_any kk hk3 _).mono ?_; rintro e w' ⟨rfl, rfl⟩)
      | (go_at_call 75; refine (bits0_any (wr a) (wr b) _).mono ?_; rintro e w1 ⟨rfl, hb1⟩)
      | (go_at_call 77; refine (reftruth_any _ _).mono ?_; rintro e w' ⟨rfl, rfl⟩))
    go_returns
    exact ⟨rfl, hb1⟩
  · have z1 : (wr b == 0) = false := by simp [hz]
    have z2 : decide (wr b = 0) = false := by simp [hz]
    go_enter Try.func46, Try.ntmps46
    go_wp2_with (first
      | (go_at_call 73; refine (refwrap_any _ _).mono ?_; rintro e w' ⟨rfl, rfl⟩)
      | (go_at_call 59; refine (refplain_any _ _).mono ?_; rintro e w' ⟨rfl, rfl⟩)
      | (go_at_call 74; refine (power_any kk hk3 _).mono ?_; rintro e w' ⟨rfl, rfl⟩)
      | (go_at_call 75; refine (bits0_any (wr a) (wr b) _).mono ?_; rintro e w1 ⟨rfl, hb1⟩)
      | (go_at_call 77; refine (reftruth_any _ _).mono ?_; rintro e w' ⟨rfl, rfl⟩))
    go_returns
    exact ⟨rfl, hb1⟩
set_option maxRecDepth 1000000 in
set_option maxHeartbeats 4000000 in
theorem ref_9 (a b : Int) (w : World) : Calls Try.prog 46 #[.int .i64 9, .int .i64 a, .int .i64 b] w fun e w' => e = .returned (.tuple #[.int .i64 (wr (bits .or .i64 (wr a) (wr b))), .bool (true)]) ∧ Below w.heap.size w w' := by
  have h1 := wr_bd a
  have h2 := wr_bd b
  have h5 := pl_bd (wr a)
  have h6 := pl_bd (wr b)
  obtain ⟨kk, hkk⟩ : ∃ kk, kk = (wr b % 32).toNat := ⟨_, rfl⟩
  have hk1 : pl (wr b) % 32 = (kk : Int) := by rw [hkk]; unfold pl; omega
  have hk2 : (pl (wr b)).tmod 32 = (kk : Int) := by rw [Int.tmod_eq_emod_of_nonneg h6.1, hk1]
  have hk3 : kk ≤ 31 := by omega
  clear hkk
  rw [(show wr (bits .or .i64 (wr a) (wr b)) = wr (((b32 (wr a) ||| b32 (wr b)).toNat : Nat) : Int) by rw [v_or, wr_nat, b32_wr, b32_wr])]
  by_cases hz : wr b = 0
  · have z1 : (wr b == 0) = true := by simp [hz]
    have z2 : decide (wr b = 0) = true := by simp [hz]
    clear hz
    go_enter Try.func46, Try.ntmps46
    go_wp2_with (first
      | (go_at_call 73; refine (refwrap_any _ _).mono ?_; rintro e w' ⟨rfl, rfl⟩)
      | (go_at_call 59; refine (refplain_any _ _).mono ?_; rintro e w' ⟨rfl, rfl⟩)
      | (go_at_call 74; refine (power_any kk hk3 _).mono ?_; rintro e w' ⟨rfl, rfl⟩)
      | (go_at_call 75; refine (bits1_any (wr a) (wr b) _).mono ?_; rintro e w1 ⟨rfl, hb1⟩)
      | (go_at_call 77; refine (reftruth_any _ _).mono ?_; rintro e w' ⟨rfl, rfl⟩))
    go_returns
    exact ⟨rfl, hb1⟩
  · have z1 : (wr b == 0) = false := by simp [hz]
    have z2 : decide (wr b = 0) = false := by simp [hz]
    go_enter Try.func46, Try.ntmps46
    go_wp2_with (first
      | (go_at_call 73; refine (refwrap_any _ _).mono ?_; rintro e w' ⟨rfl, rfl⟩)
      | (go_at_call 59; refine (refplain_any _ _).mono ?_; rintro e w' ⟨rfl, rfl⟩)
      | (go_at_call 74; refine (power_any kk hk3 _).mono ?_; rintro e w' ⟨rfl, rfl⟩)
      | (go_at_call 75; refine (bits1_any (wr a) (wr b) _).mono ?_; rintro e w1 ⟨rfl, hb1⟩)
      | (go_at_call 77; refine (reftruth_any _ _).mono ?_; rintro e w' ⟨rfl, rfl⟩))
    go_returns
    exact ⟨rfl, hb1⟩
set_option maxRecDepth 1000000 in
set_option maxHeartbeats 4000000 in
theorem ref_10 (a b : Int) (w : World) : Calls Try.prog 46 #[.int .i64 10, .int .i64 a, .int .i64 b] w fun e w' => e = .returned (.tuple #[.int .i64 (wr (bits .xor .i64 (wr a) (wr b))), .bool (true)]) ∧ Below w.heap.size w w' := by
  have h1 := wr_bd a
  have h2 := wr_bd b
  have h5 := pl_bd (wr a)
  have h6 := pl_bd (wr b)
  obtain ⟨kk, hkk⟩ : ∃ kk, kk = (wr b % 32).toNat := ⟨_, rfl⟩
  have hk1 : pl (wr b) % 32 = (kk : Int) := by rw [hkk]; unfold pl; omega
  have hk2 : (pl (wr b)).tmod 32 = (kk : Int) := by rw [Int.tmod_eq_emod_of_nonneg h6.1, hk1]
  have hk3 : kk ≤ 31 := by omega
  clear hkk
  rw [(show wr (bits .xor .i64 (wr a) (wr b)) = wr (((b32 (wr a) ^^^ b32 (wr b)).toNat : Nat) : Int) by rw [v_xor, wr_nat, b32_wr, b32_wr])]
  by_cases hz : wr b = 0
  · have z1 : (wr b == 0) = true := by simp [hz]
    have z2 : decide (wr b = 0) = true := by simp [hz]
    clear hz
    go_enter Try.func46, Try.ntmps46
    go_wp2_with (first
      | (go_at_call 73; refine (refwrap_any _ _).mono ?_; rintro e w' ⟨rfl, rfl⟩)
      | (go_at_call 59; refine (refplain_any _ _).mono ?_; rintro e w' ⟨rfl, rfl⟩)
      | (go_at_call 74; refine (power_any kk hk3 _).mono ?_; rintro e w' ⟨rfl, rfl⟩)
      | (go_at_call 75; refine (bits2_any (wr a) (wr b) _).mono ?_; rintro e w1 ⟨rfl, hb1⟩)
      | (go_at_call 77; refine (reftruth_any _ _).mono ?_; rintro e w' ⟨rfl, rfl⟩))
    go_returns
    exact ⟨rfl, hb1⟩
  · have z1 : (wr b == 0) = false := by simp [hz]
    have z2 : decide (wr b = 0) = false := by simp [hz]
    go_enter Try.func46, Try.ntmps46
    go_wp2_with (first
      | (go_at_call 73; refine (refwrap_any _ _).mono ?_; rintro e w' ⟨rfl, rfl⟩)
      | (go_at_call 59; refine (refplain_any _ _).mono ?_; rintro e w' ⟨rfl, rfl⟩)
      | (go_at_call 74; refine (power_any kk hk3 _).mono ?_; rintro e w' ⟨rfl, rfl⟩)
      | (go_at_call 75; refine (bits2_any (wr a) (wr b) _).mono ?_; rintro e w1 ⟨rfl, hb1⟩)
      | (go_at_call 77; refine (reftruth_any _ _).mono ?_; rintro e w' ⟨rfl, rfl⟩))
    go_returns
    exact ⟨rfl, hb1⟩
set_option maxRecDepth 1000000 in
set_option maxHeartbeats 4000000 in
theorem ref_11 (a b : Int) (w : World) : Calls Try.prog 46 #[.int .i64 11, .int .i64 a, .int .i64 b] w fun e w' => e = .returned (.tuple #[.int .i64 (wr (wr a * 2 ^ (wr b % 32).toNat)), .bool (true)]) ∧ Below w.heap.size w w' := by
  have h1 := wr_bd a
  have h2 := wr_bd b
  have h5 := pl_bd (wr a)
  have h6 := pl_bd (wr b)
  obtain ⟨kk, hkk⟩ : ∃ kk, kk = (wr b % 32).toNat := ⟨_, rfl⟩
  have hk1 : pl (wr b) % 32 = (kk : Int) := by rw [hkk]; unfold pl; omega
  have hk2 : (pl (wr b)).tmod 32 = (kk : Int) := by rw [Int.tmod_eq_emod_of_nonneg h6.1, hk1]
  have hk3 : kk ≤ 31 := by omega
  rw [← hkk]
  clear hkk
  have f1 : wrap64 (wr a * 2 ^ kk) = wr a * 2 ^ kk := w64 (shl_bd h1 (by omega))
  by_cases hz : wr b = 0
  · have z1 : (wr b == 0) = true := by simp [hz]
    have z2 : decide (wr b = 0) = true := by simp [hz]
    clear hz
    go_enter Try.func46, Try.ntmps46
    go_wp2_with (first
      | (go_at_call 73; refine (refwrap_any _ _).mono ?_; rintro e w' ⟨rfl, rfl⟩)
      | (go_at_call 59; refine (refplain_any _ _).mono ?_; rintro e w' ⟨rfl, rfl⟩)
      | (go_at_call 74; refine (power_any kk hk3 _).mono ?_; rintro e w' ⟨rfl, rfl⟩)
      | (go_at_call 77; refine (reftruth_any _ _).mono ?_; rintro e w' ⟨rfl, rfl⟩))
    go_returns
    exact ⟨rfl, Below.refl _ _⟩
  · have z1 : (wr b == 0) = false := by simp [hz]
    have z2 : decide (wr b = 0) = false := by simp [hz]
    go_enter Try.func46, Try.ntmps46
    go_wp2_with (first
      | (go_at_call 73; refine (refwrap_any _ _).mono ?_; rintro e w' ⟨rfl, rfl⟩)
      | (go_at_call 59; refine (refplain_any _ _).mono ?_; rintro e w' ⟨rfl, rfl⟩)
      | (go_at_call 74; refine (power_any kk hk3 _).mono ?_; rintro e w' ⟨rfl, rfl⟩)
      | (go_at_call 77; refine (reftruth_any _ _).mono ?_; rintro e w' ⟨rfl, rfl⟩))
    go_returns
    exact ⟨rfl, Below.refl _ _⟩
set_option maxRecDepth 1000000 in
set_option maxHeartbeats 4000000 in
theorem ref_12 (a b : Int) (w : World) : Calls Try.prog 46 #[.int .i64 12, .int .i64 a, .int .i64 b] w fun e w' => e = .returned (.tuple #[.int .i64 (wr (wr a / 2 ^ (wr b % 32).toNat)), .bool (true)]) ∧ Below w.heap.size w w' := by
  have h1 := wr_bd a
  have h2 := wr_bd b
  have h5 := pl_bd (wr a)
  have h6 := pl_bd (wr b)
  obtain ⟨kk, hkk⟩ : ∃ kk, kk = (wr b % 32).toNat := ⟨_, rfl⟩
  have hk1 : pl (wr b) % 32 = (kk : Int) := by rw [hkk]; unfold pl; omega
  have hk2 : (pl (wr b)).tmod 32 = (kk : Int) := by rw [Int.tmod_eq_emod_of_nonneg h6.1, hk1]
  have hk3 : kk ≤ 31 := by omega
  rw [← hkk]
  clear hkk
  by_cases hz : wr b = 0
  · have z1 : (wr b == 0) = true := by simp [hz]
    have z2 : decide (wr b = 0) = true := by simp [hz]
    clear hz
    go_enter Try.func46, Try.ntmps46
    go_wp2_with (first
      | (go_at_call 73; refine (refwrap_any _ _).mono ?_; rintro e w' ⟨rfl, rfl⟩)
      | (go_at_call 59; refine (refplain_any _ _).mono ?_; rintro e w' ⟨rfl, rfl⟩)
      | (go_at_call 74; refine (power_any kk hk3 _).mono ?_; rintro e w' ⟨rfl, rfl⟩)
      | (go_at_call 76; refine (down_any (wr a) kk h1 (by omega) _).mono ?_; rintro e w1 ⟨rfl, hb1⟩)
      | (go_at_call 77; refine (reftruth_any _ _).mono ?_; rintro e w' ⟨rfl, rfl⟩))
    go_returns
    exact ⟨rfl, hb1⟩
  · have z1 : (wr b == 0) = false := by simp [hz]
    have z2 : decide (wr b = 0) = false := by simp [hz]
    go_enter Try.func46, Try.ntmps46
    go_wp2_with (first
      | (go_at_call 73; refine (refwrap_any _ _).mono ?_; rintro e w' ⟨rfl, rfl⟩)
      | (go_at_call 59; refine (refplain_any _ _).mono ?_; rintro e w' ⟨rfl, rfl⟩)
      | (go_at_call 74; refine (power_any kk hk3 _).mono ?_; rintro e w' ⟨rfl, rfl⟩)
      | (go_at_call 76; refine (down_any (wr a) kk h1 (by omega) _).mono ?_; rintro e w1 ⟨rfl, hb1⟩)
      | (go_at_call 77; refine (reftruth_any _ _).mono ?_; rintro e w' ⟨rfl, rfl⟩))
    go_returns
    exact ⟨rfl, hb1⟩
set_option maxRecDepth 1000000 in
set_option maxHeartbeats 4000000 in
theorem ref_13 (a b : Int) (w : World) : Calls Try.prog 46 #[.int .i64 13, .int .i64 a, .int .i64 b] w fun e w' => e = .returned (.tuple #[.int .i64 (wr (pl (wr a) / 2 ^ (wr b % 32).toNat)), .bool (true)]) ∧ Below w.heap.size w w' := by
  have h1 := wr_bd a
  have h2 := wr_bd b
  have h5 := pl_bd (wr a)
  have h6 := pl_bd (wr b)
  obtain ⟨kk, hkk⟩ : ∃ kk, kk = (wr b % 32).toNat := ⟨_, rfl⟩
  have hk1 : pl (wr b) % 32 = (kk : Int) := by rw [hkk]; unfold pl; omega
  have hk2 : (pl (wr b)).tmod 32 = (kk : Int) := by rw [Int.tmod_eq_emod_of_nonneg h6.1, hk1]
  have hk3 : kk ≤ 31 := by omega
  rw [← hkk]
  clear hkk
  have f00 : (0 : Int) < 2 ^ kk := Int.pow_pos (by decide)
  have f0 : 0 ≤ pl (wr a) / 2 ^ kk := Int.ediv_nonneg h5.1 (Int.le_of_lt f00)
  have f9 : pl (wr a) / 2 ^ kk ≤ pl (wr a) := Int.ediv_le_self _ h5.1
  have f1 : (pl (wr a)).tdiv (2 ^ kk) = pl (wr a) / 2 ^ kk := Int.tdiv_eq_ediv_of_nonneg h5.1
  have f2 : wrap64 ((pl (wr a)).tdiv (2 ^ kk)) = pl (wr a) / 2 ^ kk := by rw [f1]; exact w64 (by omega)
  have f3 : wrap64 (pl (wr a) / 2 ^ kk) = pl (wr a) / 2 ^ kk := w64 (by omega)
  have f5 : ¬ (2 : Int) ^ kk = 0 := by omega
  have f4 : ((2 : Int) ^ kk == 0) = false := beq_eq_false_iff_ne.2 f5
  by_cases hz : wr b = 0
  · have z1 : (wr b == 0) = true := by simp [hz]
    have z2 : decide (wr b = 0) = true := by simp [hz]
    clear hz
    go_enter Try.func46, Try.ntmps46
    go_wp2_with (first
      | (go_at_call 73; refine (refwrap_any _ _).mono ?_; rintro e w' ⟨rfl, rfl⟩)
      | (go_at_call 59; refine (refplain_any _ _).mono ?_; rintro e w' ⟨rfl, rfl⟩)
      | (go_at_call 74; refine (power_any kk hk3 _).mono ?_; rintro e w' ⟨rfl, rfl⟩)
      | (go_at_call 77; refine (reftruth_any _ _).mono ?_; rintro e w' ⟨rfl, rfl⟩))
    go_returns
    exact ⟨rfl, Below.refl _ _⟩
  · have z1 : (wr b == 0) = false := by simp [hz]
    have z2 : decide (wr b = 0) = false := by simp [hz]
    go_enter Try.func46, Try.ntmps46
    go_wp2_with (first
      | (go_at_call 73; refine (refwrap_any _ _).mono ?_; rintro e w' ⟨rfl, rfl⟩)
      | (go_at_call 59; refine (refplain_any _ _).mono ?_; rintro e w' ⟨rfl, rfl⟩)
      | (go_at_call 74; refine (power_any kk hk3 _).mono ?_; rintro e w' ⟨rfl, rfl⟩)
      | (go_at_call 77; refine (reftruth_any _ _).mono ?_; rintro e w' ⟨rfl, rfl⟩))
    go_returns
    exact ⟨rfl, Below.refl _ _⟩
set_option maxRecDepth 1000000 in
set_option maxHeartbeats 4000000 in
theorem ref_14 (a b : Int) (w : World) : Calls Try.prog 46 #[.int .i64 14, .int .i64 a, .int .i64 b] w fun e w' => e = .returned (.tuple #[.int .i64 (wr (tv (wr a == wr b))), .bool (true)]) ∧ Below w.heap.size w w' := by
  have h1 := wr_bd a
  have h2 := wr_bd b
  have h5 := pl_bd (wr a)
  have h6 := pl_bd (wr b)
  obtain ⟨kk, hkk⟩ : ∃ kk, kk = (wr b % 32).toNat := ⟨_, rfl⟩
  have hk1 : pl (wr b) % 32 = (kk : Int) := by rw [hkk]; unfold pl; omega
  have hk2 : (pl (wr b)).tmod 32 = (kk : Int) := by rw [Int.tmod_eq_emod_of_nonneg h6.1, hk1]
  have hk3 : kk ≤ 31 := by omega
  clear hkk
  by_cases hz : wr b = 0
  · have z1 : (wr b == 0) = true := by simp [hz]
    have z2 : decide (wr b = 0) = true := by simp [hz]
    clear hz
    go_enter Try.func46, Try.ntmps46
    go_wp2_with (first
      | (go_at_call 73; refine (refwrap_any _ _).mono ?_; rintro e w' ⟨rfl, rfl⟩)
      | (go_at_call 59; refine (refplain_any _ _).mono ?_; rintro e w' ⟨rfl, rfl⟩)
      | (go_at_call 74; refine (power_any kk hk3 _).mono ?_; rintro e w' ⟨rfl, rfl⟩)
      | (go_at_call 77; refine (reftruth_any _ _).mono ?_; rintro e w' ⟨rfl, rfl⟩))
    go_returns
    exact ⟨rfl, Below.refl _ _⟩
  · have z1 : (wr b == 0) = false := by simp [hz]
    have z2 : decide (wr b = 0) = false := by simp [hz]
    go_enter Try.func46, Try.ntmps46
    go_wp2_with (first
      | (go_at_call 73; refine (refwrap_any _ _).mono ?_; rintro e w' ⟨rfl, rfl⟩)
      | (go_at_call 59; refine (refplain_any _ _).mono ?_; rintro e w' ⟨rfl, rfl⟩)
      | (go_at_call 74; refine (power_any kk hk3 _).mono ?_; rintro e w' ⟨rfl, rfl⟩)
      | (go_at_call 77; refine (reftruth_any _ _).mono ?_; rintro e w' ⟨rfl, rfl⟩))
    go_returns
    exact ⟨rfl, Below.refl _ _⟩
set_option maxRecDepth 1000000 in
set_option maxHeartbeats 4000000 in
theorem ref_15 (a b : Int) (w : World) : Calls Try.prog 46 #[.int .i64 15, .int .i64 a, .int .i64 b] w fun e w' => e = .returned (.tuple #[.int .i64 (wr (tv (wr a != wr b))), .bool (true)]) ∧ Below w.heap.size w w' := by
  have h1 := wr_bd a
  have h2 := wr_bd b
  have h5 := pl_bd (wr a)
  have h6 := pl_bd (wr b)
  obtain ⟨kk, hkk⟩ : ∃ kk, kk = (wr b % 32).toNat := ⟨_, rfl⟩
  have hk1 : pl (wr b) % 32 = (kk : Int) := by rw [hkk]; unfold pl; omega
  have hk2 : (pl (wr b)).tmod 32 = (kk : Int) := by rw [Int.tmod_eq_emod_of_nonneg h6.1, hk1]
  have hk3 : kk ≤ 31 := by omega
  clear hkk
  by_cases hz : wr b = 0
  · have z1 : (wr b == 0) = true := by simp [hz]
    have z2 : decide (wr b = 0) = true := by simp [hz]
    clear hz
    go_enter Try.func46, Try.ntmps46
    go_wp2_with (first
      | (go_at_call 73; refine (refwrap_any _ _).mono ?_; rintro e w' ⟨rfl, rfl⟩)
      | (go_at_call 59; refine (refplain_any _ _).mono ?_; rintro e w' ⟨rfl, rfl⟩)
      | (go_at_call 74; refine (power_any kk hk3 _).mono ?_; rintro e w' ⟨rfl, rfl⟩)
      | (go_at_call 77; refine (reftruth_any _ _).mono ?_; rintro e w' ⟨rfl, rfl⟩))
    go_returns
    exact ⟨rfl, Below.refl _ _⟩
  · have z1 : (wr b == 0) = false := by simp [hz]
    have z2 : decide (wr b = 0) = false := by simp [hz]
    go_enter Try.func46, Try.ntmps46
    go_wp2_with (first
      | (go_at_call 73; refine (refwrap_any _ _).mono ?_; rintro e w' ⟨rfl, rfl⟩)
      | (go_at_call 59; refine (refplain_any _ _).mono ?_; rintro e w' ⟨rfl, rfl⟩)
      | (go_at_call 74; refine (power_any kk hk3 _).mono ?_; rintro e w' ⟨rfl, rfl⟩)
      | (go_at_call 77; refine (reftruth_any _ _).mono ?_; rintro e w' ⟨rfl, rfl⟩))
    go_returns
    exact ⟨rfl, Below.refl _ _⟩
set_option maxRecDepth 1000000 in
set_option maxHeartbeats 4000000 in
theorem ref_16 (a b : Int) (w : World) : Calls Try.prog 46 #[.int .i64 16, .int .i64 a, .int .i64 b] w fun e w' => e = .returned (.tuple #[.int .i64 (wr (tv (decide (wr a < wr b)))), .bool (true)]) ∧ Below w.heap.size w w' := by
  have h1 := wr_bd a
  have h2 := wr_bd b
  have h5 := pl_bd (wr a)
  have h6 := pl_bd (wr b)
  obtain ⟨kk, hkk⟩ : ∃ kk, kk = (wr b % 32).toNat := ⟨_, rfl⟩
  have hk1 : pl (wr b) % 32 = (kk : Int) := by rw [hkk]; unfold pl; omega
  have hk2 : (pl (wr b)).tmod 32 = (kk : Int) := by rw [Int.tmod_eq_emod_of_nonneg h6.1, hk1]
  have hk3 : kk ≤ 31 := by omega
  clear hkk
  by_cases hz : wr b = 0
  · have z1 : (wr b == 0) = true := by simp [hz]
    have z2 : decide (wr b = 0) = true := by simp [hz]
    clear hz
    go_enter Try.func46, Try.ntmps46
    go_wp2_with (first
      | (go_at_call 73; refine (refwrap_any _ _).mono ?_; rintro e w' ⟨rfl, rfl⟩)
      | (go_at_call 59; refine (refplain_any _ _).mono ?_; rintro e w' ⟨rfl, rfl⟩)
      | (go_at_call 74; refine (power_any kk hk3 _).mono ?_; rintro e w' ⟨rfl, rfl⟩)
      | (go_at_call 77; refine (reftruth_any _ _).mono ?_; rintro e w' ⟨rfl, rfl⟩))
    go_returns
    exact ⟨rfl, Below.refl _ _⟩
  · have z1 : (wr b == 0) = false := by simp [hz]
    have z2 : decide (wr b = 0) = false := by simp [hz]
    go_enter Try.func46, Try.ntmps46
    go_wp2_with (first
      | (go_at_call 73; refine (refwrap_any _ _).mono ?_; rintro e w' ⟨rfl, rfl⟩)
      | (go_at_call 59; refine (refplain_any _ _).mono ?_; rintro e w' ⟨rfl, rfl⟩)
      | (go_at_call 74; refine (power_any kk hk3 _).mono ?_; rintro e w' ⟨rfl, rfl⟩)
      | (go_at_call 77; refine (reftruth_any _ _).mono ?_; rintro e w' ⟨rfl, rfl⟩))
    go_returns
    exact ⟨rfl, Below.refl _ _⟩
set_option maxRecDepth 1000000 in
set_option maxHeartbeats 4000000 in
theorem ref_17 (a b : Int) (w : World) : Calls Try.prog 46 #[.int .i64 17, .int .i64 a, .int .i64 b] w fun e w' => e = .returned (.tuple #[.int .i64 (wr (tv (decide (wr a ≤ wr b)))), .bool (true)]) ∧ Below w.heap.size w w' := by
  have h1 := wr_bd a
  have h2 := wr_bd b
  have h5 := pl_bd (wr a)
  have h6 := pl_bd (wr b)
  obtain ⟨kk, hkk⟩ : ∃ kk, kk = (wr b % 32).toNat := ⟨_, rfl⟩
  have hk1 : pl (wr b) % 32 = (kk : Int) := by rw [hkk]; unfold pl; omega
  have hk2 : (pl (wr b)).tmod 32 = (kk : Int) := by rw [Int.tmod_eq_emod_of_nonneg h6.1, hk1]
  have hk3 : kk ≤ 31 := by omega
  clear hkk
  by_cases hl : wr a < wr b
  · have l1 : decide (wr a < wr b) = true := by simp [hl]
    rw [show wr (tv (decide (wr a ≤ wr b))) = wr (tv true) by rw [show decide (wr a ≤ wr b) = true by simp; omega]]
    by_cases hz : wr b = 0
    · have z1 : (wr b == 0) = true := by simp [hz]
      have z2 : decide (wr b = 0) = true := by simp [hz]
      clear hz
      go_enter Try.func46, Try.ntmps46
      go_wp2_with (first
        | (go_at_call 73; refine (refwrap_any _ _).mono ?_; rintro e w' ⟨rfl, rfl⟩)
        | (go_at_call 59; refine (refplain_any _ _).mono ?_; rintro e w' ⟨rfl, rfl⟩)
        | (go_at_call 74; refine (power_any kk hk3 _).mono ?_; rintro e w' ⟨rfl, rfl⟩)
        | (go_at_call 77; refine (reftruth_any _ _).mono ?_; rintro e w' ⟨rfl, rfl⟩))
      go_returns
      exact ⟨rfl, Below.refl _ _⟩
    · have z1 : (wr b == 0) = false := by simp [hz]
      have z2 : decide (wr b = 0) = false := by simp [hz]
      go_enter Try.func46, Try.ntmps46
      go_wp2_with (first
        | (go_at_call 73; refine (refwrap_any _ _).mono ?_; rintro e w' ⟨rfl, rfl⟩)
        | (go_at_call 59; refine (refplain_any _ _).mono ?_; rintro e w' ⟨rfl, rfl⟩)
        | (go_at_call 74; refine (power_any kk hk3 _).mono ?_; rintro e w' ⟨rfl, rfl⟩)
        | (go_at_call 77; refine (reftruth_any _ _).mono ?_; rintro e w' ⟨rfl, rfl⟩))
      go_returns
      exact ⟨rfl, Below.refl _ _⟩
  · have l1 : decide (wr a < wr b) = false := by simp [hl]
    rw [show wr (tv (decide (wr a ≤ wr b))) = wr (tv (wr a == wr b)) by rw [le_eq hl]]
    by_cases hz : wr b = 0
    · have z1 : (wr b == 0) = true := by simp [hz]
      have z2 : decide (wr b = 0) = true := by simp [hz]
      clear hz
      go_enter Try.func46, Try.ntmps46
      go_wp2_with (first
        | (go_at_call 73; refine (refwrap_any _ _).mono ?_; rintro e w' ⟨rfl, rfl⟩)
        | (go_at_call 59; refine (refplain_any _ _).mono ?_; rintro e w' ⟨rfl, rfl⟩)
        | (go_at_call 74; refine (power_any kk hk3 _).mono ?_; rintro e w' ⟨rfl, rfl⟩)
        | (go_at_call 77; refine (reftruth_any _ _).mono ?_; rintro e w' ⟨rfl, rfl⟩))
      go_returns
      exact ⟨rfl, Below.refl _ _⟩
    · have z1 : (wr b == 0) = false := by simp [hz]
      have z2 : decide (wr b = 0) = false := by simp [hz]
      go_enter Try.func46, Try.ntmps46
      go_wp2_with (first
        | (go_at_call 73; refine (refwrap_any _ _).mono ?_; rintro e w' ⟨rfl, rfl⟩)
        | (go_at_call 59; refine (refplain_any _ _).mono ?_; rintro e w' ⟨rfl, rfl⟩)
        | (go_at_call 74; refine (power_any kk hk3 _).mono ?_; rintro e w' ⟨rfl, rfl⟩)
        | (go_at_call 77; refine (reftruth_any _ _).mono ?_; rintro e w' ⟨rfl, rfl⟩))
      go_returns
      exact ⟨rfl, Below.refl _ _⟩
set_option maxRecDepth 1000000 in
set_option maxHeartbeats 4000000 in
theorem ref_18 (a b : Int) (w : World) : Calls Try.prog 46 #[.int .i64 18, .int .i64 a, .int .i64 b] w fun e w' => e = .returned (.tuple #[.int .i64 (wr (tv (decide (pl (wr a) < pl (wr b))))), .bool (true)]) ∧ Below w.heap.size w w' := by
  have h1 := wr_bd a
  have h2 := wr_bd b
  have h5 := pl_bd (wr a)
  have h6 := pl_bd (wr b)
  obtain ⟨kk, hkk⟩ : ∃ kk, kk = (wr b % 32).toNat := ⟨_, rfl⟩
  have hk1 : pl (wr b) % 32 = (kk : Int) := by rw [hkk]; unfold pl; omega
  have hk2 : (pl (wr b)).tmod 32 = (kk : Int) := by rw [Int.tmod_eq_emod_of_nonneg h6.1, hk1]
  have hk3 : kk ≤ 31 := by omega
  clear hkk
  by_cases hz : wr b = 0
  · have z1 : (wr b == 0) = true := by simp [hz]
    have z2 : decide (wr b = 0) = true := by simp [hz]
    clear hz
    go_enter Try.func46, Try.ntmps46
    go_wp2_with (first
      | (go_at_call 73; refine (refwrap_any _ _).mono ?_; rintro e w' ⟨rfl, rfl⟩)
      | (go_at_call 59; refine (refplain_any _ _).mono ?_; rintro e w' ⟨rfl, rfl⟩)
      | (go_at_call 74; refine (power_any kk hk3 _).mono ?_; rintro e w' ⟨rfl, rfl⟩)
      | (go_at_call 77; refine (reftruth_any _ _).mono ?_; rintro e w' ⟨rfl, rfl⟩))
    go_returns
    exact ⟨rfl, Below.refl _ _⟩
  · have z1 : (wr b == 0) = false := by simp [hz]
    have z2 : decide (wr b = 0) = false := by simp [hz]
    go_enter Try.func46, Try.ntmps46
    go_wp2_with (first
      | (go_at_call 73; refine (refwrap_any _ _).mono ?_; rintro e w' ⟨rfl, rfl⟩)
      | (go_at_call 59; refine (refplain_any _ _).mono ?_; rintro e w' ⟨rfl, rfl⟩)
      | (go_at_call 74; refine (power_any kk hk3 _).mono ?_; rintro e w' ⟨rfl, rfl⟩)
      | (go_at_call 77; refine (reftruth_any _ _).mono ?_; rintro e w' ⟨rfl, rfl⟩))
    go_returns
    exact ⟨rfl, Below.refl _ _⟩
set_option maxRecDepth 1000000 in
set_option maxHeartbeats 4000000 in
theorem ref_19 (a b : Int) (w : World) : Calls Try.prog 46 #[.int .i64 19, .int .i64 a, .int .i64 b] w fun e w' => e = .returned (.tuple #[.int .i64 (wr (tv (decide (pl (wr a) ≤ pl (wr b))))), .bool (true)]) ∧ Below w.heap.size w w' := by
  have h1 := wr_bd a
  have h2 := wr_bd b
  have h5 := pl_bd (wr a)
  have h6 := pl_bd (wr b)
  obtain ⟨kk, hkk⟩ : ∃ kk, kk = (wr b % 32).toNat := ⟨_, rfl⟩
  have hk1 : pl (wr b) % 32 = (kk : Int) := by rw [hkk]; unfold pl; omega
  have hk2 : (pl (wr b)).tmod 32 = (kk : Int) := by rw [Int.tmod_eq_emod_of_nonneg h6.1, hk1]
  have hk3 : kk ≤ 31 := by omega
  clear hkk
  by_cases hz : wr b = 0
  · have z1 : (wr b == 0) = true := by simp [hz]
    have z2 : decide (wr b = 0) = true := by simp [hz]
    clear hz
    go_enter Try.func46, Try.ntmps46
    go_wp2_with (first
      | (go_at_call 73; refine (refwrap_any _ _).mono ?_; rintro e w' ⟨rfl, rfl⟩)
      | (go_at_call 59; refine (refplain_any _ _).mono ?_; rintro e w' ⟨rfl, rfl⟩)
      | (go_at_call 74; refine (power_any kk hk3 _).mono ?_; rintro e w' ⟨rfl, rfl⟩)
      | (go_at_call 77; refine (reftruth_any _ _).mono ?_; rintro e w' ⟨rfl, rfl⟩))
    go_returns
    exact ⟨rfl, Below.refl _ _⟩
  · have z1 : (wr b == 0) = false := by simp [hz]
    have z2 : decide (wr b = 0) = false := by simp [hz]
    go_enter Try.func46, Try.ntmps46
    go_wp2_with (first
      | (go_at_call 73; refine (refwrap_any _ _).mono ?_; rintro e w' ⟨rfl, rfl⟩)
      | (go_at_call 59; refine (refplain_any _ _).mono ?_; rintro e w' ⟨rfl, rfl⟩)
      | (go_at_call 74; refine (power_any kk hk3 _).mono ?_; rintro e w' ⟨rfl, rfl⟩)
      | (go_at_call 77; refine (reftruth_any _ _).mono ?_; rintro e w' ⟨rfl, rfl⟩))
    go_returns
    exact ⟨rfl, Below.refl _ _⟩
set_option maxRecDepth 1000000 in
set_option maxHeartbeats 4000000 in
theorem ref_20 (a b : Int) (w : World) : Calls Try.prog 46 #[.int .i64 20, .int .i64 a, .int .i64 b] w fun e w' => e = .returned (.tuple #[.int .i64 (wr (-wr a)), .bool (true)]) ∧ Below w.heap.size w w' := by
  have h1 := wr_bd a
  have h2 := wr_bd b
  have h5 := pl_bd (wr a)
  have h6 := pl_bd (wr b)
  obtain ⟨kk, hkk⟩ : ∃ kk, kk = (wr b % 32).toNat := ⟨_, rfl⟩
  have hk1 : pl (wr b) % 32 = (kk : Int) := by rw [hkk]; unfold pl; omega
  have hk2 : (pl (wr b)).tmod 32 = (kk : Int) := by rw [Int.tmod_eq_emod_of_nonneg h6.1, hk1]
  have hk3 : kk ≤ 31 := by omega
  clear hkk
  have f1 : wrap64 (0 - wr a) = -wr a := by rw [Int.zero_sub]; exact w64 (by omega)
  have f2 : wrap64 (-wr a) = -wr a := w64 (by omega)
  by_cases hz : wr b = 0
  · have z1 : (wr b == 0) = true := by simp [hz]
    have z2 : decide (wr b = 0) = true := by simp [hz]
    clear hz
    go_enter Try.func46, Try.ntmps46
    go_wp2_with (first
      | (go_at_call 73; refine (refwrap_any _ _).mono ?_; rintro e w' ⟨rfl, rfl⟩)
      | (go_at_call 59; refine (refplain_any _ _).mono ?_; rintro e w' ⟨rfl, rfl⟩)
      | (go_at_call 74; refine (power_any kk hk3 _).mono ?_; rintro e w' ⟨rfl, rfl⟩)
      | (go_at_call 77; refine (reftruth_any _ _).mono ?_; rintro e w' ⟨rfl, rfl⟩))
    go_returns
    exact ⟨rfl, Below.refl _ _⟩
  · have z1 : (wr b == 0) = false := by simp [hz]
    have z2 : decide (wr b = 0) = false := by simp [hz]
    go_enter Try.func46, Try.ntmps46
    go_wp2_with (first
      | (go_at_call 73; refine (refwrap_any _ _).mono ?_; rintro e w' ⟨rfl, rfl⟩)
      | (go_at_call 59; refine (refplain_any _ _).mono ?_; rintro e w' ⟨rfl, rfl⟩)
      | (go_at_call 74; refine (power_any kk hk3 _).mono ?_; rintro e w' ⟨rfl, rfl⟩)
      | (go_at_call 77; refine (reftruth_any _ _).mono ?_; rintro e w' ⟨rfl, rfl⟩))
    go_returns
    exact ⟨rfl, Below.refl _ _⟩
set_option maxRecDepth 1000000 in
set_option maxHeartbeats 4000000 in
theorem ref_21 (a b : Int) (w : World) : Calls Try.prog 46 #[.int .i64 21, .int .i64 a, .int .i64 b] w fun e w' => e = .returned (.tuple #[.int .i64 (wr (bits .xor .i64 (-1) (wr a))), .bool (true)]) ∧ Below w.heap.size w w' := by
  have h1 := wr_bd a
  have h2 := wr_bd b
  have h5 := pl_bd (wr a)
  have h6 := pl_bd (wr b)
  obtain ⟨kk, hkk⟩ : ∃ kk, kk = (wr b % 32).toNat := ⟨_, rfl⟩
  have hk1 : pl (wr b) % 32 = (kk : Int) := by rw [hkk]; unfold pl; omega
  have hk2 : (pl (wr b)).tmod 32 = (kk : Int) := by rw [Int.tmod_eq_emod_of_nonneg h6.1, hk1]
  have hk3 : kk ≤ 31 := by omega
  clear hkk
  have f1 : wrap64 (0 - wr a) = -wr a := by rw [Int.zero_sub]; exact w64 (by omega)
  have f2 : wrap64 (-wr a) = -wr a := w64 (by omega)
  have f3 : wrap64 (-wr a - 1) = -wr a - 1 := w64 (by omega)
  rw [(show wr (bits .xor .i64 (-1) (wr a)) = wr (-wr a - 1) by rw [xor_m1 _ h1]; congr 1; omega)]
  by_cases hz : wr b = 0
  · have z1 : (wr b == 0) = true := by simp [hz]
    have z2 : decide (wr b = 0) = true := by simp [hz]
    clear hz
    go_enter Try.func46, Try.ntmps46
    go_wp2_with (first
      | (go_at_call 73; refine (refwrap_any _ _).mono ?_; rintro e w' ⟨rfl, rfl⟩)
      | (go_at_call 59; refine (refplain_any _ _).mono ?_; rintro e w' ⟨rfl, rfl⟩)
      | (go_at_call 74; refine (power_any kk hk3 _).mono ?_; rintro e w' ⟨rfl, rfl⟩)
      | (go_at_call 77; refine (reftruth_any _ _).mono ?_; rintro e w' ⟨rfl, rfl⟩))
    go_returns
    exact ⟨rfl, Below.refl _ _⟩
  · have z1 : (wr b == 0) = false := by simp [hz]
    have z2 : decide (wr b = 0) = false := by simp [hz]
    go_enter Try.func46, Try.ntmps46
    go_wp2_with (first
      | (go_at_call 73; refine (refwrap_any _ _).mono ?_; rintro e w' ⟨rfl, rfl⟩)
      | (go_at_call 59; refine (refplain_any _ _).mono ?_; rintro e w' ⟨rfl, rfl⟩)
      | (go_at_call 74; refine (power_any kk hk3 _).mono ?_; rintro e w' ⟨rfl, rfl⟩)
      | (go_at_call 77; refine (reftruth_any _ _).mono ?_; rintro e w' ⟨rfl, rfl⟩))
    go_returns
    exact ⟨rfl, Below.refl _ _⟩
set_option maxRecDepth 1000000 in
set_option maxHeartbeats 4000000 in
theorem ref_22 (a b : Int) (w : World) : Calls Try.prog 46 #[.int .i64 22, .int .i64 a, .int .i64 b] w fun e w' => e = .returned (.tuple #[.int .i64 (wr (bits .and .i64 (wr a) 255)), .bool (true)]) ∧ Below w.heap.size w w' := by
  have h1 := wr_bd a
  have h2 := wr_bd b
  have h5 := pl_bd (wr a)
  have h6 := pl_bd (wr b)
  obtain ⟨kk, hkk⟩ : ∃ kk, kk = (wr b % 32).toNat := ⟨_, rfl⟩
  have hk1 : pl (wr b) % 32 = (kk : Int) := by rw [hkk]; unfold pl; omega
  have hk2 : (pl (wr b)).tmod 32 = (kk : Int) := by rw [Int.tmod_eq_emod_of_nonneg h6.1, hk1]
  have hk3 : kk ≤ 31 := by omega
  clear hkk
  have f1 : (pl (wr a)).tmod 256 = wr a % 256 := by rw [Int.tmod_eq_emod_of_nonneg h5.1]; unfold pl; omega
  have f2 : pl (wr a) % 256 = wr a % 256 := by unfold pl; omega
  rw [(show wr (bits .and .i64 (wr a) 255) = wr (wr a % 256) by rw [and255])]
  by_cases hz : wr b = 0
  · have z1 : (wr b == 0) = true := by simp [hz]
    have z2 : decide (wr b = 0) = true := by simp [hz]
    clear hz
    go_enter Try.func46, Try.ntmps46
    go_wp2_with (first
      | (go_at_call 73; refine (refwrap_any _ _).mono ?_; rintro e w' ⟨rfl, rfl⟩)
      | (go_at_call 59; refine (refplain_any _ _).mono ?_; rintro e w' ⟨rfl, rfl⟩)
      | (go_at_call 74; refine (power_any kk hk3 _).mono ?_; rintro e w' ⟨rfl, rfl⟩)
      | (go_at_call 77; refine (reftruth_any _ _).mono ?_; rintro e w' ⟨rfl, rfl⟩))
    go_returns
    exact ⟨rfl, Below.refl _ _⟩
  · have z1 : (wr b == 0) = false := by simp [hz]
    have z2 : decide (wr b = 0) = false := by simp [hz]
    go_enter Try.func46, Try.ntmps46
    go_wp2_with (first
      | (go_at_call 73; refine (refwrap_any _ _).mono ?_; rintro e w' ⟨rfl, rfl⟩)
      | (go_at_call 59; refine (refplain_any _ _).mono ?_; rintro e w' ⟨rfl, rfl⟩)
      | (go_at_call 74; refine (power_any kk hk3 _).mono ?_; rintro e w' ⟨rfl, rfl⟩)
      | (go_at_call 77; refine (reftruth_any _ _).mono ?_; rintro e w' ⟨rfl, rfl⟩))
    go_returns
    exact ⟨rfl, Below.refl _ _⟩
set_option maxRecDepth 1000000 in
set_option maxHeartbeats 4000000 in
theorem ref_23 (a b : Int) (w : World) : Calls Try.prog 46 #[.int .i64 23, .int .i64 a, .int .i64 b] w fun e w' => e = .returned (.tuple #[.int .i64 (wr (tv (wr a == 0))), .bool (true)]) ∧ Below w.heap.size w w' := by
  have h1 := wr_bd a
  have h2 := wr_bd b
  have h5 := pl_bd (wr a)
  have h6 := pl_bd (wr b)
  obtain ⟨kk, hkk⟩ : ∃ kk, kk = (wr b % 32).toNat := ⟨_, rfl⟩
  have hk1 : pl (wr b) % 32 = (kk : Int) := by rw [hkk]; unfold pl; omega
  have hk2 : (pl (wr b)).tmod 32 = (kk : Int) := by rw [Int.tmod_eq_emod_of_nonneg h6.1, hk1]
  have hk3 : kk ≤ 31 := by omega
  clear hkk
  by_cases hz : wr b = 0
  · have z1 : (wr b == 0) = true := by simp [hz]
    have z2 : decide (wr b = 0) = true := by simp [hz]
    clear hz
    go_enter Try.func46, Try.ntmps46
    go_wp2_with (first
      | (go_at_call 73; refine (refwrap_any _ _).mono ?_; rintro e w' ⟨rfl, rfl⟩)
      | (go_at_call 59; refine (refplain_any _ _).mono ?_; rintro e w' ⟨rfl, rfl⟩)
      | (go_at_call 74; refine (power_any kk hk3 _).mono ?_; rintro e w' ⟨rfl, rfl⟩)
      | (go_at_call 77; refine (reftruth_any _ _).mono ?_; rintro e w' ⟨rfl, rfl⟩))
    go_returns
    exact ⟨rfl, Below.refl _ _⟩
  · have z1 : (wr b == 0) = false := by simp [hz]
    have z2 : decide (wr b = 0) = false := by simp [hz]
    go_enter Try.func46, Try.ntmps46
    go_wp2_with (first
      | (go_at_call 73; refine (refwrap_any _ _).mono ?_; rintro e w' ⟨rfl, rfl⟩)
      | (go_at_call 59; refine (refplain_any _ _).mono ?_; rintro e w' ⟨rfl, rfl⟩)
      | (go_at_call 74; refine (power_any kk hk3 _).mono ?_; rintro e w' ⟨rfl, rfl⟩)
      | (go_at_call 77; refine (reftruth_any _ _).mono ?_; rintro e w' ⟨rfl, rfl⟩))
    go_returns
    exact ⟨rfl, Below.refl _ _⟩
end Go.Proofs.Ytkcclefonmnpnaa

namespace Go.Proofs.Ytkcclefonmnpnaa
open Go.RowKit Go.BigFrame

set_option maxRecDepth 1000000 in
set_option maxHeartbeats 2000000 in
theorem do_out (op a b : Int) (h : op < 1 ∨ 23 < op) (w : World) : Calls Try.prog 88 #[.int .i64 op, .int .i64 a, .int .i64 b] w fun e w' => e = .returned (.tuple #[.int .i64 0, .bool false]) ∧ w = w' := by
  have hn : ∀ k : Int, 1 ≤ k → k ≤ 23 → (op == k) = false := fun k h1 h2 => beq_eq_false_iff_ne.2 (by omega)
  have n1 := hn 1 (by decide) (by decide); have n2 := hn 2 (by decide) (by decide); have n3 := hn 3 (by decide) (by decide); have n4 := hn 4 (by decide) (by decide)
  have n5 := hn 5 (by decide) (by decide); have n6 := hn 6 (by decide) (by decide); have n7 := hn 7 (by decide) (by decide); have n8 := hn 8 (by decide) (by decide)
  have n9 := hn 9 (by decide) (by decide); have n10 := hn 10 (by decide) (by decide); have n11 := hn 11 (by decide) (by decide); have n12 := hn 12 (by decide) (by decide)
  have n13 := hn 13 (by decide) (by decide); have n14 := hn 14 (by decide) (by decide); have n15 := hn 15 (by decide) (by decide); have n16 := hn 16 (by decide) (by decide)
  have n17 := hn 17 (by decide) (by decide); have n18 := hn 18 (by decide) (by decide); have n19 := hn 19 (by decide) (by decide); have n20 := hn 20 (by decide) (by decide)
  have n21 := hn 21 (by decide) (by decide); have n22 := hn 22 (by decide) (by decide); have n23 := hn 23 (by decide) (by decide)
  clear hn h
  go_enter Try.func88, Try.ntmps88
  go_wp2_with (go_at_call 104; refine (wrap_any _ _).mono ?_; rintro e w' ⟨rfl, rfl⟩)
  go_returns
  exact ⟨rfl, rfl⟩

set_option maxRecDepth 1000000 in
set_option maxHeartbeats 2000000 in
theorem ref_out (op a b : Int) (h : op < 1 ∨ 23 < op) (w : World) : Calls Try.prog 46 #[.int .i64 op, .int .i64 a, .int .i64 b] w fun e w' => e = .returned (.tuple #[.int .i64 0, .bool false]) ∧ w = w' := by
  have h6 := pl_bd (wr b)
  obtain ⟨kk, hkk⟩ : ∃ kk, kk = (wr b % 32).toNat := ⟨_, rfl⟩
  have hk1 : pl (wr b) % 32 = (kk : Int) := by rw [hkk]; unfold pl; omega
  have hk2 : (pl (wr b)).tmod 32 = (kk : Int) := by rw [Int.tmod_eq_emod_of_nonneg h6.1, hk1]
  have hk3 : kk ≤ 31 := by omega
  clear hkk
  by_cases h1 : op < 1
  · have l1 : decide (op < 1) = true := by simp [h1]
    go_enter Try.func46, Try.ntmps46
    go_wp2_with (first
      | (go_at_call 73; refine (refwrap_any _ _).mono ?_; rintro e w' ⟨rfl, rfl⟩)
      | (go_at_call 59; refine (refplain_any _ _).mono ?_; rintro e w' ⟨rfl, rfl⟩)
      | (go_at_call 74; refine (power_any kk hk3 _).mono ?_; rintro e w' ⟨rfl, rfl⟩))
    go_returns
    exact ⟨rfl, rfl⟩
  · have h2 : 23 < op := by omega
    have l1 : decide (op < 1) = false := by simp [h1]
    have l2 : decide (23 < op) = true := by simp [h2]
    go_enter Try.func46, Try.ntmps46
    go_wp2_with (first
      | (go_at_call 73; refine (refwrap_any _ _).mono ?_; rintro e w' ⟨rfl, rfl⟩)
      | (go_at_call 59; refine (refplain_any _ _).mono ?_; rintro e w' ⟨rfl, rfl⟩)
      | (go_at_call 74; refine (power_any kk hk3 _).mono ?_; rintro e w' ⟨rfl, rfl⟩))
    go_returns
    exact ⟨rfl, rfl⟩
theorem same_below {f : FuncId} {args : Array Value} {v : Ending} {w : World} (h : Calls Try.prog f args w fun e w' => e = v ∧ w = w') : Calls Try.prog f args w fun e w' => e = v ∧ Below w.heap.size w w' :=
  h.mono fun _ _ ⟨he, hw⟩ => ⟨he, by subst hw; exact Below.refl _ _⟩
/-- word.Do -/
theorem do_any (op a b : Int) (w : World) : Calls Try.prog 88 #[.int .i64 op, .int .i64 a, .int .i64 b] w fun e w' => e = .returned (.tuple #[.int .i64 (dov op a b).1, .bool (dov op a b).2]) ∧ Below w.heap.size w w' := by
  by_cases ho : op < 1 ∨ 23 < op
  · have e : dov op a b = (0, false) := by
      unfold dov
      repeat rw [if_neg (by omega)]
    rw [e]
    exact same_below (do_out op a b ho w)
  · have hc : op = 1 ∨ op = 2 ∨ op = 3 ∨ op = 4 ∨ op = 5 ∨ op = 6 ∨ op = 7 ∨ op = 8 ∨ op = 9 ∨ op = 10 ∨ op = 11 ∨ op = 12 ∨ op = 13 ∨ op = 14 ∨ op = 15 ∨ op = 16 ∨ op = 17 ∨ op = 18 ∨ op = 19 ∨ op = 20 ∨ op = 21 ∨ op = 22 ∨ op = 23 := by omega
    rcases hc with rfl | rfl | rfl | rfl | rfl | rfl | rfl | rfl | rfl | rfl | rfl | rfl | rfl | rfl | rfl | rfl | rfl | rfl | rfl | rfl | rfl | rfl | rfl
    · exact same_below (do_1 a b w)
    · exact same_below (do_2 a b w)
    · exact same_below (do_3 a b w)
    · exact do_4 a b w
    · exact do_5 a b w
    · exact do_6 a b w
    · exact do_7 a b w
    · exact same_below (do_8 a b w)
    · exact same_below (do_9 a b w)
    · exact same_below (do_10 a b w)
    · exact same_below (do_11 a b w)
    · exact same_below (do_12 a b w)
    · exact same_below (do_13 a b w)
    · exact same_below (do_14 a b w)
    · exact same_below (do_15 a b w)
    · exact same_below (do_16 a b w)
    · exact same_below (do_17 a b w)
    · exact same_below (do_18 a b w)
    · exact same_below (do_19 a b w)
    · exact same_below (do_20 a b w)
    · exact same_below (do_21 a b w)
    · exact same_below (do_22 a b w)
    · exact same_below (do_23 a b w)
/-- the document's Do -/
theorem refdo_any (op a b : Int) (w : World) : Calls Try.prog 46 #[.int .i64 op, .int .i64 a, .int .i64 b] w fun e w' => e = .returned (.tuple #[.int .i64 (dov op a b).1, .bool (dov op a b).2]) ∧ Below w.heap.size w w' := by
  by_cases ho : op < 1 ∨ 23 < op
  · have e : dov op a b = (0, false) := by
      unfold dov
      repeat rw [if_neg (by omega)]
    rw [e]
    exact same_below (ref_out op a b ho w)
  · have hc : op = 1 ∨ op = 2 ∨ op = 3 ∨ op = 4 ∨ op = 5 ∨ op = 6 ∨ op = 7 ∨ op = 8 ∨ op = 9 ∨ op = 10 ∨ op = 11 ∨ op = 12 ∨ op = 13 ∨ op = 14 ∨ op = 15 ∨ op = 16 ∨ op = 17 ∨ op = 18 ∨ op = 19 ∨ op = 20 ∨ op = 21 ∨ op = 22 ∨ op = 23 := by omega
    rcases hc with rfl | rfl | rfl | rfl | rfl | rfl | rfl | rfl | rfl | rfl | rfl | rfl | rfl | rfl | rfl | rfl | rfl | rfl | rfl | rfl | rfl | rfl | rfl
    · exact ref_1 a b w
    · exact ref_2 a b w
    · exact ref_3 a b w
    · exact ref_4 a b w
    · exact ref_5 a b w
    · exact ref_6 a b w
    · exact ref_7 a b w
    · exact ref_8 a b w
    · exact ref_9 a b w
    · exact ref_10 a b w
    · exact ref_11 a b w
    · exact ref_12 a b w
    · exact ref_13 a b w
    · exact ref_14 a b w
    · exact ref_15 a b w
    · exact ref_16 a b w
    · exact ref_17 a b w
    · exact ref_18 a b w
    · exact ref_19 a b w
    · exact ref_20 a b w
    · exact ref_21 a b w
    · exact ref_22 a b w
    · exact ref_23 a b w
end Go.Proofs.Ytkcclefonmnpnaa

/- THE FLOW's small functions: Join, set, next; values compared. -/
namespace Go.Proofs.Ytkcclefonmnpnaa
open Go.RowKit Go.BigFrame

abbrev Vl.agg (v : Vl) : Value := .agg #[.int .i64 v.k, .int .i64 v.n]
abbrev Vl.obj (v : Vl) : Obj := .cells #[.int .i64 v.k, .int .i64 v.n] 66
theorem vVal : Try.prog.underlying 66 = some (.struct (Try.prog.fieldsOf 66)) := by kernel_rfl
theorem sVal : (Try.prog.info? 66).map (·.size) = some 2 := by kernel_rfl
theorem val_one (x y : Int) : (#[Value.int .i64 x, .int .i64 y].all (·.oneCell')) = true := by simp [Value.oneCell']
theorem fields_val : (Try.prog.fieldsOf 66).toList.map (fun f => (f.name != "_", f.type, f.offset)) = [(true, 3, 0), (true, 3, 1)] := by kernel_rfl
theorem equalIn_val (x y : Vl) (w : World) : (Op.equalIn 10000 66 x.agg y.agg).run Try.prog w = .ok (decide (x = y)) w := by
  rw [run_equalIn_struct w 9999 66 _ _ (by kernel_rfl) (by kernel_rfl)]
  have h := run_eqFields (P := Try.prog) 9999 #[.int .i64 x.k, .int .i64 x.n] #[.int .i64 y.k, .int .i64 y.n] w
    [⟨3, 0, .int .i64 x.k, .int .i64 y.k, x.k == y.k⟩, ⟨3, 1, .int .i64 x.n, .int .i64 y.n, x.n == y.n⟩]
    _ fields_val (fun r hr => by
      simp only [List.mem_cons, List.not_mem_nil, or_false] at hr
      rcases hr with rfl | rfl
      · exact ⟨by kernel_rfl, by kernel_rfl, run_equalIn_int w 9998 3 .i64 .i64 _ _ (by kernel_rfl)⟩
      · exact ⟨by kernel_rfl, by kernel_rfl, run_equalIn_int w 9998 3 .i64 .i64 _ _ (by kernel_rfl)⟩)
  rw [h]
  have e : [FEq.mk 3 0 (.int .i64 x.k) (.int .i64 y.k) (x.k == y.k), ⟨3, 1, .int .i64 x.n, .int .i64 y.n, x.n == y.n⟩].all (·.r) = decide (x = y) := by
    cases x; cases y
    rw [Bool.eq_iff_iff]
    simp
  rw [e]
theorem eql_val (x y : Vl) (w : World) : (binOp .eql 66 x.agg y.agg).run Try.prog w = .ok (.bool (decide (x = y))) w := by
  simp only [binOp, Op.equal, Op.maxDepth, Sem.run_bind, equalIn_val, Result.andThen_ok, Sem.run_pure]
theorem neq_val (x y : Vl) (w : World) : (binOp .neq 66 x.agg y.agg).run Try.prog w = .ok (.bool (!decide (x = y))) w := by
  simp only [binOp, Op.equal, Op.maxDepth, Sem.run_bind, equalIn_val, Result.andThen_ok, Sem.run_pure]
set_option maxRecDepth 1000000 in
/-- flow.Join -/
theorem join_any (a b : Vl) (w : World) : Calls Try.prog 79 #[a.agg, b.agg] w fun e w' => e = .returned (join a b).agg ∧ Below w.heap.size w w' := by
  have hB := (box3 w a.obj b.obj (join a b).obj).2.2.2.2
  have he := fun w => eql_val a b w
  obtain ⟨ak, an⟩ := a
  obtain ⟨bk, bn⟩ := b
  simp only [Vl.agg, Vl.obj, join] at hB he ⊢
  have hc : ((ak == 0) = true ∧ ak = 0) ∨ ((ak == 0) = false ∧ ¬ ak = 0 ∧ (bk == 0) = true ∧ bk = 0) ∨ ((ak == 0) = false ∧ ¬ ak = 0 ∧ (bk == 0) = false ∧ ¬ bk = 0) := by simp; omega
  rcases hc with ⟨q1, q2⟩ | ⟨q1, q2, q3, q4⟩ | ⟨q1, q2, q3, q4⟩
  · rw [if_pos q2] at hB ⊢
    clear q2 he
    go_enter Try.func79, Try.ntmps79
    go_wp2
    (try simp only [Exit.inBlock, Exit.then])
    refine bodyPost_ret (by simp [results, Try.results79, go_sem]; try rfl) rfl ?_
    exact ⟨rfl, hB⟩
  · rw [if_neg q2, if_pos (Or.inl q4)] at hB ⊢
    clear q2 q4 he
    go_enter Try.func79, Try.ntmps79
    go_wp2
    (try simp only [Exit.inBlock, Exit.then])
    refine bodyPost_ret (by simp [results, Try.results79, go_sem]; try rfl) rfl ?_
    exact ⟨rfl, hB⟩
  · rw [if_neg q2] at hB ⊢
    by_cases hab : Vl.mk ak an = ⟨bk, bn⟩
    · rw [if_pos (Or.inr hab)] at hB ⊢
      rw [show decide (Vl.mk ak an = ⟨bk, bn⟩) = true by simp [hab]] at he
      clear q2 q4 hab
      go_enter Try.func79, Try.ntmps79
      go_wp2
      (try simp only [Exit.inBlock, Exit.then])
      refine bodyPost_ret (by simp [results, Try.results79, go_sem]; try rfl) rfl ?_
      exact ⟨rfl, hB⟩
    · rw [if_neg (by rintro (h | h); exact q4 h; exact hab h)] at hB ⊢
      rw [show decide (Vl.mk ak an = ⟨bk, bn⟩) = false by simp [hab]] at he
      clear q2 q4 hab
      go_enter Try.func79, Try.ntmps79
      go_wp2
      (try simp only [Exit.inBlock, Exit.then])
      refine bodyPost_ret (by simp [results, Try.results79, go_sem]; try rfl) rfl ?_
      exact ⟨rfl, hB⟩
/-- the slice (A, length of l) reads as the values l, wherever it begins -/
def RdV (w : World) (A : Option Addr) (l : List Vl) : Prop := ∀ (j : Nat) x, l[j]? = some x → ∃ b o, A = some ⟨b, o, none⟩ ∧ b < w.heap.size ∧ w.cell? ⟨b, o + j * 2, none⟩ = some (.int .i64 x.k) ∧ w.cell? ⟨b, o + j * 2 + 1, none⟩ = some (.int .i64 x.n)
theorem RdV.below {w w' : World} {A : Option Addr} {l : List Vl} (h : RdV w A l) (hb : Below w.heap.size w w') : RdV w' A l := fun j x hx => by
  obtain ⟨b, o, e1, e2, e3, e4⟩ := h j x hx
  exact ⟨b, o, e1, Nat.lt_of_lt_of_le e2 hb.size, (hb.cell (p := ⟨b, _, none⟩) e2).trans e3, (hb.cell (p := ⟨b, _, none⟩) e2).trans e4⟩
def SetT (i : Ins) (v : List Vl) (e : Ending) : Prop := e = .returned (.tuple #[(setV i v).1.agg, .bool (setV i v).2])
set_option maxRecDepth 1000000 in
set_option maxHeartbeats 4000000 in
/-- flow.set -/
theorem set_any (i : Ins) (v : List Vl) {R : Nat} {Fr : Int} {L : Nat} (hi : Ok i R Fr L) (hl : v.length = R) (A : Option Addr) (cap : Nat) (w : World) (hA : RdV w A v) : Calls Try.prog 68 #[i.agg, .slice A R cap] w fun e w' => SetT i v e ∧ Below w.heap.size w w' := by
  have hB := (Below.one w i.obj).alloc (by simp) (setV i v).1.obj
  have hBn := (Below.one w i.obj).alloc (by simp) nv.obj
  have ha := hi.a_in
  have hb := hi.b_in
  have hat : ∀ r : Nat, r < R → ∃ b o x, at_ v r = x ∧ A = some ⟨b, o, none⟩ ∧ b < w.heap.size ∧ w.cell? ⟨b, o + r * 2, none⟩ = some (.int .i64 x.k) ∧ w.cell? ⟨b, o + r * 2 + 1, none⟩ = some (.int .i64 x.n) := fun r hr => by
    obtain ⟨b, o, h1, h2, h3, h4⟩ := hA r (at_ v r) (by rw [at_in (by omega)]; simp)
    exact ⟨b, o, _, rfl, h1, h2, h3, h4⟩
  unfold SetT
  obtain ⟨k, op, dst, a, b, n, text, r0, r1, r2, r3, r4, r5, to_, els⟩ := i
  simp only [Ins.agg, Ins.obj, Vl.obj, Vl.agg] at hB hBn ha hb ⊢
  simp only [setV] at hB ⊢
  by_cases h1 : k = 1
  · subst h1
    clear ha hb hat hi hBn
    go_enter Try.func68, Try.ntmps68
    go_wp2
    (try simp only [Exit.inBlock, Exit.then])
    refine bodyPost_ret (by simp [results, Try.results68, go_sem]; try rfl) rfl ?_
    exact ⟨rfl, hB⟩
  rw [if_neg h1] at hB ⊢
  by_cases h4 : k = 4
  · subst h4
    obtain ⟨ha0, ha1⟩ := ha rfl
    obtain ⟨m, rfl⟩ : ∃ m : Nat, a = m := ⟨a.toNat, by omega⟩
    simp only [Int.toNat_natCast] at hB ⊢
    obtain ⟨bb, o, x, hx, rfl, hlt, c0, c1⟩ := hat m (by omega)
    rw [hx] at hB ⊢
    have q1 : m < R := by omega
    clear hb hat hi h1 hx hA hBn ha ha0 ha1
    go_enter Try.func68, Try.ntmps68
    go_wp2
    (try simp only [Exit.inBlock, Exit.then])
    refine bodyPost_ret (by simp [results, Try.results68, go_sem]; try rfl) rfl ?_
    exact ⟨rfl, hB⟩
  rw [if_neg h4] at hB ⊢
  by_cases h2 : k = 2
  · subst h2
    obtain ⟨ha0, ha1⟩ := ha rfl
    obtain ⟨m, rfl⟩ : ∃ m : Nat, a = m := ⟨a.toNat, by omega⟩
    simp only [Int.toNat_natCast] at hB ⊢
    obtain ⟨bb, o, x, hx, rfl, hlt, c0, c1⟩ := hat m (by omega)
    obtain ⟨y, hy⟩ : ∃ y : Vl, y = ⟨1, 0⟩ := ⟨_, rfl⟩
    have hbv : bval ⟨2, op, dst, (m : Int), b, n, text, r0, r1, r2, r3, r4, r5, to_, els⟩ v = y := by simp only [bval]; rw [hy]; exact if_neg (by decide)
    rw [hx, hbv, if_pos (by decide)] at hB ⊢
    have q1 : m < R := by omega
    have hB3 := hBn.alloc (by simp; omega) y.obj
    have hB2 := hB.alloc (by simp; omega) y.obj
    simp only [Vl.obj] at hB3 hB2
    obtain ⟨xk, xn⟩ := x
    obtain ⟨yk, yn⟩ := y
    injection hy with hy1 hy2
    subst hy1 hy2
    simp only at c0 c1 hB hB2 hB3 ⊢
    clear hbv hx hA hat hi ha hb ha0 ha1 h1 h4
    clear hB hB2 hB3
    have hbb0 := heap_alloc_new (w.alloc (Ins.obj ⟨2, op, dst, (m : Int), b, n, text, r0, r1, r2, r3, r4, r5, to_, els⟩)) nv.obj
    have hbx0 := heap_alloc_new w (Ins.obj ⟨2, op, dst, (m : Int), b, n, text, r0, r1, r2, r3, r4, r5, to_, els⟩)
    have hbx := alloc_keeps hbx0 nv.obj
    rw [show (w.alloc (Ins.obj ⟨2, op, dst, (m : Int), b, n, text, r0, r1, r2, r3, r4, r5, to_, els⟩)).heap.size = w.heap.size + 1 by simp] at hbb0
    have ec0 := (hBn.cell (p := ⟨bb, _, none⟩) hlt).trans c0
    have ec1 := (hBn.cell (p := ⟨bb, _, none⟩) hlt).trans c1
    have hs0 : ((w.alloc (Ins.obj ⟨2, op, dst, (m : Int), b, n, text, r0, r1, r2, r3, r4, r5, to_, els⟩)).alloc nv.obj).heap.size = w.heap.size + 2 := by simp
    obtain ⟨W0, hW⟩ : ∃ W0, (w.alloc (Ins.obj ⟨2, op, dst, (m : Int), b, n, text, r0, r1, r2, r3, r4, r5, to_, els⟩)).alloc nv.obj = W0 := ⟨_, rfl⟩
    simp only [Ins.obj, Vl.obj] at hW hbx hbb0 hBn hs0
    rw [hW] at hbx hbb0 hBn hs0 ec0 ec1
    clear c0 c1 hbx0
    have hlt2 : bb < W0.heap.size := by omega
    have hltw : w.heap.size + 1 < W0.heap.size := by omega
    have hltx : w.heap.size < W0.heap.size := by omega
    clear hs0
    have x0 := cell_of_heap hbx 0 (.int .i64 2) rfl
    have x1 := cell_of_heap hbx 1 (.int .i64 op) rfl
    have x3 := cell_of_heap hbx 3 (.int .i64 m) rfl
    have hB1 := Below.one W0 (.cells #[.int .i64 1, .int .i64 0] 66)
    have hbb := alloc_keeps hbb0 (.cells #[.int .i64 1, .int .i64 0] 66)
    have hBA := hBn.trans (hB1.mono hBn.size)
    by_cases hany : xk = 2 ∨ (1 : Int) = 2
    · rw [if_pos hany]
      have q3 : (xk == 2) = true := by simp; omega
      all_goals
        clear hany
        have hR := setRow_heap _ _ _ #[.int .i64 2, .int .i64 0] _ _ hbb
        have z0 := cell_of_heap hR 0 (.int .i64 2) rfl
        have z1 := cell_of_heap hR 1 (.int .i64 0) rfl
        clear hR
        go_enter Try.func68, Try.ntmps68
        go_wp2_with (first
          | (show wpList Try.prog _ _ (⟨none, .store _ (.tmp 4) _, _, _, _, _⟩ :: _) _ _; refine wpList_store_row rfl 66 (.tmp 4) (.tmp 47) rfl (w.heap.size + 1) #[.int .i64 2, .int .i64 0] rfl rfl 66 _ hbb sVal rfl (val_one _ _) ?_))
        (try simp only [Exit.inBlock, Exit.then])
        refine bodyPost_ret (by simp [results, Try.results68, go_sem, z0, z1]; try rfl) rfl ?_
        exact ⟨rfl, below_setRow hBA (by omega) _⟩
    · rw [if_neg hany]
      have q3 : (xk == 2) = false := by simp; omega
      clear hany
      have hdo := fun w => do_any op xn 0 w
      generalize dov op xn 0 = dd at *
      obtain ⟨dn, db⟩ := dd
      simp only at hdo ⊢
      have hby := heap_alloc_new W0 (.cells #[.int .i64 1, .int .i64 0] 66)
      have y1 := cell_of_heap hby 1 (.int .i64 0) rfl
      clear hby
      go_enter Try.func68, Try.ntmps68
      go_wp2
      clear hW
      have x1 := (hB1.cell (p := ⟨w.heap.size, _, none⟩) hltx).trans x1
      have x3 := (hB1.cell (p := ⟨w.heap.size, _, none⟩) hltx).trans x3
      have ec0 := (hB1.cell (p := ⟨bb, _, none⟩) hlt2).trans ec0
      have ec1 := (hB1.cell (p := ⟨bb, _, none⟩) hlt2).trans ec1
      generalize W0.alloc (.cells #[.int .i64 1, .int .i64 0] 66) = W at *
      have lx1 := fun s : Later W => Later.cell x1 s
      have lx3 := fun s : Later W => Later.cell x3 s
      have ly1 := fun s : Later W => Later.cell y1 s
      have lec0 := fun s : Later W => Later.cell ec0 s
      have lec1 := fun s : Later W => Later.cell ec1 s
      have lc := fun s : Later W => hdo s.w
      refine wp_region_later (by kernel_rfl) (by kernel_rfl) ?_
      repeat (go_big_quiet_step ((go_at_call 88; exact Calls.later (lc _))))
      refine wpQuiet_nil ?_
      rintro w3 ⟨s', rfl⟩
      have hb3 := hBA.trans (s'.h.mono hBA.size)
      have hbb3 := (s'.h.block _ (Array.getElem?_eq_some_iff.1 hbb).1).trans hbb
      generalize s'.w = w3 at *
      have hR := setRow_heap _ _ _ #[.int .i64 1, .int .i64 dn] _ _ hbb3
      have z0 := cell_of_heap hR 0 (.int .i64 1) rfl
      have z1 := cell_of_heap hR 1 (.int .i64 dn) rfl
      clear hR
      go_wp2_with (first
        | (show wpList Try.prog _ _ (⟨none, .store _ (.tmp 4) _, _, _, _, _⟩ :: _) _ _; refine wpList_store_row rfl 66 (.tmp 4) (.tmp 63) rfl (w.heap.size + 1) #[.int .i64 1, .int .i64 dn] rfl rfl 66 _ hbb3 sVal rfl (val_one _ _) ?_))
      (try simp only [Exit.inBlock, Exit.then])
      refine bodyPost_ret (by simp [results, Try.results68, go_sem, z0, z1]; try rfl) rfl ?_
      exact ⟨rfl, below_setRow hb3 (by omega) _⟩
  by_cases h3 : k = 3
  · subst h3
    obtain ⟨ha0, ha1⟩ := ha rfl
    obtain ⟨m, rfl⟩ : ∃ m : Nat, a = m := ⟨a.toNat, by omega⟩
    obtain ⟨hb0, hb1⟩ := hb rfl
    obtain ⟨m', rfl⟩ : ∃ m' : Nat, b = m' := ⟨b.toNat, by omega⟩
    simp only [Int.toNat_natCast] at hB ⊢
    obtain ⟨bb, o, x, hx, rfl, hlt, c0, c1⟩ := hat m (by omega)
    obtain ⟨bb', o', y, hy, e1, _, d0, d1⟩ := hat m' (by omega)
    injection e1 with e1
    injection e1 with e2 e3
    subst e2 e3
    have hbv : bval ⟨3, op, dst, (m : Int), (m' : Int), n, text, r0, r1, r2, r3, r4, r5, to_, els⟩ v = y := by simp only [bval, Int.toNat_natCast]; rw [if_pos trivial]; exact hy
    rw [hx, hbv, if_pos (by decide)] at hB ⊢
    have q1 : m < R := by omega
    have q2 : m' < R := by omega
    have hB3 := hBn.alloc (by simp; omega) y.obj
    have hB2 := hB.alloc (by simp; omega) y.obj
    simp only [Vl.obj] at hB3 hB2
    obtain ⟨xk, xn⟩ := x
    obtain ⟨yk, yn⟩ := y
    simp only at c0 c1 hB hB2 hB3 ⊢ d0 d1
    clear hbv hx hA hat hi ha hb ha0 ha1 h1 h4 hy hb0 hb1 h2
    clear hB hB2 hB3
    have hbb0 := heap_alloc_new (w.alloc (Ins.obj ⟨3, op, dst, (m : Int), (m' : Int), n, text, r0, r1, r2, r3, r4, r5, to_, els⟩)) nv.obj
    have hbx0 := heap_alloc_new w (Ins.obj ⟨3, op, dst, (m : Int), (m' : Int), n, text, r0, r1, r2, r3, r4, r5, to_, els⟩)
    have hbx := alloc_keeps hbx0 nv.obj
    rw [show (w.alloc (Ins.obj ⟨3, op, dst, (m : Int), (m' : Int), n, text, r0, r1, r2, r3, r4, r5, to_, els⟩)).heap.size = w.heap.size + 1 by simp] at hbb0
    have ec0 := (hBn.cell (p := ⟨bb, _, none⟩) hlt).trans c0
    have ec1 := (hBn.cell (p := ⟨bb, _, none⟩) hlt).trans c1
    have ed0 := (hBn.cell (p := ⟨bb, _, none⟩) hlt).trans d0
    have ed1 := (hBn.cell (p := ⟨bb, _, none⟩) hlt).trans d1
    have hs0 : ((w.alloc (Ins.obj ⟨3, op, dst, (m : Int), (m' : Int), n, text, r0, r1, r2, r3, r4, r5, to_, els⟩)).alloc nv.obj).heap.size = w.heap.size + 2 := by simp
    obtain ⟨W0, hW⟩ : ∃ W0, (w.alloc (Ins.obj ⟨3, op, dst, (m : Int), (m' : Int), n, text, r0, r1, r2, r3, r4, r5, to_, els⟩)).alloc nv.obj = W0 := ⟨_, rfl⟩
    simp only [Ins.obj, Vl.obj] at hW hbx hbb0 hBn hs0
    rw [hW] at hbx hbb0 hBn hs0 ec0 ec1 ed0 ed1
    clear c0 c1 hbx0 d0 d1
    have hlt2 : bb < W0.heap.size := by omega
    have hltw : w.heap.size + 1 < W0.heap.size := by omega
    have hltx : w.heap.size < W0.heap.size := by omega
    clear hs0
    have x0 := cell_of_heap hbx 0 (.int .i64 3) rfl
    have x1 := cell_of_heap hbx 1 (.int .i64 op) rfl
    have x3 := cell_of_heap hbx 3 (.int .i64 m) rfl
    have x4 := cell_of_heap hbx 4 (.int .i64 m') rfl
    have hB1 := Below.one W0 (.cells #[.int .i64 yk, .int .i64 yn] 66)
    have hbb := alloc_keeps hbb0 (.cells #[.int .i64 yk, .int .i64 yn] 66)
    have hBA := hBn.trans (hB1.mono hBn.size)
    by_cases hany : xk = 2 ∨ yk = 2
    · rw [if_pos hany]
      have hc : ((xk == 2) = true) ∨ ((xk == 2) = false ∧ (yk == 2) = true) := by simp; omega
      rcases hc with q3 | ⟨q3, q4⟩
      all_goals
        clear hany
        have hR := setRow_heap _ _ _ #[.int .i64 2, .int .i64 0] _ _ hbb
        have z0 := cell_of_heap hR 0 (.int .i64 2) rfl
        have z1 := cell_of_heap hR 1 (.int .i64 0) rfl
        clear hR
        go_enter Try.func68, Try.ntmps68
        go_wp2_with (first
          | (show wpList Try.prog _ _ (⟨none, .store _ (.tmp 4) _, _, _, _, _⟩ :: _) _ _; refine wpList_store_row rfl 66 (.tmp 4) (.tmp 47) rfl (w.heap.size + 1) #[.int .i64 2, .int .i64 0] rfl rfl 66 _ hbb sVal rfl (val_one _ _) ?_))
        (try simp only [Exit.inBlock, Exit.then])
        refine bodyPost_ret (by simp [results, Try.results68, go_sem, z0, z1]; try rfl) rfl ?_
        exact ⟨rfl, below_setRow hBA (by omega) _⟩
    · rw [if_neg hany]
      have q3 : (xk == 2) = false := by simp; omega
      have q4 : (yk == 2) = false := by simp; omega
      clear hany
      have hdo := fun w => do_any op xn yn w
      generalize dov op xn yn = dd at *
      obtain ⟨dn, db⟩ := dd
      simp only at hdo ⊢
      have hby := heap_alloc_new W0 (.cells #[.int .i64 yk, .int .i64 yn] 66)
      have y1 := cell_of_heap hby 1 (.int .i64 yn) rfl
      clear hby
      go_enter Try.func68, Try.ntmps68
      go_wp2
      clear hW
      have x1 := (hB1.cell (p := ⟨w.heap.size, _, none⟩) hltx).trans x1
      have x3 := (hB1.cell (p := ⟨w.heap.size, _, none⟩) hltx).trans x3
      have ec0 := (hB1.cell (p := ⟨bb, _, none⟩) hlt2).trans ec0
      have ec1 := (hB1.cell (p := ⟨bb, _, none⟩) hlt2).trans ec1
      generalize W0.alloc (.cells #[.int .i64 yk, .int .i64 yn] 66) = W at *
      have lx1 := fun s : Later W => Later.cell x1 s
      have lx3 := fun s : Later W => Later.cell x3 s
      have ly1 := fun s : Later W => Later.cell y1 s
      have lec0 := fun s : Later W => Later.cell ec0 s
      have lec1 := fun s : Later W => Later.cell ec1 s
      have lc := fun s : Later W => hdo s.w
      refine wp_region_later (by kernel_rfl) (by kernel_rfl) ?_
      repeat (go_big_quiet_step ((go_at_call 88; exact Calls.later (lc _))))
      refine wpQuiet_nil ?_
      rintro w3 ⟨s', rfl⟩
      have hb3 := hBA.trans (s'.h.mono hBA.size)
      have hbb3 := (s'.h.block _ (Array.getElem?_eq_some_iff.1 hbb).1).trans hbb
      generalize s'.w = w3 at *
      have hR := setRow_heap _ _ _ #[.int .i64 1, .int .i64 dn] _ _ hbb3
      have z0 := cell_of_heap hR 0 (.int .i64 1) rfl
      have z1 := cell_of_heap hR 1 (.int .i64 dn) rfl
      clear hR
      go_wp2_with (first
        | (show wpList Try.prog _ _ (⟨none, .store _ (.tmp 4) _, _, _, _, _⟩ :: _) _ _; refine wpList_store_row rfl 66 (.tmp 4) (.tmp 63) rfl (w.heap.size + 1) #[.int .i64 1, .int .i64 dn] rfl rfl 66 _ hbb3 sVal rfl (val_one _ _) ?_))
      (try simp only [Exit.inBlock, Exit.then])
      refine bodyPost_ret (by simp [results, Try.results68, go_sem, z0, z1]; try rfl) rfl ?_
      exact ⟨rfl, below_setRow hb3 (by omega) _⟩
  rw [if_neg (by omega)] at hB ⊢
  have n1 : (k == 1) = false := by simp; omega
  have n4 : (k == 4) = false := by simp; omega
  have n2 : (k == 2) = false := by simp; omega
  have n3 : (k == 3) = false := by simp; omega
  clear ha hb hat hi hBn h1 h2 h3 h4
  go_enter Try.func68, Try.ntmps68
  go_wp2
  (try simp only [Exit.inBlock, Exit.then])
  refine bodyPost_ret (by simp [results, Try.results68, go_sem]; try rfl) rfl ?_
  exact ⟨rfl, hB⟩
end Go.Proofs.Ytkcclefonmnpnaa

/- THE FLOW's next. -/
namespace Go.Proofs.Ytkcclefonmnpnaa
open Go.RowKit Go.BigFrame

def Two12 (base : Nat) (x y : Int) (e : Ending) (w : World) : Prop := ∃ b, e = .returned (.slice (some ⟨b, 0, none⟩) 2 2) ∧ base ≤ b ∧ b < w.heap.size ∧ w.cell? ⟨b, 0, none⟩ = some (.int .i64 x) ∧ w.cell? ⟨b, 1, none⟩ = some (.int .i64 y)
set_option maxRecDepth 1000000 in
theorem Next12 (op dst a b n : Int) (text : ByteArray) (r0 r1 r2 r3 r4 r5 to_ els : Int) (p : Int) (w : World) : Calls Try.prog 49 #[Ins.agg ⟨12, op, dst, a, b, n, text, r0, r1, r2, r3, r4, r5, to_, els⟩, .int .i64 p] w fun e w' => Two12 w.heap.size to_ els e w' ∧ Below w.heap.size w w' := by
  have hb0 := Below.one w (Ins.obj ⟨12, op, dst, a, b, n, text, r0, r1, r2, r3, r4, r5, to_, els⟩)
  have hn := heap_alloc_new (w.alloc (Ins.obj ⟨12, op, dst, a, b, n, text, r0, r1, r2, r3, r4, r5, to_, els⟩)) (.cells #[.int .i64 to_, .int .i64 els] 3)
  have hT : Two12 w.heap.size to_ els (.returned (.slice (some ⟨w.heap.size + 1, 0, none⟩) 2 2)) ((w.alloc (Ins.obj ⟨12, op, dst, a, b, n, text, r0, r1, r2, r3, r4, r5, to_, els⟩)).alloc (.cells #[.int .i64 to_, .int .i64 els] 3)) :=
    ⟨w.heap.size + 1, rfl, by omega, by simp, by rw [show (w.alloc (Ins.obj ⟨12, op, dst, a, b, n, text, r0, r1, r2, r3, r4, r5, to_, els⟩)).heap.size = w.heap.size + 1 by simp] at hn; exact cell_of_heap hn 0 _ rfl, by rw [show (w.alloc (Ins.obj ⟨12, op, dst, a, b, n, text, r0, r1, r2, r3, r4, r5, to_, els⟩)).heap.size = w.heap.size + 1 by simp] at hn; exact cell_of_heap hn 1 _ rfl⟩
  simp only [Ins.obj, Ins.agg] at hb0 hT ⊢
  have HT := Lib.hid hT
  clear hT hn
  go_enter Try.func49, Try.ntmps49
  go_wp2
  go_returns
  exact ⟨HT.out, hb0.alloc hb0.size _⟩
/-- a slice of numbers is told, that reads so, in memory from base on -/
def SlF (base : Nat) (l : List Int) (e : Ending) (w : World) : Prop := ∃ A cap, e = .returned (.slice A l.length cap) ∧ RdN w A l ∧ ∀ b o, A = some ⟨b, o, none⟩ → base ≤ b
set_option maxRecDepth 1000000 in
set_option maxHeartbeats 4000000 in
theorem Next_fr (i : Ins) (p : Int) (hp : 0 ≤ p ∧ p ≤ 100000) (w : World) : Calls Try.prog 49 #[i.agg, .int .i64 p] w fun e w' => SlF w.heap.size (i.next p) e w' ∧ Below w.heap.size w w' := by
  obtain ⟨k, op, dst, a, b, n, text, r0, r1, r2, r3, r4, r5, to_, els⟩ := i
  have hb0 := Below.one w (Ins.obj ⟨k, op, dst, a, b, n, text, r0, r1, r2, r3, r4, r5, to_, els⟩)
  have bx := heap_alloc_new w (Ins.obj ⟨k, op, dst, a, b, n, text, r0, r1, r2, r3, r4, r5, to_, els⟩)
  simp only [Ins.obj, Ins.agg, Ins.next] at hb0 bx ⊢
  have hwr : wrap64 (p + 1) = p + 1 := by unfold wrap64; omega
  have hone : ∀ (W : World) (x : Int), RdN (W.alloc (.cells #[.int .i64 x] 3)) (some ⟨W.heap.size, 0, none⟩) [x] := fun W x j y hj => by
    cases j with
    | succ j => simp at hj
    | zero =>
      simp at hj
      subst hj
      exact ⟨W.heap.size, 0, rfl, by simp, cell_of_heap (heap_alloc_new W (.cells #[.int .i64 x] 3)) 0 _ rfl⟩
  have htwo : ∀ (W : World) (x y : Int), RdN (W.alloc (.cells #[.int .i64 x, .int .i64 y] 3)) (some ⟨W.heap.size, 0, none⟩) [x, y] := fun W x y j z hj => by
    have hn := heap_alloc_new W (.cells #[.int .i64 x, .int .i64 y] 3)
    match j with
    | 0 => simp at hj; subst hj; exact ⟨W.heap.size, 0, rfl, by simp, cell_of_heap hn 0 _ rfl⟩
    | 1 => simp at hj; subst hj; exact ⟨W.heap.size, 0, rfl, by simp, cell_of_heap hn 1 _ rfl⟩
    | j + 2 => simp at hj
  have h1 := hone (w.alloc (Ins.obj ⟨k, op, dst, a, b, n, text, r0, r1, r2, r3, r4, r5, to_, els⟩))
  have h2 := htwo (w.alloc (Ins.obj ⟨k, op, dst, a, b, n, text, r0, r1, r2, r3, r4, r5, to_, els⟩))
  simp only [Ins.obj] at h1 h2
  rw [show (w.alloc (Ins.obj ⟨k, op, dst, a, b, n, text, r0, r1, r2, r3, r4, r5, to_, els⟩)).heap.size = w.heap.size + 1 by simp] at h1 h2
  by_cases e11 : k = 11
  · subst e11
    go_enter Try.func49, Try.ntmps49
    go_wp2
    go_returns
    exact ⟨⟨_, 1, rfl, h1 _, fun b o h => by injection h with h; injection h with h; omega⟩, hb0.alloc hb0.size _⟩
  · rw [if_neg e11]
    have q1 : (k == 11) = false := by simpa using e11
    by_cases e12 : k = 12
    · subst e12
      go_enter Try.func49, Try.ntmps49
      go_wp2
      go_returns
      exact ⟨⟨_, 2, rfl, h2 _ _, fun b o h => by injection h with h; injection h with h; omega⟩, hb0.alloc hb0.size _⟩
    · rw [if_neg e12]
      have q2 : (k == 12) = false := by simpa using e12
      by_cases e13 : k = 13
      · subst e13
        go_enter Try.func49, Try.ntmps49
        go_wp2
        go_returns
        exact ⟨⟨none, 0, rfl, fun j y hj => by simp at hj, fun b o h => by cases h⟩, hb0⟩
      · rw [if_neg e13]
        have q3 : (k == 13) = false := by simpa using e13
        clear e11 e12 e13
        go_enter Try.func49, Try.ntmps49
        go_wp2
        go_returns
        exact ⟨⟨_, 1, rfl, h1 _, fun b o h => by injection h with h; injection h with h; omega⟩, hb0.alloc hb0.size _⟩
theorem SlF.one {w : World} {base b o cap : Nat} {x : Int} (hB : base ≤ b) (hb : b < w.heap.size) (h : w.cell? ⟨b, o, none⟩ = some (.int .i64 x)) : SlF base [x] (.returned (.slice (some ⟨b, o, none⟩) 1 cap)) w :=
  ⟨_, cap, rfl, fun j y hj => by
    cases j with
    | succ j => simp at hj
    | zero =>
      simp at hj
      subst hj
      exact ⟨b, o, rfl, hb, h⟩, fun b' o' h' => by injection h' with h'; injection h' with h'; omega⟩
theorem SlF.two {w : World} {base b cap : Nat} {x y : Int} (hB : base ≤ b) (hb : b < w.heap.size) (h : w.cell? ⟨b, 0, none⟩ = some (.int .i64 x)) (h' : w.cell? ⟨b, 1, none⟩ = some (.int .i64 y)) : SlF base [x, y] (.returned (.slice (some ⟨b, 0, none⟩) 2 cap)) w :=
  ⟨_, cap, rfl, fun j z hj => by
    match j with
    | 0 => simp at hj; subst hj; exact ⟨b, 0, rfl, hb, h⟩
    | 1 => simp at hj; subst hj; exact ⟨b, 0, rfl, hb, h'⟩
    | j + 2 => simp at hj, fun b' o' h' => by injection h' with h'; injection h' with h'; omega⟩
set_option maxRecDepth 1000000 in
set_option maxHeartbeats 4000000 in
/-- flow.next -/
theorem next_any (i : Ins) (v : List Vl) {R : Nat} {Fr : Int} {L : Nat} (hi : Ok i R Fr L) (hl : v.length = R) (A : Option Addr) (cap : Nat) (p : Nat) (hp : p ≤ 100000) (w : World) (hA : RdV w A v) : Calls Try.prog 69 #[i.agg, .int .i64 p, .slice A R cap] w fun e w' => SlF w.heap.size (nextV i p v) e w' ∧ Below w.heap.size w w' := by
  have hB := Below.one w i.obj
  have bx := heap_alloc_new w i.obj
  have ha := hi.a_in
  have hnx := fun w => Next_fr i p (by omega) w
  have hat : ∀ r : Nat, r < R → ∃ b o x, at_ v r = x ∧ A = some ⟨b, o, none⟩ ∧ b < w.heap.size ∧ w.cell? ⟨b, o + r * 2, none⟩ = some (.int .i64 x.k) ∧ w.cell? ⟨b, o + r * 2 + 1, none⟩ = some (.int .i64 x.n) := fun r hr => by
    obtain ⟨b, o, h1, h2, h3, h4⟩ := hA r (at_ v r) (by rw [at_in (by omega)]; simp)
    exact ⟨b, o, _, rfl, h1, h2, h3, h4⟩
  obtain ⟨W, hW⟩ : ∃ W, w.alloc i.obj = W := ⟨_, rfl⟩
  rw [hW] at hB bx
  obtain ⟨x0, x1, x2, x3, x4, x5, x6, x7, x8, x9, x10, x11, x12, x13, x14⟩ := Ins.cells bx
  obtain ⟨k, op, dst, a, b, n, text, r0, r1, r2, r3, r4, r5, to_, els⟩ := i
  by_cases h12 : k = 12
  · subst h12
    simp only [Ins.agg, Ins.obj, nextV] at hW bx hB ha hnx x0 x1 x2 x3 x4 x5 x6 x7 x8 x9 x10 x11 x12 x13 x14 ⊢
    obtain ⟨ha0, ha1⟩ := ha rfl
    obtain ⟨m, rfl⟩ : ∃ m : Nat, a = m := ⟨a.toNat, by omega⟩
    obtain ⟨bb, o, x, hx, rfl, hlt, c0, c1⟩ := hat m (by omega)
    simp only [Int.toNat_natCast, if_pos, hx]
    obtain ⟨xk, xn⟩ := x
    simp only at c0 c1 ⊢
    have q1 : m < R := by omega
    have c0 := (hB.cell (p := ⟨bb, _, none⟩) hlt).trans c0
    have c1 := (hB.cell (p := ⟨bb, _, none⟩) hlt).trans c1
    have hlt := Nat.lt_of_lt_of_le hlt hB.size
    have hn12 := fun w => Next12 op dst (m : Int) b n text r0 r1 r2 r3 r4 r5 to_ els (p : Int) w
    simp only [Ins.agg] at hn12
    have hbs := (Array.getElem?_eq_some_iff.1 bx).1
    clear hat hi hA hnx hx ha ha0 ha1
    have hc : ((xk == 1) = false ∧ ¬ xk = 1) ∨ ((xk == 1) = true ∧ xk = 1 ∧ (xn != 0) = true ∧ ¬ xn = 0) ∨ ((xk == 1) = true ∧ xk = 1 ∧ (xn != 0) = false ∧ xn = 0) := by simp; omega
    rcases hc with ⟨q3, q4⟩ | ⟨q3, q4, q5, q6⟩ | ⟨q3, q4, q5, q6⟩
    · rw [if_neg q4]
      clear q4
      go_enter Try.func69, Try.ntmps69
      go_wp2_with (first
        | (go_at_call 49; refine (hn12 _).mono ?_; rintro e w1 ⟨⟨nb, rfl, hnB, hnb, n0, n1⟩, hb1⟩; have hBB := hB.trans (hb1.mono hB.size); have y0 := (hb1.cell (p := ⟨w.heap.size, 0, none⟩) hbs).trans x0; have y3 := (hb1.cell (p := ⟨w.heap.size, 3, none⟩) hbs).trans x3; have d0 := (hb1.cell (p := ⟨bb, _, none⟩) hlt).trans c0; have d1 := (hb1.cell (p := ⟨bb, _, none⟩) hlt).trans c1; have HS := Lib.hid (SlF.two (base := w.heap.size) (cap := 2) (Nat.le_trans hB.size hnB) hnb n0 n1)))
      go_returns
      exact ⟨HS.out, hBB⟩
    · rw [if_pos q4, if_neg q6]
      clear q4 q6
      go_enter Try.func69, Try.ntmps69
      go_wp2_with (first
        | (go_at_call 49; refine (hn12 _).mono ?_; rintro e w1 ⟨⟨nb, rfl, hnB, hnb, n0, n1⟩, hb1⟩; have hBB := hB.trans (hb1.mono hB.size); have y0 := (hb1.cell (p := ⟨w.heap.size, 0, none⟩) hbs).trans x0; have y3 := (hb1.cell (p := ⟨w.heap.size, 3, none⟩) hbs).trans x3; have d0 := (hb1.cell (p := ⟨bb, _, none⟩) hlt).trans c0; have d1 := (hb1.cell (p := ⟨bb, _, none⟩) hlt).trans c1; have HS := Lib.hid (SlF.one (base := w.heap.size) (o := 0) (cap := 2) (Nat.le_trans hB.size hnB) hnb n0)))
      go_returns
      exact ⟨HS.out, hBB⟩
    · rw [if_pos q4, if_pos q6]
      clear q4 q6
      go_enter Try.func69, Try.ntmps69
      go_wp2_with (first
        | (go_at_call 49; refine (hn12 _).mono ?_; rintro e w1 ⟨⟨nb, rfl, hnB, hnb, n0, n1⟩, hb1⟩; have hBB := hB.trans (hb1.mono hB.size); have y0 := (hb1.cell (p := ⟨w.heap.size, 0, none⟩) hbs).trans x0; have y3 := (hb1.cell (p := ⟨w.heap.size, 3, none⟩) hbs).trans x3; have d0 := (hb1.cell (p := ⟨bb, _, none⟩) hlt).trans c0; have d1 := (hb1.cell (p := ⟨bb, _, none⟩) hlt).trans c1; have HS := Lib.hid (SlF.one (base := w.heap.size) (o := 1) (cap := 1) (Nat.le_trans hB.size hnB) hnb n1)))
      go_returns
      exact ⟨HS.out, hBB⟩
  · simp only [Ins.agg, Ins.obj, nextV] at hW bx hB hnx x0 x1 x2 x3 x4 x5 x6 x7 x8 x9 x10 x11 x12 x13 x14 ⊢
    rw [if_neg h12]
    have q3 : (k == 12) = false := by simpa using h12
    have hbs := (Array.getElem?_eq_some_iff.1 bx).1
    clear hat hi hA ha h12
    generalize Ins.next ⟨k, op, dst, a, b, n, text, r0, r1, r2, r3, r4, r5, to_, els⟩ (p : Int) = nl at *
    go_enter Try.func69, Try.ntmps69
    go_wp2_with (first
      | (go_at_call 49; refine (hnx _).mono ?_; rintro e w1 ⟨⟨NA, ncap, rfl, hNR, hNF⟩, hb1⟩; have hBB := hB.trans (hb1.mono hB.size); have y0 := (hb1.cell (p := ⟨w.heap.size, 0, none⟩) hbs).trans x0))
    go_returns
    exact ⟨⟨NA, ncap, rfl, hNR, fun b o h => Nat.le_trans hB.size (hNF b o h)⟩, hBB⟩
end Go.Proofs.Ytkcclefonmnpnaa

/- MEMORY: blocks that begin with the cells of a list; a list of what is to do. -/
namespace Go.Proofs.Ytkcclefonmnpnaa
open Go.RowKit Go.BigFrame

/-- block b begins with the cells of l, each of d cells -/
def Pre {α : Type} (g : α → List Value) (d : Nat) (t : TypeId) (W : World) (b : Nat) (l : List α) : Prop :=
  ∃ cs : Array Value, W.heap[b]? = some (.cells cs t (0, 0)) ∧ ∀ j x, l[j]? = some x → ∀ k, k < d → cs[j * d + k]? = (g x)[k]?
section
variable {α : Type} {g : α → List Value} {d : Nat} {t : TypeId} {W W' : World} {b : Nat} {l : List α}
theorem Pre.lt (h : Pre g d t W b l) : b < W.heap.size := by
  obtain ⟨cs, h1, _⟩ := h
  exact (Array.getElem?_eq_some_iff.1 h1).1
theorem Pre.of_heap (h : Pre g d t W b l) (hb : W'.heap[b]? = W.heap[b]?) : Pre g d t W' b l := by
  obtain ⟨cs, h1, h2⟩ := h
  exact ⟨cs, hb.trans h1, h2⟩
theorem Pre.later (h : Pre g d t W b l) (hb : Below W.heap.size W W') : Pre g d t W' b l := h.of_heap (hb.block _ h.lt)
theorem Pre.cell (h : Pre g d t W b l) {j : Nat} {x : α} (hj : l[j]? = some x) {k : Nat} (hk : k < d) {v : Value} (hv : (g x)[k]? = some v) : W.cell? ⟨b, j * d + k, none⟩ = some v := by
  obtain ⟨cs, h1, h2⟩ := h
  rw [cell_of_row W b (j * d + k) cs t _ h1, h2 j x hj k hk, hv]
theorem Pre.free (h : Pre g d t W b l) (n : Nat) : W.frozen? ⟨b, n, none⟩ = false := by
  obtain ⟨cs, h1, h2⟩ := h
  exact free_of_heap h1 n
theorem Pre.other (h : Pre g d t W b l) {a : Addr} (hne : a.block ≠ b) (v : Value) : Pre g d t (W.setCell a v) b l := h.of_heap (heap_setCell_other W a b v (Ne.symm hne))
theorem Pre.store (h : Pre g d t W b l) {j : Nat} {x y : α} (hj : l[j]? = some x) {k : Nat} (hk : k < d) {v : Value} (hlen : (g x).length = (g y).length) (hv : (g y)[k]? = some v) (ho : ∀ k', k' ≠ k → (g y)[k']? = (g x)[k']?) : Pre g d t (W.setCell ⟨b, j * d + k, none⟩ v) b (l.set j y) := by
  obtain ⟨cs, h1, h2⟩ := h
  refine ⟨cs.setIfInBounds (j * d + k) v, heap_setCell_same W b _ cs t v h1, fun j' x' hj' k' hk' => ?_⟩
  have hc := h2 j x hj k hk
  have hkx : k < (g x).length := by rw [hlen]; exact (List.getElem?_eq_some_iff.1 hv).1
  have hb : j * d + k < cs.size := by
    rw [List.getElem?_eq_getElem hkx] at hc
    exact (Array.getElem?_eq_some_iff.1 hc).1
  have hjl := (List.getElem?_eq_some_iff.1 hj).1
  rw [Array.getElem?_setIfInBounds]
  by_cases hjj : j = j'
  · subst hjj
    rw [List.getElem?_set_self hjl] at hj'
    injection hj' with hj'
    subst hj'
    by_cases hkk : k' = k
    · subst hkk
      simp [hb, hv]
    · rw [if_neg (by omega), h2 j x hj k' hk', ho k' hkk]
  · rw [List.getElem?_set_ne hjj] at hj'
    have hne : ¬ j * d + k = j' * d + k' := by
      intro e
      have h3 : (j * d + k) / d = (j' * d + k') / d := by rw [e]
      have hd : 0 < d := by omega
      rw [Nat.add_comm, Nat.add_mul_div_right _ _ hd, Nat.div_eq_of_lt hk, Nat.add_comm (j' * d), Nat.add_mul_div_right _ _ hd, Nat.div_eq_of_lt hk'] at h3
      omega
    rw [if_neg hne]
    exact h2 j' x' hj' k' hk'
end
def gV (v : Vl) : List Value := [.int .i64 v.k, .int .i64 v.n]
def g1 (v : Value) : List Value := [v]
def gB (b : Bool) : List Value := [.bool b]
abbrev PreV (W : World) (b : Nat) (l : List Vl) : Prop := Pre gV 2 66 W b l
theorem PreV.cells {W : World} {b : Nat} {l : List Vl} (h : PreV W b l) {j : Nat} {x : Vl} (hj : l[j]? = some x) : W.cell? ⟨b, j * 2, none⟩ = some (.int .i64 x.k) ∧ W.cell? ⟨b, j * 2 + 1, none⟩ = some (.int .i64 x.n) :=
  ⟨Pre.cell h hj (k := 0) (by omega) rfl, Pre.cell h hj (k := 1) (by omega) rfl⟩
theorem PreV.set {W : World} {b : Nat} {l : List Vl} (h : PreV W b l) {j : Nat} {x : Vl} (hj : l[j]? = some x) (y : Vl) : PreV ((W.setCell ⟨b, j * 2, none⟩ (.int .i64 y.k)).setCell ⟨b, j * 2 + 1, none⟩ (.int .i64 y.n)) b (l.set j y) := by
  have h1 := Pre.store (y := ⟨y.k, x.n⟩) h hj (k := 0) (v := .int .i64 y.k) (by omega) rfl rfl (fun k' hk' => by
    cases k' with
    | zero => exact absurd rfl hk'
    | succ k' => rfl)
  have hjl := (List.getElem?_eq_some_iff.1 hj).1
  have h2 := Pre.store (y := y) h1 (List.getElem?_set_self hjl) (k := 1) (v := .int .i64 y.n) (by omega) rfl rfl (fun k' hk' => by
    match k' with
    | 0 => rfl
    | 1 => exact absurd rfl hk'
    | k' + 2 => rfl)
  rw [List.set_set] at h2
  exact h2
theorem Pre1.cell {W : World} {b : Nat} {l : List Value} {t : TypeId} (h : Pre g1 1 t W b l) {j : Nat} {v : Value} (hj : l[j]? = some v) : W.cell? ⟨b, j, none⟩ = some v := by
  have := Pre.cell h hj (k := 0) (v := v) (by omega) rfl
  rwa [Nat.mul_one] at this
theorem Pre1.set {W : World} {b : Nat} {l : List Value} {t : TypeId} (h : Pre g1 1 t W b l) {j : Nat} (hj : j < l.length) (v : Value) : Pre g1 1 t (W.setCell ⟨b, j, none⟩ v) b (l.set j v) := by
  have := Pre.store (y := v) h (List.getElem?_eq_getElem hj) (k := 0) (v := v) (by omega) rfl rfl (fun k' hk' => by
    cases k' with
    | zero => exact absurd rfl hk'
    | succ k' => rfl)
  rwa [Nat.mul_one] at this
theorem PreB.cell {W : World} {b : Nat} {l : List Bool} {t : TypeId} (h : Pre gB 1 t W b l) {j : Nat} {v : Bool} (hj : l[j]? = some v) : W.cell? ⟨b, j, none⟩ = some (.bool v) := by
  have := Pre.cell h hj (k := 0) (v := .bool v) (by omega) rfl
  rwa [Nat.mul_one] at this
theorem PreB.set {W : World} {b : Nat} {l : List Bool} {t : TypeId} (h : Pre gB 1 t W b l) {j : Nat} (hj : j < l.length) (v : Bool) : Pre gB 1 t (W.setCell ⟨b, j, none⟩ (.bool v)) b (l.set j v) := by
  have := Pre.store (y := v) h (List.getElem?_eq_getElem hj) (k := 0) (v := .bool v) (by omega) rfl rfl (fun k' hk' => by
    cases k' with
    | zero => exact absurd rfl hk'
    | succ k' => rfl)
  rwa [Nat.mul_one] at this
theorem PreV.read {W : World} {b : Nat} {l : List Vl} (h : PreV W b l) : RdV W (some ⟨b, 0, none⟩) l := fun j x hx => by
  have hc := PreV.cells h hx
  exact ⟨b, 0, rfl, Pre.lt h, by rw [Nat.zero_add]; exact hc.1, by rw [Nat.zero_add]; exact hc.2⟩
/-- what make makes -/
theorem made_pre {α : Type} {g : α → List Value} {d : Nat} {t : TypeId} (W : World) (z : Array Value) (n : Nat) (x : α) (hz : z.size = d) (hg : ∀ k, k < d → some (z[k]!) = (g x)[k]?) :
    Pre g d t (W.alloc (.cells (madeCells z (n * d)) t)) W.heap.size (List.replicate n x) := by
  refine ⟨_, heap_alloc_new W _, fun j y hj k hk => ?_⟩
  have hjn : j < n := by
    have := (List.getElem?_eq_some_iff.1 hj).1
    simpa using this
  have hy : y = x := by simp [hjn] at hj; exact hj.symm
  subst hy
  have hlt : j * d + k < n * d := by
    have : (j + 1) * d ≤ n * d := Nat.mul_le_mul_right d hjn
    rw [Nat.succ_mul] at this
    omega
  rw [← hg k hk]
  simp only [madeCells]
  rw [Array.getElem?_map, Array.getElem?_range, if_pos hlt]
  have : (j * d + k) % d = k := by rw [Nat.mul_comm, Nat.mul_add_mod, Nat.mod_eq_of_lt hk]
  simp only [Option.map_some, hz, this]
theorem info_v : (Try.prog.info? 66).map (fun i => (i.zero, i.size, i.bytes)) = some (some (.agg #[.int .i64 0, .int .i64 0]), 2, 16) := by kernel_rfl
theorem info_vs : (Try.prog.info? 67).map (fun i => (i.zero, i.size, i.bytes)) = some (some (.slice none 0 0), 1, 24) := by kernel_rfl
theorem info_b : (Try.prog.info? 4).map (fun i => (i.zero, i.size, i.bytes)) = some (some (.bool false), 1, 1) := by kernel_rfl
theorem make_rows (L : Nat) (hL : L ≤ 100000) (W : World) : (Instr.makeSlice 63 (.int .i64 L) (.int .i64 L)).run Try.prog W = .ok (.slice (some ⟨W.heap.size, 0, none⟩) L L) (W.alloc (.cells (madeCells #[.slice none 0 0] L) 67)) := by
  obtain ⟨i0, hi, hz0, hz1, hz2⟩ := info_parts info_vs
  have := run_make (P := Try.prog) W 63 67 i0 (.slice none 0 0) (by kernel_rfl) hi hz0 .i64 .i64 L L (by omega) (by omega) (by rw [hz2]; omega) (by omega)
  simpa [hz1, Value.cells] using this
theorem make_vals (R : Nat) (hR : R ≤ 100000) (W : World) : (Instr.makeSlice 67 (.int .i64 R) (.int .i64 R)).run Try.prog W = .ok (.slice (some ⟨W.heap.size, 0, none⟩) R R) (W.alloc (.cells (madeCells #[.int .i64 0, .int .i64 0] (R * 2)) 66)) := by
  obtain ⟨i0, hi, hz0, hz1, hz2⟩ := info_parts info_v
  have := run_make (P := Try.prog) W 67 66 i0 (.agg #[.int .i64 0, .int .i64 0]) (by kernel_rfl) hi hz0 .i64 .i64 R R (by omega) (by omega) (by rw [hz2]; omega) (by omega)
  simpa [hz1, Value.cells] using this
theorem make_bools (L : Nat) (hL : L ≤ 100000) (W : World) : (Instr.makeSlice 27 (.int .i64 L) (.int .i64 L)).run Try.prog W = .ok (.slice (some ⟨W.heap.size, 0, none⟩) L L) (W.alloc (.cells (madeCells #[.bool false] L) 4)) := by
  obtain ⟨i0, hi, hz0, hz1, hz2⟩ := info_parts info_b
  have := run_make (P := Try.prog) W 27 4 i0 (.bool false) (by kernel_rfl) hi hz0 .i64 .i64 L L (by omega) (by omega) (by rw [hz2]; omega) (by omega)
  simpa [hz1, Value.cells] using this
/-- copy, of elements of whatever size -/
theorem run_copy_any {P : Program} (w : World) (dT sT ty elem : TypeId) (g o dLen dCap : Nat) (a : Addr) (sLen sCap : Nat) (cur : Array Value) (t : TypeId) (cs : List Value) (size n : Nat)
    (hu : P.underlying dT = some (.slice elem)) (hs : (P.info? elem).map (·.size) = some size)
    (hg : w.heap[g]? = some (.cells cur t (0, 0))) (hnn : n = Nat.min sLen dLen) (hn : cs.length = n * size)
    (hsrc : ∀ j v, cs[j]? = some v → w.cell? (a.add j) = some v) (hfit : o + cs.length ≤ cur.size) (h1 : ∀ v ∈ cs, v.oneCell' = true) :
    (Builtin.copy_ #[dT, sT] ty #[.slice (some ⟨g, o, none⟩) dLen dCap, .slice (some a) sLen sCap]).run P w =
      .ok (goInt n) (w.setRow g (cur.toList.take o ++ cs ++ cur.toList.drop (o + cs.length)).toArray) := by
  have hl := run_loadCells_list (P := P) w a cs hsrc
  have hst := run_storeCells_at P g o t cs 0 cur w hg (by simpa using hfit) h1
  cases hq : P.info? elem with
  | none => simp [hq] at hs
  | some i =>
    have hi : i.size = size := by simpa [hq] using hs
    simp [Builtin.copy_, run_underlying hu, Builtin.lenOf, Builtin.firstCells, sizeOf, typeInfo, hq, hi, ← hnn, ← hn, hl, hst]
/-- numbers that are to do, from a place of a block on; there may be room behind them -/
def Que (W : World) (base : Nat) (V : Value) (T : List Nat) : Prop := ∃ b o cap cs, V = .slice (some ⟨b, o, none⟩) T.length cap ∧ T.length ≤ cap ∧ cap ≤ maxLen ∧ base ≤ b ∧ W.heap[b]? = some (.cells cs 3 (0, 0)) ∧ o + cap ≤ cs.size ∧ ∀ j x, T[j]? = some x → cs[o + j]? = some (.int .i64 ((x : Nat) : Int))
theorem Que.later {W W' : World} {base : Nat} {V : Value} {T : List Nat} (h : Que W base V T) (hb : Below W.heap.size W W') : Que W' base V T := by
  obtain ⟨b, o, cap, cs, e1, e2, e3, e4, e5, e6, e7⟩ := h
  exact ⟨b, o, cap, cs, e1, e2, e3, e4, (hb.block _ (Array.getElem?_eq_some_iff.1 e5).1).trans e5, e6, e7⟩
theorem Que.other {W : World} {base : Nat} {V : Value} {T : List Nat} (h : Que W base V T) {a : Addr} (ha : a.block < base) (v : Value) : Que (W.setCell a v) base V T := by
  obtain ⟨b, o, cap, cs, e1, e2, e3, e4, e5, e6, e7⟩ := h
  exact ⟨b, o, cap, cs, e1, e2, e3, e4, (heap_setCell_other W a b v (by omega)).trans e5, e6, e7⟩
/-- W' is W, but for what lies from base on -/
def Past (base : Nat) (W W' : World) : Prop := Below base W W'
theorem run_append_que (W : World) (base : Nat) (hbase : base ≤ W.heap.size) (V : Value) (T : List Nat) (h : Que W base V T) (ty : TypeId) (g : Nat) (x : Nat) (hg : W.heap[g]? = some (.cells #[.int .i64 (x : Int)] 3 (0, 0))) (hn : T.length ≤ 1000000) :
    ∃ V' W', (Builtin.append_ #[33, 33] ty #[V, .slice (some ⟨g, 0, none⟩) 1 1]).run Try.prog W = .ok V' W' ∧ Que W' base V' (T ++ [x]) ∧ Below base W W' ∧ (∀ q, q < W.heap.size → V.ownBlock ≠ some q → W'.heap[q]? = W.heap[q]?) ∧ (V'.ownBlock = V.ownBlock ∨ V'.ownBlock = some W.heap.size) := by
  obtain ⟨b, o, cap, cs, rfl, e2, e3, e4, e5, e6, e7⟩ := h
  obtain ⟨i0, hi, hz0, hz1, hz2⟩ := info_parts info_n
  have hnews : ∀ j u, [Value.int .i64 (x : Int)][j]? = some u → W.cell? ((⟨g, 0, none⟩ : Addr).add j) = some u := fun j u hu => by
    cases j with
    | succ j => simp at hu
    | zero =>
      simp at hu
      subst hu
      exact cell_of_heap hg 0 _ rfl
  have hone : ∀ u ∈ [Value.int .i64 (x : Int)], u.oneCell' = true := fun u hu => by simp at hu; subst hu; rfl
  by_cases hroom : T.length + 1 ≤ cap
  · have hf := run_firstCells_some (P := Try.prog) W i0.size 1 ⟨g, 0, none⟩ 1 1 [.int .i64 (x : Int)] (by rw [hz1]; rfl) hnews
    have hadd : (⟨b, o, none⟩ : Addr).add (T.length * i0.size) = ⟨b, o + T.length, none⟩ := by
      rw [hz1, Nat.mul_one]
      unfold Addr.add; split
      · rename_i h0; rw [h0, Nat.add_zero]
      · rfl
    have hst := run_storeCells_at Try.prog b (o + T.length) 3 [.int .i64 (x : Int)] 0 cs W e5 (by simp; omega) hone
    simp only [Nat.add_zero, List.length_singleton] at hst
    refine ⟨.slice (some ⟨b, o, none⟩) (T.length + 1) cap, W.setRow b (cs.toList.take (o + T.length) ++ [Value.int .i64 (x : Int)] ++ cs.toList.drop (o + T.length + 1)).toArray, ?_, ⟨b, o, cap, (cs.toList.take (o + T.length) ++ [Value.int .i64 (x : Int)] ++ cs.toList.drop (o + T.length + 1)).toArray, by simp, by simpa using hroom, e3, e4, setRow_heap W b cs _ _ _ e5, ?_, fun j y hj => ?_⟩, below_setRow (Below.refl _ _) e4 _, fun q hq hne => setRow_other W b q _ (fun e => hne (by simp [Value.ownBlock, e])), Or.inl rfl⟩
    · simp [Builtin.append_, run_underlying (P := Try.prog) (show Try.prog.underlying 33 = some (.slice 3) by kernel_rfl), sizeOf, typeInfo, hi, Builtin.lenOf, hroom, hf, hadd, hst]
    · simp
      omega
    · simp only [List.getElem?_toArray, List.append_assoc]
      have hcs : o + T.length < cs.toList.length := by simp; omega
      by_cases hjT : j < T.length
      · rw [List.getElem?_append_left hjT] at hj
        rw [List.getElem?_append_left (by simp; omega), List.getElem?_take, if_pos (by omega)]
        simpa using e7 j y hj
      · rw [List.getElem?_append_right (by omega)] at hj
        have hjj : j = T.length := by
          have := (List.getElem?_eq_some_iff.1 hj).1
          simp at this
          omega
        subst hjj
        simp at hj
        subst hj
        rw [List.getElem?_append_right (by simp; omega)]
        simp only [List.length_take]
        rw [show o + T.length - min (o + T.length) cs.toList.length = 0 by omega]
        rfl
  · have hr := run_append_grow (P := Try.prog) W 33 ty 3 i0 (.int .i64 0) (by kernel_rfl) hi hz0 ⟨b, o, none⟩ T.length cap (T.map fun x : Nat => Value.int .i64 (x : Int)) (by rw [hz1]; simp)
      (fun j v hj => by
        rw [List.getElem?_map] at hj
        cases hx : T[j]? with
        | none => rw [hx] at hj; cases hj
        | some y =>
          rw [hx] at hj
          simp only [Option.map_some, Option.some.injEq] at hj
          subst hj
          have hadd : (⟨b, o, none⟩ : Addr).add j = ⟨b, o + j, none⟩ := by
            unfold Addr.add; split
            · rename_i h0; rw [h0, Nat.add_zero]
            · rfl
          rw [hadd]
          exact cell_of_heap e5 _ _ (e7 j y hx)) ⟨g, 0, none⟩ 1 1 [.int .i64 (x : Int)] (by rw [hz1]; rfl) hnews (by omega) (by omega) (growslice_fits (by omega) (by rw [hz2]; omega))
    refine ⟨_, _, hr, ⟨W.heap.size, 0, _, _, by simp, by simpa using grownCap_ge W (T.length + 1) cap 3, grownCap_le_maxLen W (T.length + 1) cap 3 (by simp only [maxLen]; omega), hbase, heap_alloc_new W.drew _, ?_, fun j y hj => ?_⟩, ((Below.refl _ _).drew).alloc (by simpa using hbase) _, fun q hq _ => (Below.one W.drew _).block q hq, Or.inr rfl⟩
    · have := grownCap_ge W (T.length + 1) cap 3
      simp [size_zeroCells, Value.cells]
      omega
    · simp only [Nat.zero_add]
      have hjl := (List.getElem?_eq_some_iff.1 hj).1
      simp at hjl
      rw [Array.getElem?_append_left (by simp; omega)]
      by_cases hjT : j < T.length
      · rw [List.getElem?_append_left hjT] at hj
        rw [Array.getElem?_append_left (by simpa using hjT), List.getElem?_toArray, List.getElem?_map, hj]
        rfl
      · rw [List.getElem?_append_right (by omega)] at hj
        have hjj : j = T.length := by omega
        subst hjj
        simp at hj
        subst hj
        rw [Array.getElem?_append_right (by simp)]
        simp
/-- values, cloned -/
def ClonedV (base R : Nat) (v : List Vl) (e : Ending) (w : World) : Prop := ∃ nb cap, e = .returned (.slice (some ⟨nb, 0, none⟩) R cap) ∧ base ≤ nb ∧ PreV w nb v
theorem flatV_get : ∀ (v : List Vl) (j k : Nat), k < 2 → (v.flatMap gV)[j * 2 + k]? = (v[j]?).bind fun x => (gV x)[k]?
  | [], j, k, _ => by simp
  | x :: v, 0, k, hk => by
    rw [List.flatMap_cons, List.getElem?_append_left (by simp [gV]; omega)]
    simp
  | x :: v, j + 1, k, hk => by
    rw [List.flatMap_cons, List.getElem?_append_right (by simp [gV]; omega)]
    have h := flatV_get v j k hk
    rw [show (j + 1) * 2 + k - (gV x).length = j * 2 + k by simp [gV]; omega, h]
    simp
theorem flatV_len (v : List Vl) : (v.flatMap gV).length = v.length * 2 := by
  induction v with
  | nil => rfl
  | cons x v ih => simp [gV, ih]; omega
theorem flatV_one (v : List Vl) : ∀ u ∈ v.flatMap gV, u.oneCell' = true := fun u hu => by
  obtain ⟨x, _, hx⟩ := List.mem_flatMap.1 hu
  simp only [gV, List.mem_cons, List.not_mem_nil, or_false] at hx
  rcases hx with rfl | rfl <;> rfl
theorem flatV_src {W : World} {b : Nat} {v : List Vl} (h : PreV W b v) : ∀ j u, (v.flatMap gV)[j]? = some u → W.cell? ((⟨b, 0, none⟩ : Addr).add j) = some u := fun j u hu => by
  have hadd : (⟨b, 0, none⟩ : Addr).add j = ⟨b, j, none⟩ := by
    unfold Addr.add; split
    · rename_i h0; rw [h0]
    · simp
  rw [hadd]
  have hj : j / 2 * 2 + j % 2 = j := by omega
  rw [← hj, flatV_get v (j / 2) (j % 2) (Nat.mod_lt _ (by decide))] at hu
  cases hx : v[j / 2]? with
  | none => rw [hx] at hu; cases hu
  | some x =>
    rw [hx] at hu
    have := Pre.cell h hx (k := j % 2) (Nat.mod_lt _ (by decide)) (v := u) hu
    rwa [hj] at this
set_option maxRecDepth 1000000 in
/-- slices.Clone, of values -/
theorem clone_vals (v : List Vl) (R : Nat) (hR : v.length = R) (hR4 : R ≤ 4096) (b cap : Nat) (w : World) (h : PreV w b v) : Calls Try.prog 78 #[.slice (some ⟨b, 0, none⟩) R cap] w fun e w' => ClonedV w.heap.size R v e w' ∧ Below w.heap.size w w' := by
  have hB := Below.one w (.cells #[] 66)
  have h1 := Pre.later h hB
  obtain ⟨i0, hi, hz0, hz1, hz2⟩ := info_parts info_v
  have hown : (w.alloc (.cells #[] 66)).ownsRow w.heap.size 66 2 (.slice (some ⟨w.heap.size, 0, none⟩) 0 0) 0 [] := World.ownsRow_made w #[] 0 (Nat.le_refl _) (by decide) rfl
  obtain ⟨V', w', hr, h2, h3, h4, h5⟩ := run_append_own_at (P := Try.prog) (w.alloc (.cells #[] 66)) w.heap.size 67 67 66 i0 (.agg #[.int .i64 0, .int .i64 0]) 2 16 (by kernel_rfl) hi hz0 hz1 hz2 rfl (by decide) _ 0 [] hown ⟨b, 0, none⟩ R cap (v.flatMap gV) (by rw [flatV_len, hR]) (flatV_src h1) (flatV_one v) (by simp only [maxLen]; omega) (by omega) hB.size
  have hB2 : Below w.heap.size w w' := hB.grown h3 hB.size (fun k hk => by simp [Value.ownBlock] at hk; omega)
  have hT : ClonedV w.heap.size R v (.returned V') w' := by
    obtain ⟨_, h7⟩ := h2
    rcases h7 with ⟨rfl, hn⟩ | ⟨g, cap', cur, rfl, hBg, hg, hnc, _, hsz, htake⟩
    · have := (h4.1 rfl).1
      cases this
    · refine ⟨g, cap', by rw [Nat.zero_add], hBg, cur, hg, fun j x hx k hk => ?_⟩
      have hf := flatV_get v j k hk
      rw [hx] at hf
      simp only [Option.bind_some] at hf
      rw [List.nil_append, Nat.zero_add] at htake
      rw [← hf, ← htake]
      have hjl := (List.getElem?_eq_some_iff.1 hx).1
      rw [List.getElem?_take, if_pos (by omega)]
      simp
  have HT := Lib.hid hT
  clear hT h5 h4 h3 h2 hown h1 h hR
  have he : ∀ W : World, (binOp .eql 67 (.slice (some ⟨b, 0, none⟩) R cap) (.slice none 0 0)).run Try.prog W = .ok (.bool false) W := fun W => Lib.run_eql_slice_nil W 67 66 (some ⟨b, 0, none⟩) R cap 0 0 (by kernel_rfl)
  go_enter Try.func78, Try.ntmps78
  go_wp2_with (first
    | (at_builtin; go_must (refine append_ran rfl (.tmp 5) (.tmp 6) rfl rfl rfl hr ?_)))
  go_returns
  exact ⟨HT.out, hB2⟩
end Go.Proofs.Ytkcclefonmnpnaa

/- flow.Ahead: what its loops keep. -/
namespace Go.Proofs.Ytkcclefonmnpnaa
open Go.RowKit Go.BigFrame

/-- the rows' slices, the first k of them made -/
def hdr (L R ob k : Nat) : List Value := (List.range L).map fun j => if j < k then .slice (some ⟨ob + 1 + j, 0, none⟩) R R else .slice none 0 0
theorem hdr_get {L R ob k j : Nat} (hj : j < L) : (hdr L R ob k)[j]? = some (if j < k then .slice (some ⟨ob + 1 + j, 0, none⟩) R R else .slice none 0 0) := by simp [hdr, hj]
theorem hdr_zero (L R ob : Nat) : hdr L R ob 0 = List.replicate L (.slice none 0 0) := by
  apply List.ext_getElem?
  intro j
  by_cases hj : j < L
  · rw [hdr_get hj, if_neg (Nat.not_lt_zero j)]; simp [hj]
  · rw [List.getElem?_eq_none (by simp [hdr]; omega), List.getElem?_eq_none (by simp; omega)]
theorem hdr_set {L R ob k : Nat} (hk : k < L) : (hdr L R ob k).set k (.slice (some ⟨ob + 1 + k, 0, none⟩) R R) = hdr L R ob (k + 1) := by
  apply List.ext_getElem?
  intro j
  by_cases hj : j < L
  · rw [List.getElem?_set, hdr_get hj, hdr_get hj]
    by_cases h1 : k = j
    · subst h1; rw [if_pos rfl, if_pos (by simp [hdr, hk]), if_pos (by omega)]
    · rw [if_neg h1]
      by_cases h2 : j < k
      · rw [if_pos h2, if_pos (by omega)]
      · rw [if_neg h2, if_neg (by omega)]
  · rw [List.getElem?_eq_none (by simp [hdr]; omega), List.getElem?_eq_none (by simp [hdr]; omega)]
/-- the first loop -/
structure Lp1 (W1 W : World) (ob L R k : Nat) : Prop where
  h : Pre g1 1 67 W ob (hdr L R ob k)
  r : ∀ j, j < k → PreV W (ob + 1 + j) (List.replicate R nv)
  s : W.heap.size = ob + 1 + k
  b : Below ob W1 W
theorem Lp1.start {W1 : World} {L R : Nat} : Lp1 W1 (W1.alloc (.cells (madeCells #[.slice none 0 0] L) 67)) W1.heap.size L R 0 :=
  ⟨by
    have h := made_pre (g := g1) (d := 1) (t := 67) W1 #[.slice none 0 0] L (.slice none 0 0) rfl (fun k hk => by
      obtain rfl : k = 0 := by omega
      rfl)
    rw [Nat.mul_one] at h
    rw [hdr_zero]
    exact h, fun j hj => by omega, by simp, Below.one _ _⟩
theorem Lp1.next {W1 W : World} {ob L R k : Nat} (h : Lp1 W1 W ob L R k) (hk : k < L) : Lp1 W1 ((W.setCell ⟨ob, k, none⟩ (.slice (some ⟨W.heap.size, 0, none⟩) R R)).alloc (.cells (madeCells #[.int .i64 0, .int .i64 0] (R * 2)) 66)) ob L R (k + 1) := by
  rw [← World.setCell_alloc_past _ _ _ _ (Pre.lt h.h)]
  have hb := Below.one W (.cells (madeCells #[.int .i64 0, .int .i64 0] (R * 2)) 66)
  have h1 := Pre1.set (Pre.later h.h hb) (j := k) (by simp [hdr, hk]) (.slice (some ⟨ob + 1 + k, 0, none⟩) R R)
  rw [hdr_set hk] at h1
  have hs := h.s
  have hm := made_pre (g := gV) (d := 2) (t := 66) W #[.int .i64 0, .int .i64 0] R nv rfl (fun k hk => by
    have : k = 0 ∨ k = 1 := by omega
    rcases this with rfl | rfl <;> rfl)
  rw [hs] at hm ⊢
  exact ⟨h1, fun j hj => by
    by_cases hjk : j < k
    · exact Pre.other (Pre.later (h.r j hjk) hb) (by simp only; omega) _
    · obtain rfl : j = k := by omega
      exact Pre.other hm (by simp only; omega) _, by simp [hs]; omega, (h.b.alloc (by omega) _).setCell (Nat.le_refl _) _⟩
theorem Lp1.cell {W1 W : World} {ob L R k : Nat} (h : Lp1 W1 W ob L R k) (hk : k < L) : W.cell? ⟨ob, k, none⟩ = some (.slice none 0 0) := by
  have := Pre1.cell h.h (hdr_get hk)
  rwa [if_neg (Nat.lt_irrefl k)] at this
/-- the second loop: the first row -/
def fst (R : Nat) (ps : Int) (k : Nat) : List Vl := (List.range R).map fun (r : Nat) => if r < k then (if (r : Int) < ps then av else ⟨1, 0⟩) else nv
theorem fst_get {R k r : Nat} {ps : Int} (hr : r < R) : (fst R ps k)[r]? = some (if r < k then (if (r : Int) < ps then av else ⟨1, 0⟩) else nv) := by simp [fst, hr]
theorem fst_zero (R : Nat) (ps : Int) : fst R ps 0 = List.replicate R nv := by
  apply List.ext_getElem?
  intro j
  by_cases hj : j < R
  · rw [fst_get hj, if_neg (Nat.not_lt_zero j)]; simp [hj]
  · rw [List.getElem?_eq_none (by simp [fst]; omega), List.getElem?_eq_none (by simp; omega)]
theorem fst_set {R k : Nat} {ps : Int} (hk : k < R) : (fst R ps k).set k (if (k : Int) < ps then av else ⟨1, 0⟩) = fst R ps (k + 1) := by
  apply List.ext_getElem?
  intro j
  by_cases hj : j < R
  · rw [List.getElem?_set, fst_get hj, fst_get hj]
    by_cases h1 : k = j
    · subst h1; rw [if_pos rfl, if_pos (by simp [fst, hk]), if_pos (Nat.lt_succ_self k)]
    · rw [if_neg h1]
      by_cases h2 : j < k
      · rw [if_pos h2, if_pos (show j < k + 1 by omega)]
      · rw [if_neg h2, if_neg (show ¬ j < k + 1 by omega)]
  · rw [List.getElem?_eq_none (by simp [fst]; omega), List.getElem?_eq_none (by simp [fst]; omega)]
theorem fst_ini (f : Fn7) : fst f.R.toNat f.ps f.R.toNat = ini f := by
  apply List.ext_getElem?
  intro j
  by_cases hj : j < f.R.toNat
  · rw [fst_get hj, if_pos hj]; simp [ini, hj]
  · rw [List.getElem?_eq_none (by simp [fst]; omega), List.getElem?_eq_none (by simp [ini]; omega)]
structure Lp2 (W3 W : World) (fo R : Nat) (ps : Int) (k : Nat) : Prop where
  h : PreV W fo (fst R ps k)
  s : W.heap.size = fo + 1
  b : Below fo W3 W
theorem Lp2.start {W3 : World} {R : Nat} {ps : Int} : Lp2 W3 (W3.alloc (.cells (madeCells #[.int .i64 0, .int .i64 0] (R * 2)) 66)) W3.heap.size R ps 0 :=
  ⟨by
    rw [fst_zero]
    exact made_pre (g := gV) (d := 2) (t := 66) W3 #[.int .i64 0, .int .i64 0] R nv rfl (fun k hk => by
      have : k = 0 ∨ k = 1 := by omega
      rcases this with rfl | rfl <;> rfl), by simp, Below.one _ _⟩
theorem Lp2.next0 {W3 W : World} {fo R k : Nat} {ps : Int} (h : Lp2 W3 W fo R ps k) (hk : k < R) (hp : ¬ (k : Int) < ps) : Lp2 W3 ((W.setCell ⟨fo, k * 2, none⟩ (.int .i64 1)).setCell ⟨fo, k * 2 + 1, none⟩ (.int .i64 0)) fo R ps (k + 1) := by
  have h1 := PreV.set h.h (fst_get hk) (if (k : Int) < ps then av else ⟨1, 0⟩)
  rw [fst_set hk, if_neg hp] at h1
  exact ⟨h1, by simpa using h.s, (h.b.setCell (Nat.le_refl _) _).setCell (Nat.le_refl _) _⟩
theorem Lp2.next1 {W3 W : World} {fo R k : Nat} {ps : Int} (h : Lp2 W3 W fo R ps k) (hk : k < R) (hp : (k : Int) < ps) : Lp2 W3 (((W.setCell ⟨fo, k * 2, none⟩ (.int .i64 1)).setCell ⟨fo, k * 2 + 1, none⟩ (.int .i64 0)).setCell ⟨fo, k * 2, none⟩ (.int .i64 2)) fo R ps (k + 1) := by
  have h1 := PreV.set h.h (fst_get hk) ⟨1, 0⟩
  have hl : k < (fst R ps k).length := by simp [fst, hk]
  have h2 := Pre.store (y := av) h1 (List.getElem?_set_self hl) (k := 0) (v := .int .i64 2) (by omega) rfl rfl (fun k' hk' => by
    match k' with
    | 0 => exact absurd rfl hk'
    | 1 => rfl
    | k' + 2 => rfl)
  rw [List.set_set] at h2
  have h3 := fst_set (ps := ps) hk
  rw [if_pos hp] at h3
  rw [h3, Nat.add_zero] at h2
  exact ⟨h2, by simpa using h.s, ((h.b.setCell (Nat.le_refl _) _).setCell (Nat.le_refl _) _).setCell (Nat.le_refl _) _⟩
/-- the memory of the third loop -/
structure Mem (W1 W : World) (ob L R : Nat) (M : List (List Vl)) (Cm : List Bool) : Prop where
  b : Below ob W1 W
  h : Pre g1 1 67 W ob (hdr L R ob L)
  r : ∀ p v, M[p]? = some v → PreV W (ob + 1 + p) v
  c : Pre gB 1 4 W (ob + 1 + L) Cm
  s : ob + 2 + L ≤ W.heap.size
  l : M.length = L
theorem Mem.past {W1 W W' : World} {ob L R : Nat} {M : List (List Vl)} {Cm : List Bool} (h : Mem W1 W ob L R M Cm) (hb : Below (ob + 2 + L) W W') : Mem W1 W' ob L R M Cm :=
  ⟨h.b.trans (hb.mono (by omega)), h.h.of_heap (hb.block _ (by omega)), fun p v hv => Pre.of_heap (h.r p v hv) (hb.block _ (by have := (List.getElem?_eq_some_iff.1 hv).1; have := h.l; omega)), h.c.of_heap (hb.block _ (by omega)), Nat.le_trans h.s hb.size, h.l⟩
theorem Mem.later {W1 W W' : World} {ob L R : Nat} {M : List (List Vl)} {Cm : List Bool} (h : Mem W1 W ob L R M Cm) (hb : Below W.heap.size W W') : Mem W1 W' ob L R M Cm := h.past (hb.mono h.s)
theorem Mem.head {W1 W : World} {ob L R : Nat} {M : List (List Vl)} {Cm : List Bool} (h : Mem W1 W ob L R M Cm) {p : Nat} (hp : p < L) : W.cell? ⟨ob, p, none⟩ = some (.slice (some ⟨ob + 1 + p, 0, none⟩) R R) := by
  have := Pre1.cell h.h (hdr_get hp)
  rwa [if_pos hp] at this
theorem Mem.setC {W1 W : World} {ob L R : Nat} {M : List (List Vl)} {Cm : List Bool} (h : Mem W1 W ob L R M Cm) {n : Nat} (hn : n < Cm.length) (v : Bool) : Mem W1 (W.setCell ⟨ob + 1 + L, n, none⟩ (.bool v)) ob L R M (Cm.set n v) :=
  ⟨h.b.setCell (by simp only; omega) _, h.h.other (by simp only; omega) _, fun p v' hv => Pre.other (h.r p v' hv) (by have := (List.getElem?_eq_some_iff.1 hv).1; have := h.l; simp only; omega) _, PreB.set h.c hn v, by simpa using h.s, h.l⟩
theorem Mem.setV {W1 W : World} {ob L R : Nat} {M : List (List Vl)} {Cm : List Bool} (h : Mem W1 W ob L R M Cm) {n j : Nat} {u : List Vl} {x : Vl} (hn : M[n]? = some u) (hj : u[j]? = some x) (y : Vl) :
    Mem W1 ((W.setCell ⟨ob + 1 + n, j * 2, none⟩ (.int .i64 y.k)).setCell ⟨ob + 1 + n, j * 2 + 1, none⟩ (.int .i64 y.n)) ob L R (M.set n (u.set j y)) Cm := by
  have hnl := (List.getElem?_eq_some_iff.1 hn).1
  have hl := h.l
  exact ⟨(h.b.setCell (by simp only; omega) _).setCell (by simp only; omega) _, (h.h.other (by simp only; omega) _).other (by simp only; omega) _, fun p v' hv => by
    by_cases hp : n = p
    · subst hp
      rw [List.getElem?_set_self hnl] at hv
      injection hv with hv
      subst hv
      exact PreV.set (h.r n u hn) hj y
    · rw [List.getElem?_set_ne hp] at hv
      exact Pre.other (Pre.other (h.r p v' hv) (by simp only; omega) _) (by simp only; omega) _, (h.c.other (by simp only; omega) _).other (by simp only; omega) _, by simpa using h.s, by simpa using h.l⟩
theorem Mem.setR {W1 W W' : World} {ob L R : Nat} {M : List (List Vl)} {Cm : List Bool} (h : Mem W1 W ob L R M Cm) {n : Nat} (hn : n < L) {u : List Vl} (hu : PreV W' (ob + 1 + n) u) (ho : ∀ b, b ≠ ob + 1 + n → W'.heap[b]? = W.heap[b]?) (hs : W'.heap.size = W.heap.size) (hb : Below (ob + 1 + n) W W') : Mem W1 W' ob L R (M.set n u) Cm :=
  ⟨h.b.trans (hb.mono (by omega)), h.h.of_heap (ho _ (by omega)), fun p v' hv => by
    by_cases hp : n = p
    · subst hp
      rw [List.getElem?_set_self (by rw [h.l]; exact hn)] at hv
      injection hv with hv
      subst hv
      exact hu
    · rw [List.getElem?_set_ne hp] at hv
      exact Pre.of_heap (h.r p v' hv) (ho _ (by omega)), h.c.of_heap (ho _ (by omega)), by rw [hs]; exact h.s, by simpa using h.l⟩
/-- behind the first two loops -/
theorem Mem.start {W1 w2 W3 w4 : World} {ob L R fo : Nat} {ps : Int} (h1 : Lp1 W1 w2 ob L R L) (hc : Pre gB 1 4 W3 (ob + 1 + L) (List.replicate L false)) (hb : Below w2.heap.size w2 W3) (hfo : fo = ob + 2 + L) (h2 : Lp2 W3 w4 fo R ps R) : Mem W1 w4 ob L R (List.replicate L (List.replicate R nv)) (List.replicate L false) := by
  have hs := h1.s
  have hb2 : Below w2.heap.size w2 w4 := hb.trans (h2.b.mono (by omega))
  exact ⟨h1.b.trans (hb2.mono (by omega)), Pre.later h1.h hb2, fun p v hv => by
    have hp := (List.getElem?_eq_some_iff.1 hv).1
    simp at hp
    have hv' : v = List.replicate R nv := by simp [hp] at hv; exact hv.symm
    rw [hv']
    exact Pre.later (h1.r p hp) hb2, hc.of_heap (h2.b.block _ (by omega)), by have := h2.s; omega, by simp⟩
/-- rows told -/
def RdM (w : World) (ob R : Nat) (M : List (List Vl)) : Prop := ∃ pb : Nat → Nat, ∀ p v, M[p]? = some v → w.cell? ⟨ob, p, none⟩ = some (.slice (some ⟨pb p, 0, none⟩) R R) ∧ PreV w (pb p) v
theorem RdM.later {w w' : World} {ob R : Nat} {M : List (List Vl)} (h : RdM w ob R M) (hb : Below w.heap.size w w') : RdM w' ob R M := by
  obtain ⟨pb, h⟩ := h
  exact ⟨pb, fun p v hv => ⟨(hb.cell (World.block_lt_of_cell? w ⟨ob, p, none⟩ (h p v hv).1)).trans (h p v hv).1, Pre.later (h p v hv).2 hb⟩⟩
theorem Mem.told {W1 W : World} {ob L R : Nat} {M : List (List Vl)} {Cm : List Bool} (h : Mem W1 W ob L R M Cm) : RdM W ob R M :=
  ⟨fun p => ob + 1 + p, fun p v hv => ⟨h.head (by have := (List.getElem?_eq_some_iff.1 hv).1; have := h.l; omega), h.r p v hv⟩⟩
end Go.Proofs.Ytkcclefonmnpnaa

/- flow.Ahead: the list of what is to do; how it begins. -/
namespace Go.Proofs.Ytkcclefonmnpnaa
open Go.RowKit Go.BigFrame

theorem que_tail {W : World} {base : Nat} {V : Value} {p : Nat} {T : List Nat} (h : Que W base V (p :: T)) :
    ∃ b o cap V', V = .slice (some ⟨b, o, none⟩) (T.length + 1) cap ∧ T.length + 1 ≤ cap ∧ W.cell? ⟨b, o, none⟩ = some (.int .i64 p) ∧ Que W base V' T ∧ (∃ A c, V' = .slice A T.length c) ∧
      ∀ W2 : World, (Instr.slice 33 (.slice (some ⟨b, o, none⟩) (T.length + 1) cap) (some (.int .i64 1)) none none).run Try.prog W2 = .ok V' W2 := by
  obtain ⟨b, o, cap, cs, e1, e2, e3, e4, e5, e6, e7⟩ := h
  obtain ⟨i0, hi, hz0, hz1, hz2⟩ := info_parts info_n
  simp only [List.length_cons] at e1 e2
  have hc := e7 0 p rfl
  have hu : Try.prog.underlying 33 = some (.slice 3) := by kernel_rfl
  refine ⟨b, o, cap, .slice (if cap = 1 then some ⟨b, o, none⟩ else some ⟨b, o + 1, none⟩) T.length (cap - 1), e1, e2, cell_of_heap e5 o _ (by simpa using hc), ?_, ⟨_, _, rfl⟩, fun W2 => ?_⟩
  · by_cases h1 : cap = 1
    · rw [if_pos h1]
      have hT : T.length = 0 := by omega
      exact ⟨b, o, cap - 1, cs, rfl, by omega, by omega, e4, e5, by omega, fun j x hj => by have := (List.getElem?_eq_some_iff.1 hj).1; omega⟩
    · rw [if_neg h1]
      exact ⟨b, o + 1, cap - 1, cs, rfl, by omega, by omega, e4, e5, by omega, fun j x hj => by have := e7 (j + 1) x hj; rwa [show o + 1 + j = o + (j + 1) by omega]⟩
  · have hadd : (⟨b, o, none⟩ : Addr).add 1 = ⟨b, o + 1, none⟩ := rfl
    simp [Instr.slice, run_underlying hu, Instr.sliceBounds, Instr.sliceBound, asIntOf, sizeOf, typeInfo, hi, hz1]
    rw [if_pos (by omega), hadd]
theorem sum_bound {α : Type} (g : α → Nat) (c : Nat) : ∀ l : List α, (∀ x ∈ l, g x ≤ c) → (l.map g).sum ≤ l.length * c
  | [], _ => by simp
  | x :: l, h => by
    have h1 := h x (by simp)
    have h2 := sum_bound g c l (fun y hy => h y (by simp [hy]))
    simp only [List.map_cons, List.sum_cons, List.length_cons, Nat.succ_mul]
    omega
theorem pot_bound {f : Fn7} {M : List (List Vl)} {C : List Bool} (h : Shp f M) (hC : C.length = f.code.length) : pot M C ≤ 2 * (f.code.length * (f.R.toNat + 1)) := by
  have h1 := sum_bound rpot (f.R.toNat * 2) M (fun v hv => by
    have h2 := sum_bound rk 2 v (fun x _ => by unfold rk; split; omega; split <;> omega)
    unfold rpot
    rw [(h.rows v hv).1] at h2
    exact h2)
  have h3 := sum_bound cw 1 C (fun b _ => by unfold cw; split <;> omega)
  rw [h.len] at h1
  rw [hC] at h3
  unfold pot
  have e : f.code.length * (f.R.toNat * 2) = 2 * (f.code.length * f.R.toNat) := by rw [Nat.mul_comm f.R.toNat, ← Nat.mul_assoc, Nat.mul_comm f.code.length 2, Nat.mul_assoc]
  rw [e] at h1
  rw [Nat.mul_add]
  omega
def M0 (f : Fn7) : List (List Vl) := (List.replicate f.code.length (List.replicate f.R.toNat nv)).set 0 (ini f)
def C0 (f : Fn7) : List Bool := (List.replicate f.code.length false).set 0 true
theorem ini_ok (f : Fn7) : rok (ini f) := fun x hx => by
  simp only [ini, List.mem_map] at hx
  obtain ⟨r, _, rfl⟩ := hx
  split
  · exact Or.inr rfl
  · exact Or.inl rfl
theorem ini_len (f : Fn7) : (ini f).length = f.R.toNat := by simp [ini]
theorem never_at (R r : Nat) : at_ (List.replicate R nv) r = nv := by
  by_cases h : r < R
  · rw [at_in (by simpa using h)]; simp
  · rw [at_out (by simpa using h)]
theorem row_M0 (f : Fn7) (p : Nat) : row (M0 f) p = if p = 0 ∧ 0 < f.code.length then ini f else if p < f.code.length then List.replicate f.R.toNat nv else [] := by
  unfold M0
  rw [row_set]
  by_cases h : 0 = p ∧ p < (List.replicate f.code.length (List.replicate f.R.toNat nv)).length
  · obtain ⟨rfl, h2⟩ := h
    rw [if_pos ⟨rfl, h2⟩, if_pos ⟨rfl, by simpa using h2⟩]
  · rw [if_neg h, if_neg (by rintro ⟨rfl, h2⟩; exact h ⟨rfl, by simpa using h2⟩)]
    by_cases hp : p < f.code.length
    · rw [if_pos hp]; simp [row, List.getD, hp]
    · rw [if_neg hp]; simp [row, List.getD, hp]
theorem cm_C0 (f : Fn7) (p : Nat) : cm (C0 f) p = true ↔ p = 0 ∧ 0 < f.code.length := by
  unfold C0
  rw [cm_set]
  by_cases h : 0 = p ∧ p < (List.replicate f.code.length false).length
  · rw [if_pos h]
    obtain ⟨rfl, h2⟩ := h
    exact ⟨fun _ => ⟨rfl, by simpa using h2⟩, fun _ => rfl⟩
  · rw [if_neg h]
    constructor
    · intro hc
      exfalso
      by_cases hp : p < f.code.length
      · simp [cm, List.getD, hp] at hc
      · simp [cm, List.getD, hp] at hc
    · rintro ⟨rfl, h2⟩
      exact absurd ⟨rfl, by simpa using h2⟩ h
/-- how it begins -/
theorem Head.start {f : Fn7} (hf : OkF f) : Head f (M0 f) (C0 f) [0] := by
  have hL : 0 < f.code.length := hf.len.1
  have h0 : row (M0 f) 0 = ini f := by rw [row_M0, if_pos ⟨rfl, hL⟩]
  have hn : ∀ p, p ≠ 0 → ∀ r, at_ (row (M0 f) p) r = nv := fun p hp r => by
    rw [row_M0, if_neg (fun e => hp e.1)]
    split
    · exact never_at _ r
    · rw [at_out (by simp)]
  refine ⟨⟨⟨by simp [M0], fun v hv => ?_⟩, by simp [C0], fun N hN p => ?_, by rw [h0]; exact rle.refl _, fun p hp => ?_, fun p hp r => ?_, (cm_C0 f 0).2 ⟨rfl, hL⟩, fun p hp => ?_⟩, fun p hp => ?_⟩
  · rcases List.mem_or_eq_of_mem_set hv with hv | rfl
    · obtain ⟨_, rfl⟩ := List.mem_replicate.1 hv
      exact ⟨by simp, fun x hx => by obtain ⟨_, rfl⟩ := List.mem_replicate.1 hx; exact Or.inl rfl⟩
    · exact ⟨ini_len f, fun x hx => (ini_ok f x hx).wf⟩
  · by_cases hp : p = 0
    · rw [hp, h0]; exact hN.start
    · intro r; rw [hn p hp r]; exact Or.inl rfl
  · obtain ⟨rfl, _⟩ := (cm_C0 f p).1 hp
    rw [h0]; exact ini_ok f
  · refine hn p (fun e => ?_) r
    rw [e, (cm_C0 f 0).2 ⟨rfl, hL⟩] at hp
    cases hp
  · simp at hp; rw [hp]; exact (cm_C0 f 0).2 ⟨rfl, hL⟩
  · left; rw [((cm_C0 f p).1 hp).1]; simp
theorem flatV_pre {cs : Array Value} {W : World} {b : Nat} {v : List Vl} {rest : List Value} (hg : W.heap[b]? = some (.cells cs 66 (0, 0))) (hc : cs.toList = v.flatMap gV ++ rest) : PreV W b v :=
  ⟨cs, hg, fun j x hx k hk => by
    have hf := flatV_get v j k hk
    rw [hx] at hf
    simp only [Option.bind_some] at hf
    rw [← hf, ← Array.getElem?_toList, hc, List.getElem?_append_left]
    rw [flatV_len]
    have := (List.getElem?_eq_some_iff.1 hx).1
    omega⟩
theorem PreV.room {W : World} {b : Nat} {v : List Vl} (h : PreV W b v) : ∃ cs, W.heap[b]? = some (.cells cs 66 (0, 0)) ∧ v.length * 2 ≤ cs.size := by
  obtain ⟨cs, h1, h2⟩ := h
  refine ⟨cs, h1, ?_⟩
  by_cases h0 : v.length = 0
  · omega
  · have h3 := h2 (v.length - 1) (v[v.length - 1]'(by omega)) (by simp) 1 (by omega)
    have h4 : (gV (v[v.length - 1]'(by omega)))[1]? = some (.int .i64 (v[v.length - 1]'(by omega)).n) := rfl
    rw [h4] at h3
    have := (Array.getElem?_eq_some_iff.1 h3).1
    omega
/-- copy, of one row onto another one -/
theorem copy_vals {W : World} {g fo R : Nat} {v u : List Vl} (h : PreV W g v) (hu : PreV W fo u) (hv : v.length = R) (hul : u.length = R) (ty : TypeId) :
    ∃ W', (Builtin.copy_ #[67, 67] ty #[.slice (some ⟨g, 0, none⟩) R R, .slice (some ⟨fo, 0, none⟩) R R]).run Try.prog W = .ok (goInt R) W' ∧ PreV W' g u ∧ (∀ b, b ≠ g → W'.heap[b]? = W.heap[b]?) ∧ W'.heap.size = W.heap.size ∧ Below g W W' := by
  obtain ⟨cs, h1, h2⟩ := PreV.room h
  have hr := run_copy_any (P := Try.prog) W 67 67 ty 66 g 0 R R ⟨fo, 0, none⟩ R R cs 66 (u.flatMap gV) 2 R (by kernel_rfl) sVal h1 (Nat.min_self R).symm (by rw [flatV_len, hul]) (flatV_src hu) (by rw [flatV_len]; omega) (flatV_one u)
  refine ⟨_, hr, flatV_pre (rest := cs.toList.drop (0 + (u.flatMap gV).length)) (setRow_heap W g cs _ _ _ h1) (by simp), fun b hb => setRow_other W g b _ hb, by simp, below_setRow (Below.refl _ _) (Nat.le_refl _) _⟩
/-- what the third loop keeps -/
structure Third (f : Fn7) (W1 W : World) (ob L Rn : Nat) (g : Nat) (V : Value) (M : List (List Vl)) (Cm : List Bool) (T : List Nat) : Prop where
  head : Head f M Cm T
  mem : Mem W1 W ob L Rn M Cm
  que : Que W (ob + 2 + L) V T
  meas : g = T.length + 2 * pot M Cm
  g3 : g ≤ 300000
theorem Third.start {f : Fn7} {W1 w5 : World} {ob L Rn : Nat} {ps : Int} (hf : OkF f) (hL : f.code.length = L) (hR : f.R.toNat = Rn) (hps : f.ps = ps) (hsz : L * (Rn + 1) ≤ 65536) {o : Obj} (ho : o = .cells #[.int .i64 0] 3)
    (hM : Mem W1 w5 ob L Rn ((List.replicate L (List.replicate Rn nv)).set 0 (fst Rn ps Rn)) ((List.replicate L false).set 0 true)) :
    Third f W1 (w5.alloc o) ob L Rn (1 + 2 * pot (M0 f) (C0 f)) (.slice (some ⟨w5.heap.size, 0, none⟩) 1 1) (M0 f) (C0 f) [0] := by
  subst hL hR hps ho
  rw [fst_ini] at hM
  have hH := Head.start hf
  refine ⟨hH, Mem.later hM (Below.one _ _), ⟨w5.heap.size, 0, 1, #[.int .i64 0], rfl, by simp, by decide, hM.s, heap_alloc_new w5 _, by simp, fun j x hj => ?_⟩, rfl, ?_⟩
  · cases j with
    | zero => simp at hj; subst hj; rfl
    | succ j => simp at hj
  · have := pot_bound hH.way.shp hH.way.clen
    omega
theorem cell_alloc {W : World} {a : Addr} {v : Value} {o : Obj} (h : W.cell? a = some v) : (W.alloc o).cell? a = some v := ((Below.one W o).cell (World.block_lt_of_cell? W a h)).trans h
theorem cell_below {W W' : World} {a : Addr} {v : Value} (hb : Below W.heap.size W W') (h : W.cell? a = some v) : W'.cell? a = some v := (hb.cell (World.block_lt_of_cell? W a h)).trans h
theorem cell_drew {W W' : World} {a : Addr} {v : Value} (hb : Below W.heap.size W.drew W') (h : W.cell? a = some v) : W'.cell? a = some v := (hb.cell (World.block_lt_of_cell? W a h)).trans h
theorem cell_below_row {W W' : World} {a : Addr} {v : Value} (hb : Below W.heap.size W W') (cs : Array Value) (h : W.cell? a = some v) : (W'.setRow W.heap.size cs).cell? a = some v :=
  (cell_setRow_other W' W.heap.size cs a (Nat.ne_of_lt (World.block_lt_of_cell? W a h))).trans (cell_below hb h)
theorem step_store_row {P : Program} {ops : Array Oper} {o : Oper} {a : Act} {w : World} {K : Act → World → Prop} {Q : Exit → Act → World → Prop} {E : Prop} (hgd : o.guard = none) (ty : TypeId) (x y : Operand) (ho : o.op = .store ty x y)
    (g : Nat) (cells : Array Value) (hx : a.eval x = .pointer (some ⟨g, 0, none⟩)) (hy : a.eval y = .agg cells)
    (t : TypeId) (old : Array Value) (hg : w.heap[g]? = some (.cells old t (0, 0))) (hi : (P.info? ty).map (·.size) = some cells.size)
    (hold : old.size = cells.size) (h1 : cells.all (·.oneCell') = true)
    (h : K (a.put o.dst undef) (w.setRow g cells)) : if Region.wanted o (yielded ops a.tmps) = true then Oper.wp P o a w K Q else E := by
  have hw : Region.wanted o (yielded ops a.tmps) = true := by simp [Region.wanted, hgd]
  rw [if_pos hw]
  exact wp_store_row ty x y ho g cells hx hy t old hg hi hold h1 h
abbrev zeroI : Ins := ⟨0, 0, 0, 0, 0, 0, ⟨#[]⟩, 0, 0, 0, 0, 0, 0, 0, 0⟩
theorem ins_one (i : Ins) : (i.l.toArray.all (·.oneCell')) = true := by simp [Value.oneCell']
abbrev put15 (W : World) (q : Nat) (i : Ins) : World := (((((((((((((((W.setCell ⟨q, 0, none⟩ (.int .i64 i.kind)).setCell ⟨q, 1, none⟩ (.int .i64 i.op)).setCell ⟨q, 2, none⟩ (.int .i64 i.dst)).setCell ⟨q, 3, none⟩ (.int .i64 i.a)).setCell ⟨q, 4, none⟩ (.int .i64 i.b)).setCell ⟨q, 5, none⟩ (.int .i64 i.n)).setCell ⟨q, 6, none⟩ (.string i.text)).setCell ⟨q, 7, none⟩ (.int .i64 i.r0)).setCell ⟨q, 8, none⟩ (.int .i64 i.r1)).setCell ⟨q, 9, none⟩ (.int .i64 i.r2)).setCell ⟨q, 10, none⟩ (.int .i64 i.r3)).setCell ⟨q, 11, none⟩ (.int .i64 i.r4)).setCell ⟨q, 12, none⟩ (.int .i64 i.r5)).setCell ⟨q, 13, none⟩ (.int .i64 i.to_)).setCell ⟨q, 14, none⟩ (.int .i64 i.els))
theorem cell_put15 {W W' : World} {a : Addr} {v : Value} {i : Ins} (hb : Below W.heap.size W W') (h : W.cell? a = some v) : (put15 W' W.heap.size i).cell? a = some v := by
  have hne := Nat.ne_of_lt (World.block_lt_of_cell? W a h)
  have hs : ∀ (V : World) (j : Nat) (u : Value), V.cell? a = some v → (V.setCell ⟨W.heap.size, j, none⟩ u).cell? a = some v := fun V j u hV => (World.cell?_of_block (heap_setCell_other V ⟨W.heap.size, j, none⟩ a.block u hne)).trans hV
  unfold put15
  repeat apply hs
  exact cell_below hb h
theorem heap_put15 {W : World} {q : Nat} {i : Ins} (h : W.heap[q]? = some zeroI.obj) : (put15 W q i).heap[q]? = some i.obj := by
  unfold put15
  have h0 := heap_setCell h (j := 0) (.int .i64 i.kind)
  simp only [List.setIfInBounds_toArray, List.set_cons_zero] at h0
  have h1 := heap_setCell h0 (j := 1) (.int .i64 i.op)
  simp only [List.setIfInBounds_toArray, List.set_cons_zero, List.set_cons_succ] at h1
  have h2 := heap_setCell h1 (j := 2) (.int .i64 i.dst)
  simp only [List.setIfInBounds_toArray, List.set_cons_zero, List.set_cons_succ] at h2
  have h3 := heap_setCell h2 (j := 3) (.int .i64 i.a)
  simp only [List.setIfInBounds_toArray, List.set_cons_zero, List.set_cons_succ] at h3
  have h4 := heap_setCell h3 (j := 4) (.int .i64 i.b)
  simp only [List.setIfInBounds_toArray, List.set_cons_zero, List.set_cons_succ] at h4
  have h5 := heap_setCell h4 (j := 5) (.int .i64 i.n)
  simp only [List.setIfInBounds_toArray, List.set_cons_zero, List.set_cons_succ] at h5
  have h6 := heap_setCell h5 (j := 6) (.string i.text)
  simp only [List.setIfInBounds_toArray, List.set_cons_zero, List.set_cons_succ] at h6
  have h7 := heap_setCell h6 (j := 7) (.int .i64 i.r0)
  simp only [List.setIfInBounds_toArray, List.set_cons_zero, List.set_cons_succ] at h7
  have h8 := heap_setCell h7 (j := 8) (.int .i64 i.r1)
  simp only [List.setIfInBounds_toArray, List.set_cons_zero, List.set_cons_succ] at h8
  have h9 := heap_setCell h8 (j := 9) (.int .i64 i.r2)
  simp only [List.setIfInBounds_toArray, List.set_cons_zero, List.set_cons_succ] at h9
  have h10 := heap_setCell h9 (j := 10) (.int .i64 i.r3)
  simp only [List.setIfInBounds_toArray, List.set_cons_zero, List.set_cons_succ] at h10
  have h11 := heap_setCell h10 (j := 11) (.int .i64 i.r4)
  simp only [List.setIfInBounds_toArray, List.set_cons_zero, List.set_cons_succ] at h11
  have h12 := heap_setCell h11 (j := 12) (.int .i64 i.r5)
  simp only [List.setIfInBounds_toArray, List.set_cons_zero, List.set_cons_succ] at h12
  have h13 := heap_setCell h12 (j := 13) (.int .i64 i.to_)
  simp only [List.setIfInBounds_toArray, List.set_cons_zero, List.set_cons_succ] at h13
  have h14 := heap_setCell h13 (j := 14) (.int .i64 i.els)
  simp only [List.setIfInBounds_toArray, List.set_cons_zero, List.set_cons_succ] at h14
  exact h14
theorem below_put15 {W0 W : World} {B q : Nat} {i : Ins} (h : Below B W0 W) (hq : B ≤ q) : Below B W0 (put15 W q i) := by
  have hs : ∀ (V : World) (j : Nat) (u : Value), Below B W0 V → Below B W0 (V.setCell ⟨q, j, none⟩ u) := fun V j u hV => hV.setCell (p := ⟨q, j, none⟩) hq u
  unfold put15
  repeat apply hs
  exact h
theorem block_put15 {W : World} {b q : Nat} {i : Ins} (h : b ≠ q) : (put15 W q i).heap[b]? = W.heap[b]? := by
  have hs : ∀ (V : World) (j : Nat) (u : Value), V.heap[b]? = W.heap[b]? → (V.setCell ⟨q, j, none⟩ u).heap[b]? = W.heap[b]? := fun V j u hV => (heap_setCell_other V ⟨q, j, none⟩ b u h).trans hV
  unfold put15
  repeat apply hs
  rfl
theorem sI : (Try.prog.info? 32).map (·.size) = some 15 := by kernel_rfl
theorem zero_kept {W w6 : World} (hb : Below (W.alloc zeroI.obj).drew.heap.size (W.alloc zeroI.obj).drew w6) : Below W.heap.size W w6 ∧ w6.heap[W.heap.size]? = some zeroI.obj ∧ (w6.cell? ⟨W.heap.size, 0, none⟩ = some (.int .i64 0) ∧ w6.cell? ⟨W.heap.size, 1, none⟩ = some (.int .i64 0) ∧ w6.cell? ⟨W.heap.size, 2, none⟩ = some (.int .i64 0) ∧ w6.cell? ⟨W.heap.size, 3, none⟩ = some (.int .i64 0) ∧ w6.cell? ⟨W.heap.size, 4, none⟩ = some (.int .i64 0) ∧ w6.cell? ⟨W.heap.size, 5, none⟩ = some (.int .i64 0) ∧ w6.cell? ⟨W.heap.size, 6, none⟩ = some (.string ⟨#[]⟩) ∧ w6.cell? ⟨W.heap.size, 7, none⟩ = some (.int .i64 0) ∧ w6.cell? ⟨W.heap.size, 8, none⟩ = some (.int .i64 0) ∧ w6.cell? ⟨W.heap.size, 9, none⟩ = some (.int .i64 0) ∧ w6.cell? ⟨W.heap.size, 10, none⟩ = some (.int .i64 0) ∧ w6.cell? ⟨W.heap.size, 11, none⟩ = some (.int .i64 0) ∧ w6.cell? ⟨W.heap.size, 12, none⟩ = some (.int .i64 0) ∧ w6.cell? ⟨W.heap.size, 13, none⟩ = some (.int .i64 0) ∧ w6.cell? ⟨W.heap.size, 14, none⟩ = some (.int .i64 0)) ∧ ∀ j, w6.frozen? ⟨W.heap.size, j, none⟩ = false := by
  have hz : w6.heap[W.heap.size]? = some zeroI.obj := (hb.block W.heap.size (by show W.heap.size < (W.alloc zeroI.obj).heap.size; simp)).trans (heap_alloc_new W zeroI.obj)
  exact ⟨((Below.one W zeroI.obj).drew).trans (hb.mono (by show W.heap.size ≤ (W.alloc zeroI.obj).heap.size; simp)), hz, Ins.cells hz, fun j => free_of_heap hz j⟩
/-- behind 'i, v := f.Code[at], slices.Clone(out[at])' -/
def Cut24 (W Wx : World) (i : Ins) (v : List Vl) (R : Nat) (a b : Value) : Prop :=
  ∃ ib nb nc, a = .pointer (some ⟨ib, 0, none⟩) ∧ b = .slice (some ⟨nb, 0, none⟩) R nc ∧ Below W.heap.size W Wx ∧ Wx.heap[ib]? = some i.obj ∧ PreV Wx nb v ∧ W.heap.size ≤ nb ∧ W.heap.size ≤ ib
theorem Cut24.a {W w6 : World} {i : Ins} {v : List Vl} {R nb nc : Nat} (hb : Below W.heap.size W w6) (hnb : W.heap.size ≤ nb) (h : PreV w6 nb v) : Cut24 W (w6.alloc i.obj) i v R (.pointer (some ⟨w6.heap.size, 0, none⟩)) (.slice (some ⟨nb, 0, none⟩) R nc) :=
  ⟨_, _, _, rfl, rfl, hb.alloc hb.size _, heap_alloc_new _ _, Pre.later h (Below.one _ _), hnb, hb.size⟩
theorem Cut24.b {W w6 : World} {i : Ins} {v : List Vl} {R nb nc : Nat} (hb : Below W.heap.size W w6) (hz : w6.heap[W.heap.size]? = some zeroI.obj) (hnb : (W.alloc zeroI.obj).heap.size ≤ nb) (h : PreV w6 nb v) : Cut24 W (put15 w6 W.heap.size i) i v R (.pointer (some ⟨W.heap.size, 0, none⟩)) (.slice (some ⟨nb, 0, none⟩) R nc) := by
  have hs : (W.alloc zeroI.obj).heap.size = W.heap.size + 1 := by simp
  exact ⟨_, _, _, rfl, rfl, below_put15 hb (Nat.le_refl _), heap_put15 hz, Pre.of_heap h (block_put15 (by omega)), by omega, Nat.le_refl _⟩
theorem Cut24.apart {W : World} {ib nb : Nat} {i : Ins} {v : List Vl} (h1 : W.heap[ib]? = some i.obj) (h2 : PreV W nb v) : ib ≠ nb := by
  rintro rfl
  obtain ⟨cs, h3, _⟩ := h2
  rw [h1] at h3
  injection h3 with h3
  injection h3 with _ h4
  exact absurd h4 (by decide)
end Go.Proofs.Ytkcclefonmnpnaa

/- the document's Next, in memory of its own. -/
namespace Go.Proofs.Ytkcclefonmnpnaa
open Go.RowKit Go.BigFrame

set_option maxRecDepth 1000000 in
set_option maxHeartbeats 4000000 in
theorem refNext_fr (i : Ins) (p : Int) (hp : 0 ≤ p ∧ p ≤ 100000) (w : World) : Calls Try.prog 19 #[i.agg, .int .i64 p] w fun e w' => SlF w.heap.size (i.next p) e w' ∧ Below w.heap.size w w' := by
  obtain ⟨k, op, dst, a, b, n, text, r0, r1, r2, r3, r4, r5, to_, els⟩ := i
  have hb0 := Below.one w (Ins.obj ⟨k, op, dst, a, b, n, text, r0, r1, r2, r3, r4, r5, to_, els⟩)
  have bx := heap_alloc_new w (Ins.obj ⟨k, op, dst, a, b, n, text, r0, r1, r2, r3, r4, r5, to_, els⟩)
  simp only [Ins.obj, Ins.agg, Ins.next] at hb0 bx ⊢
  have hwr : wrap64 (p + 1) = p + 1 := by unfold wrap64; omega
  have hone : ∀ (W : World) (x : Int), RdN (W.alloc (.cells #[.int .i64 x] 3)) (some ⟨W.heap.size, 0, none⟩) [x] := fun W x j y hj => by
    cases j with
    | succ j => simp at hj
    | zero =>
      simp at hj
      subst hj
      exact ⟨W.heap.size, 0, rfl, by simp, cell_of_heap (heap_alloc_new W (.cells #[.int .i64 x] 3)) 0 _ rfl⟩
  have htwo : ∀ (W : World) (x y : Int), RdN (W.alloc (.cells #[.int .i64 x, .int .i64 y] 3)) (some ⟨W.heap.size, 0, none⟩) [x, y] := fun W x y j z hj => by
    have hn := heap_alloc_new W (.cells #[.int .i64 x, .int .i64 y] 3)
    match j with
    | 0 => simp at hj; subst hj; exact ⟨W.heap.size, 0, rfl, by simp, cell_of_heap hn 0 _ rfl⟩
    | 1 => simp at hj; subst hj; exact ⟨W.heap.size, 0, rfl, by simp, cell_of_heap hn 1 _ rfl⟩
    | j + 2 => simp at hj
  have h1 := hone (w.alloc (Ins.obj ⟨k, op, dst, a, b, n, text, r0, r1, r2, r3, r4, r5, to_, els⟩))
  have h2 := htwo (w.alloc (Ins.obj ⟨k, op, dst, a, b, n, text, r0, r1, r2, r3, r4, r5, to_, els⟩))
  simp only [Ins.obj] at h1 h2
  rw [show (w.alloc (Ins.obj ⟨k, op, dst, a, b, n, text, r0, r1, r2, r3, r4, r5, to_, els⟩)).heap.size = w.heap.size + 1 by simp] at h1 h2
  by_cases e11 : k = 11
  · subst e11
    go_enter Try.func19, Try.ntmps19
    go_wp2
    go_returns
    exact ⟨⟨_, 1, rfl, h1 _, fun b o h => by injection h with h; injection h with h; omega⟩, hb0.alloc hb0.size _⟩
  · rw [if_neg e11]
    have q1 : (k == 11) = false := by simpa using e11
    by_cases e12 : k = 12
    · subst e12
      go_enter Try.func19, Try.ntmps19
      go_wp2
      go_returns
      exact ⟨⟨_, 2, rfl, h2 _ _, fun b o h => by injection h with h; injection h with h; omega⟩, hb0.alloc hb0.size _⟩
    · rw [if_neg e12]
      have q2 : (k == 12) = false := by simpa using e12
      by_cases e13 : k = 13
      · subst e13
        go_enter Try.func19, Try.ntmps19
        go_wp2
        go_returns
        exact ⟨⟨none, 0, rfl, fun j y hj => by simp at hj, fun b o h => by cases h⟩, hb0⟩
      · rw [if_neg e13]
        have q3 : (k == 13) = false := by simpa using e13
        clear e11 e12 e13
        go_enter Try.func19, Try.ntmps19
        go_wp2
        go_returns
        exact ⟨⟨_, 1, rfl, h1 _, fun b o h => by injection h with h; injection h with h; omega⟩, hb0.alloc hb0.size _⟩
end Go.Proofs.Ytkcclefonmnpnaa

/- code.Clone. -/
namespace Go.Proofs.Ytkcclefonmnpnaa
open Go.RowKit Go.BigFrame

abbrev PreI (W : World) (b : Nat) (l : List Ins) : Prop := Pre Ins.l 15 32 W b l
theorem ins_len (i : Ins) : (Ins.l i).length = 15 := rfl
theorem PreI.read {W : World} {b : Nat} {l : List Ins} (h : PreI W b l) : RdI W (some ⟨b, 0, none⟩) l := fun j i hi => by
  refine ⟨b, 0, rfl, Pre.lt h, fun k hk => ?_⟩
  obtain ⟨cs, h1, h2⟩ := h
  rw [Nat.zero_add, cell_of_row W b _ cs _ _ h1]
  exact h2 j i hi k hk
theorem flatI_get : ∀ (v : List Ins) (j k : Nat), k < 15 → (v.flatMap Ins.l)[j * 15 + k]? = (v[j]?).bind fun x => (Ins.l x)[k]?
  | [], j, k, _ => by simp
  | x :: v, 0, k, hk => by
    rw [List.flatMap_cons, List.getElem?_append_left (by rw [ins_len]; omega)]
    simp
  | x :: v, j + 1, k, hk => by
    rw [List.flatMap_cons, List.getElem?_append_right (by rw [ins_len]; omega)]
    have h := flatI_get v j k hk
    rw [show (j + 1) * 15 + k - (Ins.l x).length = j * 15 + k by rw [ins_len]; omega, h]
    simp
theorem flatI_len (v : List Ins) : (v.flatMap Ins.l).length = v.length * 15 := by
  induction v with
  | nil => rfl
  | cons x v ih => rw [List.flatMap_cons, List.length_append, ih, ins_len, List.length_cons]; omega
theorem flatI_one (v : List Ins) : ∀ u ∈ v.flatMap Ins.l, u.oneCell' = true := fun u hu => by
  obtain ⟨x, _, hx⟩ := List.mem_flatMap.1 hu
  simp only [List.mem_cons, List.not_mem_nil, or_false] at hx
  rcases hx with rfl | rfl | rfl | rfl | rfl | rfl | rfl | rfl | rfl | rfl | rfl | rfl | rfl | rfl | rfl <;> rfl
theorem flatI_src {W : World} {b o : Nat} {v : List Ins} (h : RdI W (some ⟨b, o, none⟩) v) : ∀ j u, (v.flatMap Ins.l)[j]? = some u → W.cell? ((⟨b, o, none⟩ : Addr).add j) = some u := fun j u hu => by
  have hadd : (⟨b, o, none⟩ : Addr).add j = ⟨b, o + j, none⟩ := by
    unfold Addr.add; split
    · rename_i h0; rw [h0, Nat.add_zero]
    · rfl
  rw [hadd]
  have hj : j / 15 * 15 + j % 15 = j := by omega
  rw [← hj, flatI_get v (j / 15) (j % 15) (Nat.mod_lt _ (by decide))] at hu
  cases hx : v[j / 15]? with
  | none => rw [hx] at hu; cases hu
  | some x =>
    rw [hx] at hu
    obtain ⟨b', o', e1, _, e3⟩ := h (j / 15) x hx
    injection e1 with e1
    injection e1 with e2 e4
    subst e2 e4
    have := e3 (j % 15) (Nat.mod_lt _ (by decide))
    rw [hj] at this
    rw [this]
    exact hu
theorem info_i : (Try.prog.info? 32).map (fun i => (i.zero, i.size, i.bytes)) = some (some zeroI.agg, 15, 128) := by kernel_rfl
theorem make_ins (L : Nat) (hL : L ≤ 100000) (W : World) : (Instr.makeSlice 22 (.int .i64 L) (.int .i64 L)).run Try.prog W = .ok (.slice (some ⟨W.heap.size, 0, none⟩) L L) (W.alloc (.cells (madeCells zeroI.l.toArray (L * 15)) 32)) := by
  obtain ⟨i0, hi, hz0, hz1, hz2⟩ := info_parts info_i
  have := run_make (P := Try.prog) W 22 32 i0 zeroI.agg (by kernel_rfl) hi hz0 .i64 .i64 L L (by omega) (by omega) (by rw [hz2]; omega) (by omega)
  simpa [hz1, Value.cells] using this
theorem copy_ins {W : World} {b o L cap : Nat} {v : List Ins} (h : RdI W (some ⟨b, o, none⟩) v) (hv : v.length = L) (ty : TypeId) :
    ∃ W', (Builtin.copy_ #[22, 22] ty #[.slice (some ⟨W.heap.size, 0, none⟩) L L, .slice (some ⟨b, o, none⟩) L cap]).run Try.prog (W.alloc (.cells (madeCells zeroI.l.toArray (L * 15)) 32)) = .ok (goInt L) W' ∧ PreI W' W.heap.size v ∧ Below W.heap.size W W' ∧ W'.heap.size = W.heap.size + 1 := by
  have hb := Below.one W (.cells (madeCells zeroI.l.toArray (L * 15)) 32)
  have hn := heap_alloc_new W (.cells (madeCells zeroI.l.toArray (L * 15)) 32)
  have hs : (madeCells zeroI.l.toArray (L * 15)).size = L * 15 := by simp [madeCells]
  have hr := run_copy_any (P := Try.prog) _ 22 22 ty 32 W.heap.size 0 L L ⟨b, o, none⟩ L cap _ 32 (v.flatMap Ins.l) 15 L (by kernel_rfl) sI hn (Nat.min_self L).symm (by rw [flatI_len, hv]) (flatI_src (h.below hb)) (by rw [flatI_len, hv, hs]; omega) (flatI_one v)
  refine ⟨_, hr, ⟨_, setRow_heap _ W.heap.size _ _ _ _ hn, fun j x hx k hk => ?_⟩, below_setRow hb (Nat.le_refl _) _, by simp⟩
  have hf := flatI_get v j k hk
  rw [hx] at hf
  simp only [Option.bind_some] at hf
  rw [← hf, List.getElem?_toArray, List.take_zero, List.nil_append, List.getElem?_append_left]
  rw [flatI_len]
  have := (List.getElem?_eq_some_iff.1 hx).1
  omega
theorem sF : (Try.prog.info? 24).map (·.size) = some 5 := by kernel_rfl
theorem func_one (nm : ByteArray) (ps R Fr : Int) (A : Option Addr) (n c : Nat) : (#[Value.string nm, .int .i64 ps, .int .i64 R, .int .i64 Fr, .slice A n c].all (·.oneCell')) = true := by simp [Value.oneCell']
def ClonedF (base : Nat) (f : Fn7) (e : Ending) (w : World) : Prop := ∃ nb, e = .returned (funcAgg f.nm f.ps f.R f.Fr (some ⟨nb, 0, none⟩) f.code.length f.code.length) ∧ base ≤ nb ∧ PreI w nb f.code
set_option maxRecDepth 1000000 in
set_option maxHeartbeats 4000000 in
theorem clone_code (f : Fn7) (hL0 : 1 ≤ f.code.length ∧ f.code.length ≤ 8192) (C : Option Addr) (cap : Nat) (w : World) (hC : RdI w C f.code) :
    Calls Try.prog 23 #[funcAgg f.nm f.ps f.R f.Fr C f.code.length cap] w fun e w' => ClonedF w.heap.size f e w' ∧ Below w.heap.size w w' := by
  have hi0 : f.code[0]? = some (f.code[0]'(by omega)) := by simp
  obtain ⟨b, o, rfl, hbl, _⟩ := hC 0 _ hi0
  clear hi0
  obtain ⟨L, hL⟩ : ∃ L, f.code.length = L := ⟨_, rfl⟩
  have HL := Lib.hid hL
  rw [hL] at hL0
  simp only [funcAgg, hL]
  clear hL
  have b0 := heap_alloc_new w (.cells #[.string f.nm, .int .i64 f.ps, .int .i64 f.R, .int .i64 f.Fr, .slice (some ⟨b, o, none⟩) L cap] 24)
  have b1 := heap_alloc_new (w.alloc (.cells #[.string f.nm, .int .i64 f.ps, .int .i64 f.R, .int .i64 f.Fr, .slice (some ⟨b, o, none⟩) L cap] 24)) (.cells #[.string ⟨#[]⟩, .int .i64 0, .int .i64 0, .int .i64 0, .slice none 0 0] 24)
  rw [show (w.alloc (.cells #[.string f.nm, .int .i64 f.ps, .int .i64 f.R, .int .i64 f.Fr, .slice (some ⟨b, o, none⟩) L cap] 24)).heap.size = w.heap.size + 1 by simp] at b1
  have b0 := alloc_keeps b0 (.cells #[.string ⟨#[]⟩, .int .i64 0, .int .i64 0, .int .i64 0, .slice none 0 0] 24)
  have hB := (Below.one w (.cells #[.string f.nm, .int .i64 f.ps, .int .i64 f.R, .int .i64 f.Fr, .slice (some ⟨b, o, none⟩) L cap] 24)).alloc (by simp) (.cells #[.string ⟨#[]⟩, .int .i64 0, .int .i64 0, .int .i64 0, .slice none 0 0] 24)
  obtain ⟨W, hW⟩ : ∃ W, (w.alloc (.cells #[.string f.nm, .int .i64 f.ps, .int .i64 f.R, .int .i64 f.Fr, .slice (some ⟨b, o, none⟩) L cap] 24)).alloc (.cells #[.string ⟨#[]⟩, .int .i64 0, .int .i64 0, .int .i64 0, .slice none 0 0] 24) = W := ⟨_, rfl⟩
  have hsW : w.heap.size + 2 ≤ W.heap.size := by rw [← hW]; simp
  rw [hW] at b0 b1 hB
  have y4 := cell_of_heap b0 4 (.slice (some ⟨b, o, none⟩) L cap) rfl
  have hl0 := (Array.getElem?_eq_some_iff.1 b0).1
  obtain ⟨W2, hcp, hP, hB2, hs2⟩ := copy_ins (cap := cap) (hC.below hB) HL.out 3
  have hmk := fun W => make_ins L (by omega) W
  have c0 := (hB2.block _ hl0).trans b0
  have c1 := (hB2.block _ (Array.getElem?_eq_some_iff.1 b1).1).trans b1
  have hBB := hB.trans (hB2.mono hB.size)
  have z0 := cell_of_heap c0 0 (.string f.nm) rfl
  have z1 := cell_of_heap c0 1 (.int .i64 f.ps) rfl
  have z2 := cell_of_heap c0 2 (.int .i64 f.R) rfl
  have z3 := cell_of_heap c0 3 (.int .i64 f.Fr) rfl
  have z4 := cell_of_heap c0 4 (.slice (some ⟨b, o, none⟩) L cap) rfl
  have zf := free_of_heap c0
  have HP := Lib.hid hP
  have HS2 := Lib.hid hs2
  clear hC hP hs2 b0 b1
  have d1 := (heap_setCell_other W2 ⟨w.heap.size, 4, none⟩ (w.heap.size + 1) (.slice (some ⟨W.heap.size, 0, none⟩) L L) (by simp only; omega)).trans c1
  have hR := setRow_heap _ _ _ #[.string f.nm, .int .i64 f.ps, .int .i64 f.R, .int .i64 f.Fr, .slice (some ⟨W.heap.size, 0, none⟩) L L] _ _ d1
  have r0 := cell_of_heap hR 0 (.string f.nm) rfl
  have r1 := cell_of_heap hR 1 (.int .i64 f.ps) rfl
  have r2 := cell_of_heap hR 2 (.int .i64 f.R) rfl
  have r3 := cell_of_heap hR 3 (.int .i64 f.Fr) rfl
  have r4 := cell_of_heap hR 4 (.slice (some ⟨W.heap.size, 0, none⟩) L L) rfl
  have HPF : Hid (PreI ((W2.setCell ⟨w.heap.size, 4, none⟩ (.slice (some ⟨W.heap.size, 0, none⟩) L L)).setRow (w.heap.size + 1) #[.string f.nm, .int .i64 f.ps, .int .i64 f.R, .int .i64 f.Fr, .slice (some ⟨W.heap.size, 0, none⟩) L L]) W.heap.size f.code) := Lib.hid (Pre.of_heap (Pre.other HP.out (by simp only; omega) _) (setRow_other _ _ _ _ (by omega)))
  have HBF : Hid (Below w.heap.size w ((W2.setCell ⟨w.heap.size, 4, none⟩ (.slice (some ⟨W.heap.size, 0, none⟩) L L)).setRow (w.heap.size + 1) #[.string f.nm, .int .i64 f.ps, .int .i64 f.R, .int .i64 f.Fr, .slice (some ⟨W.heap.size, 0, none⟩) L L])) := Lib.hid (below_setRow (hBB.setCell (Nat.le_refl _) _) (by omega) _)
  have HSW := Lib.hid hsW
  clear hR hsW c0 c1 hB hBB hB2 hbl
  go_enter Try.func23, Try.ntmps23
  go_wp2_with (first
    | (refine copy_ran (o := ⟨some 11, _, _, _, _, _⟩) rfl (.tmp 8) (.tmp 10) rfl rfl rfl hcp ?_)
    | (show wpList Try.prog _ _ (⟨none, .store _ (.tmp 2) _, _, _, _, _⟩ :: _) _ _; refine wpList_store_row rfl 24 (.tmp 2) (.tmp 14) rfl (w.heap.size + 1) #[.string f.nm, .int .i64 f.ps, .int .i64 f.R, .int .i64 f.Fr, .slice (some ⟨W.heap.size, 0, none⟩) L L] rfl rfl 24 _ d1 sF rfl (func_one _ _ _ _ _ _ _) ?_))
  (try simp only [Exit.inBlock, Exit.then])
  refine bodyPost_ret (by simp [results, Try.results23, go_sem, r0, r1, r2, r3, r4]; try rfl) rfl ?_
  exact ⟨⟨W.heap.size, by rw [HL.out], by have := HSW.out; omega, HPF.out⟩, HBF.out⟩
theorem ins_one_l (i : Ins) : ∀ v ∈ i.l, v.oneCell' = true := by
  have h := ins_one i
  rw [List.all_toArray, List.all_eq_true] at h
  exact h
/-- the code that the law makes -/
def OwnI (w : World) (base : Nat) (V : Value) (l : List Ins) : Prop := w.ownsRow base 32 15 V l.length (l.flatMap Ins.l)
theorem OwnI.keep {w w' : World} {base : Nat} {V : Value} {l : List Ins} (h : OwnI w base V l) (hk : ∀ g, base ≤ g → g < w.heap.size → V.ownBlock = some g → w'.heap[g]? = w.heap[g]?) : OwnI w' base V l := by
  obtain ⟨h1, h2⟩ := h
  refine ⟨h1, ?_⟩
  rcases h2 with h2 | ⟨g, cap, cur, rfl, hB, hg, h3⟩
  · exact Or.inl h2
  · exact Or.inr ⟨g, cap, cur, rfl, hB, (hk g hB (Array.getElem?_eq_some_iff.1 hg).1 rfl).trans hg, h3⟩
theorem OwnI.nil (w : World) (base : Nat) : OwnI w base (.slice none 0 0) [] := World.ownsRow_nil w base 32 15
theorem info_i2 : (Try.prog.info? 32).map (fun i => (i.zero, i.size, i.bytes)) = some (some zeroI.agg, 15, 128) := info_i
/-- append(V, x) -/
theorem append_ins1 {W : World} {base : Nat} {V : Value} {l : List Ins} (hown : OwnI W base V l) (x : Ins) (hl : l.length ≤ 100000) (hb : base ≤ W.heap.size) (ty : TypeId) :
    ∃ V' W', (Builtin.append_ #[22, 22] ty #[V, .slice (some ⟨W.heap.size, 0, none⟩) 1 1]).run Try.prog (W.alloc (.cells x.l.toArray 32)) = .ok V' W' ∧ OwnI W' base V' (l ++ [x]) ∧ (W.alloc (.cells x.l.toArray 32)).grownBy W' V.ownBlock ∧ (∃ g cap, V' = .slice (some ⟨g, 0, none⟩) (l.length + 1) cap ∧ base ≤ g ∧ PreI W' g (l ++ [x])) := by
  obtain ⟨i0, hi, hz0, hz1, hz2⟩ := info_parts info_i2
  have hb0 := Below.one W (.cells x.l.toArray 32)
  have hn := heap_alloc_new W (.cells x.l.toArray 32)
  have hown' : OwnI (W.alloc (.cells x.l.toArray 32)) base V l := hown.keep fun g _ hg _ => hb0.block g hg
  obtain ⟨V', w', hr, h1, h2, h3, h4⟩ := run_append_own_at (P := Try.prog) _ base 22 ty 32 i0 zeroI.agg 15 128 (by kernel_rfl) hi hz0 hz1 hz2 rfl (by decide) V l.length (l.flatMap Ins.l) hown' ⟨W.heap.size, 0, none⟩ 1 1 x.l (by rw [ins_len])
    (fun j u hu => by
      have hadd : (⟨W.heap.size, 0, none⟩ : Addr).add j = ⟨W.heap.size, j, none⟩ := by
        unfold Addr.add; split
        · rename_i h0; rw [h0]
        · simp
      rw [hadd]
      exact cell_of_heap hn j u (by simpa using hu)) (ins_one_l x) (by simp [maxLen]; omega) (by omega) (by simp; omega)
  have hfl : (l ++ [x]).flatMap Ins.l = l.flatMap Ins.l ++ x.l := by simp
  have hO : OwnI w' base V' (l ++ [x]) := by
    unfold OwnI
    rw [hfl, List.length_append]
    exact h1
  refine ⟨V', w', hr, hO, h2, ?_⟩
  obtain ⟨ha, hh⟩ := h1
  rcases hh with ⟨rfl, h0⟩ | ⟨g, cap, cur, rfl, hB, hg, hnc, _, hsz, htake⟩
  · omega
  · refine ⟨g, cap, rfl, hB, cur, hg, fun j y hj k hk => ?_⟩
    have hf := flatI_get (l ++ [x]) j k hk
    rw [hj] at hf
    simp only [Option.bind_some] at hf
    rw [← hf, hfl, ← htake, List.getElem?_take]
    have hjl := (List.getElem?_eq_some_iff.1 hj).1
    rw [List.length_append, List.length_singleton] at hjl
    rw [if_pos (by omega)]
    simp
end Go.Proofs.Ytkcclefonmnpnaa

/- WHAT A FUNCTION IS THAT COMES IN: its name, its numbers, its instructions. -/
namespace Go.Proofs.Ytkcclefonmnpnaa
open Go.ChangeShapes Go.WideShapes Go.ChangeAt Go.RowKit

theorem oi3 : Try.prog.underlying 3 = some (.int .i64) := by kernel_rfl
theorem oiop : Try.prog.underlying 29 = some (.int .i64) := by kernel_rfl
theorem ois : Try.prog.underlying 9 = some .string := by kernel_rfl
theorem oia : Try.prog.underlying 30 = some (.array 6 3) := by kernel_rfl
theorem oiI : Try.prog.underlying 32 = some (.struct (Try.prog.fieldsOf 32)) := by kernel_rfl
theorem oiF : Try.prog.underlying 24 = some (.struct (Try.prog.fieldsOf 24)) := by kernel_rfl
theorem oc3 : Try.prog.cellsOf 3 = 1 := by kernel_rfl
theorem ocop : Try.prog.cellsOf 29 = 1 := by kernel_rfl
theorem ocs : Try.prog.cellsOf 9 = 1 := by kernel_rfl
theorem oca : Try.prog.cellsOf 30 = 6 := by kernel_rfl
theorem ocl : Try.prog.cellsOf 22 = 1 := by kernel_rfl
theorem ocI : Try.prog.cellsOf 32 = 15 := by kernel_rfl
theorem ocF : Try.prog.cellsOf 24 = 5 := by kernel_rfl
theorem ofI : (Try.prog.fieldsOf 32).toList.map (fun f => (f.type, f.offset)) = [(3, 0), (29, 1), (3, 2), (3, 3), (3, 4), (3, 5), (9, 6), (30, 7), (3, 13), (3, 14)] := by kernel_rfl
theorem ofF : (Try.prog.fieldsOf 24).toList.map (fun f => (f.type, f.offset)) = [(9, 0), (3, 1), (3, 2), (3, 3), (22, 4)] := by kernel_rfl
theorem field_at {fs : Array Field} {l : List (Nat × Nat)} (h : fs.toList.map (fun f => (f.type, f.offset)) = l) (i : Nat) (p : Nat × Nat) (hp : l[i]? = some p) : ∃ f, fs[i]? = some f ∧ f.type = p.1 ∧ f.offset = p.2 := by
  subst h
  rw [List.getElem?_map] at hp
  cases hf : fs.toList[i]? with
  | none => rw [hf] at hp; cases hp
  | some f =>
    rw [hf] at hp
    injection hp with hp
    subst hp
    exact ⟨f, by simpa using hf, rfl, rfl⟩
theorem cell_lt {w : World} {b o : Nat} {v : Value} (h : w.cell? ⟨b, o, none⟩ = some v) : b < w.heap.size := by
  by_cases hb : b < w.heap.size
  · exact hb
  · have : w.heap[b]? = none := by simp; omega
    simp [World.cell?, this] at h
section
variable {H : Type} {enc : TypeId × Value → H} {w : World} {base : Nat} {sp : Nat → Bool} {held : Bool} {fuel : Nat} {cs : List Value} {x : DataW H × List MemPlace}
set_option maxRecDepth 100000 in
theorem trod_args (h : DataW.trod enc Try.prog w base sp held fuel 30 cs = some x) : ∃ r0 r1 r2 r3 r4 r5 : Int, cs = [.int .i64 r0, .int .i64 r1, .int .i64 r2, .int .i64 r3, .int .i64 r4, .int .i64 r5] := by
  obtain ⟨xs, m, _, _, hl, hxl, hi⟩ := DataW.trod_array oia h
  rw [oca] at hl
  have h0 := hi 0 (by omega)
  have h1 := hi 1 (by omega)
  have h2 := hi 2 (by omega)
  have h3 := hi 3 (by omega)
  have h4 := hi 4 (by omega)
  have h5 := hi 5 (by omega)
  rw [oc3, List.getElem?_eq_getElem (by omega)] at h0 h1 h2 h3 h4 h5
  obtain ⟨n0, e0, _⟩ := DataW.trod_int oi3 h0
  obtain ⟨n1, e1, _⟩ := DataW.trod_int oi3 h1
  obtain ⟨n2, e2, _⟩ := DataW.trod_int oi3 h2
  obtain ⟨n3, e3, _⟩ := DataW.trod_int oi3 h3
  obtain ⟨n4, e4, _⟩ := DataW.trod_int oi3 h4
  obtain ⟨n5, e5, _⟩ := DataW.trod_int oi3 h5
  match cs, hl with
  | [a, b, c, d, e, f], _ =>
    simp at e0 e1 e2 e3 e4 e5
    exact ⟨n0, n1, n2, n3, n4, n5, by simp [e0, e1, e2, e3, e4, e5]⟩
set_option maxRecDepth 100000 in
theorem trod_ins (h : DataW.trod enc Try.prog w base sp held fuel 32 cs = some x) : ∃ i : Ins, cs = i.l := by
  obtain ⟨xs, m, _, _, hl, hxl, hi⟩ := DataW.trod_struct oiI h
  have hsz : (Try.prog.fieldsOf 32).size = 10 := by simpa using congrArg List.length ofI
  rw [ocI] at hl
  rw [hsz] at hxl
  obtain ⟨f0, a0, b0, c0⟩ := field_at ofI 0 _ rfl
  obtain ⟨f1, a1, b1, c1⟩ := field_at ofI 1 _ rfl
  obtain ⟨f2, a2, b2, c2⟩ := field_at ofI 2 _ rfl
  obtain ⟨f3, a3, b3, c3⟩ := field_at ofI 3 _ rfl
  obtain ⟨f4, a4, b4, c4⟩ := field_at ofI 4 _ rfl
  obtain ⟨f5, a5, b5, c5⟩ := field_at ofI 5 _ rfl
  obtain ⟨f6, a6, b6, c6⟩ := field_at ofI 6 _ rfl
  obtain ⟨f7, a7, b7, c7⟩ := field_at ofI 7 _ rfl
  obtain ⟨f8, a8, b8, c8⟩ := field_at ofI 8 _ rfl
  obtain ⟨f9, a9, b9, c9⟩ := field_at ofI 9 _ rfl
  have h0 := hi 0 f0 a0
  have h1 := hi 1 f1 a1
  have h2 := hi 2 f2 a2
  have h3 := hi 3 f3 a3
  have h4 := hi 4 f4 a4
  have h5 := hi 5 f5 a5
  have h6 := hi 6 f6 a6
  have h7 := hi 7 f7 a7
  have h8 := hi 8 f8 a8
  have h9 := hi 9 f9 a9
  rw [b0, c0, oc3, List.getElem?_eq_getElem (by omega)] at h0
  rw [b1, c1, ocop, List.getElem?_eq_getElem (by omega)] at h1
  rw [b2, c2, oc3, List.getElem?_eq_getElem (by omega)] at h2
  rw [b3, c3, oc3, List.getElem?_eq_getElem (by omega)] at h3
  rw [b4, c4, oc3, List.getElem?_eq_getElem (by omega)] at h4
  rw [b5, c5, oc3, List.getElem?_eq_getElem (by omega)] at h5
  rw [b6, c6, ocs, List.getElem?_eq_getElem (by omega)] at h6
  rw [b7, c7, oca, List.getElem?_eq_getElem (by omega)] at h7
  rw [b8, c8, oc3, List.getElem?_eq_getElem (by omega)] at h8
  rw [b9, c9, oc3, List.getElem?_eq_getElem (by omega)] at h9
  obtain ⟨n0, e0, _⟩ := DataW.trod_int oi3 h0
  obtain ⟨n1, e1, _⟩ := DataW.trod_int oiop h1
  obtain ⟨n2, e2, _⟩ := DataW.trod_int oi3 h2
  obtain ⟨n3, e3, _⟩ := DataW.trod_int oi3 h3
  obtain ⟨n4, e4, _⟩ := DataW.trod_int oi3 h4
  obtain ⟨n5, e5, _⟩ := DataW.trod_int oi3 h5
  obtain ⟨s6, e6, _⟩ := DataW.trod_string ois h6
  obtain ⟨r0, r1, r2, r3, r4, r5, e7⟩ := trod_args h7
  obtain ⟨n8, e8, _⟩ := DataW.trod_int oi3 h8
  obtain ⟨n9, e9, _⟩ := DataW.trod_int oi3 h9
  clear hi h0 h1 h2 h3 h4 h5 h6 h7 h8 h9
  match cs, hl with
  | [a, b, c, d, e, f, g, k0, k1, k2, k3, k4, k5, u, v], _ =>
    simp at e0 e1 e2 e3 e4 e5 e6 e7 e8 e9
    exact ⟨⟨n0, n1, n2, n3, n4, n5, s6, r0, r1, r2, r3, r4, r5, n8, n9⟩, by simp [e0, e1, e2, e3, e4, e5, e6, e7, e8, e9]⟩
theorem addr_add2 (b o q m : Nat) : ((⟨b, o, none⟩ : Addr).add q).add m = ⟨b, o + (q + m), none⟩ := by
  rw [Go.Deep.add_add]; unfold Addr.add; split
  · rename_i h0; rw [h0, Nat.add_zero]
  · rfl
theorem no_spot {a : Addr} {v : Value} {n : Nat} (h : w.cell? (a.add n) = some v) (hn : n = 0) : a.spot = none := by
  subst hn
  rcases hs : a.spot with _ | s
  · rfl
  · exfalso
    have e1 : a.add 0 = a := by simp [Addr.add]
    rw [e1] at h
    have : w.cell? a = none := by unfold World.cell?; split <;> simp [hs]
    rw [this] at h
    cases h
set_option maxRecDepth 100000 in
theorem trod_instrs (h : DataW.trod enc Try.prog w 0 sp held fuel 22 cs = some x) (hsp : ∀ b, sp b = true) : ∃ (A : Option Addr) (l : List Ins) (cap : Nat), cs = [.slice A l.length cap] ∧ RdI w A l ∧ l.length ≤ 9223372036854775807 := by
  rcases Go.Deep.open_slice (e := 32) (by kernel_rfl) h with ⟨hcs, _⟩ | ⟨a, len, cap, m, n, D, Pl, hcs, _, hlc, hcm, hm, hx, hi⟩
  · exact ⟨none, [], 0, hcs, (fun j f hf => by simp at hf), by simp⟩
  · rw [ocI] at hi
    have hm' : m = cap := by rw [hm, if_pos (hsp _)]
    subst hm'
    have hrows : ∀ i, i < len → ∃ r : Ins, w.cells? 0 (a.add (i * 15)) 15 = some r.l := fun i hil => by
      obtain ⟨cs', hc, ht⟩ := hi i (by omega)
      obtain ⟨r, rfl⟩ := trod_ins ht
      exact ⟨r, hc⟩
    haveI : Inhabited Ins := ⟨⟨0, 0, 0, 0, 0, 0, ⟨#[]⟩, 0, 0, 0, 0, 0, 0, 0, 0⟩⟩
    obtain ⟨f, hfr⟩ := Go.Deep.choose_lt hrows
    refine ⟨some a, (List.range len).map f, m, by simpa using hcs, fun j g hg => ?_, by simp [maxLen] at hcm ⊢; omega⟩
    have hj : j < len := by simpa using (List.getElem?_eq_some_iff.1 hg).1
    have hgf : g = f j := by simp [hj] at hg; exact hg.symm
    subst hgf
    have hc := (World.cells?_some (hfr j hj)).2.2
    have h00 := (World.cells?_some (hfr 0 (by omega))).2.2 0 (by omega)
    have hsp' : a.spot = none := by
      have e1 : (a.add (0 * 15)).add 0 = a.add 0 := by simp [Addr.add]
      rw [e1] at h00
      exact no_spot (v := (f 0).l[0]) h00 rfl
    obtain ⟨b, o, spot⟩ := a
    simp only at hsp'
    subst hsp'
    have c0 := hc 0 (by omega)
    rw [addr_add2] at c0
    refine ⟨b, o, rfl, cell_lt c0, fun k hk => ?_⟩
    have ck := hc k hk
    rw [addr_add2] at ck
    rw [ck, List.getElem?_eq_getElem (by exact hk)]
end

set_option maxRecDepth 100000 in
theorem open_func {H : Type} {enc : TypeId × Value → H} {w : World} {v : Value} {d : DataW H} {p : List MemPlace} {r : Reach} {b0 : Nat} (h : DataW.Trod enc Try.prog w 0 (fun _ => true) true 24 v d p) (hv : Value.okWide Try.prog w r b0 24 v) :
    ∃ (f : Fn7) (C : Option Addr) (cap : Nat), v = funcAgg f.nm f.ps f.R f.Fr C f.code.length cap ∧ RdI w C f.code ∧ f.code.length ≤ 9223372036854775807 := by
  obtain ⟨cs, rfl, hsz⟩ := okWide_struct oiF hv
  obtain ⟨fuel, hf⟩ := h
  obtain ⟨xs, m, _, _, hl, hxl, hi⟩ := DataW.trod_struct oiF hf
  have hz : (Try.prog.fieldsOf 24).size = 5 := by simpa using congrArg List.length ofF
  rw [ocF] at hl hsz
  rw [hz] at hxl
  obtain ⟨f0, a0, b0, c0⟩ := field_at ofF 0 _ rfl
  obtain ⟨f1, a1, b1, c1⟩ := field_at ofF 1 _ rfl
  obtain ⟨f2, a2, b2, c2⟩ := field_at ofF 2 _ rfl
  obtain ⟨f3, a3, b3, c3⟩ := field_at ofF 3 _ rfl
  obtain ⟨f4, a4, b4, c4⟩ := field_at ofF 4 _ rfl
  have h0 := hi 0 f0 a0
  have h1 := hi 1 f1 a1
  have h2 := hi 2 f2 a2
  have h3 := hi 3 f3 a3
  have h4 := hi 4 f4 a4
  rw [b0, c0, ocs, List.getElem?_eq_getElem (by omega)] at h0
  rw [b1, c1, oc3, List.getElem?_eq_getElem (by omega)] at h1
  rw [b2, c2, oc3, List.getElem?_eq_getElem (by omega)] at h2
  rw [b3, c3, oc3, List.getElem?_eq_getElem (by omega)] at h3
  rw [b4, c4, ocl, List.getElem?_eq_getElem (by omega)] at h4
  obtain ⟨s, e0, _⟩ := DataW.trod_string ois h0
  obtain ⟨n1, e1, _⟩ := DataW.trod_int oi3 h1
  obtain ⟨n2, e2, _⟩ := DataW.trod_int oi3 h2
  obtain ⟨n3, e3, _⟩ := DataW.trod_int oi3 h3
  obtain ⟨C, l, cap, e4, hF, hll⟩ := trod_instrs h4 (fun _ => rfl)
  clear hi h0 h1 h2 h3 h4 hf
  obtain ⟨c⟩ := cs
  match c, hsz with
  | [a, b, c, d, e], _ =>
    simp [Value.cells] at e0 e1 e2 e3 e4
    exact ⟨⟨s, n1, n2, n3, l⟩, C, cap, by simp [e0, e1, e2, e3, e4], hF, hll⟩
end Go.Proofs.Ytkcclefonmnpnaa

/- WHAT A VALUE IS THAT COMES IN. -/
namespace Go.Proofs.Ytkcclefonmnpnaa
open Go.ChangeShapes Go.WideShapes Go.ChangeAt Go.RowKit

theorem Try.own : ownKnob Try.prog.godebug = none := by kernel_rfl
theorem Try.laid : laidOutB Try.prog = true := by kernel_rfl
theorem ub4 : Try.prog.underlying 4 = some .bool := by kernel_rfl
theorem oiV : Try.prog.underlying 66 = some (.struct (Try.prog.fieldsOf 66)) := by kernel_rfl
theorem ocV : Try.prog.cellsOf 66 = 2 := by kernel_rfl
theorem ofV : (Try.prog.fieldsOf 66).toList.map (fun f => (f.type, f.offset)) = [(3, 0), (3, 1)] := by kernel_rfl
set_option maxRecDepth 100000 in
theorem open_val {H : Type} {enc : TypeId × Value → H} {w : World} {v : Value} {d : DataW H} {p : List MemPlace} {r : Reach} {b0 : Nat} (h : DataW.Trod enc Try.prog w 0 (fun _ => true) true 66 v d p) (hv : Value.okWide Try.prog w r b0 66 v) :
    ∃ x : Vl, v = x.agg := by
  obtain ⟨cs, rfl, hsz⟩ := okWide_struct oiV hv
  obtain ⟨fuel, hf⟩ := h
  obtain ⟨xs, m, _, _, hl, hxl, hi⟩ := DataW.trod_struct oiV hf
  have hz : (Try.prog.fieldsOf 66).size = 2 := by simpa using congrArg List.length ofV
  rw [ocV] at hl hsz
  rw [hz] at hxl
  obtain ⟨f0, a0, b0, c0⟩ := field_at ofV 0 _ rfl
  obtain ⟨f1, a1, b1, c1⟩ := field_at ofV 1 _ rfl
  have h0 := hi 0 f0 a0
  have h1 := hi 1 f1 a1
  rw [b0, c0, oc3, List.getElem?_eq_getElem (by omega)] at h0
  rw [b1, c1, oc3, List.getElem?_eq_getElem (by omega)] at h1
  obtain ⟨n0, e0, _⟩ := DataW.trod_int oi3 h0
  obtain ⟨n1, e1, _⟩ := DataW.trod_int oi3 h1
  obtain ⟨c⟩ := cs
  match c, hsz with
  | [a, b], _ =>
    simp [Value.cells] at e0 e1
    exact ⟨⟨n0, n1⟩, by simp [e0, e1]⟩
end Go.Proofs.Ytkcclefonmnpnaa

/- A LAW's ROW OUT OF ITS WALK: of whatever parameters that can be read. -/
namespace Go.Proofs.Ytkcclefonmnpnaa
open Go.ChangeShapes Go.WideShapes Go.ChangeAt Go.RowKit

section
variable {H : Type} {enc : TypeId × Value → H} {P : Program}
theorem trodAll_len {w : World} {base : Nat} {sp : Nat → Bool} {held : Bool} : ∀ {ts : List TypeId} {vs : List Value} {ds : List (DataW H)} {ps : List MemPlace}, DataW.TrodAll enc P w base sp held ts vs ds ps → vs.length = ts.length ∧ ds.length = ts.length
  | [], [], [], _, _ => ⟨rfl, rfl⟩
  | _ :: _, _ :: _, _ :: _, _, ⟨_, _, _, h, _⟩ => by
    have := trodAll_len h
    simp [this]
  | [], _ :: _, _, _, h => h.elim
  | [], [], _ :: _, _, h => h.elim
  | _ :: _, [], _, _, h => h.elim
  | _ :: _, _ :: _, [], _, h => h.elim
theorem trodAll_stays (hl : laidOutB P = true) {W W' : World} (hb : Below W.heap.size W W') {sp : Nat → Bool} : ∀ {ts : List TypeId} {vs : List Value} {ds : List (DataW H)} {ps : List MemPlace}, (∀ t ∈ ts, P.readableRec t = true ∧ t < P.types.size) →
    DataW.TrodAll enc P W 0 (fun _ => true) true ts vs ds ps → (∀ x ∈ ps, x.block < W.heap.size) → (∀ x ∈ ps, sp x.block = true) → DataW.TrodAll enc P W' 0 sp true ts vs ds ps
  | [], [], [], _, _, h, _, _ => h
  | t :: ts, v :: vs, d :: ds, ps, hr, ⟨p, q, h1, h2, e⟩, hlt, hsp => by
    subst e
    exact ⟨p, q, WideElems.Trod_stays hl (hr t (by simp)).1 (hr t (by simp)).2 h1 (fun x hx => hb.same (hlt x (List.mem_append_left _ hx))) (fun x hx => hsp x (List.mem_append_left _ hx)),
      trodAll_stays hl hb (fun t ht => hr t (by simp [ht])) h2 (fun x hx => hlt x (List.mem_append_right _ hx)) (fun x hx => hsp x (List.mem_append_right _ hx)), rfl⟩
  | [], _ :: _, _, _, _, h, _, _ => h.elim
  | [], [], _ :: _, _, _, h, _, _ => h.elim
  | _ :: _, [], _, _, _, h, _, _ => h.elim
  | _ :: _, _ :: _, [], _, _, h, _, _ => h.elim
end

theorem law_lifted {H : Type} {enc : TypeId × Value → H} {C : Checked} {os : Os} {f : FuncId} {fn : Func} {s : ChangeSpec} {tb : TypeId}
    (own : ownKnob C.prog.godebug = none) (started : os.Started) (noInit : C.prog.inits.idxOf? f = none) (hfn : C.prog.funcs[f]? = some fn)
    (witness : ∃ (w : World) (tape : Tape) (i : Input), w.os = os ∧ (w.forCall tape i).Shaped C.prog ∧ i.vars = [] ∧ Input.okWide C.prog (w.forCall tape i) .any w.heap.size f i ∧
      s.pre6 enc C.prog fn [] false (w.forCall tape i).memory i.args ∧ ({} : Assume).holds C.prog (lone (Frame.enter C.prog f i.args .normal) [] (w.forCall tape i)))
    (hvars : s.vars = []) (hres : fn.resultTypes = #[tb]) (htb : C.prog.underlying tb = some .bool) (hl : laidOutB C.prog = true)
    (hread : ∀ t ∈ fn.params.toList, C.prog.readableRec t = true ∧ t < C.prog.types.size)
    (hspec : ∀ ds : List (DataW H), ds.length = fn.params.toList.length → (s.fn H ds).results = [.lit (.bool true)] ∧ (s.fn H ds).args = ds ∧ (s.fn H ds).vars = [])
    (walk : ∀ (W : World) (base : Nat) (args : Array Value) (ds : List (DataW H)) (p : List MemPlace),
      (∀ (j : Nat) t v, fn.params[j]? = some t → args[j]? = some v → Value.okWide C.prog W .any base t v) →
      DataW.TrodAll enc C.prog W 0 (fun _ => true) true fn.params.toList args.toList ds p → (∀ x ∈ p, x.block < W.heap.size) →
      (DataW.weightsEach C.prog fn.params.toList ds).all (· ≤ reachBytes) = true →
      Calls C.prog f args W fun e W' => e = .returned (.bool true) ∧ Below W.heap.size W W') :
    ReturnsInHanded {} C os f .any (s.pre6 enc C.prog fn [] false) (s.post enc C.prog fn false true false false) := by
  refine returnsInHanded_of_change_sized own started noInit hfn witness ?_
  intro W base args ds gs before hval hW _ hsz _
  have hW' := hW
  obtain ⟨p, q, hA, hV, rfl, _, _⟩ := hW
  have hgs : gs = [] ∧ q = [] := by
    rw [hvars] at hV
    cases gs with
    | nil => exact ⟨rfl, hV⟩
    | cons g gs => exact hV.elim
  obtain ⟨rfl, rfl⟩ := hgs
  have hlt : ∀ x ∈ p, x.block < W.heap.size := fun x hx => hW'.lt x (by simpa using hx)
  have hvt : s.plain.varTypes C.prog = [] := by
    unfold DataSpec.varTypes
    show List.filterMap _ s.vars = []
    rw [hvars]; rfl
  rw [hvt, List.append_nil, List.append_nil] at hsz
  obtain ⟨e1, e2, e3⟩ := hspec ds (trodAll_len hA).2
  refine (walk W base args ds p hval hA hlt hsz).mono fun e W' ⟨he, hb⟩ => ?_
  subst he
  refine ⟨_, rfl, ds, [], p ++ [], [], p, [], hW', ?_, ?_, ?_, hb.frame _, fun h => by cases h⟩
  · rw [List.append_nil, e1, hres]
    exact trodAll_cons_mk (shut_bool htb true) trodAll_mk0
  · rw [List.append_nil, e2]
    exact trodAll_stays hl hb hread hA hlt (fun x hx => by simpa using hlt x hx)
  · rw [List.append_nil, e3, hvars]; rfl
end Go.Proofs.Ytkcclefonmnpnaa
