import Derived.Test.YtkcclefonmnpnaaQZc
import Derived.Deep.RegionWith
import Derived.ProofKit
import Derived.WalkKit
import Derived.WalkLawsBesides
import Derived.WalkSpells
import Derived.Outline
import Derived.Laws.Rows
import Derived.Lib.Hide
import Derived.Handy
import Derived.WalkMore
import Derived.ScopeJumps
import Derived.Deep.QuietTactic
import Derived.BigQuiet
import Derived.Laws.BitsLemmas
import Derived.Laws.Shifts
import Derived.Test.YtkcclefonmnpnaaQZe1
import Derived.Laws.Tables
import Derived.Laws.CopyOwn
import Derived.Laws.CopyRow
import Derived.Laws.MakeOwn
import Derived.Maps.AppendAt
import Derived.Deep.LoopGhost
import Derived.Deep.RegionHeld3
import Derived.Test.YtkcclefonmnpnaaQZa
import Derived.Deep.Slices
import Derived.ChangeArms
import Derived.OpenShut
import Derived.SizedLaws
import Derived.Carry
namespace Go.Proofs.Ytkcclefonmnpnaa
open Go.RowKit Go.BigFrame
def pl (n : Int) : Int := n % 4294967296

theorem wr_bd (n : Int) : -2147483648 ≤ wr n ∧ wr n < 2147483648 := by unfold wr; omega
theorem pl_bd (n : Int) : 0 ≤ pl n ∧ pl n < 4294967296 := by unfold pl; omega
theorem w64 {n : Int} (h : -9223372036854775808 ≤ n ∧ n < 9223372036854775808) : wrap64 n = n := by unfold wrap64; omega
theorem k64 (n : Int) : IntKind.i64.wrap n = wrap64 n := by rw [IntKind.wrap_i64]; unfold wrap64; rfl
def tv (b : Bool) : Int := if b then 1 else 0
def dv (a b : Int) : Int := if b = 0 then 0 else a.tdiv b
def md (a b : Int) : Int := if b = 0 then 0 else a.tmod b
end Go.Proofs.Ytkcclefonmnpnaa

namespace Go.Proofs.Ytkcclefonmnpnaa
open Go.RowKit Go.BigFrame

theorem mul_bd {a b : Int} (h1 : -2147483648 ≤ a ∧ a < 2147483648) (h2 : -2147483648 ≤ b ∧ b < 2147483648) : -9223372036854775808 ≤ a * b ∧ a * b < 9223372036854775808 := by
  have h := Int.natAbs_mul a b
  have h3 : a.natAbs * b.natAbs ≤ 2147483648 * 2147483648 := Nat.mul_le_mul (by omega) (by omega)
  omega
theorem shl_bd {a : Int} {k : Nat} (h1 : -2147483648 ≤ a ∧ a < 2147483648) (hk : k < 32) : -9223372036854775808 ≤ a * 2 ^ k ∧ a * 2 ^ k < 9223372036854775808 := by
  have h := Int.natAbs_mul a (2 ^ k)
  have h2 : ((2 : Int) ^ k).natAbs = 2 ^ k := by rw [Int.natAbs_pow]; rfl
  rw [h2] at h
  have hp : 2 ^ k ≤ 2 ^ 31 := Nat.pow_le_pow_right (by decide) (by omega)
  have h3 : a.natAbs * 2 ^ k ≤ 2147483648 * 2147483648 := Nat.mul_le_mul (by omega) hp
  omega
end Go.Proofs.Ytkcclefonmnpnaa

namespace Go.Proofs.Ytkcclefonmnpnaa
open Go.RowKit Go.BigFrame

theorem and_mask (n : Int) (j : Nat) (hj : j ≤ 32) : bits .and .i64 n ((2 ^ j - 1 : Nat) : Int) = n % 2 ^ j := by
  show IntKind.i64.wrap ((BitVec.ofInt 64 n &&& BitVec.ofInt 64 ((2 ^ j - 1 : Nat) : Int)).toNat : Int) = _
  have hp : 2 ^ j ≤ 2 ^ 32 := Nat.pow_le_pow_right (by decide) hj
  have hp0 : 0 < 2 ^ j := Nat.pow_pos (by decide)
  have h1 : (BitVec.ofInt 64 ((2 ^ j - 1 : Nat) : Int)).toNat = 2 ^ j - 1 := by
    rw [BitVec.toNat_ofInt]
    omega
  rw [BitVec.toNat_and, h1, Nat.and_two_pow_sub_one_eq_mod, k64, BitVec.toNat_ofInt]
  have h2 : ((n % (2 ^ 64 : Nat)).toNat % 2 ^ j : Nat) = n % 2 ^ j := by
    have h3 : 0 ≤ n % ((2 ^ 64 : Nat) : Int) := Int.emod_nonneg _ (by decide)
    rw [Int.natCast_emod, Int.toNat_of_nonneg h3]
    have hd : ((2 : Int) ^ j) ∣ ((2 ^ 64 : Nat) : Int) := by
      have : (2 ^ j : Nat) ∣ 2 ^ 64 := Nat.pow_dvd_pow 2 (by omega)
      exact_mod_cast Int.natCast_dvd_natCast.2 this
    have := Int.emod_emod_of_dvd n hd
    simpa using this
  have h4 : n % 2 ^ j < 2 ^ 32 := by
    have h5 := Int.emod_lt_of_pos n (show (0 : Int) < 2 ^ j by exact_mod_cast hp0)
    have h6 : (2 : Int) ^ j ≤ 2 ^ 32 := by exact_mod_cast hp
    omega
  have h7 : 0 ≤ n % 2 ^ j := Int.emod_nonneg _ (by have : (0 : Int) < 2 ^ j := by exact_mod_cast hp0
                                                   omega)
  rw [h2]
  exact w64 (by omega)
theorem and255 (n : Int) : bits .and .i64 n 255 = n % 256 := by
  have h := and_mask n 8 (by decide)
  simpa using h
theorem xor_m1 (n : Int) (h : -2147483648 ≤ n ∧ n < 2147483648) : bits .xor .i64 (-1) n = -1 - n := by
  show IntKind.i64.wrap ((BitVec.ofInt 64 (-1) ^^^ BitVec.ofInt 64 n).toNat : Int) = _
  have h1 : BitVec.ofInt 64 (-1) = BitVec.allOnes 64 := by decide
  rw [h1, BitVec.allOnes_xor, BitVec.toNat_not, BitVec.toNat_ofInt, k64]
  unfold wrap64
  omega
end Go.Proofs.Ytkcclefonmnpnaa

namespace Go.Proofs.Ytkcclefonmnpnaa
open Go.RowKit Go.BigFrame

def b32 (n : Int) : BitVec 32 := BitVec.ofInt 32 n
theorem wr_b (n : Int) : wr n = (b32 n).toInt := by
  unfold b32
  rw [BitVec.toInt_ofInt]
  rw [Int.bmod_def]
  unfold wr
  split <;> omega
theorem b32_toInt (X : BitVec 32) : b32 X.toInt = X := by unfold b32; exact BitVec.ofInt_toInt
theorem wrap_toNat (Z : BitVec 64) : IntKind.i64.wrap (Z.toNat : Int) = Z.toInt := by
  rw [k64, BitVec.toInt_eq_toNat_bmod]
  have := Z.isLt
  rw [Int.bmod_def]
  unfold wrap64
  split <;> omega
theorem bits_and32 (X Y : BitVec 32) : bits .and .i64 X.toInt Y.toInt = (X &&& Y).toInt := by
  show IntKind.i64.wrap ((X.signExtend 64 &&& Y.signExtend 64).toNat : Int) = _
  rw [← BitVec.signExtend_and, wrap_toNat, BitVec.toInt_signExtend_of_le (by decide)]
theorem bits_or32 (X Y : BitVec 32) : bits .or .i64 X.toInt Y.toInt = (X ||| Y).toInt := by
  show IntKind.i64.wrap ((X.signExtend 64 ||| Y.signExtend 64).toNat : Int) = _
  rw [← BitVec.signExtend_or, wrap_toNat, BitVec.toInt_signExtend_of_le (by decide)]
theorem bits_xor32 (X Y : BitVec 32) : bits .xor .i64 X.toInt Y.toInt = (X ^^^ Y).toInt := by
  show IntKind.i64.wrap ((X.signExtend 64 ^^^ Y.signExtend 64).toNat : Int) = _
  rw [← BitVec.signExtend_xor, wrap_toNat, BitVec.toInt_signExtend_of_le (by decide)]
theorem wr_toInt (X : BitVec 32) : wr X.toInt = X.toInt := by rw [wr_b, b32_toInt]
theorem v_and (m n : Int) : wr (bits .and .i64 (wr m) (wr n)) = (b32 m &&& b32 n).toInt := by rw [wr_b m, wr_b n, bits_and32, wr_toInt]
theorem v_or (m n : Int) : wr (bits .or .i64 (wr m) (wr n)) = (b32 m ||| b32 n).toInt := by rw [wr_b m, wr_b n, bits_or32, wr_toInt]
theorem v_xor (m n : Int) : wr (bits .xor .i64 (wr m) (wr n)) = (b32 m ^^^ b32 n).toInt := by rw [wr_b m, wr_b n, bits_xor32, wr_toInt]
end Go.Proofs.Ytkcclefonmnpnaa

namespace Go.Proofs.Ytkcclefonmnpnaa
open Go.RowKit Go.BigFrame

theorem tmod_bd (n : Int) : (n.tmod 4294967296 = n % 4294967296 ∧ 0 ≤ n) ∨ (n.tmod 4294967296 = n % 4294967296 - 4294967296 ∧ n % 4294967296 ≠ 0 ∧ n < 0) ∨ (n.tmod 4294967296 = 0 ∧ n % 4294967296 = 0 ∧ n < 0) := by
  rcases Int.le_total 0 n with h | h
  · exact .inl ⟨Int.tmod_eq_emod_of_nonneg h, h⟩
  · have h1 := Int.tmod_add_mul_tdiv n 4294967296
    have h2 : n.tmod 4294967296 ≤ 0 := by
      have := Int.tmod_nonneg 4294967296 (show 0 ≤ -n by omega)
      rw [Int.neg_tmod] at this
      omega
    have h3 : (n.tmod 4294967296).natAbs < 4294967296 := by
      rw [Int.natAbs_tmod]; exact Nat.mod_lt _ (by decide)
    omega

theorem refwrap_any (n : Int) (w : World) : Calls Try.prog 73 #[.int .i64 n] w fun e w' => e = .returned (.int .i64 (wr n)) ∧ w = w' := by
  have h0 := tmod_bd n
  by_cases h1 : 2147483648 ≤ n.tmod 4294967296
  · have h2 : wrap64 (n.tmod 4294967296 - 4294967296) = n.tmod 4294967296 - 4294967296 := w64 (by omega)
    have h3 : n % 4294967296 - 4294967296 = wr n := by unfold wr; omega
    go_enter Try.func73, Try.ntmps73
    go_wp2
    go_returns
    exact ⟨rfl, rfl⟩
  · by_cases h3 : n.tmod 4294967296 < -2147483648
    · have h2 : n.tmod 4294967296 + 4294967296 = wr n := by unfold wr; omega
      go_enter Try.func73, Try.ntmps73
      go_wp2
      go_returns
      exact ⟨rfl, rfl⟩
    · have h2 : n.tmod 4294967296 = wr n := by unfold wr; omega
      go_enter Try.func73, Try.ntmps73
      go_wp2
      go_returns
      exact ⟨rfl, rfl⟩
theorem refplain_any (n : Int) (w : World) : Calls Try.prog 59 #[.int .i64 n] w fun e w' => e = .returned (.int .i64 (pl n)) ∧ w = w' := by
  have h1 := wr_bd n
  by_cases h : wr n < 0
  · have h2 : wrap64 (wr n + 4294967296) = wr n + 4294967296 := w64 (by omega)
    have h3 : wr n + 4294967296 = pl n := by unfold wr pl at *; omega
    go_enter Try.func59, Try.ntmps59
    go_wp2_with (go_at_call 73; refine (refwrap_any _ _).mono ?_; rintro e w' ⟨rfl, rfl⟩)
    go_returns
    exact ⟨rfl, rfl⟩
  · have h3 : wr n = pl n := by unfold wr pl at *; omega
    go_enter Try.func59, Try.ntmps59
    go_wp2_with (go_at_call 73; refine (refwrap_any _ _).mono ?_; rintro e w' ⟨rfl, rfl⟩)
    go_returns
    exact ⟨rfl, rfl⟩
end Go.Proofs.Ytkcclefonmnpnaa

namespace Go.Proofs.Ytkcclefonmnpnaa
open Go.RowKit Go.BigFrame

theorem reftruth_any (b : Bool) (w : World) : Calls Try.prog 77 #[.bool b] w fun e w' => e = .returned (.int .i64 (tv b)) ∧ w = w' := by
  cases b <;> (go_enter Try.func77, Try.ntmps77; go_wp2; go_returns; exact ⟨rfl, rfl⟩)
theorem half_step (p : Int) (j : Nat) (hp : 0 ≤ p) : (p / 2 ^ j).tdiv 2 = p / 2 ^ (j + 1) := by
  have h : 0 ≤ p / 2 ^ j := Int.ediv_nonneg hp (Int.le_of_lt (Int.pow_pos (by decide)))
  rw [Int.tdiv_eq_ediv_of_nonneg h, Int.ediv_ediv_of_nonneg (Int.le_of_lt (Int.pow_pos (by decide))), Int.pow_succ]
set_option maxRecDepth 100000 in
theorem bit_any (n : Int) (k : Nat) (hk : k ≤ 32) (w : World) : Calls Try.prog 94 #[.int .i64 n, .int .i64 k] w fun e w' => e = .returned (.int .i64 ((pl n / 2 ^ k) % 2)) ∧ Below w.heap.size w w' := by
  have hpl := pl_bd n
  go_enter Try.func94, Try.ntmps94
  go_wp2_with (go_at_call 59; refine (refplain_any _ _).mono ?_; rintro e w' ⟨rfl, rfl⟩)
  go_loopw [5, 6] (fun p i w8 => ∃ j : Nat, j ≤ k ∧ i = .int .i64 j ∧ p = .int .i64 (pl n / 2 ^ j) ∧ Below w.heap.size w w8) (fun _ i _ => k - (intOf i).toNat)
  case atStart => exact ⟨0, by omega, rfl, by simp, Below.refl _ _⟩
  case round =>
    obtain ⟨j, hj, rfl, rfl, hB⟩ := hrel
    have hs := half_step (pl n) j hpl.1
    have h0 : 0 ≤ pl n / 2 ^ j := Int.ediv_nonneg hpl.1 (Int.le_of_lt (Int.pow_pos (by decide)))
    have h1 : pl n / 2 ^ j ≤ pl n := Int.ediv_le_self _ hpl.1
    by_cases hlt : j < k
    · have hd : wrap64 ((pl n / 2 ^ j).tdiv 2) = pl n / 2 ^ (j + 1) := by
        rw [hs]
        have h2 : 0 ≤ pl n / 2 ^ (j + 1) := Int.ediv_nonneg hpl.1 (Int.le_of_lt (Int.pow_pos (by decide)))
        have h3 : pl n / 2 ^ (j + 1) ≤ pl n := Int.ediv_le_self _ hpl.1
        exact w64 (by omega)
      have hq : wrap64 (pl n / 2 ^ (j + 1)) = pl n / 2 ^ (j + 1) := by rw [← hs]; rw [hs] at hd ⊢; exact hd
      have HQ := Lib.hid hq
      clear hq
      generalize pl n / 2 ^ j = p at *
      generalize hp' : pl n / 2 ^ (j + 1) = p' at *
      go_wp2_with fail
      exact ⟨⟨j + 1, by omega, by go_num, by rw [hp']; exact congrArg (Value.int .i64) HQ.out, hB⟩, by simp [intOf]; omega⟩
    · have hjk : j = k := by omega
      subst hjk
      generalize hpp : pl n / 2 ^ j = p at *
      have hm : p.tmod 2 = p % 2 := Int.tmod_eq_emod_of_nonneg h0
      go_wp2_with fail
      go_returns
      exact ⟨by rw [hpp]; rfl, hB⟩
theorem power_any (k : Nat) (hk : k ≤ 31) (w : World) : Calls Try.prog 74 #[.int .i64 k] w fun e w' => e = .returned (.int .i64 (2 ^ k)) ∧ w = w' := by
  go_enter Try.func74, Try.ntmps74
  go_wp2_with fail
  go_loopw [3, 4] (fun p i w8 => ∃ j : Nat, j ≤ k ∧ i = .int .i64 j ∧ p = .int .i64 (2 ^ j) ∧ w8 = w) (fun _ i _ => k - (intOf i).toNat)
  case atStart => exact ⟨0, by omega, rfl, by simp, rfl⟩
  case round =>
    obtain ⟨j, hj, rfl, rfl, hB⟩ := hrel
    subst hB
    by_cases hlt : j < k
    · have hp : (2 : Int) ^ j ≤ 2 ^ 31 := by
        have := Nat.pow_le_pow_right (show 0 < 2 by decide) (show j ≤ 31 by omega)
        exact_mod_cast this
      have hp0 : (0 : Int) < 2 ^ j := Int.pow_pos (by decide)
      have hs : wrap64 (2 ^ j * 2) = 2 ^ (j + 1) := by rw [Int.pow_succ]; exact w64 (by omega)
      go_wp2_with fail
      exact ⟨⟨j + 1, by omega, by go_num, rfl, trivial⟩, by simp [intOf]; omega⟩
    · have hjk : j = k := by omega
      subst hjk
      go_wp2_with fail
      go_returns
      exact ⟨rfl, rfl⟩
theorem down_eq (a : Int) (k : Nat) : (if a < 0 ∧ a.tdiv (2 ^ k) * 2 ^ k ≠ a then a.tdiv (2 ^ k) - 1 else a.tdiv (2 ^ k)) = a / 2 ^ k := by
  have hp : (0 : Int) < 2 ^ k := Int.pow_pos (by decide)
  have h1 := Int.tdiv_mul_add_tmod a (2 ^ k)
  have h2 := Int.ediv_mul_add_emod a (2 ^ k)
  by_cases h0 : 0 ≤ a
  · rw [if_neg (by omega), Int.tdiv_eq_ediv_of_nonneg h0]
  · by_cases hd : (2 : Int) ^ k ∣ a
    · have hq : a.tdiv (2 ^ k) = a / 2 ^ k := by rw [Int.tdiv_eq_ediv, if_pos (Or.inr hd), Int.add_zero]
      have h3 : a / 2 ^ k * 2 ^ k = a := Int.ediv_mul_cancel hd
      rw [hq, if_neg (fun h => h.2 h3)]
    · have hq : a.tdiv (2 ^ k) = a / 2 ^ k + 1 := by
        rw [Int.tdiv_eq_ediv, if_neg (fun h => h.elim h0 hd), Int.sign_eq_one_of_pos hp]
      rw [hq, if_pos ⟨by omega, fun h => hd ⟨a / 2 ^ k + 1, by rw [Int.mul_comm]; exact h.symm⟩⟩]
      omega
end Go.Proofs.Ytkcclefonmnpnaa

namespace Go.Proofs.Ytkcclefonmnpnaa
open Go.RowKit Go.BigFrame

theorem down_any (a : Int) (k : Nat) (ha : -2147483648 ≤ a ∧ a < 2147483648) (hk : k < 32) (w : World) : Calls Try.prog 76 #[.int .i64 a, .int .i64 (2 ^ k)] w fun e w' => e = .returned (.int .i64 (a / 2 ^ k)) ∧ Below w.heap.size w w' := by
  have hd := down_eq a k
  have hp : (0 : Int) < 2 ^ k := Int.pow_pos (by decide)
  have hp2 : (2 : Int) ^ k ≤ 2147483648 := by
    have h1 := Nat.pow_le_pow_right (show 0 < 2 by decide) (show k ≤ 31 by omega)
    have h2 : (2 : Int) ^ k ≤ 2 ^ 31 := by exact_mod_cast h1
    omega
  have hq0 : (a.tdiv (2 ^ k)).natAbs ≤ a.natAbs := Int.natAbs_tdiv_le_natAbs _ _
  generalize a / 2 ^ k = r at *
  generalize (2 : Int) ^ k = D at *
  have hD : (D == 0) = false := by simp; omega
  have hq : wrap64 (a.tdiv D) = a.tdiv D := w64 (by omega)
  have hm : wrap64 (a.tdiv D * D) = a.tdiv D * D := w64 (by
    have h1 := Int.natAbs_mul (a.tdiv D) D
    have h2 : (a.tdiv D).natAbs * D.natAbs ≤ 2147483648 * 2147483648 := Nat.mul_le_mul (by omega) (by omega)
    omega)
  have hs : wrap64 (a.tdiv D - 1) = a.tdiv D - 1 := w64 (by omega)
  by_cases h0 : a < 0
  · by_cases h1 : a.tdiv D * D = a
    · rw [if_neg (fun h => h.2 h1)] at hd
      subst hd
      have h2 : (a.tdiv D * D == a) = true := by simp [h1]
      have h3 : (a.tdiv D * D != a) = false := by simp [h1]
      have h4 : decide (a.tdiv D * D = a) = true := by simp [h1]
      go_enter Try.func76, Try.ntmps76
      go_wp2_with fail
      go_returns
      exact ⟨rfl, Below.refl _ _⟩
    · rw [if_pos ⟨h0, h1⟩] at hd
      have h2 : (a.tdiv D * D == a) = false := by simp [h1]
      have h3 : (a.tdiv D * D != a) = true := by simp [h1]
      have h4 : decide (a.tdiv D * D = a) = false := by simp [h1]
      go_enter Try.func76, Try.ntmps76
      go_wp2_with fail
      go_returns
      exact ⟨by rw [← hd]; rfl, Below.refl _ _⟩
  · rw [if_neg (fun h => h0 h.1)] at hd
    subst hd
    go_enter Try.func76, Try.ntmps76
    go_wp2_with fail
    go_returns
    exact ⟨rfl, Below.refl _ _⟩

theorem pl_b (a : Int) : pl a = ((b32 a).toNat : Int) := by
  unfold b32 pl
  rw [BitVec.toNat_ofInt]
  omega
theorem bit_val (a : Int) (j : Nat) : (pl a / 2 ^ j) % 2 = (((b32 a).toNat.testBit j).toNat : Int) := by
  rw [Nat.toNat_testBit, pl_b]
  simp
theorem sum_step (Z : Nat) (j : Nat) : Z % 2 ^ (j + 1) = Z % 2 ^ j + 2 ^ j * (Z.testBit j).toNat := by rw [Nat.mod_pow_succ, Nat.toNat_testBit]
theorem bit_b (a : Int) (j : Nat) (bx : Bool) (hb : (b32 a).toNat.testBit j = bx) (hj : j ≤ 32) (w : World) : Calls Try.prog 94 #[.int .i64 a, .int .i64 j] w fun e w' => e = .returned (.int .i64 (bx.toNat : Int)) ∧ Below w.heap.size w w' := by
  have h := bit_any a j hj w
  rw [bit_val, hb] at h
  exact h

set_option maxRecDepth 1000000 in
set_option maxHeartbeats 4000000 in
theorem bits0_any (a b : Int) (w : World) : Calls Try.prog 75 #[.int .i64 a, .int .i64 b, .int .i64 0] w fun e w' => e = .returned (.int .i64 ((b32 a &&& b32 b).toNat : Int)) ∧ Below w.heap.size w w' := by
  obtain ⟨Z, hZ⟩ : ∃ Z, Z = (b32 a &&& b32 b).toNat := ⟨_, rfl⟩
  have hlt : Z < 4294967296 := by rw [hZ]; exact (b32 a &&& b32 b).isLt
  have hbit : ∀ j, Z.testBit j = ((b32 a).toNat.testBit j && (b32 b).toNat.testBit j) := fun j => by rw [hZ, BitVec.toNat_and, Nat.testBit_and]
  rw [← hZ]
  clear hZ
  go_enter Try.func75, Try.ntmps75
  go_wp2_with fail
  go_loopw [7, 8] (fun n i w8 => ∃ j : Nat, j ≤ 32 ∧ i = .int .i64 j ∧ n = .int .i64 ((Z % 2 ^ j : Nat) : Int) ∧ Below w.heap.size w w8) (fun _ i _ => 32 - (intOf i).toNat)
  case atStart => exact ⟨0, by omega, rfl, by simp [Nat.mod_one], Below.refl _ _⟩
  case round =>
    obtain ⟨j, hj, rfl, rfl, hB⟩ := hrel
    by_cases hl : j < 32
    · have hb := hbit j
      have hs := sum_step Z j
      have hm : Z % 2 ^ (j + 1) ≤ Z := Nat.mod_le _ _
      rw [hb] at hs
      have cx := fun w => bit_b a j _ rfl (by omega) w
      have cy := fun w => bit_b b j _ rfl (by omega) w
      generalize (b32 a).toNat.testBit j = bx at *
      generalize (b32 b).toNat.testBit j = bb at *
      clear hbit hb
      have cp := fun w => power_any j (by omega) w
      have hpw : (2 : Int) ^ j = ((2 ^ j : Nat) : Int) := by simp
      generalize Z % 2 ^ j = N at *
      generalize hN' : Z % 2 ^ (j + 1) = N' at *
      have hP : 0 < 2 ^ j := Nat.pow_pos (by decide)
      rw [hpw] at cp
      generalize (2 : Nat) ^ j = P at *
      cases bx <;> cases bb
      all_goals
        simp at hs
        have HS := Lib.hid hs
        have hw : N' = N ∨ wrap64 ((N : Int) + (P : Int)) = (N' : Int) := by
          by_cases h : N' = N
          · exact .inl h
          · refine .inr ?_
            rw [w64 (by omega)]
            omega
        have HW := Lib.hid hw
        clear hs hw
        go_wp2_with (first
          | (go_at_call_of 94 a; refine (cx _).mono ?_; rintro e w1 ⟨rfl, hb1⟩)
          | (go_at_call_of 94 b; refine (cy _).mono ?_; rintro e w2 ⟨rfl, hb2⟩)
          | (go_at_call 74; refine (cp _).mono ?_; rintro e w' ⟨rfl, rfl⟩))
        exact ⟨⟨j + 1, by omega, by go_num, by rw [hN']; first | exact congrArg (Value.int .i64) (by have := HS.out; omega) | exact congrArg (Value.int .i64) (HW.out.resolve_left (by have := HS.out; omega)), (hB.trans (hb1.mono hB.size)).trans (hb2.mono (Nat.le_trans hB.size hb1.size))⟩, by simp [intOf]; omega⟩
    · have hj2 : j = 32 := by omega
      subst hj2
      have hmod : Z % 2 ^ 32 = Z := Nat.mod_eq_of_lt hlt
      rw [hmod]
      go_wp2_with fail
      go_returns
      exact ⟨rfl, hB⟩

set_option maxRecDepth 1000000 in
set_option maxHeartbeats 4000000 in
theorem bits1_any (a b : Int) (w : World) : Calls Try.prog 75 #[.int .i64 a, .int .i64 b, .int .i64 1] w fun e w' => e = .returned (.int .i64 ((b32 a ||| b32 b).toNat : Int)) ∧ Below w.heap.size w w' := by
  obtain ⟨Z, hZ⟩ : ∃ Z, Z = (b32 a ||| b32 b).toNat := ⟨_, rfl⟩
  have hlt : Z < 4294967296 := by rw [hZ]; exact (b32 a ||| b32 b).isLt
  have hbit : ∀ j, Z.testBit j = ((b32 a).toNat.testBit j || (b32 b).toNat.testBit j) := fun j => by rw [hZ, BitVec.toNat_or, Nat.testBit_or]
  rw [← hZ]
  clear hZ
  go_enter Try.func75, Try.ntmps75
  go_wp2_with fail
  go_loopw [7, 8] (fun n i w8 => ∃ j : Nat, j ≤ 32 ∧ i = .int .i64 j ∧ n = .int .i64 ((Z % 2 ^ j : Nat) : Int) ∧ Below w.heap.size w w8) (fun _ i _ => 32 - (intOf i).toNat)
  case atStart => exact ⟨0, by omega, rfl, by simp [Nat.mod_one], Below.refl _ _⟩
  case round =>
    obtain ⟨j, hj, rfl, rfl, hB⟩ := hrel
    by_cases hl : j < 32
    · have hb := hbit j
      have hs := sum_step Z j
      have hm : Z % 2 ^ (j + 1) ≤ Z := Nat.mod_le _ _
      rw [hb] at hs
      have cx := fun w => bit_b a j _ rfl (by omega) w
      have cy := fun w => bit_b b j _ rfl (by omega) w
      generalize (b32 a).toNat.testBit j = bx at *
      generalize (b32 b).toNat.testBit j = bb at *
      clear hbit hb
      have cp := fun w => power_any j (by omega) w
      have hpw : (2 : Int) ^ j = ((2 ^ j : Nat) : Int) := by simp
      generalize Z % 2 ^ j = N at *
      generalize hN' : Z % 2 ^ (j + 1) = N' at *
      have hP : 0 < 2 ^ j := Nat.pow_pos (by decide)
      rw [hpw] at cp
      generalize (2 : Nat) ^ j = P at *
      cases bx <;> cases bb
      all_goals
        simp at hs
        have HS := Lib.hid hs
        have hw : N' = N ∨ wrap64 ((N : Int) + (P : Int)) = (N' : Int) := by
          by_cases h : N' = N
          · exact .inl h
          · refine .inr ?_
            rw [w64 (by omega)]
            omega
        have HW := Lib.hid hw
        clear hs hw
        go_wp2_with (first
          | (go_at_call_of 94 a; refine (cx _).mono ?_; rintro e w1 ⟨rfl, hb1⟩)
          | (go_at_call_of 94 b; refine (cy _).mono ?_; rintro e w2 ⟨rfl, hb2⟩)
          | (go_at_call 74; refine (cp _).mono ?_; rintro e w' ⟨rfl, rfl⟩))
        exact ⟨⟨j + 1, by omega, by go_num, by rw [hN']; first | exact congrArg (Value.int .i64) (by have := HS.out; omega) | exact congrArg (Value.int .i64) (HW.out.resolve_left (by have := HS.out; omega)), (hB.trans (hb1.mono hB.size)).trans (hb2.mono (Nat.le_trans hB.size hb1.size))⟩, by simp [intOf]; omega⟩
    · have hj2 : j = 32 := by omega
      subst hj2
      have hmod : Z % 2 ^ 32 = Z := Nat.mod_eq_of_lt hlt
      rw [hmod]
      go_wp2_with fail
      go_returns
      exact ⟨rfl, hB⟩

set_option maxRecDepth 1000000 in
set_option maxHeartbeats 4000000 in
theorem bits2_any (a b : Int) (w : World) : Calls Try.prog 75 #[.int .i64 a, .int .i64 b, .int .i64 2] w fun e w' => e = .returned (.int .i64 ((b32 a ^^^ b32 b).toNat : Int)) ∧ Below w.heap.size w w' := by
  obtain ⟨Z, hZ⟩ : ∃ Z, Z = (b32 a ^^^ b32 b).toNat := ⟨_, rfl⟩
  have hlt : Z < 4294967296 := by rw [hZ]; exact (b32 a ^^^ b32 b).isLt
  have hbit : ∀ j, Z.testBit j = ((b32 a).toNat.testBit j ^^ (b32 b).toNat.testBit j) := fun j => by rw [hZ, BitVec.toNat_xor, Nat.testBit_xor]
  rw [← hZ]
  clear hZ
  go_enter Try.func75, Try.ntmps75
  go_wp2_with fail
  go_loopw [7, 8] (fun n i w8 => ∃ j : Nat, j ≤ 32 ∧ i = .int .i64 j ∧ n = .int .i64 ((Z % 2 ^ j : Nat) : Int) ∧ Below w.heap.size w w8) (fun _ i _ => 32 - (intOf i).toNat)
  case atStart => exact ⟨0, by omega, rfl, by simp [Nat.mod_one], Below.refl _ _⟩
  case round =>
    obtain ⟨j, hj, rfl, rfl, hB⟩ := hrel
    by_cases hl : j < 32
    · have hb := hbit j
      have hs := sum_step Z j
      have hm : Z % 2 ^ (j + 1) ≤ Z := Nat.mod_le _ _
      rw [hb] at hs
      have cx := fun w => bit_b a j _ rfl (by omega) w
      have cy := fun w => bit_b b j _ rfl (by omega) w
      generalize (b32 a).toNat.testBit j = bx at *
      generalize (b32 b).toNat.testBit j = bb at *
      clear hbit hb
      have cp := fun w => power_any j (by omega) w
      have hpw : (2 : Int) ^ j = ((2 ^ j : Nat) : Int) := by simp
      generalize Z % 2 ^ j = N at *
      generalize hN' : Z % 2 ^ (j + 1) = N' at *
      have hP : 0 < 2 ^ j := Nat.pow_pos (by decide)
      rw [hpw] at cp
      generalize (2 : Nat) ^ j = P at *
      cases bx <;> cases bb
      all_goals
        simp at hs
        have HS := Lib.hid hs
        have hw : N' = N ∨ wrap64 ((N : Int) + (P : Int)) = (N' : Int) := by
          by_cases h : N' = N
          · exact .inl h
          · refine .inr ?_
            rw [w64 (by omega)]
            omega
        have HW := Lib.hid hw
        clear hs hw
        go_wp2_with (first
          | (go_at_call_of 94 a; refine (cx _).mono ?_; rintro e w1 ⟨rfl, hb1⟩)
          | (go_at_call_of 94 b; refine (cy _).mono ?_; rintro e w2 ⟨rfl, hb2⟩)
          | (go_at_call 74; refine (cp _).mono ?_; rintro e w' ⟨rfl, rfl⟩))
        exact ⟨⟨j + 1, by omega, by go_num, by rw [hN']; first | exact congrArg (Value.int .i64) (by have := HS.out; omega) | exact congrArg (Value.int .i64) (HW.out.resolve_left (by have := HS.out; omega)), (hB.trans (hb1.mono hB.size)).trans (hb2.mono (Nat.le_trans hB.size hb1.size))⟩, by simp [intOf]; omega⟩
    · have hj2 : j = 32 := by omega
      subst hj2
      have hmod : Z % 2 ^ 32 = Z := Nat.mod_eq_of_lt hlt
      rw [hmod]
      go_wp2_with fail
      go_returns
      exact ⟨rfl, hB⟩
end Go.Proofs.Ytkcclefonmnpnaa

/- VALUES OF REGISTERS (plain): joining, what an instruction sets, the least that holds together. -/
namespace Go.Proofs.Ytkcclefonmnpnaa
open Go.RowKit Go.BigFrame

structure Vl where
  k : Int
  n : Int
instance : DecidableEq Vl := fun x y => decidable_of_iff (x.k = y.k ∧ x.n = y.n) ⟨fun h => by cases x; cases y; simp_all, fun h => by subst h; simp⟩
abbrev nv : Vl := ⟨0, 0⟩
abbrev av : Vl := ⟨2, 0⟩
def Vl.wf (v : Vl) : Prop := v = nv ∨ v.k = 1 ∨ v = av
def Vl.ok (v : Vl) : Prop := v.k = 1 ∨ v = av
def join (a b : Vl) : Vl := if a.k = 0 then b else if b.k = 0 ∨ a = b then a else av
def le (a b : Vl) : Prop := a = nv ∨ a = b ∨ b = av
/-- rows -/
abbrev at_ (v : List Vl) (r : Nat) : Vl := v.getD r nv
def Rw (R : Nat) (v : List Vl) : Prop := v.length = R ∧ ∀ x ∈ v, x.wf
def rok (v : List Vl) : Prop := ∀ x ∈ v, x.ok
def rle (u v : List Vl) : Prop := ∀ r, le (at_ u r) (at_ v r)
/-- what an operation tells -/
def wrd (n : Int) : Int := (n + 2147483648) % 4294967296 - 2147483648
def pln (n : Int) : Int := n % 4294967296
def tvl (b : Bool) : Int := if b then 1 else 0
def dvl (a b : Int) : Int := if b = 0 then 0 else a.tdiv b
def mdl (a b : Int) : Int := if b = 0 then 0 else a.tmod b
def dov (op a b : Int) : Int × Bool :=
  if op = 1 then (wrd (wrd a + wrd b), true)
  else if op = 2 then (wrd (wrd a - wrd b), true)
  else if op = 3 then (wrd (wrd a * wrd b), true)
  else if op = 4 then (wrd (dvl (wrd a) (wrd b)), !decide (wrd b = 0))
  else if op = 5 then (wrd (mdl (wrd a) (wrd b)), !decide (wrd b = 0))
  else if op = 6 then (wrd (dvl (pln (wrd a)) (pln (wrd b))), !decide (pln (wrd b) = 0))
  else if op = 7 then (wrd (mdl (pln (wrd a)) (pln (wrd b))), !decide (pln (wrd b) = 0))
  else if op = 8 then (wrd (bits .and .i64 (wrd a) (wrd b)), true)
  else if op = 9 then (wrd (bits .or .i64 (wrd a) (wrd b)), true)
  else if op = 10 then (wrd (bits .xor .i64 (wrd a) (wrd b)), true)
  else if op = 11 then (wrd (wrd a * 2 ^ (wrd b % 32).toNat), true)
  else if op = 12 then (wrd (wrd a / 2 ^ (wrd b % 32).toNat), true)
  else if op = 13 then (wrd (pln (wrd a) / 2 ^ (wrd b % 32).toNat), true)
  else if op = 14 then (wrd (tvl (wrd a == wrd b)), true)
  else if op = 15 then (wrd (tvl (wrd a != wrd b)), true)
  else if op = 16 then (wrd (tvl (decide (wrd a < wrd b))), true)
  else if op = 17 then (wrd (tvl (decide (wrd a ≤ wrd b))), true)
  else if op = 18 then (wrd (tvl (decide (pln (wrd a) < pln (wrd b)))), true)
  else if op = 19 then (wrd (tvl (decide (pln (wrd a) ≤ pln (wrd b)))), true)
  else if op = 20 then (wrd (-wrd a), true)
  else if op = 21 then (wrd (bits .xor .i64 (-1) (wrd a)), true)
  else if op = 22 then (wrd (bits .and .i64 (wrd a) 255), true)
  else if op = 23 then (wrd (tvl (wrd a == 0)), true)
  else (0, false)
def BdW (x : Int × Bool) : Prop := -2147483648 ≤ x.1 ∧ x.1 ≤ 2147483647
/-- what an instruction sets -/
def bval (i : Ins) (v : List Vl) : Vl := if i.kind = 3 then at_ v i.b.toNat else ⟨1, 0⟩
def setV (i : Ins) (v : List Vl) : Vl × Bool :=
  if i.kind = 1 then (⟨1, i.n⟩, true)
  else if i.kind = 4 then (at_ v i.a.toNat, true)
  else if i.kind = 2 ∨ i.kind = 3 then
    if (at_ v i.a.toNat).k = 2 ∨ (bval i v).k = 2 then (av, true)
    else (⟨1, (dov i.op (at_ v i.a.toNat).n (bval i v).n).1⟩, (dov i.op (at_ v i.a.toNat).n (bval i v).n).2)
  else (av, true)
def upd (i : Ins) (v : List Vl) : List Vl := if 0 ≤ i.sets then v.set i.sets.toNat (setV i v).1 else v
def nextV (i : Ins) (p : Nat) (v : List Vl) : List Int :=
  if i.kind = 12 then (if (at_ v i.a.toNat).k = 1 then (if (at_ v i.a.toNat).n = 0 then [i.els] else [i.to_]) else [i.to_, i.els]) else i.next p
/-- n is come to from p, with u -/
def Edge (f : Fn7) (M : List (List Vl)) (p n : Nat) (u : List Vl) : Prop :=
  ∃ i v, f.code[p]? = some i ∧ M[p]? = some v ∧ rok v ∧ (setV i v).2 = true ∧ (n : Int) ∈ nextV i p (upd i v) ∧ u = upd i v
def ini (f : Fn7) : List Vl := (List.range f.R.toNat).map fun (r : Nat) => if (r : Int) < f.ps then av else ⟨1, 0⟩
structure Shp (f : Fn7) (M : List (List Vl)) : Prop where
  len : M.length = f.code.length
  rows : ∀ v ∈ M, Rw f.R.toNat v
def row (M : List (List Vl)) (p : Nat) : List Vl := M.getD p []
structure Holds (f : Fn7) (M : List (List Vl)) : Prop where
  shp : Shp f M
  start : rle (ini f) (row M 0)
  edge : ∀ p n u, Edge f M p n u → rle u (row M n)
def mle (M N : List (List Vl)) : Prop := ∀ p, rle (row M p) (row N p)
/-- the least that holds together -/
structure Ans (f : Fn7) (M : List (List Vl)) : Prop where
  holds : Holds f M
  least : ∀ N, Holds f N → mle M N
end Go.Proofs.Ytkcclefonmnpnaa

/- THE WAY TO THE LEAST THAT HOLDS TOGETHER (plain): a list of what is to do. -/
namespace Go.Proofs.Ytkcclefonmnpnaa
open Go.RowKit Go.BigFrame

def jrow (a b : List Vl) : List Vl := List.zipWith join a b
/-- how far values may still rise -/
def rk (v : Vl) : Nat := if v.k = 0 then 2 else if v.k = 1 then 1 else 0
def rpot (v : List Vl) : Nat := (v.map rk).sum
def cw (b : Bool) : Nat := if b then 0 else 1
def pot (M : List (List Vl)) (C : List Bool) : Nat := (M.map rpot).sum + (C.map cw).sum
abbrev cm (C : List Bool) (p : Nat) : Bool := C.getD p false
/-- what holds all along -/
structure Way (f : Fn7) (M : List (List Vl)) (C : List Bool) (T : List Nat) : Prop where
  shp : Shp f M
  clen : C.length = f.code.length
  least : ∀ N, Holds f N → mle M N
  start : rle (ini f) (row M 0)
  come : ∀ p, cm C p = true → rok (row M p)
  gone : ∀ p, cm C p = false → ∀ r, at_ (row M p) r = nv
  c0 : cm C 0 = true
  tin : ∀ p ∈ T, cm C p = true
def Met (f : Fn7) (M : List (List Vl)) (p : Nat) : Prop := ∀ n u, Edge f M p n u → rle u (row M n)
/-- at the head of a round -/
structure Head (f : Fn7) (M : List (List Vl)) (C : List Bool) (T : List Nat) : Prop where
  way : Way f M C T
  q : ∀ p, cm C p = true → p ∈ T ∨ Met f M p
/-- within a round: p was taken, with v; the next ones D are done -/
structure Mid (f : Fn7) (p : Nat) (i : Ins) (v : List Vl) (D : List Int) (M : List (List Vl)) (C : List Bool) (T : List Nat) : Prop where
  way : Way f M C T
  ip : f.code[p]? = some i
  okf : Ok i (f.R.toNat : Int) f.Fr f.code.length
  vrw : Rw f.R.toNat v
  vok : rok v
  vle : rle v (row M p)
  on : (setV i v).2 = true
  q : ∀ p', cm C p' = true → p' ∈ T ∨ p' = p ∨ Met f M p'
  mine : p ∈ T ∨ row M p = v
  cp : cm C p = true
  done : ∀ n : Nat, (n : Int) ∈ D → rle (upd i v) (row M n)
end Go.Proofs.Ytkcclefonmnpnaa

namespace Go.Proofs.Ytkcclefonmnpnaa
open Go.RowKit Go.BigFrame

theorem tdiv_bd {a b : Int} (h : -2147483648 ≤ a ∧ a < 4294967296) : -9223372036854775808 ≤ a.tdiv b ∧ a.tdiv b < 9223372036854775808 := by
  have h1 := Int.natAbs_tdiv_le_natAbs a b
  omega
theorem sub_tdiv (a b : Int) : a - a.tdiv b * b = a.tmod b := by
  have := Int.tdiv_mul_add_tmod a b
  omega
theorem tmod_bd2 {a b : Int} (h : -2147483648 ≤ a ∧ a < 4294967296) : -9223372036854775808 ≤ a.tmod b ∧ a.tmod b < 9223372036854775808 := by
  have h2 : (a.tmod b).natAbs ≤ a.natAbs := by rw [Int.natAbs_tmod]; exact Nat.mod_le _ _
  omega
theorem tdiv_mul_bd {a b : Int} (h : -2147483648 ≤ a ∧ a < 4294967296) : -9223372036854775808 ≤ a.tdiv b * b ∧ a.tdiv b * b < 9223372036854775808 := by
  have h1 := Int.tdiv_mul_add_tmod a b
  have h2 : (a.tmod b).natAbs ≤ a.natAbs := by rw [Int.natAbs_tmod]; exact Nat.mod_le _ _
  omega
theorem wr_nat (Z : BitVec 32) : wr (Z.toNat : Int) = Z.toInt := by
  rw [wr_b]
  unfold b32
  rw [BitVec.ofInt_natCast, BitVec.ofNat_toNat, BitVec.setWidth_eq]
theorem b32_wr (n : Int) : b32 (wr n) = b32 n := by rw [wr_b, b32_toInt]
theorem pl0n {b : Int} (h : wr b ≠ 0) : pl (wr b) ≠ 0 := by have := wr_bd b; unfold pl; omega
theorem pl0s {b : Int} (h : wr b = 0) : pl (wr b) = 0 := by rw [h]; decide
theorem le_eq {a b : Int} (h : ¬ a < b) : decide (a ≤ b) = (a == b) := by
  by_cases e : a = b
  · subst e; simp
  · rw [beq_eq_false_iff_ne.2 e]; simp; omega
set_option maxRecDepth 1000000 in
set_option maxHeartbeats 4000000 in
theorem ref_1 (a b : Int) (w : World) : Calls Try.prog 46 #[.int .i64 1, .int .i64 a, .int .i64 b] w fun e w' => e = .returned (.tuple #[.int .i64 (wr (wr a + wr b)), .bool (true)]) ∧ Below w.heap.size w w' := by
  have h1 := wr_bd a
  have h2 := wr_bd b
  have h5 := pl_bd (wr a)
  have h6 := pl_bd (wr b)
  obtain ⟨kk, hkk⟩ : ∃ kk, kk = (wr b % 32).toNat := ⟨_, rfl⟩
  have hk1 : pl (wr b) % 32 = (kk : Int) := by rw [hkk]; unfold pl; omega
  have hk2 : (pl (wr b)).tmod 32 = (kk : Int) := by rw [Int.tmod_eq_emod_of_nonneg h6.1, hk1]
  have hk3 : kk ≤ 31 := by omega
  clear hkk
  have f1 : wrap64 (wr a + wr b) = wr a + wr b := w64 (by omega)
  by_cases hz : wr b = 0
  · have z1 : (wr b == 0) = true := by simp [hz]
    have z2 : decide (wr b = 0) = true := by simp [hz]
    clear hz
    go_enter Try.func46, Try.ntmps46
    go_wp2_with (first
      | (go_at_call 73; refine (refwrap_any _ _).mono ?_; rintro e w' ⟨rfl, rfl⟩)
      | (go_at_call 59; refine (refplain_any _ _).mono ?_; rintro e w' ⟨rfl, rfl⟩)
      | (go_at_call 74; refine (power_any kk hk3 _).mono ?_; rintro e w' ⟨rfl, rfl⟩)
      | (go_at_call 77; refine (reftruth_any _ _).mono ?_; rintro e w' ⟨rfl, rfl⟩))
    go_returns
    exact ⟨rfl, Below.refl _ _⟩
  · have z1 : (wr b == 0) = false := by simp [hz]
    have z2 : decide (wr b = 0) = false := by simp [hz]
    go_enter Try.func46, Try.ntmps46
    go_wp2_with (first
      | (go_at_call 73; refine (refwrap_any _ _).mono ?_; rintro e w' ⟨rfl, rfl⟩)
      | (go_at_call 59; refine (refplain_any _ _).mono ?_; rintro e w' ⟨rfl, rfl⟩)
      | (go_at_call 74; refine (power_any kk hk3 _).mono ?_; rintro e w' ⟨rfl, rfl⟩)
      | (go_at_call 77; refine (reftruth_any _ _).mono ?_; rintro e w' ⟨rfl, rfl⟩))
    go_returns
    exact ⟨rfl, Below.refl _ _⟩
set_option maxRecDepth 1000000 in
set_option maxHeartbeats 4000000 in
theorem ref_2 (a b : Int) (w : World) : Calls Try.prog 46 #[.int .i64 2, .int .i64 a, .int .i64 b] w fun e w' => e = .returned (.tuple #[.int .i64 (wr (wr a - wr b)), .bool (true)]) ∧ Below w.heap.size w w' := by
  have h1 := wr_bd a
  have h2 := wr_bd b
  have h5 := pl_bd (wr a)
  have h6 := pl_bd (wr b)
  obtain ⟨kk, hkk⟩ : ∃ kk, kk = (wr b % 32).toNat := ⟨_, rfl⟩
  have hk1 : pl (wr b) % 32 = (kk : Int) := by rw [hkk]; unfold pl; omega
  have hk2 : (pl (wr b)).tmod 32 = (kk : Int) := by rw [Int.tmod_eq_emod_of_nonneg h6.1, hk1]
  have hk3 : kk ≤ 31 := by omega
  clear hkk
  have f1 : wrap64 (wr a - wr b) = wr a - wr b := w64 (by omega)
  by_cases hz : wr b = 0
  · have z1 : (wr b == 0) = true := by simp [hz]
    have z2 : decide (wr b = 0) = true := by simp [hz]
    clear hz
    go_enter Try.func46, Try.ntmps46
    go_wp2_with (first
      | (go_at_call 73; refine (refwrap_any _ _).mono ?_; rintro e w' ⟨rfl, rfl⟩)
      | (go_at_call 59; refine (refplain_any _ _).mono ?_; rintro e w' ⟨rfl, rfl⟩)
      | (go_at_call 74; refine (power_any kk hk3 _).mono ?_; rintro e w' ⟨rfl, rfl⟩)
      | (go_at_call 77; refine (reftruth_any _ _).mono ?_; rintro e w' ⟨rfl, rfl⟩))
    go_returns
    exact ⟨rfl, Below.refl _ _⟩
  · have z1 : (wr b == 0) = false := by simp [hz]
    have z2 : decide (wr b = 0) = false := by simp [hz]
    go_enter Try.func46, Try.ntmps46
    go_wp2_with (first
      | (go_at_call 73; refine (refwrap_any _ _).mono ?_; rintro e w' ⟨rfl, rfl⟩)
      | (go_at_call 59; refine (refplain_any _ _).mono ?_; rintro e w' ⟨rfl, rfl⟩)
      | (go_at_call 74; refine (power_any kk hk3 _).mono ?_; rintro e w' ⟨rfl, rfl⟩)
      | (go_at_call 77; refine (reftruth_any _ _).mono ?_; rintro e w' ⟨rfl, rfl⟩))
    go_returns
    exact ⟨rfl, Below.refl _ _⟩
set_option maxRecDepth 1000000 in
set_option maxHeartbeats 4000000 in
theorem ref_3 (a b : Int) (w : World) : Calls Try.prog 46 #[.int .i64 3, .int .i64 a, .int .i64 b] w fun e w' => e = .returned (.tuple #[.int .i64 (wr (wr a * wr b)), .bool (true)]) ∧ Below w.heap.size w w' := by
  have h1 := wr_bd a
  have h2 := wr_bd b
  have h5 := pl_bd (wr a)
  have h6 := pl_bd (wr b)
  obtain ⟨kk, hkk⟩ : ∃ kk, kk = (wr b % 32).toNat := ⟨_, rfl⟩
  have hk1 : pl (wr b) % 32 = (kk : Int) := by rw [hkk]; unfold pl; omega
  have hk2 : (pl (wr b)).tmod 32 = (kk : Int) := by rw [Int.tmod_eq_emod_of_nonneg h6.1, hk1]
  have hk3 : kk ≤ 31 := by omega
  clear hkk
  have f1 : wrap64 (wr a * wr b) = wr a * wr b := w64 (mul_bd h1 h2)
  by_cases hz : wr b = 0
  · have z1 : (wr b == 0) = true := by simp [hz]
    have z2 : decide (wr b = 0) = true := by simp [hz]
    clear hz
    go_enter Try.func46, Try.ntmps46
    go_wp2_with (first
      | (go_at_call 73; refine (refwrap_any _ _).mono ?_; rintro e w' ⟨rfl, rfl⟩)
      | (go_at_call 59; refine (refplain_any _ _).mono ?_; rintro e w' ⟨rfl, rfl⟩)
      | (go_at_call 74; refine (power_any kk hk3 _).mono ?_; rintro e w' ⟨rfl, rfl⟩)
      | (go_at_call 77; refine (reftruth_any _ _).mono ?_; rintro e w' ⟨rfl, rfl⟩))
    go_returns
    exact ⟨rfl, Below.refl _ _⟩
  · have z1 : (wr b == 0) = false := by simp [hz]
    have z2 : decide (wr b = 0) = false := by simp [hz]
    go_enter Try.func46, Try.ntmps46
    go_wp2_with (first
      | (go_at_call 73; refine (refwrap_any _ _).mono ?_; rintro e w' ⟨rfl, rfl⟩)
      | (go_at_call 59; refine (refplain_any _ _).mono ?_; rintro e w' ⟨rfl, rfl⟩)
      | (go_at_call 74; refine (power_any kk hk3 _).mono ?_; rintro e w' ⟨rfl, rfl⟩)
      | (go_at_call 77; refine (reftruth_any _ _).mono ?_; rintro e w' ⟨rfl, rfl⟩))
    go_returns
    exact ⟨rfl, Below.refl _ _⟩
set_option maxRecDepth 1000000 in
set_option maxHeartbeats 4000000 in
theorem ref_4 (a b : Int) (w : World) : Calls Try.prog 46 #[.int .i64 4, .int .i64 a, .int .i64 b] w fun e w' => e = .returned (.tuple #[.int .i64 (wr (dv (wr a) (wr b))), .bool (!decide (wr b = 0))]) ∧ Below w.heap.size w w' := by
  have h1 := wr_bd a
  have h2 := wr_bd b
  have h5 := pl_bd (wr a)
  have h6 := pl_bd (wr b)
  obtain ⟨kk, hkk⟩ : ∃ kk, kk = (wr b % 32).toNat := ⟨_, rfl⟩
  have hk1 : pl (wr b) % 32 = (kk : Int) := by rw [hkk]; unfold pl; omega
  have hk2 : (pl (wr b)).tmod 32 = (kk : Int) := by rw [Int.tmod_eq_emod_of_nonneg h6.1, hk1]
  have hk3 : kk ≤ 31 := by omega
  clear hkk
  have f1 : wrap64 ((wr a).tdiv (wr b)) = (wr a).tdiv (wr b) := w64 (tdiv_bd ⟨by omega, by omega⟩)
  by_cases hz : wr b = 0
  · have z1 : (wr b == 0) = true := by simp [hz]
    have z2 : decide (wr b = 0) = true := by simp [hz]
    rw [show wr (dv (wr a) (wr b)) = 0 by rw [hz]; simp [dv, wr], show (!decide (wr b = 0)) = false by simp [hz]]
    clear hz
    go_enter Try.func46, Try.ntmps46
    go_wp2_with (first
      | (go_at_call 73; refine (refwrap_any _ _).mono ?_; rintro e w' ⟨rfl, rfl⟩)
      | (go_at_call 59; refine (refplain_any _ _).mono ?_; rintro e w' ⟨rfl, rfl⟩)
      | (go_at_call 74; refine (power_any kk hk3 _).mono ?_; rintro e w' ⟨rfl, rfl⟩)
      | (go_at_call 77; refine (reftruth_any _ _).mono ?_; rintro e w' ⟨rfl, rfl⟩))
    go_returns
    exact ⟨rfl, Below.refl _ _⟩
  · have z1 : (wr b == 0) = false := by simp [hz]
    have z2 : decide (wr b = 0) = false := by simp [hz]
    rw [show wr (dv (wr a) (wr b)) = wr ((wr a).tdiv (wr b)) by unfold dv; rw [if_neg hz], show (!decide (wr b = 0)) = true by simp [hz]]
    go_enter Try.func46, Try.ntmps46
    go_wp2_with (first
      | (go_at_call 73; refine (refwrap_any _ _).mono ?_; rintro e w' ⟨rfl, rfl⟩)
      | (go_at_call 59; refine (refplain_any _ _).mono ?_; rintro e w' ⟨rfl, rfl⟩)
      | (go_at_call 74; refine (power_any kk hk3 _).mono ?_; rintro e w' ⟨rfl, rfl⟩)
      | (go_at_call 77; refine (reftruth_any _ _).mono ?_; rintro e w' ⟨rfl, rfl⟩))
    go_returns
    exact ⟨rfl, Below.refl _ _⟩
set_option maxRecDepth 1000000 in
set_option maxHeartbeats 4000000 in
theorem ref_5 (a b : Int) (w : World) : Calls Try.prog 46 #[.int .i64 5, .int .i64 a, .int .i64 b] w fun e w' => e = .returned (.tuple #[.int .i64 (wr (md (wr a) (wr b))), .bool (!decide (wr b = 0))]) ∧ Below w.heap.size w w' := by
  have h1 := wr_bd a
  have h2 := wr_bd b
  have h5 := pl_bd (wr a)
  have h6 := pl_bd (wr b)
  obtain ⟨kk, hkk⟩ : ∃ kk, kk = (wr b % 32).toNat := ⟨_, rfl⟩
  have hk1 : pl (wr b) % 32 = (kk : Int) := by rw [hkk]; unfold pl; omega
  have hk2 : (pl (wr b)).tmod 32 = (kk : Int) := by rw [Int.tmod_eq_emod_of_nonneg h6.1, hk1]
  have hk3 : kk ≤ 31 := by omega
  clear hkk
  have f1 : wrap64 ((wr a).tdiv (wr b)) = (wr a).tdiv (wr b) := w64 (tdiv_bd ⟨by omega, by omega⟩)
  have f2 : wrap64 ((wr a).tdiv (wr b) * wr b) = (wr a).tdiv (wr b) * wr b := w64 (tdiv_mul_bd ⟨by omega, by omega⟩)
  have f3 : wrap64 (wr a - (wr a).tdiv (wr b) * wr b) = (wr a).tmod (wr b) := by rw [sub_tdiv]; exact w64 (tmod_bd2 ⟨by omega, by omega⟩)
  by_cases hz : wr b = 0
  · have z1 : (wr b == 0) = true := by simp [hz]
    have z2 : decide (wr b = 0) = true := by simp [hz]
    rw [show wr (md (wr a) (wr b)) = 0 by rw [hz]; simp [md, wr], show (!decide (wr b = 0)) = false by simp [hz]]
    clear hz
    go_enter Try.func46, Try.ntmps46
    go_wp2_with (first
      | (go_at_call 73; refine (refwrap_any _ _).mono ?_; rintro e w' ⟨rfl, rfl⟩)
      | (go_at_call 59; refine (refplain_any _ _).mono ?_; rintro e w' ⟨rfl, rfl⟩)
      | (go_at_call 74; refine (power_any kk hk3 _).mono ?_; rintro e w' ⟨rfl, rfl⟩)
      | (go_at_call 77; refine (reftruth_any _ _).mono ?_; rintro e w' ⟨rfl, rfl⟩))
    go_returns
    exact ⟨rfl, Below.refl _ _⟩
  · have z1 : (wr b == 0) = false := by simp [hz]
    have z2 : decide (wr b = 0) = false := by simp [hz]
    rw [show wr (md (wr a) (wr b)) = wr ((wr a).tmod (wr b)) by unfold md; rw [if_neg hz], show (!decide (wr b = 0)) = true by simp [hz]]
    go_enter Try.func46, Try.ntmps46
    go_wp2_with (first
      | (go_at_call 73; refine (refwrap_any _ _).mono ?_; rintro e w' ⟨rfl, rfl⟩)
      | (go_at_call 59; refine (refplain_any _ _).mono ?_; rintro e w' ⟨rfl, rfl⟩)
      | (go_at_call 74; refine (power_any kk hk3 _).mono ?_; rintro e w' ⟨rfl, rfl⟩)
      | (go_at_call 77; refine (reftruth_any _ _).mono ?_; rintro e w' ⟨rfl, rfl⟩))
    go_returns
    exact ⟨rfl, Below.refl _ _⟩
set_option maxRecDepth 1000000 in
set_option maxHeartbeats 4000000 in
theorem ref_6 (a b : Int) (w : World) : Calls Try.prog 46 #[.int .i64 6, .int .i64 a, .int .i64 b] w fun e w' => e = .returned (.tuple #[.int .i64 (wr (dv (pl (wr a)) (pl (wr b)))), .bool (!decide (pl (wr b) = 0))]) ∧ Below w.heap.size w w' := by
  have h1 := wr_bd a
  have h2 := wr_bd b
  have h5 := pl_bd (wr a)
  have h6 := pl_bd (wr b)
  obtain ⟨kk, hkk⟩ : ∃ kk, kk = (wr b % 32).toNat := ⟨_, rfl⟩
  have hk1 : pl (wr b) % 32 = (kk : Int) := by rw [hkk]; unfold pl; omega
  have hk2 : (pl (wr b)).tmod 32 = (kk : Int) := by rw [Int.tmod_eq_emod_of_nonneg h6.1, hk1]
  have hk3 : kk ≤ 31 := by omega
  clear hkk
  have f1 : wrap64 ((pl (wr a)).tdiv (pl (wr b))) = (pl (wr a)).tdiv (pl (wr b)) := w64 (tdiv_bd ⟨by omega, by omega⟩)
  by_cases hz : wr b = 0
  · have z1 : (wr b == 0) = true := by simp [hz]
    have z2 : decide (wr b = 0) = true := by simp [hz]
    rw [show wr (dv (pl (wr a)) (pl (wr b))) = 0 by rw [pl0s hz]; simp [dv, wr], show (!decide (pl (wr b) = 0)) = false by simp [pl0s hz]]
    clear hz
    go_enter Try.func46, Try.ntmps46
    go_wp2_with (first
      | (go_at_call 73; refine (refwrap_any _ _).mono ?_; rintro e w' ⟨rfl, rfl⟩)
      | (go_at_call 59; refine (refplain_any _ _).mono ?_; rintro e w' ⟨rfl, rfl⟩)
      | (go_at_call 74; refine (power_any kk hk3 _).mono ?_; rintro e w' ⟨rfl, rfl⟩)
      | (go_at_call 77; refine (reftruth_any _ _).mono ?_; rintro e w' ⟨rfl, rfl⟩))
    go_returns
    exact ⟨rfl, Below.refl _ _⟩
  · have z1 : (wr b == 0) = false := by simp [hz]
    have z2 : decide (wr b = 0) = false := by simp [hz]
    rw [show wr (dv (pl (wr a)) (pl (wr b))) = wr (pl (wr a) / pl (wr b)) by unfold dv; rw [if_neg (pl0n hz), Int.tdiv_eq_ediv_of_nonneg h5.1], show (!decide (pl (wr b) = 0)) = true by simp [pl0n hz]]
    have q1 : (pl (wr b) == 0) = false := by simp [pl0n hz]
    have q2 : decide (pl (wr b) = 0) = false := by simp [pl0n hz]
    have q3 := pl0n hz
    go_enter Try.func46, Try.ntmps46
    go_wp2_with (first
      | (go_at_call 73; refine (refwrap_any _ _).mono ?_; rintro e w' ⟨rfl, rfl⟩)
      | (go_at_call 59; refine (refplain_any _ _).mono ?_; rintro e w' ⟨rfl, rfl⟩)
      | (go_at_call 74; refine (power_any kk hk3 _).mono ?_; rintro e w' ⟨rfl, rfl⟩)
      | (go_at_call 77; refine (reftruth_any _ _).mono ?_; rintro e w' ⟨rfl, rfl⟩))
    go_returns
    exact ⟨rfl, Below.refl _ _⟩
set_option maxRecDepth 1000000 in
set_option maxHeartbeats 4000000 in
theorem ref_7 (a b : Int) (w : World) : Calls Try.prog 46 #[.int .i64 7, .int .i64 a, .int .i64 b] w fun e w' => e = .returned (.tuple #[.int .i64 (wr (md (pl (wr a)) (pl (wr b)))), .bool (!decide (pl (wr b) = 0))]) ∧ Below w.heap.size w w' := by
  have h1 := wr_bd a
  have h2 := wr_bd b
  have h5 := pl_bd (wr a)
  have h6 := pl_bd (wr b)
  obtain ⟨kk, hkk⟩ : ∃ kk, kk = (wr b % 32).toNat := ⟨_, rfl⟩
  have hk1 : pl (wr b) % 32 = (kk : Int) := by rw [hkk]; unfold pl; omega
  have hk2 : (pl (wr b)).tmod 32 = (kk : Int) := by rw [Int.tmod_eq_emod_of_nonneg h6.1, hk1]
  have hk3 : kk ≤ 31 := by omega
  clear hkk
  have f1 : wrap64 ((pl (wr a)).tdiv (pl (wr b))) = (pl (wr a)).tdiv (pl (wr b)) := w64 (tdiv_bd ⟨by omega, by omega⟩)
  have f2 : wrap64 ((pl (wr a)).tdiv (pl (wr b)) * pl (wr b)) = (pl (wr a)).tdiv (pl (wr b)) * pl (wr b) := w64 (tdiv_mul_bd ⟨by omega, by omega⟩)
  have f3 : wrap64 (pl (wr a) - (pl (wr a)).tdiv (pl (wr b)) * pl (wr b)) = (pl (wr a)).tmod (pl (wr b)) := by rw [sub_tdiv]; exact w64 (tmod_bd2 ⟨by omega, by omega⟩)
  have e0 : (pl (wr a)).tdiv (pl (wr b)) = pl (wr a) / pl (wr b) := Int.tdiv_eq_ediv_of_nonneg h5.1
  have g1 := f1
  have g2 := f2
  have g3 := f3
  rw [e0] at g1 g2 g3
  by_cases hz : wr b = 0
  · have z1 : (wr b == 0) = true := by simp [hz]
    have z2 : decide (wr b = 0) = true := by simp [hz]
    rw [show wr (md (pl (wr a)) (pl (wr b))) = 0 by rw [pl0s hz]; simp [md, wr], show (!decide (pl (wr b) = 0)) = false by simp [pl0s hz]]
    clear hz
    go_enter Try.func46, Try.ntmps46
    go_wp2_with (first
      | (go_at_call 73; refine (refwrap_any _ _).mono ?_; rintro e w' ⟨rfl, rfl⟩)
      | (go_at_call 59; refine (refplain_any _ _).mono ?_; rintro e w' ⟨rfl, rfl⟩)
      | (go_at_call 74; refine (power_any kk hk3 _).mono ?_; rintro e w' ⟨rfl, rfl⟩)
      | (go_at_call 77; refine (reftruth_any _ _).mono ?_; rintro e w' ⟨rfl, rfl⟩))
    go_returns
    exact ⟨rfl, Below.refl _ _⟩
  · have z1 : (wr b == 0) = false := by simp [hz]
    have z2 : decide (wr b = 0) = false := by simp [hz]
    rw [show wr (md (pl (wr a)) (pl (wr b))) = wr (pl (wr a) % pl (wr b)) by unfold md; rw [if_neg (pl0n hz), Int.tmod_eq_emod_of_nonneg h5.1], show (!decide (pl (wr b) = 0)) = true by simp [pl0n hz]]
    have q1 : (pl (wr b) == 0) = false := by simp [pl0n hz]
    have q2 : decide (pl (wr b) = 0) = false := by simp [pl0n hz]
    have q3 := pl0n hz
    go_enter Try.func46, Try.ntmps46
    go_wp2_with (first
      | (go_at_call 73; refine (refwrap_any _ _).mono ?_; rintro e w' ⟨rfl, rfl⟩)
      | (go_at_call 59; refine (refplain_any _ _).mono ?_; rintro e w' ⟨rfl, rfl⟩)
      | (go_at_call 74; refine (power_any kk hk3 _).mono ?_; rintro e w' ⟨rfl, rfl⟩)
      | (go_at_call 77; refine (reftruth_any _ _).mono ?_; rintro e w' ⟨rfl, rfl⟩))
    refine wp_region_later (by kernel_rfl) (by kernel_rfl) ?_
    repeat (go_big_quiet_step ((go_at_call 59; exact Calls.later_same (refplain_any _ _))))
    refine wpQuiet_nil ?_
    rintro w1 ⟨s, rfl⟩
    have hb1 := s.h
    go_wp2_with (go_at_call 73; refine (refwrap_any _ _).mono ?_; rintro e w' ⟨rfl, rfl⟩)
    go_returns
    exact ⟨rfl, hb1⟩
set_option maxRecDepth 1000000 in
set_option maxHeartbeats 4000000 in
theorem ref_8 (a b : Int) (w : World) : Calls Try.prog 46 #[.int .i64 8, .int .i64 a, .int .i64 b] w fun e w' => e = .returned (.tuple #[.int .i64 (wr (bits .and .i64 (wr a) (wr b))), .bool (true)]) ∧ Below w.heap.size w w' := by
  have h1 := wr_bd a
  have h2 := wr_bd b
  have h5 := pl_bd (wr a)
  have h6 := pl_bd (wr b)
  obtain ⟨kk, hkk⟩ : ∃ kk, kk = (wr b % 32).toNat := ⟨_, rfl⟩
  have hk1 : pl (wr b) % 32 = (kk : Int) := by rw [hkk]; unfold pl; omega
  have hk2 : (pl (wr b)).tmod 32 = (kk : Int) := by rw [Int.tmod_eq_emod_of_nonneg h6.1, hk1]
  have hk3 : kk ≤ 31 := by omega
  clear hkk
  rw [(show wr (bits .and .i64 (wr a) (wr b)) = wr (((b32 (wr a) &&& b32 (wr b)).toNat : Nat) : Int) by rw [v_and, wr_nat, b32_wr, b32_wr])]
  by_cases hz : wr b = 0
  · have z1 : (wr b == 0) = true := by simp [hz]
    have z2 : decide (wr b = 0) = true := by simp [hz]
    clear hz
    go_enter Try.func46, Try.ntmps46
    go_wp2_with (first
      | (go_at_call 73; refine (refwrap_any _ _).mono ?_; rintro e w' ⟨rfl, rfl⟩)
      | (go_at_call 59; refine (refplain_any _ _).mono ?_; rintro e w' ⟨rfl, rfl⟩)
      | (go_at_call 74; refine (power_any kk hk3 _).mono ?_; rintro e w' ⟨rfl, rfl⟩)
      | (go_at_call 75; refine (bits0_any (wr a) (wr b) _).mono ?_; rintro e w1 ⟨rfl, hb1⟩)
      | (go_at_call 77; refine (reftruth_any _ _).mono ?_; rintro e w' ⟨rfl, rfl⟩))
    go_returns
    exact ⟨rfl, hb1⟩
  · have z1 : (wr b == 0) = false := by simp [hz]
    have z2 : decide (wr b = 0) = false := by simp [hz]
    go_enter Try.func46, Try.ntmps46
    go_wp2_with (first
      | (go_at_call 73; refine (refwrap_any _ _).mono ?_; rintro e w' ⟨rfl, rfl⟩)
      | (go_at_call 59; refine (refplain_any _ _).mono ?_; rintro e w' ⟨rfl, rfl⟩)
      | (go_at_call 74; refine (power_any kk hk3 _).mono ?_; rintro e w' ⟨rfl, rfl⟩)
      | (go_at_call 75; refine (bits0_any (wr a) (wr b) _).mono ?_; rintro e w1 ⟨rfl, hb1⟩)
      | (go_at_call 77; refine (reftruth_any _ _).mono ?_; rintro e w' ⟨rfl, rfl⟩))
    go_returns
    exact ⟨rfl, hb1⟩
set_option maxRecDepth 1000000 in
set_option maxHeartbeats 4000000 in
theorem ref_9 (a b : Int) (w : World) : Calls Try.prog 46 #[.int .i64 9, .int .i64 a, .int .i64 b] w fun e w' => e = .returned (.tuple #[.int .i64 (wr (bits .or .i64 (wr a) (wr b))), .bool (true)]) ∧ Below w.heap.size w w' := by
  have h1 := wr_bd a
  have h2 := wr_bd b
  have h5 := pl_bd (wr a)
  have h6 := pl_bd (wr b)
  obtain ⟨kk, hkk⟩ : ∃ kk, kk = (wr b % 32).toNat := ⟨_, rfl⟩
  have hk1 : pl (wr b) % 32 = (kk : Int) := by rw [hkk]; unfold pl; omega
  have hk2 : (pl (wr b)).tmod 32 = (kk : Int) := by rw [Int.tmod_eq_emod_of_nonneg h6.1, hk1]
  have hk3 : kk ≤ 31 := by omega
  clear hkk
  rw [(show wr (bits .or .i64 (wr a) (wr b)) = wr (((b32 (wr a) ||| b32 (wr b)).toNat : Nat) : Int) by rw [v_or, wr_nat, b32_wr, b32_wr])]
  by_cases hz : wr b = 0
  · have z1 : (wr b == 0) = true := by simp [hz]
    have z2 : decide (wr b = 0) = true := by simp [hz]
    clear hz
    go_enter Try.func46, Try.ntmps46
    go_wp2_with (first
      | (go_at_call 73; refine (refwrap_any _ _).mono ?_; rintro e w' ⟨rfl, rfl⟩)
      | (go_at_call 59; refine (refplain_any _ _).mono ?_; rintro e w' ⟨rfl, rfl⟩)
      | (go_at_call 74; refine (power_any kk hk3 _).mono ?_; rintro e w' ⟨rfl, rfl⟩)
      | (go_at_call 75; refine (bits1_any (wr a) (wr b) _).mono ?_; rintro e w1 ⟨rfl, hb1⟩)
      | (go_at_call 77; refine (reftruth_any _ _).mono ?_; rintro e w' ⟨rfl, rfl⟩))
    go_returns
    exact ⟨rfl, hb1⟩
  · have z1 : (wr b == 0) = false := by simp [hz]
    have z2 : decide (wr b = 0) = false := by simp [hz]
    go_enter Try.func46, Try.ntmps46
    go_wp2_with (first
      | (go_at_call 73; refine (refwrap_any _ _).mono ?_; rintro e w' ⟨rfl, rfl⟩)
      | (go_at_call 59; refine (refplain_any _ _).mono ?_; rintro e w' ⟨rfl, rfl⟩)
      | (go_at_call 74; refine (power_any kk hk3 _).mono ?_; rintro e w' ⟨rfl, rfl⟩)
      | (go_at_call 75; refine (bits1_any (wr a) (wr b) _).mono ?_; rintro e w1 ⟨rfl, hb1⟩)
      | (go_at_call 77; refine (reftruth_any _ _).mono ?_; rintro e w' ⟨rfl, rfl⟩))
    go_returns
    exact ⟨rfl, hb1⟩
set_option maxRecDepth 1000000 in
set_option maxHeartbeats 4000000 in
theorem ref_10 (a b : Int) (w : World) : Calls Try.prog 46 #[.int .i64 10, .int .i64 a, .int .i64 b] w fun e w' => e = .returned (.tuple #[.int .i64 (wr (bits .xor .i64 (wr a) (wr b))), .bool (true)]) ∧ Below w.heap.size w w' := by
  have h1 := wr_bd a
  have h2 := wr_bd b
  have h5 := pl_bd (wr a)
  have h6 := pl_bd (wr b)
  obtain ⟨kk, hkk⟩ : ∃ kk, kk = (wr b % 32).toNat := ⟨_, rfl⟩
  have hk1 : pl (wr b) % 32 = (kk : Int) := by rw [hkk]; unfold pl; omega
  have hk2 : (pl (wr b)).tmod 32 = (kk : Int) := by rw [Int.tmod_eq_emod_of_nonneg h6.1, hk1]
  have hk3 : kk ≤ 31 := by omega
  clear hkk
  rw [(show wr (bits .xor .i64 (wr a) (wr b)) = wr (((b32 (wr a) ^^^ b32 (wr b)).toNat : Nat) : Int) by rw [v_xor, wr_nat, b32_wr, b32_wr])]
  by_cases hz : wr b = 0
  · have z1 : (wr b == 0) = true := by simp [hz]
    have z2 : decide (wr b = 0) = true := by simp [hz]
    clear hz
    go_enter Try.func46, Try.ntmps46
    go_wp2_with (first
      | (go_at_call 73; refine (refwrap_any _ _).mono ?_; rintro e w' ⟨rfl, rfl⟩)
      | (go_at_call 59; refine (refplain_any _ _).mono ?_; rintro e w' ⟨rfl, rfl⟩)
      | (go_at_call 74; refine (power_any kk hk3 _).mono ?_; rintro e w' ⟨rfl, rfl⟩)
      | (go_at_call 75; refine (bits2_any (wr a) (wr b) _).mono ?_; rintro e w1 ⟨rfl, hb1⟩)
      | (go_at_call 77; refine (reftruth_any _ _).mono ?_; rintro e w' ⟨rfl, rfl⟩))
    go_returns
    exact ⟨rfl, hb1⟩
  · have z1 : (wr b == 0) = false := by simp [hz]
    have z2 : decide (wr b = 0) = false := by simp [hz]
    go_enter Try.func46, Try.ntmps46
    go_wp2_with (first
      | (go_at_call 73; refine (refwrap_any _ _).mono ?_; rintro e w' ⟨rfl, rfl⟩)
      | (go_at_call 59; refine (refplain_any _ _).mono ?_; rintro e w' ⟨rfl, rfl⟩)
      | (go_at_call 74; refine (power_any kk hk3 _).mono ?_; rintro e w' ⟨rfl, rfl⟩)
      | (go_at_call 75; refine (bits2_any (wr a) (wr b) _).mono ?_; rintro e w1 ⟨rfl, hb1⟩)
      | (go_at_call 77; refine (reftruth_any _ _).mono ?_; rintro e w' ⟨rfl, rfl⟩))
    go_returns
    exact ⟨rfl, hb1⟩
set_option maxRecDepth 1000000 in
set_option maxHeartbeats 4000000 in
theorem ref_11 (a b : Int) (w : World) : Calls Try.prog 46 #[.int .i64 11, .int .i64 a, .int .i64 b] w fun e w' => e = .returned (.tuple #[.int .i64 (wr (wr a * 2 ^ (wr b % 32).toNat)), .bool (true)]) ∧ Below w.heap.size w w' := by
  have h1 := wr_bd a
  have h2 := wr_bd b
  have h5 := pl_bd (wr a)
  have h6 := pl_bd (wr b)
  obtain ⟨kk, hkk⟩ : ∃ kk, kk = (wr b % 32).toNat := ⟨_, rfl⟩
  have hk1 : pl (wr b) % 32 = (kk : Int) := by rw [hkk]; unfold pl; omega
  have hk2 : (pl (wr b)).tmod 32 = (kk : Int) := by rw [Int.tmod_eq_emod_of_nonneg h6.1, hk1]
  have hk3 : kk ≤ 31 := by omega
  rw [← hkk]
  clear hkk
  have f1 : wrap64 (wr a * 2 ^ kk) = wr a * 2 ^ kk := w64 (shl_bd h1 (by omega))
  by_cases hz : wr b = 0
  · have z1 : (wr b == 0) = true := by simp [hz]
    have z2 : decide (wr b = 0) = true := by simp [hz]
    clear hz
    go_enter Try.func46, Try.ntmps46
    go_wp2_with (first
      | (go_at_call 73; refine (refwrap_any _ _).mono ?_; rintro e w' ⟨rfl, rfl⟩)
      | (go_at_call 59; refine (refplain_any _ _).mono ?_; rintro e w' ⟨rfl, rfl⟩)
      | (go_at_call 74; refine (power_any kk hk3 _).mono ?_; rintro e w' ⟨rfl, rfl⟩)
      | (go_at_call 77; refine (reftruth_any _ _).mono ?_; rintro e w' ⟨rfl, rfl⟩))
    go_returns
    exact ⟨rfl, Below.refl _ _⟩
  · have z1 : (wr b == 0) = false := by simp [hz]
    have z2 : decide (wr b = 0) = false := by simp [hz]
    go_enter Try.func46, Try.ntmps46
    go_wp2_with (first
      | (go_at_call 73; refine (refwrap_any _ _).mono ?_; rintro e w' ⟨rfl, rfl⟩)
      | (go_at_call 59; refine (refplain_any _ _).mono ?_; rintro e w' ⟨rfl, rfl⟩)
      | (go_at_call 74; refine (power_any kk hk3 _).mono ?_; rintro e w' ⟨rfl, rfl⟩)
      | (go_at_call 77; refine (reftruth_any _ _).mono ?_; rintro e w' ⟨rfl, rfl⟩))
    go_returns
    exact ⟨rfl, Below.refl _ _⟩
set_option maxRecDepth 1000000 in
set_option maxHeartbeats 4000000 in
theorem ref_12 (a b : Int) (w : World) : Calls Try.prog 46 #[.int .i64 12, .int .i64 a, .int .i64 b] w fun e w' => e = .returned (.tuple #[.int .i64 (wr (wr a / 2 ^ (wr b % 32).toNat)), .bool (true)]) ∧ Below w.heap.size w w' := by
  have h1 := wr_bd a
  have h2 := wr_bd b
  have h5 := pl_bd (wr a)
  have h6 := pl_bd (wr b)
  obtain ⟨kk, hkk⟩ : ∃ kk, kk = (wr b % 32).toNat := ⟨_, rfl⟩
  have hk1 : pl (wr b) % 32 = (kk : Int) := by rw [hkk]; unfold pl; omega
  have hk2 : (pl (wr b)).tmod 32 = (kk : Int) := by rw [Int.tmod_eq_emod_of_nonneg h6.1, hk1]
  have hk3 : kk ≤ 31 := by omega
  rw [← hkk]
  clear hkk
  by_cases hz : wr b = 0
  · have z1 : (wr b == 0) = true := by simp [hz]
    have z2 : decide (wr b = 0) = true := by simp [hz]
    clear hz
    go_enter Try.func46, Try.ntmps46
    go_wp2_with (first
      | (go_at_call 73; refine (refwrap_any _ _).mono ?_; rintro e w' ⟨rfl, rfl⟩)
      | (go_at_call 59; refine (refplain_any _ _).mono ?_; rintro e w' ⟨rfl, rfl⟩)
      | (go_at_call 74; refine (power_any kk hk3 _).mono ?_; rintro e w' ⟨rfl, rfl⟩)
      | (go_at_call 76; refine (down_any (wr a) kk h1 (by omega) _).mono ?_; rintro e w1 ⟨rfl, hb1⟩)
      | (go_at_call 77; refine (reftruth_any _ _).mono ?_; rintro e w' ⟨rfl, rfl⟩))
    go_returns
    exact ⟨rfl, hb1⟩
  · have z1 : (wr b == 0) = false := by simp [hz]
    have z2 : decide (wr b = 0) = false := by simp [hz]
    go_enter Try.func46, Try.ntmps46
    go_wp2_with (first
      | (go_at_call 73; refine (refwrap_any _ _).mono ?_; rintro e w' ⟨rfl, rfl⟩)
      | (go_at_call 59; refine (refplain_any _ _).mono ?_; rintro e w' ⟨rfl, rfl⟩)
      | (go_at_call 74; refine (power_any kk hk3 _).mono ?_; rintro e w' ⟨rfl, rfl⟩)
      | (go_at_call 76; refine (down_any (wr a) kk h1 (by omega) _).mono ?_; rintro e w1 ⟨rfl, hb1⟩)
      | (go_at_call 77; refine (reftruth_any _ _).mono ?_; rintro e w' ⟨rfl, rfl⟩))
    go_returns
    exact ⟨rfl, hb1⟩
set_option maxRecDepth 1000000 in
set_option maxHeartbeats 4000000 in
theorem ref_13 (a b : Int) (w : World) : Calls Try.prog 46 #[.int .i64 13, .int .i64 a, .int .i64 b] w fun e w' => e = .returned (.tuple #[.int .i64 (wr (pl (wr a) / 2 ^ (wr b % 32).toNat)), .bool (true)]) ∧ Below w.heap.size w w' := by
  have h1 := wr_bd a
  have h2 := wr_bd b
  have h5 := pl_bd (wr a)
  have h6 := pl_bd (wr b)
  obtain ⟨kk, hkk⟩ : ∃ kk, kk = (wr b % 32).toNat := ⟨_, rfl⟩
  have hk1 : pl (wr b) % 32 = (kk : Int) := by rw [hkk]; unfold pl; omega
  have hk2 : (pl (wr b)).tmod 32 = (kk : Int) := by rw [Int.tmod_eq_emod_of_nonneg h6.1, hk1]
  have hk3 : kk ≤ 31 := by omega
  rw [← hkk]
  clear hkk
  have f00 : (0 : Int) < 2 ^ kk := Int.pow_pos (by decide)
  have f0 : 0 ≤ pl (wr a) / 2 ^ kk := Int.ediv_nonneg h5.1 (Int.le_of_lt f00)
  have f9 : pl (wr a) / 2 ^ kk ≤ pl (wr a) := Int.ediv_le_self _ h5.1
  have f1 : (pl (wr a)).tdiv (2 ^ kk) = pl (wr a) / 2 ^ kk := Int.tdiv_eq_ediv_of_nonneg h5.1
  have f2 : wrap64 ((pl (wr a)).tdiv (2 ^ kk)) = pl (wr a) / 2 ^ kk := by rw [f1]; exact w64 (by omega)
  have f3 : wrap64 (pl (wr a) / 2 ^ kk) = pl (wr a) / 2 ^ kk := w64 (by omega)
  have f5 : ¬ (2 : Int) ^ kk = 0 := by omega
  have f4 : ((2 : Int) ^ kk == 0) = false := beq_eq_false_iff_ne.2 f5
  by_cases hz : wr b = 0
  · have z1 : (wr b == 0) = true := by simp [hz]
    have z2 : decide (wr b = 0) = true := by simp [hz]
    clear hz
    go_enter Try.func46, Try.ntmps46
    go_wp2_with (first
      | (go_at_call 73; refine (refwrap_any _ _).mono ?_; rintro e w' ⟨rfl, rfl⟩)
      | (go_at_call 59; refine (refplain_any _ _).mono ?_; rintro e w' ⟨rfl, rfl⟩)
      | (go_at_call 74; refine (power_any kk hk3 _).mono ?_; rintro e w' ⟨rfl, rfl⟩)
      | (go_at_call 77; refine (reftruth_any _ _).mono ?_; rintro e w' ⟨rfl, rfl⟩))
    go_returns
    exact ⟨rfl, Below.refl _ _⟩
  · have z1 : (wr b == 0) = false := by simp [hz]
    have z2 : decide (wr b = 0) = false := by simp [hz]
    go_enter Try.func46, Try.ntmps46
    go_wp2_with (first
      | (go_at_call 73; refine (refwrap_any _ _).mono ?_; rintro e w' ⟨rfl, rfl⟩)
      | (go_at_call 59; refine (refplain_any _ _).mono ?_; rintro e w' ⟨rfl, rfl⟩)
      | (go_at_call 74; refine (power_any kk hk3 _).mono ?_; rintro e w' ⟨rfl, rfl⟩)
      | (go_at_call 77; refine (reftruth_any _ _).mono ?_; rintro e w' ⟨rfl, rfl⟩))
    go_returns
    exact ⟨rfl, Below.refl _ _⟩
set_option maxRecDepth 1000000 in
set_option maxHeartbeats 4000000 in
theorem ref_14 (a b : Int) (w : World) : Calls Try.prog 46 #[.int .i64 14, .int .i64 a, .int .i64 b] w fun e w' => e = .returned (.tuple #[.int .i64 (wr (tv (wr a == wr b))), .bool (true)]) ∧ Below w.heap.size w w' := by
  have h1 := wr_bd a
  have h2 := wr_bd b
  have h5 := pl_bd (wr a)
  have h6 := pl_bd (wr b)
  obtain ⟨kk, hkk⟩ : ∃ kk, kk = (wr b % 32).toNat := ⟨_, rfl⟩
  have hk1 : pl (wr b) % 32 = (kk : Int) := by rw [hkk]; unfold pl; omega
  have hk2 : (pl (wr b)).tmod 32 = (kk : Int) := by rw [Int.tmod_eq_emod_of_nonneg h6.1, hk1]
  have hk3 : kk ≤ 31 := by omega
  clear hkk
  by_cases hz : wr b = 0
  · have z1 : (wr b == 0) = true := by simp [hz]
    have z2 : decide (wr b = 0) = true := by simp [hz]
    clear hz
    go_enter Try.func46, Try.ntmps46
    go_wp2_with (first
      | (go_at_call 73; refine (refwrap_any _ _).mono ?_; rintro e w' ⟨rfl, rfl⟩)
      | (go_at_call 59; refine (refplain_any _ _).mono ?_; rintro e w' ⟨rfl, rfl⟩)
      | (go_at_call 74; refine (power_any kk hk3 _).mono ?_; rintro e w' ⟨rfl, rfl⟩)
      | (go_at_call 77; refine (reftruth_any _ _).mono ?_; rintro e w' ⟨rfl, rfl⟩))
    go_returns
    exact ⟨rfl, Below.refl _ _⟩
  · have z1 : (wr b == 0) = false := by simp [hz]
    have z2 : decide (wr b = 0) = false := by simp [hz]
    go_enter Try.func46, Try.ntmps46
    go_wp2_with (first
      | (go_at_call 73; refine (refwrap_any _ _).mono ?_; rintro e w' ⟨rfl, rfl⟩)
      | (go_at_call 59; refine (refplain_any _ _).mono ?_; rintro e w' ⟨rfl, rfl⟩)
      | (go_at_call 74; refine (power_any kk hk3 _).mono ?_; rintro e w' ⟨rfl, rfl⟩)
      | (go_at_call 77; refine (reftruth_any _ _).mono ?_; rintro e w' ⟨rfl, rfl⟩))
    go_returns
    exact ⟨rfl, Below.refl _ _⟩
set_option maxRecDepth 1000000 in
set_option maxHeartbeats 4000000 in
theorem ref_15 (a b : Int) (w : World) : Calls Try.prog 46 #[.int .i64 15, .int .i64 a, .int .i64 b] w fun e w' => e = .returned (.tuple #[.int .i64 (wr (tv (wr a != wr b))), .bool (true)]) ∧ Below w.heap.size w w' := by
  have h1 := wr_bd a
  have h2 := wr_bd b
  have h5 := pl_bd (wr a)
  have h6 := pl_bd (wr b)
  obtain ⟨kk, hkk⟩ : ∃ kk, kk = (wr b % 32).toNat := ⟨_, rfl⟩
  have hk1 : pl (wr b) % 32 = (kk : Int) := by rw [hkk]; unfold pl; omega
  have hk2 : (pl (wr b)).tmod 32 = (kk : Int) := by rw [Int.tmod_eq_emod_of_nonneg h6.1, hk1]
  have hk3 : kk ≤ 31 := by omega
  clear hkk
  by_cases hz : wr b = 0
  · have z1 : (wr b == 0) = true := by simp [hz]
    have z2 : decide (wr b = 0) = true := by simp [hz]
    clear hz
    go_enter Try.func46, Try.ntmps46
    go_wp2_with (first
      | (go_at_call 73; refine (refwrap_any _ _).mono ?_; rintro e w' ⟨rfl, rfl⟩)
      | (go_at_call 59; refine (refplain_any _ _).mono ?_; rintro e w' ⟨rfl, rfl⟩)
      | (go_at_call 74; refine (power_any kk hk3 _).mono ?_; rintro e w' ⟨rfl, rfl⟩)
      | (go_at_call 77; refine (reftruth_any _ _).mono ?_; rintro e w' ⟨rfl, rfl⟩))
    go_returns
    exact ⟨rfl, Below.refl _ _⟩
  · have z1 : (wr b == 0) = false := by simp [hz]
    have z2 : decide (wr b = 0) = false := by simp [hz]
    go_enter Try.func46, Try.ntmps46
    go_wp2_with (first
      | (go_at_call 73; refine (refwrap_any _ _).mono ?_; rintro e w' ⟨rfl, rfl⟩)
      | (go_at_call 59; refine (refplain_any _ _).mono ?_; rintro e w' ⟨rfl, rfl⟩)
      | (go_at_call 74; refine (power_any kk hk3 _).mono ?_; rintro e w' ⟨rfl, rfl⟩)
      | (go_at_call 77; refine (reftruth_any _ _).mono ?_; rintro e w' ⟨rfl, rfl⟩))
    go_returns
    exact ⟨rfl, Below.refl _ _⟩
set_option maxRecDepth 1000000 in
set_option maxHeartbeats 4000000 in
theorem ref_16 (a b : Int) (w : World) : Calls Try.prog 46 #[.int .i64 16, .int .i64 a, .int .i64 b] w fun e w' => e = .returned (.tuple #[.int .i64 (wr (tv (decide (wr a < wr b)))), .bool (true)]) ∧ Below w.heap.size w w' := by
  have h1 := wr_bd a
  have h2 := wr_bd b
  have h5 := pl_bd (wr a)
  have h6 := pl_bd (wr b)
  obtain ⟨kk, hkk⟩ : ∃ kk, kk = (wr b % 32).toNat := ⟨_, rfl⟩
  have hk1 : pl (wr b) % 32 = (kk : Int) := by rw [hkk]; unfold pl; omega
  have hk2 : (pl (wr b)).tmod 32 = (kk : Int) := by rw [Int.tmod_eq_emod_of_nonneg h6.1, hk1]
  have hk3 : kk ≤ 31 := by omega
  clear hkk
  by_cases hz : wr b = 0
  · have z1 : (wr b == 0) = true := by simp [hz]
    have z2 : decide (wr b = 0) = true := by simp [hz]
    clear hz
    go_enter Try.func46, Try.ntmps46
    go_wp2_with (first
      | (go_at_call 73; refine (refwrap_any _ _).mono ?_; rintro e w' ⟨rfl, rfl⟩)
      | (go_at_call 59; refine (refplain_any _ _).mono ?_; rintro e w' ⟨rfl, rfl⟩)
      | (go_at_call 74; refine (power_any kk hk3 _).mono ?_; rintro e w' ⟨rfl, rfl⟩)
      | (go_at_call 77; refine (reftruth_any _ _).mono ?_; rintro e w' ⟨rfl, rfl⟩))
    go_returns
    exact ⟨rfl, Below.refl _ _⟩
  · have z1 : (wr b == 0) = false := by simp [hz]
    have z2 : decide (wr b = 0) = false := by simp [hz]
    go_enter Try.func46, Try.ntmps46
    go_wp2_with (first
      | (go_at_call 73; refine (refwrap_any _ _).mono ?_; rintro e w' ⟨rfl, rfl⟩)
      | (go_at_call 59; refine (refplain_any _ _).mono ?_; rintro e w' ⟨rfl, rfl⟩)
      | (go_at_call 74; refine (power_any kk hk3 _).mono ?_; rintro e w' ⟨rfl, rfl⟩)
      | (go_at_call 77; refine (reftruth_any _ _).mono ?_; rintro e w' ⟨rfl, rfl⟩))
    go_returns
    exact ⟨rfl, Below.refl _ _⟩
set_option maxRecDepth 1000000 in
set_option maxHeartbeats 4000000 in
theorem ref_17 (a b : Int) (w : World) : Calls Try.prog 46 #[.int .i64 17, .int .i64 a, .int .i64 b] w fun e w' => e = .returned (.tuple #[.int .i64 (wr (tv (decide (wr a ≤ wr b)))), .bool (true)]) ∧ Below w.heap.size w w' := by
  have h1 := wr_bd a
  have h2 := wr_bd b
  have h5 := pl_bd (wr a)
  have h6 := pl_bd (wr b)
  obtain ⟨kk, hkk⟩ : ∃ kk, kk = (wr b % 32).toNat := ⟨_, rfl⟩
  have hk1 : pl (wr b) % 32 = (kk : Int) := by rw [hkk]; unfold pl; omega
  have hk2 : (pl (wr b)).tmod 32 = (kk : Int) := by rw [Int.tmod_eq_emod_of_nonneg h6.1, hk1]
  have hk3 : kk ≤ 31 := by omega
  clear hkk
  by_cases hl : wr a < wr b
  · have l1 : decide (wr a < wr b) = true := by simp [hl]
    rw [show wr (tv (decide (wr a ≤ wr b))) = wr (tv true) by rw [show decide (wr a ≤ wr b) = true by simp; omega]]
    by_cases hz : wr b = 0
    · have z1 : (wr b == 0) = true := by simp [hz]
      have z2 : decide (wr b = 0) = true := by simp [hz]
      clear hz
      go_enter Try.func46, Try.ntmps46
      go_wp2_with (first
        | (go_at_call 73; refine (refwrap_any _ _).mono ?_; rintro e w' ⟨rfl, rfl⟩)
        | (go_at_call 59; refine (refplain_any _ _).mono ?_; rintro e w' ⟨rfl, rfl⟩)
        | (go_at_call 74; refine (power_any kk hk3 _).mono ?_; rintro e w' ⟨rfl, rfl⟩)
        | (go_at_call 77; refine (reftruth_any _ _).mono ?_; rintro e w' ⟨rfl, rfl⟩))
      go_returns
      exact ⟨rfl, Below.refl _ _⟩
    · have z1 : (wr b == 0) = false := by simp [hz]
      have z2 : decide (wr b = 0) = false := by simp [hz]
      go_enter Try.func46, Try.ntmps46
      go_wp2_with (first
        | (go_at_call 73; refine (refwrap_any _ _).mono ?_; rintro e w' ⟨rfl, rfl⟩)
        | (go_at_call 59; refine (refplain_any _ _).mono ?_; rintro e w' ⟨rfl, rfl⟩)
        | (go_at_call 74; refine (power_any kk hk3 _).mono ?_; rintro e w' ⟨rfl, rfl⟩)
        | (go_at_call 77; refine (reftruth_any _ _).mono ?_; rintro e w' ⟨rfl, rfl⟩))
      go_returns
      exact ⟨rfl, Below.refl _ _⟩
  · have l1 : decide (wr a < wr b) = false := by simp [hl]
    rw [show wr (tv (decide (wr a ≤ wr b))) = wr (tv (wr a == wr b)) by rw [le_eq hl]]
    by_cases hz : wr b = 0
    · have z1 : (wr b == 0) = true := by simp [hz]
      have z2 : decide (wr b = 0) = true := by simp [hz]
      clear hz
      go_enter Try.func46, Try.ntmps46
      go_wp2_with (first
        | (go_at_call 73; refine (refwrap_any _ _).mono ?_; rintro e w' ⟨rfl, rfl⟩)
        | (go_at_call 59; refine (refplain_any _ _).mono ?_; rintro e w' ⟨rfl, rfl⟩)
        | (go_at_call 74; refine (power_any kk hk3 _).mono ?_; rintro e w' ⟨rfl, rfl⟩)
        | (go_at_call 77; refine (reftruth_any _ _).mono ?_; rintro e w' ⟨rfl, rfl⟩))
      go_returns
      exact ⟨rfl, Below.refl _ _⟩
    · have z1 : (wr b == 0) = false := by simp [hz]
      have z2 : decide (wr b = 0) = false := by simp [hz]
      go_enter Try.func46, Try.ntmps46
      go_wp2_with (first
        | (go_at_call 73; refine (refwrap_any _ _).mono ?_; rintro e w' ⟨rfl, rfl⟩)
        | (go_at_call 59; refine (refplain_any _ _).mono ?_; rintro e w' ⟨rfl, rfl⟩)
        | (go_at_call 74; refine (power_any kk hk3 _).mono ?_; rintro e w' ⟨rfl, rfl⟩)
        | (go_at_call 77; refine (reftruth_any _ _).mono ?_; rintro e w' ⟨rfl, rfl⟩))
      go_returns
      exact ⟨rfl, Below.refl _ _⟩
set_option maxRecDepth 1000000 in
set_option maxHeartbeats 4000000 in
theorem ref_18 (a b : Int) (w : World) : Calls Try.prog 46 #[.int .i64 18, .int .i64 a, .int .i64 b] w fun e w' => e = .returned (.tuple #[.int .i64 (wr (tv (decide (pl (wr a) < pl (wr b))))), .bool (true)]) ∧ Below w.heap.size w w' := by
  have h1 := wr_bd a
  have h2 := wr_bd b
  have h5 := pl_bd (wr a)
  have h6 := pl_bd (wr b)
  obtain ⟨kk, hkk⟩ : ∃ kk, kk = (wr b % 32).toNat := ⟨_, rfl⟩
  have hk1 : pl (wr b) % 32 = (kk : Int) := by rw [hkk]; unfold pl; omega
  have hk2 : (pl (wr b)).tmod 32 = (kk : Int) := by rw [Int.tmod_eq_emod_of_nonneg h6.1, hk1]
  have hk3 : kk ≤ 31 := by omega
  clear hkk
  by_cases hz : wr b = 0
  · have z1 : (wr b == 0) = true := by simp [hz]
    have z2 : decide (wr b = 0) = true := by simp [hz]
    clear hz
    go_enter Try.func46, Try.ntmps46
    go_wp2_with (first
      | (go_at_call 73; refine (refwrap_any _ _).mono ?_; rintro e w' ⟨rfl, rfl⟩)
      | (go_at_call 59; refine (refplain_any _ _).mono ?_; rintro e w' ⟨rfl, rfl⟩)
      | (go_at_call 74; refine (power_any kk hk3 _).mono ?_; rintro e w' ⟨rfl, rfl⟩)
      | (go_at_call 77; refine (reftruth_any _ _).mono ?_; rintro e w' ⟨rfl, rfl⟩))
    go_returns
    exact ⟨rfl, Below.refl _ _⟩
  · have z1 : (wr b == 0) = false := by simp [hz]
    have z2 : decide (wr b = 0) = false := by simp [hz]
    go_enter Try.func46, Try.ntmps46
    go_wp2_with (first
      | (go_at_call 73; refine (refwrap_any _ _).mono ?_; rintro e w' ⟨rfl, rfl⟩)
      | (go_at_call 59; refine (refplain_any _ _).mono ?_; rintro e w' ⟨rfl, rfl⟩)
      | (go_at_call 74; refine (power_any kk hk3 _).mono ?_; rintro e w' ⟨rfl, rfl⟩)
      | (go_at_call 77; refine (reftruth_any _ _).mono ?_; rintro e w' ⟨rfl, rfl⟩))
    go_returns
    exact ⟨rfl, Below.refl _ _⟩
set_option maxRecDepth 1000000 in
set_option maxHeartbeats 4000000 in
theorem ref_19 (a b : Int) (w : World) : Calls Try.prog 46 #[.int .i64 19, .int .i64 a, .int .i64 b] w fun e w' => e = .returned (.tuple #[.int .i64 (wr (tv (decide (pl (wr a) ≤ pl (wr b))))), .bool (true)]) ∧ Below w.heap.size w w' := by
  have h1 := wr_bd a
  have h2 := wr_bd b
  have h5 := pl_bd (wr a)
  have h6 := pl_bd (wr b)
  obtain ⟨kk, hkk⟩ : ∃ kk, kk = (wr b % 32).toNat := ⟨_, rfl⟩
  have hk1 : pl (wr b) % 32 = (kk : Int) := by rw [hkk]; unfold pl; omega
  have hk2 : (pl (wr b)).tmod 32 = (kk : Int) := by rw [Int.tmod_eq_emod_of_nonneg h6.1, hk1]
  have hk3 : kk ≤ 31 := by omega
  clear hkk
  by_cases hz : wr b = 0
  · have z1 : (wr b == 0) = true := by simp [hz]
    have z2 : decide (wr b = 0) = true := by simp [hz]
    clear hz
    go_enter Try.func46, Try.ntmps46
    go_wp2_with (first
      | (go_at_call 73; refine (refwrap_any _ _).mono ?_; rintro e w' ⟨rfl, rfl⟩)
      | (go_at_call 59; refine (refplain_any _ _).mono ?_; rintro e w' ⟨rfl, rfl⟩)
      | (go_at_call 74; refine (power_any kk hk3 _).mono ?_; rintro e w' ⟨rfl, rfl⟩)
      | (go_at_call 77; refine (reftruth_any _ _).mono ?_; rintro e w' ⟨rfl, rfl⟩))
    go_returns
    exact ⟨rfl, Below.refl _ _⟩
  · have z1 : (wr b == 0) = false := by simp [hz]
    have z2 : decide (wr b = 0) = false := by simp [hz]
    go_enter Try.func46, Try.ntmps46
    go_wp2_with (first
      | (go_at_call 73; refine (refwrap_any _ _).mono ?_; rintro e w' ⟨rfl, rfl⟩)
      | (go_at_call 59; refine (refplain_any _ _).mono ?_; rintro e w' ⟨rfl, rfl⟩)
      | (go_at_call 74; refine (power_any kk hk3 _).mono ?_; rintro e w' ⟨rfl, rfl⟩)
      | (go_at_call 77; refine (reftruth_any _ _).mono ?_; rintro e w' ⟨rfl, rfl⟩))
    go_returns
    exact ⟨rfl, Below.refl _ _⟩
set_option maxRecDepth 1000000 in
set_option maxHeartbeats 4000000 in
theorem ref_20 (a b : Int) (w : World) : Calls Try.prog 46 #[.int .i64 20, .int .i64 a, .int .i64 b] w fun e w' => e = .returned (.tuple #[.int .i64 (wr (-wr a)), .bool (true)]) ∧ Below w.heap.size w w' := by
  have h1 := wr_bd a
  have h2 := wr_bd b
  have h5 := pl_bd (wr a)
  have h6 := pl_bd (wr b)
  obtain ⟨kk, hkk⟩ : ∃ kk, kk = (wr b % 32).toNat := ⟨_, rfl⟩
  have hk1 : pl (wr b) % 32 = (kk : Int) := by rw [hkk]; unfold pl; omega
  have hk2 : (pl (wr b)).tmod 32 = (kk : Int) := by rw [Int.tmod_eq_emod_of_nonneg h6.1, hk1]
  have hk3 : kk ≤ 31 := by omega
  clear hkk
  have f1 : wrap64 (0 - wr a) = -wr a := by rw [Int.zero_sub]; exact w64 (by omega)
  have f2 : wrap64 (-wr a) = -wr a := w64 (by omega)
  by_cases hz : wr b = 0
  · have z1 : (wr b == 0) = true := by simp [hz]
    have z2 : decide (wr b = 0) = true := by simp [hz]
    clear hz
    go_enter Try.func46, Try.ntmps46
    go_wp2_with (first
      | (go_at_call 73; refine (refwrap_any _ _).mono ?_; rintro e w' ⟨rfl, rfl⟩)
      | (go_at_call 59; refine (refplain_any _ _).mono ?_; rintro e w' ⟨rfl, rfl⟩)
      | (go_at_call 74; refine (power_any kk hk3 _).mono ?_; rintro e w' ⟨rfl, rfl⟩)
      | (go_at_call 77; refine (reftruth_any _ _).mono ?_; rintro e w' ⟨rfl, rfl⟩))
    go_returns
    exact ⟨rfl, Below.refl _ _⟩
  · have z1 : (wr b == 0) = false := by simp [hz]
    have z2 : decide (wr b = 0) = false := by simp [hz]
    go_enter Try.func46, Try.ntmps46
    go_wp2_with (first
      | (go_at_call 73; refine (refwrap_any _ _).mono ?_; rintro e w' ⟨rfl, rfl⟩)
      | (go_at_call 59; refine (refplain_any _ _).mono ?_; rintro e w' ⟨rfl, rfl⟩)
      | (go_at_call 74; refine (power_any kk hk3 _).mono ?_; rintro e w' ⟨rfl, rfl⟩)
      | (go_at_call 77; refine (reftruth_any _ _).mono ?_; rintro e w' ⟨rfl, rfl⟩))
    go_returns
    exact ⟨rfl, Below.refl _ _⟩
set_option maxRecDepth 1000000 in
set_option maxHeartbeats 4000000 in
theorem ref_21 (a b : Int) (w : World) : Calls Try.prog 46 #[.int .i64 21, .int .i64 a, .int .i64 b] w fun e w' => e = .returned (.tuple #[.int .i64 (wr (bits .xor .i64 (-1) (wr a))), .bool (true)]) ∧ Below w.heap.size w w' := by
  have h1 := wr_bd a
  have h2 := wr_bd b
  have h5 := pl_bd (wr a)
  have h6 := pl_bd (wr b)
  obtain ⟨kk, hkk⟩ : ∃ kk, kk = (wr b % 32).toNat := ⟨_, rfl⟩
  have hk1 : pl (wr b) % 32 = (kk : Int) := by rw [hkk]; unfold pl; omega
  have hk2 : (pl (wr b)).tmod 32 = (kk : Int) := by rw [Int.tmod_eq_emod_of_nonneg h6.1, hk1]
  have hk3 : kk ≤ 31 := by omega
  clear hkk
  have f1 : wrap64 (0 - wr a) = -wr a := by rw [Int.zero_sub]; exact w64 (by omega)
  have f2 : wrap64 (-wr a) = -wr a := w64 (by omega)
  have f3 : wrap64 (-wr a - 1) = -wr a - 1 := w64 (by omega)
  rw [(show wr (bits .xor .i64 (-1) (wr a)) = wr (-wr a - 1) by rw [xor_m1 _ h1]; congr 1; omega)]
  by_cases hz : wr b = 0
  · have z1 : (wr b == 0) = true := by simp [hz]
    have z2 : decide (wr b = 0) = true := by simp [hz]
    clear hz
    go_enter Try.func46, Try.ntmps46
    go_wp2_with (first
      | (go_at_call 73; refine (refwrap_any _ _).mono ?_; rintro e w' ⟨rfl, rfl⟩)
      | (go_at_call 59; refine (refplain_any _ _).mono ?_; rintro e w' ⟨rfl, rfl⟩)
      | (go_at_call 74; refine (power_any kk hk3 _).mono ?_; rintro e w' ⟨rfl, rfl⟩)
      | (go_at_call 77; refine (reftruth_any _ _).mono ?_; rintro e w' ⟨rfl, rfl⟩))
    go_returns
    exact ⟨rfl, Below.refl _ _⟩
  · have z1 : (wr b == 0) = false := by simp [hz]
    have z2 : decide (wr b = 0) = false := by simp [hz]
    go_enter Try.func46, Try.ntmps46
    go_wp2_with (first
      | (go_at_call 73; refine (refwrap_any _ _).mono ?_; rintro e w' ⟨rfl, rfl⟩)
      | (go_at_call 59; refine (refplain_any _ _).mono ?_; rintro e w' ⟨rfl, rfl⟩)
      | (go_at_call 74; refine (power_any kk hk3 _).mono ?_; rintro e w' ⟨rfl, rfl⟩)
      | (go_at_call 77; refine (reftruth_any _ _).mono ?_; rintro e w' ⟨rfl, rfl⟩))
    go_returns
    exact ⟨rfl, Below.refl _ _⟩
set_option maxRecDepth 1000000 in
set_option maxHeartbeats 4000000 in
theorem ref_22 (a b : Int) (w : World) : Calls Try.prog 46 #[.int .i64 22, .int .i64 a, .int .i64 b] w fun e w' => e = .returned (.tuple #[.int .i64 (wr (bits .and .i64 (wr a) 255)), .bool (true)]) ∧ Below w.heap.size w w' := by
  have h1 := wr_bd a
  have h2 := wr_bd b
  have h5 := pl_bd (wr a)
  have h6 := pl_bd (wr b)
  obtain ⟨kk, hkk⟩ : ∃ kk, kk = (wr b % 32).toNat := ⟨_, rfl⟩
  have hk1 : pl (wr b) % 32 = (kk : Int) := by rw [hkk]; unfold pl; omega
  have hk2 : (pl (wr b)).tmod 32 = (kk : Int) := by rw [Int.tmod_eq_emod_of_nonneg h6.1, hk1]
  have hk3 : kk ≤ 31 := by omega
  clear hkk
  have f1 : (pl (wr a)).tmod 256 = wr a % 256 := by rw [Int.tmod_eq_emod_of_nonneg h5.1]; unfold pl; omega
  have f2 : pl (wr a) % 256 = wr a % 256 := by unfold pl; omega
  rw [(show wr (bits .and .i64 (wr a) 255) = wr (wr a % 256) by rw [and255])]
  by_cases hz : wr b = 0
  · have z1 : (wr b == 0) = true := by simp [hz]
    have z2 : decide (wr b = 0) = true := by simp [hz]
    clear hz
    go_enter Try.func46, Try.ntmps46
    go_wp2_with (first
      | (go_at_call 73; refine (refwrap_any _ _).mono ?_; rintro e w' ⟨rfl, rfl⟩)
      | (go_at_call 59; refine (refplain_any _ _).mono ?_; rintro e w' ⟨rfl, rfl⟩)
      | (go_at_call 74; refine (power_any kk hk3 _).mono ?_; rintro e w' ⟨rfl, rfl⟩)
      | (go_at_call 77; refine (reftruth_any _ _).mono ?_; rintro e w' ⟨rfl, rfl⟩))
    go_returns
    exact ⟨rfl, Below.refl _ _⟩
  · have z1 : (wr b == 0) = false := by simp [hz]
    have z2 : decide (wr b = 0) = false := by simp [hz]
    go_enter Try.func46, Try.ntmps46
    go_wp2_with (first
      | (go_at_call 73; refine (refwrap_any _ _).mono ?_; rintro e w' ⟨rfl, rfl⟩)
      | (go_at_call 59; refine (refplain_any _ _).mono ?_; rintro e w' ⟨rfl, rfl⟩)
      | (go_at_call 74; refine (power_any kk hk3 _).mono ?_; rintro e w' ⟨rfl, rfl⟩)
      | (go_at_call 77; refine (reftruth_any _ _).mono ?_; rintro e w' ⟨rfl, rfl⟩))
    go_returns
    exact ⟨rfl, Below.refl _ _⟩
set_option maxRecDepth 1000000 in
set_option maxHeartbeats 4000000 in
theorem ref_23 (a b : Int) (w : World) : Calls Try.prog 46 #[.int .i64 23, .int .i64 a, .int .i64 b] w fun e w' => e = .returned (.tuple #[.int .i64 (wr (tv (wr a == 0))), .bool (true)]) ∧ Below w.heap.size w w' := by
  have h1 := wr_bd a
  have h2 := wr_bd b
  have h5 := pl_bd (wr a)
  have h6 := pl_bd (wr b)
  obtain ⟨kk, hkk⟩ : ∃ kk, kk = (wr b % 32).toNat := ⟨_, rfl⟩
  have hk1 : pl (wr b) % 32 = (kk : Int) := by rw [hkk]; unfold pl; omega
  have hk2 : (pl (wr b)).tmod 32 = (kk : Int) := by rw [Int.tmod_eq_emod_of_nonneg h6.1, hk1]
  have hk3 : kk ≤ 31 := by omega
  clear hkk
  by_cases hz : wr b = 0
  · have z1 : (wr b == 0) = true := by simp [hz]
    have z2 : decide (wr b = 0) = true := by simp [hz]
    clear hz
    go_enter Try.func46, Try.ntmps46
    go_wp2_with (first
      | (go_at_call 73; refine (refwrap_any _ _).mono ?_; rintro e w' ⟨rfl, rfl⟩)
      | (go_at_call 59; refine (refplain_any _ _).mono ?_; rintro e w' ⟨rfl, rfl⟩)
      | (go_at_call 74; refine (power_any kk hk3 _).mono ?_; rintro e w' ⟨rfl, rfl⟩)
      | (go_at_call 77; refine (reftruth_any _ _).mono ?_; rintro e w' ⟨rfl, rfl⟩))
    go_returns
    exact ⟨rfl, Below.refl _ _⟩
  · have z1 : (wr b == 0) = false := by simp [hz]
    have z2 : decide (wr b = 0) = false := by simp [hz]
    go_enter Try.func46, Try.ntmps46
    go_wp2_with (first
      | (go_at_call 73; refine (refwrap_any _ _).mono ?_; rintro e w' ⟨rfl, rfl⟩)
      | (go_at_call 59; refine (refplain_any _ _).mono ?_; rintro e w' ⟨rfl, rfl⟩)
      | (go_at_call 74; refine (power_any kk hk3 _).mono ?_; rintro e w' ⟨rfl, rfl⟩)
      | (go_at_call 77; refine (reftruth_any _ _).mono ?_; rintro e w' ⟨rfl, rfl⟩))
    go_returns
    exact ⟨rfl, Below.refl _ _⟩
end Go.Proofs.Ytkcclefonmnpnaa

namespace Go.Proofs.Ytkcclefonmnpnaa
open Go.RowKit Go.BigFrame

set_option maxRecDepth 1000000 in
set_option maxHeartbeats 2000000 in
theorem ref_out (op a b : Int) (h : op < 1 ∨ 23 < op) (w : World) : Calls Try.prog 46 #[.int .i64 op, .int .i64 a, .int .i64 b] w fun e w' => e = .returned (.tuple #[.int .i64 0, .bool false]) ∧ w = w' := by
  have h6 := pl_bd (wr b)
  obtain ⟨kk, hkk⟩ : ∃ kk, kk = (wr b % 32).toNat := ⟨_, rfl⟩
  have hk1 : pl (wr b) % 32 = (kk : Int) := by rw [hkk]; unfold pl; omega
  have hk2 : (pl (wr b)).tmod 32 = (kk : Int) := by rw [Int.tmod_eq_emod_of_nonneg h6.1, hk1]
  have hk3 : kk ≤ 31 := by omega
  clear hkk
  by_cases h1 : op < 1
  · have l1 : decide (op < 1) = true := by simp [h1]
    go_enter Try.func46, Try.ntmps46
    go_wp2_with (first
      | (go_at_call 73; refine (refwrap_any _ _).mono ?_; rintro e w' ⟨rfl, rfl⟩)
      | (go_at_call 59; refine (refplain_any _ _).mono ?_; rintro e w' ⟨rfl, rfl⟩)
      | (go_at_call 74; refine (power_any kk hk3 _).mono ?_; rintro e w' ⟨rfl, rfl⟩))
    go_returns
    exact ⟨rfl, rfl⟩
  · have h2 : 23 < op := by omega
    have l1 : decide (op < 1) = false := by simp [h1]
    have l2 : decide (23 < op) = true := by simp [h2]
    go_enter Try.func46, Try.ntmps46
    go_wp2_with (first
      | (go_at_call 73; refine (refwrap_any _ _).mono ?_; rintro e w' ⟨rfl, rfl⟩)
      | (go_at_call 59; refine (refplain_any _ _).mono ?_; rintro e w' ⟨rfl, rfl⟩)
      | (go_at_call 74; refine (power_any kk hk3 _).mono ?_; rintro e w' ⟨rfl, rfl⟩))
    go_returns
    exact ⟨rfl, rfl⟩
theorem same_below {f : FuncId} {args : Array Value} {v : Ending} {w : World} (h : Calls Try.prog f args w fun e w' => e = v ∧ w = w') : Calls Try.prog f args w fun e w' => e = v ∧ Below w.heap.size w w' :=
  h.mono fun _ _ ⟨he, hw⟩ => ⟨he, by subst hw; exact Below.refl _ _⟩
/-- the document's Do -/
theorem refdo_any (op a b : Int) (w : World) : Calls Try.prog 46 #[.int .i64 op, .int .i64 a, .int .i64 b] w fun e w' => e = .returned (.tuple #[.int .i64 (dov op a b).1, .bool (dov op a b).2]) ∧ Below w.heap.size w w' := by
  by_cases ho : op < 1 ∨ 23 < op
  · have e : dov op a b = (0, false) := by
      unfold dov
      repeat rw [if_neg (by omega)]
    rw [e]
    exact same_below (ref_out op a b ho w)
  · have hc : op = 1 ∨ op = 2 ∨ op = 3 ∨ op = 4 ∨ op = 5 ∨ op = 6 ∨ op = 7 ∨ op = 8 ∨ op = 9 ∨ op = 10 ∨ op = 11 ∨ op = 12 ∨ op = 13 ∨ op = 14 ∨ op = 15 ∨ op = 16 ∨ op = 17 ∨ op = 18 ∨ op = 19 ∨ op = 20 ∨ op = 21 ∨ op = 22 ∨ op = 23 := by omega
    rcases hc with rfl | rfl | rfl | rfl | rfl | rfl | rfl | rfl | rfl | rfl | rfl | rfl | rfl | rfl | rfl | rfl | rfl | rfl | rfl | rfl | rfl | rfl | rfl
    · exact ref_1 a b w
    · exact ref_2 a b w
    · exact ref_3 a b w
    · exact ref_4 a b w
    · exact ref_5 a b w
    · exact ref_6 a b w
    · exact ref_7 a b w
    · exact ref_8 a b w
    · exact ref_9 a b w
    · exact ref_10 a b w
    · exact ref_11 a b w
    · exact ref_12 a b w
    · exact ref_13 a b w
    · exact ref_14 a b w
    · exact ref_15 a b w
    · exact ref_16 a b w
    · exact ref_17 a b w
    · exact ref_18 a b w
    · exact ref_19 a b w
    · exact ref_20 a b w
    · exact ref_21 a b w
    · exact ref_22 a b w
    · exact ref_23 a b w
end Go.Proofs.Ytkcclefonmnpnaa

/- THE FLOW's small functions: Join, set, next; values compared. -/
namespace Go.Proofs.Ytkcclefonmnpnaa
open Go.RowKit Go.BigFrame

abbrev Vl.agg (v : Vl) : Value := .agg #[.int .i64 v.k, .int .i64 v.n]
abbrev Vl.obj (v : Vl) : Obj := .cells #[.int .i64 v.k, .int .i64 v.n] 66
/-- the slice (A, length of l) reads as the values l, wherever it begins -/
def RdV (w : World) (A : Option Addr) (l : List Vl) : Prop := ∀ (j : Nat) x, l[j]? = some x → ∃ b o, A = some ⟨b, o, none⟩ ∧ b < w.heap.size ∧ w.cell? ⟨b, o + j * 2, none⟩ = some (.int .i64 x.k) ∧ w.cell? ⟨b, o + j * 2 + 1, none⟩ = some (.int .i64 x.n)
def SetT (i : Ins) (v : List Vl) (e : Ending) : Prop := e = .returned (.tuple #[(setV i v).1.agg, .bool (setV i v).2])
end Go.Proofs.Ytkcclefonmnpnaa

/- THE FLOW's next. -/
namespace Go.Proofs.Ytkcclefonmnpnaa
open Go.RowKit Go.BigFrame

def Two12 (base : Nat) (x y : Int) (e : Ending) (w : World) : Prop := ∃ b, e = .returned (.slice (some ⟨b, 0, none⟩) 2 2) ∧ base ≤ b ∧ b < w.heap.size ∧ w.cell? ⟨b, 0, none⟩ = some (.int .i64 x) ∧ w.cell? ⟨b, 1, none⟩ = some (.int .i64 y)
/-- a slice of numbers is told, that reads so, in memory from base on -/
def SlF (base : Nat) (l : List Int) (e : Ending) (w : World) : Prop := ∃ A cap, e = .returned (.slice A l.length cap) ∧ RdN w A l ∧ ∀ b o, A = some ⟨b, o, none⟩ → base ≤ b
set_option maxRecDepth 1000000 in
set_option maxHeartbeats 4000000 in
theorem Next_fr (i : Ins) (p : Int) (hp : 0 ≤ p ∧ p ≤ 100000) (w : World) : Calls Try.prog 49 #[i.agg, .int .i64 p] w fun e w' => SlF w.heap.size (i.next p) e w' ∧ Below w.heap.size w w' := by
  obtain ⟨k, op, dst, a, b, n, text, r0, r1, r2, r3, r4, r5, to_, els⟩ := i
  have hb0 := Below.one w (Ins.obj ⟨k, op, dst, a, b, n, text, r0, r1, r2, r3, r4, r5, to_, els⟩)
  have bx := heap_alloc_new w (Ins.obj ⟨k, op, dst, a, b, n, text, r0, r1, r2, r3, r4, r5, to_, els⟩)
  simp only [Ins.obj, Ins.agg, Ins.next] at hb0 bx ⊢
  have hwr : wrap64 (p + 1) = p + 1 := by unfold wrap64; omega
  have hone : ∀ (W : World) (x : Int), RdN (W.alloc (.cells #[.int .i64 x] 3)) (some ⟨W.heap.size, 0, none⟩) [x] := fun W x j y hj => by
    cases j with
    | succ j => simp at hj
    | zero =>
      simp at hj
      subst hj
      exact ⟨W.heap.size, 0, rfl, by simp, cell_of_heap (heap_alloc_new W (.cells #[.int .i64 x] 3)) 0 _ rfl⟩
  have htwo : ∀ (W : World) (x y : Int), RdN (W.alloc (.cells #[.int .i64 x, .int .i64 y] 3)) (some ⟨W.heap.size, 0, none⟩) [x, y] := fun W x y j z hj => by
    have hn := heap_alloc_new W (.cells #[.int .i64 x, .int .i64 y] 3)
    match j with
    | 0 => simp at hj; subst hj; exact ⟨W.heap.size, 0, rfl, by simp, cell_of_heap hn 0 _ rfl⟩
    | 1 => simp at hj; subst hj; exact ⟨W.heap.size, 0, rfl, by simp, cell_of_heap hn 1 _ rfl⟩
    | j + 2 => simp at hj
  have h1 := hone (w.alloc (Ins.obj ⟨k, op, dst, a, b, n, text, r0, r1, r2, r3, r4, r5, to_, els⟩))
  have h2 := htwo (w.alloc (Ins.obj ⟨k, op, dst, a, b, n, text, r0, r1, r2, r3, r4, r5, to_, els⟩))
  simp only [Ins.obj] at h1 h2
  rw [show (w.alloc (Ins.obj ⟨k, op, dst, a, b, n, text, r0, r1, r2, r3, r4, r5, to_, els⟩)).heap.size = w.heap.size + 1 by simp] at h1 h2
  by_cases e11 : k = 11
  · subst e11
    go_enter Try.func49, Try.ntmps49
    go_wp2
    go_returns
    exact ⟨⟨_, 1, rfl, h1 _, fun b o h => by injection h with h; injection h with h; omega⟩, hb0.alloc hb0.size _⟩
  · rw [if_neg e11]
    have q1 : (k == 11) = false := by simpa using e11
    by_cases e12 : k = 12
    · subst e12
      go_enter Try.func49, Try.ntmps49
      go_wp2
      go_returns
      exact ⟨⟨_, 2, rfl, h2 _ _, fun b o h => by injection h with h; injection h with h; omega⟩, hb0.alloc hb0.size _⟩
    · rw [if_neg e12]
      have q2 : (k == 12) = false := by simpa using e12
      by_cases e13 : k = 13
      · subst e13
        go_enter Try.func49, Try.ntmps49
        go_wp2
        go_returns
        exact ⟨⟨none, 0, rfl, fun j y hj => by simp at hj, fun b o h => by cases h⟩, hb0⟩
      · rw [if_neg e13]
        have q3 : (k == 13) = false := by simpa using e13
        clear e11 e12 e13
        go_enter Try.func49, Try.ntmps49
        go_wp2
        go_returns
        exact ⟨⟨_, 1, rfl, h1 _, fun b o h => by injection h with h; injection h with h; omega⟩, hb0.alloc hb0.size _⟩
end Go.Proofs.Ytkcclefonmnpnaa

/- MEMORY: blocks that begin with the cells of a list; a list of what is to do. -/
namespace Go.Proofs.Ytkcclefonmnpnaa
open Go.RowKit Go.BigFrame

/-- block b begins with the cells of l, each of d cells -/
def Pre {α : Type} (g : α → List Value) (d : Nat) (t : TypeId) (W : World) (b : Nat) (l : List α) : Prop :=
  ∃ cs : Array Value, W.heap[b]? = some (.cells cs t (0, 0)) ∧ ∀ j x, l[j]? = some x → ∀ k, k < d → cs[j * d + k]? = (g x)[k]?
section
variable {α : Type} {g : α → List Value} {d : Nat} {t : TypeId} {W W' : World} {b : Nat} {l : List α}
theorem Pre.lt (h : Pre g d t W b l) : b < W.heap.size := by
  obtain ⟨cs, h1, _⟩ := h
  exact (Array.getElem?_eq_some_iff.1 h1).1
theorem Pre.of_heap (h : Pre g d t W b l) (hb : W'.heap[b]? = W.heap[b]?) : Pre g d t W' b l := by
  obtain ⟨cs, h1, h2⟩ := h
  exact ⟨cs, hb.trans h1, h2⟩
theorem Pre.later (h : Pre g d t W b l) (hb : Below W.heap.size W W') : Pre g d t W' b l := h.of_heap (hb.block _ h.lt)
theorem Pre.cell (h : Pre g d t W b l) {j : Nat} {x : α} (hj : l[j]? = some x) {k : Nat} (hk : k < d) {v : Value} (hv : (g x)[k]? = some v) : W.cell? ⟨b, j * d + k, none⟩ = some v := by
  obtain ⟨cs, h1, h2⟩ := h
  rw [cell_of_row W b (j * d + k) cs t _ h1, h2 j x hj k hk, hv]
theorem Pre.free (h : Pre g d t W b l) (n : Nat) : W.frozen? ⟨b, n, none⟩ = false := by
  obtain ⟨cs, h1, h2⟩ := h
  exact free_of_heap h1 n
theorem Pre.other (h : Pre g d t W b l) {a : Addr} (hne : a.block ≠ b) (v : Value) : Pre g d t (W.setCell a v) b l := h.of_heap (heap_setCell_other W a b v (Ne.symm hne))
theorem Pre.store (h : Pre g d t W b l) {j : Nat} {x y : α} (hj : l[j]? = some x) {k : Nat} (hk : k < d) {v : Value} (hlen : (g x).length = (g y).length) (hv : (g y)[k]? = some v) (ho : ∀ k', k' ≠ k → (g y)[k']? = (g x)[k']?) : Pre g d t (W.setCell ⟨b, j * d + k, none⟩ v) b (l.set j y) := by
  obtain ⟨cs, h1, h2⟩ := h
  refine ⟨cs.setIfInBounds (j * d + k) v, heap_setCell_same W b _ cs t v h1, fun j' x' hj' k' hk' => ?_⟩
  have hc := h2 j x hj k hk
  have hkx : k < (g x).length := by rw [hlen]; exact (List.getElem?_eq_some_iff.1 hv).1
  have hb : j * d + k < cs.size := by
    rw [List.getElem?_eq_getElem hkx] at hc
    exact (Array.getElem?_eq_some_iff.1 hc).1
  have hjl := (List.getElem?_eq_some_iff.1 hj).1
  rw [Array.getElem?_setIfInBounds]
  by_cases hjj : j = j'
  · subst hjj
    rw [List.getElem?_set_self hjl] at hj'
    injection hj' with hj'
    subst hj'
    by_cases hkk : k' = k
    · subst hkk
      simp [hb, hv]
    · rw [if_neg (by omega), h2 j x hj k' hk', ho k' hkk]
  · rw [List.getElem?_set_ne hjj] at hj'
    have hne : ¬ j * d + k = j' * d + k' := by
      intro e
      have h3 : (j * d + k) / d = (j' * d + k') / d := by rw [e]
      have hd : 0 < d := by omega
      rw [Nat.add_comm, Nat.add_mul_div_right _ _ hd, Nat.div_eq_of_lt hk, Nat.add_comm (j' * d), Nat.add_mul_div_right _ _ hd, Nat.div_eq_of_lt hk'] at h3
      omega
    rw [if_neg hne]
    exact h2 j' x' hj' k' hk'
end
def gV (v : Vl) : List Value := [.int .i64 v.k, .int .i64 v.n]
def g1 (v : Value) : List Value := [v]
def gB (b : Bool) : List Value := [.bool b]
abbrev PreV (W : World) (b : Nat) (l : List Vl) : Prop := Pre gV 2 66 W b l
theorem PreB.cell {W : World} {b : Nat} {l : List Bool} {t : TypeId} (h : Pre gB 1 t W b l) {j : Nat} {v : Bool} (hj : l[j]? = some v) : W.cell? ⟨b, j, none⟩ = some (.bool v) := by
  have := Pre.cell h hj (k := 0) (v := .bool v) (by omega) rfl
  rwa [Nat.mul_one] at this
theorem PreB.set {W : World} {b : Nat} {l : List Bool} {t : TypeId} (h : Pre gB 1 t W b l) {j : Nat} (hj : j < l.length) (v : Bool) : Pre gB 1 t (W.setCell ⟨b, j, none⟩ (.bool v)) b (l.set j v) := by
  have := Pre.store (y := v) h (List.getElem?_eq_getElem hj) (k := 0) (v := .bool v) (by omega) rfl rfl (fun k' hk' => by
    cases k' with
    | zero => exact absurd rfl hk'
    | succ k' => rfl)
  rwa [Nat.mul_one] at this
/-- what make makes -/
theorem made_pre {α : Type} {g : α → List Value} {d : Nat} {t : TypeId} (W : World) (z : Array Value) (n : Nat) (x : α) (hz : z.size = d) (hg : ∀ k, k < d → some (z[k]!) = (g x)[k]?) :
    Pre g d t (W.alloc (.cells (madeCells z (n * d)) t)) W.heap.size (List.replicate n x) := by
  refine ⟨_, heap_alloc_new W _, fun j y hj k hk => ?_⟩
  have hjn : j < n := by
    have := (List.getElem?_eq_some_iff.1 hj).1
    simpa using this
  have hy : y = x := by simp [hjn] at hj; exact hj.symm
  subst hy
  have hlt : j * d + k < n * d := by
    have : (j + 1) * d ≤ n * d := Nat.mul_le_mul_right d hjn
    rw [Nat.succ_mul] at this
    omega
  rw [← hg k hk]
  simp only [madeCells]
  rw [Array.getElem?_map, Array.getElem?_range, if_pos hlt]
  have : (j * d + k) % d = k := by rw [Nat.mul_comm, Nat.mul_add_mod, Nat.mod_eq_of_lt hk]
  simp only [Option.map_some, hz, this]
theorem info_b : (Try.prog.info? 4).map (fun i => (i.zero, i.size, i.bytes)) = some (some (.bool false), 1, 1) := by kernel_rfl
theorem make_bools (L : Nat) (hL : L ≤ 100000) (W : World) : (Instr.makeSlice 27 (.int .i64 L) (.int .i64 L)).run Try.prog W = .ok (.slice (some ⟨W.heap.size, 0, none⟩) L L) (W.alloc (.cells (madeCells #[.bool false] L) 4)) := by
  obtain ⟨i0, hi, hz0, hz1, hz2⟩ := info_parts info_b
  have := run_make (P := Try.prog) W 27 4 i0 (.bool false) (by kernel_rfl) hi hz0 .i64 .i64 L L (by omega) (by omega) (by rw [hz2]; omega) (by omega)
  simpa [hz1, Value.cells] using this
/-- copy, of elements of whatever size -/
theorem run_copy_any {P : Program} (w : World) (dT sT ty elem : TypeId) (g o dLen dCap : Nat) (a : Addr) (sLen sCap : Nat) (cur : Array Value) (t : TypeId) (cs : List Value) (size n : Nat)
    (hu : P.underlying dT = some (.slice elem)) (hs : (P.info? elem).map (·.size) = some size)
    (hg : w.heap[g]? = some (.cells cur t (0, 0))) (hnn : n = Nat.min sLen dLen) (hn : cs.length = n * size)
    (hsrc : ∀ j v, cs[j]? = some v → w.cell? (a.add j) = some v) (hfit : o + cs.length ≤ cur.size) (h1 : ∀ v ∈ cs, v.oneCell' = true) :
    (Builtin.copy_ #[dT, sT] ty #[.slice (some ⟨g, o, none⟩) dLen dCap, .slice (some a) sLen sCap]).run P w =
      .ok (goInt n) (w.setRow g (cur.toList.take o ++ cs ++ cur.toList.drop (o + cs.length)).toArray) := by
  have hl := run_loadCells_list (P := P) w a cs hsrc
  have hst := run_storeCells_at P g o t cs 0 cur w hg (by simpa using hfit) h1
  cases hq : P.info? elem with
  | none => simp [hq] at hs
  | some i =>
    have hi : i.size = size := by simpa [hq] using hs
    simp [Builtin.copy_, run_underlying hu, Builtin.lenOf, Builtin.firstCells, sizeOf, typeInfo, hq, hi, ← hnn, ← hn, hl, hst]
/-- numbers that are to do, from a place of a block on; there may be room behind them -/
def Que (W : World) (base : Nat) (V : Value) (T : List Nat) : Prop := ∃ b o cap cs, V = .slice (some ⟨b, o, none⟩) T.length cap ∧ T.length ≤ cap ∧ cap ≤ maxLen ∧ base ≤ b ∧ W.heap[b]? = some (.cells cs 3 (0, 0)) ∧ o + cap ≤ cs.size ∧ ∀ j x, T[j]? = some x → cs[o + j]? = some (.int .i64 ((x : Nat) : Int))
/-- W' is W, but for what lies from base on -/
def Past (base : Nat) (W W' : World) : Prop := Below base W W'
/-- values, cloned -/
def ClonedV (base R : Nat) (v : List Vl) (e : Ending) (w : World) : Prop := ∃ nb cap, e = .returned (.slice (some ⟨nb, 0, none⟩) R cap) ∧ base ≤ nb ∧ PreV w nb v
end Go.Proofs.Ytkcclefonmnpnaa

/- flow.Ahead: what its loops keep. -/
namespace Go.Proofs.Ytkcclefonmnpnaa
open Go.RowKit Go.BigFrame

/-- the rows' slices, the first k of them made -/
def hdr (L R ob k : Nat) : List Value := (List.range L).map fun j => if j < k then .slice (some ⟨ob + 1 + j, 0, none⟩) R R else .slice none 0 0
/-- the first loop -/
structure Lp1 (W1 W : World) (ob L R k : Nat) : Prop where
  h : Pre g1 1 67 W ob (hdr L R ob k)
  r : ∀ j, j < k → PreV W (ob + 1 + j) (List.replicate R nv)
  s : W.heap.size = ob + 1 + k
  b : Below ob W1 W
/-- the second loop: the first row -/
def fst (R : Nat) (ps : Int) (k : Nat) : List Vl := (List.range R).map fun (r : Nat) => if r < k then (if (r : Int) < ps then av else ⟨1, 0⟩) else nv
structure Lp2 (W3 W : World) (fo R : Nat) (ps : Int) (k : Nat) : Prop where
  h : PreV W fo (fst R ps k)
  s : W.heap.size = fo + 1
  b : Below fo W3 W
/-- the memory of the third loop -/
structure Mem (W1 W : World) (ob L R : Nat) (M : List (List Vl)) (Cm : List Bool) : Prop where
  b : Below ob W1 W
  h : Pre g1 1 67 W ob (hdr L R ob L)
  r : ∀ p v, M[p]? = some v → PreV W (ob + 1 + p) v
  c : Pre gB 1 4 W (ob + 1 + L) Cm
  s : ob + 2 + L ≤ W.heap.size
  l : M.length = L
/-- rows told -/
def RdM (w : World) (ob R : Nat) (M : List (List Vl)) : Prop := ∃ pb : Nat → Nat, ∀ p v, M[p]? = some v → w.cell? ⟨ob, p, none⟩ = some (.slice (some ⟨pb p, 0, none⟩) R R) ∧ PreV w (pb p) v
end Go.Proofs.Ytkcclefonmnpnaa

/- flow.Ahead: the list of what is to do; how it begins. -/
namespace Go.Proofs.Ytkcclefonmnpnaa
open Go.RowKit Go.BigFrame

def M0 (f : Fn7) : List (List Vl) := (List.replicate f.code.length (List.replicate f.R.toNat nv)).set 0 (ini f)
def C0 (f : Fn7) : List Bool := (List.replicate f.code.length false).set 0 true
/-- what the third loop keeps -/
structure Third (f : Fn7) (W1 W : World) (ob L Rn : Nat) (g : Nat) (V : Value) (M : List (List Vl)) (Cm : List Bool) (T : List Nat) : Prop where
  head : Head f M Cm T
  mem : Mem W1 W ob L Rn M Cm
  que : Que W (ob + 2 + L) V T
  meas : g = T.length + 2 * pot M Cm
  g3 : g ≤ 300000
abbrev zeroI : Ins := ⟨0, 0, 0, 0, 0, 0, ⟨#[]⟩, 0, 0, 0, 0, 0, 0, 0, 0⟩
theorem ins_one (i : Ins) : (i.l.toArray.all (·.oneCell')) = true := by simp [Value.oneCell']
abbrev put15 (W : World) (q : Nat) (i : Ins) : World := (((((((((((((((W.setCell ⟨q, 0, none⟩ (.int .i64 i.kind)).setCell ⟨q, 1, none⟩ (.int .i64 i.op)).setCell ⟨q, 2, none⟩ (.int .i64 i.dst)).setCell ⟨q, 3, none⟩ (.int .i64 i.a)).setCell ⟨q, 4, none⟩ (.int .i64 i.b)).setCell ⟨q, 5, none⟩ (.int .i64 i.n)).setCell ⟨q, 6, none⟩ (.string i.text)).setCell ⟨q, 7, none⟩ (.int .i64 i.r0)).setCell ⟨q, 8, none⟩ (.int .i64 i.r1)).setCell ⟨q, 9, none⟩ (.int .i64 i.r2)).setCell ⟨q, 10, none⟩ (.int .i64 i.r3)).setCell ⟨q, 11, none⟩ (.int .i64 i.r4)).setCell ⟨q, 12, none⟩ (.int .i64 i.r5)).setCell ⟨q, 13, none⟩ (.int .i64 i.to_)).setCell ⟨q, 14, none⟩ (.int .i64 i.els))
theorem sI : (Try.prog.info? 32).map (·.size) = some 15 := by kernel_rfl
/-- behind 'i, v := f.Code[at], slices.Clone(out[at])' -/
def Cut24 (W Wx : World) (i : Ins) (v : List Vl) (R : Nat) (a b : Value) : Prop :=
  ∃ ib nb nc, a = .pointer (some ⟨ib, 0, none⟩) ∧ b = .slice (some ⟨nb, 0, none⟩) R nc ∧ Below W.heap.size W Wx ∧ Wx.heap[ib]? = some i.obj ∧ PreV Wx nb v ∧ W.heap.size ≤ nb ∧ W.heap.size ≤ ib
end Go.Proofs.Ytkcclefonmnpnaa

/- the document's Next, in memory of its own. -/
namespace Go.Proofs.Ytkcclefonmnpnaa
open Go.RowKit Go.BigFrame

end Go.Proofs.Ytkcclefonmnpnaa

/- code.Clone. -/
namespace Go.Proofs.Ytkcclefonmnpnaa
open Go.RowKit Go.BigFrame

abbrev PreI (W : World) (b : Nat) (l : List Ins) : Prop := Pre Ins.l 15 32 W b l
theorem ins_len (i : Ins) : (Ins.l i).length = 15 := rfl
theorem PreI.read {W : World} {b : Nat} {l : List Ins} (h : PreI W b l) : RdI W (some ⟨b, 0, none⟩) l := fun j i hi => by
  refine ⟨b, 0, rfl, Pre.lt h, fun k hk => ?_⟩
  obtain ⟨cs, h1, h2⟩ := h
  rw [Nat.zero_add, cell_of_row W b _ cs _ _ h1]
  exact h2 j i hi k hk
theorem flatI_get : ∀ (v : List Ins) (j k : Nat), k < 15 → (v.flatMap Ins.l)[j * 15 + k]? = (v[j]?).bind fun x => (Ins.l x)[k]?
  | [], j, k, _ => by simp
  | x :: v, 0, k, hk => by
    rw [List.flatMap_cons, List.getElem?_append_left (by rw [ins_len]; omega)]
    simp
  | x :: v, j + 1, k, hk => by
    rw [List.flatMap_cons, List.getElem?_append_right (by rw [ins_len]; omega)]
    have h := flatI_get v j k hk
    rw [show (j + 1) * 15 + k - (Ins.l x).length = j * 15 + k by rw [ins_len]; omega, h]
    simp
theorem flatI_len (v : List Ins) : (v.flatMap Ins.l).length = v.length * 15 := by
  induction v with
  | nil => rfl
  | cons x v ih => rw [List.flatMap_cons, List.length_append, ih, ins_len, List.length_cons]; omega
theorem flatI_one (v : List Ins) : ∀ u ∈ v.flatMap Ins.l, u.oneCell' = true := fun u hu => by
  obtain ⟨x, _, hx⟩ := List.mem_flatMap.1 hu
  simp only [List.mem_cons, List.not_mem_nil, or_false] at hx
  rcases hx with rfl | rfl | rfl | rfl | rfl | rfl | rfl | rfl | rfl | rfl | rfl | rfl | rfl | rfl | rfl <;> rfl
theorem flatI_src {W : World} {b o : Nat} {v : List Ins} (h : RdI W (some ⟨b, o, none⟩) v) : ∀ j u, (v.flatMap Ins.l)[j]? = some u → W.cell? ((⟨b, o, none⟩ : Addr).add j) = some u := fun j u hu => by
  have hadd : (⟨b, o, none⟩ : Addr).add j = ⟨b, o + j, none⟩ := by
    unfold Addr.add; split
    · rename_i h0; rw [h0, Nat.add_zero]
    · rfl
  rw [hadd]
  have hj : j / 15 * 15 + j % 15 = j := by omega
  rw [← hj, flatI_get v (j / 15) (j % 15) (Nat.mod_lt _ (by decide))] at hu
  cases hx : v[j / 15]? with
  | none => rw [hx] at hu; cases hu
  | some x =>
    rw [hx] at hu
    obtain ⟨b', o', e1, _, e3⟩ := h (j / 15) x hx
    injection e1 with e1
    injection e1 with e2 e4
    subst e2 e4
    have := e3 (j % 15) (Nat.mod_lt _ (by decide))
    rw [hj] at this
    rw [this]
    exact hu
theorem info_i : (Try.prog.info? 32).map (fun i => (i.zero, i.size, i.bytes)) = some (some zeroI.agg, 15, 128) := by kernel_rfl
theorem make_ins (L : Nat) (hL : L ≤ 100000) (W : World) : (Instr.makeSlice 22 (.int .i64 L) (.int .i64 L)).run Try.prog W = .ok (.slice (some ⟨W.heap.size, 0, none⟩) L L) (W.alloc (.cells (madeCells zeroI.l.toArray (L * 15)) 32)) := by
  obtain ⟨i0, hi, hz0, hz1, hz2⟩ := info_parts info_i
  have := run_make (P := Try.prog) W 22 32 i0 zeroI.agg (by kernel_rfl) hi hz0 .i64 .i64 L L (by omega) (by omega) (by rw [hz2]; omega) (by omega)
  simpa [hz1, Value.cells] using this
theorem copy_ins {W : World} {b o L cap : Nat} {v : List Ins} (h : RdI W (some ⟨b, o, none⟩) v) (hv : v.length = L) (ty : TypeId) :
    ∃ W', (Builtin.copy_ #[22, 22] ty #[.slice (some ⟨W.heap.size, 0, none⟩) L L, .slice (some ⟨b, o, none⟩) L cap]).run Try.prog (W.alloc (.cells (madeCells zeroI.l.toArray (L * 15)) 32)) = .ok (goInt L) W' ∧ PreI W' W.heap.size v ∧ Below W.heap.size W W' ∧ W'.heap.size = W.heap.size + 1 := by
  have hb := Below.one W (.cells (madeCells zeroI.l.toArray (L * 15)) 32)
  have hn := heap_alloc_new W (.cells (madeCells zeroI.l.toArray (L * 15)) 32)
  have hs : (madeCells zeroI.l.toArray (L * 15)).size = L * 15 := by simp [madeCells]
  have hr := run_copy_any (P := Try.prog) _ 22 22 ty 32 W.heap.size 0 L L ⟨b, o, none⟩ L cap _ 32 (v.flatMap Ins.l) 15 L (by kernel_rfl) sI hn (Nat.min_self L).symm (by rw [flatI_len, hv]) (flatI_src (h.below hb)) (by rw [flatI_len, hv, hs]; omega) (flatI_one v)
  refine ⟨_, hr, ⟨_, setRow_heap _ W.heap.size _ _ _ _ hn, fun j x hx k hk => ?_⟩, below_setRow hb (Nat.le_refl _) _, by simp⟩
  have hf := flatI_get v j k hk
  rw [hx] at hf
  simp only [Option.bind_some] at hf
  rw [← hf, List.getElem?_toArray, List.take_zero, List.nil_append, List.getElem?_append_left]
  rw [flatI_len]
  have := (List.getElem?_eq_some_iff.1 hx).1
  omega
theorem sF : (Try.prog.info? 24).map (·.size) = some 5 := by kernel_rfl
theorem func_one (nm : ByteArray) (ps R Fr : Int) (A : Option Addr) (n c : Nat) : (#[Value.string nm, .int .i64 ps, .int .i64 R, .int .i64 Fr, .slice A n c].all (·.oneCell')) = true := by simp [Value.oneCell']
def ClonedF (base : Nat) (f : Fn7) (e : Ending) (w : World) : Prop := ∃ nb, e = .returned (funcAgg f.nm f.ps f.R f.Fr (some ⟨nb, 0, none⟩) f.code.length f.code.length) ∧ base ≤ nb ∧ PreI w nb f.code
set_option maxRecDepth 1000000 in
set_option maxHeartbeats 4000000 in
theorem clone_code (f : Fn7) (hL0 : 1 ≤ f.code.length ∧ f.code.length ≤ 8192) (C : Option Addr) (cap : Nat) (w : World) (hC : RdI w C f.code) :
    Calls Try.prog 23 #[funcAgg f.nm f.ps f.R f.Fr C f.code.length cap] w fun e w' => ClonedF w.heap.size f e w' ∧ Below w.heap.size w w' := by
  have hi0 : f.code[0]? = some (f.code[0]'(by omega)) := by simp
  obtain ⟨b, o, rfl, hbl, _⟩ := hC 0 _ hi0
  clear hi0
  obtain ⟨L, hL⟩ : ∃ L, f.code.length = L := ⟨_, rfl⟩
  have HL := Lib.hid hL
  rw [hL] at hL0
  simp only [funcAgg, hL]
  clear hL
  have b0 := heap_alloc_new w (.cells #[.string f.nm, .int .i64 f.ps, .int .i64 f.R, .int .i64 f.Fr, .slice (some ⟨b, o, none⟩) L cap] 24)
  have b1 := heap_alloc_new (w.alloc (.cells #[.string f.nm, .int .i64 f.ps, .int .i64 f.R, .int .i64 f.Fr, .slice (some ⟨b, o, none⟩) L cap] 24)) (.cells #[.string ⟨#[]⟩, .int .i64 0, .int .i64 0, .int .i64 0, .slice none 0 0] 24)
  rw [show (w.alloc (.cells #[.string f.nm, .int .i64 f.ps, .int .i64 f.R, .int .i64 f.Fr, .slice (some ⟨b, o, none⟩) L cap] 24)).heap.size = w.heap.size + 1 by simp] at b1
  have b0 := alloc_keeps b0 (.cells #[.string ⟨#[]⟩, .int .i64 0, .int .i64 0, .int .i64 0, .slice none 0 0] 24)
  have hB := (Below.one w (.cells #[.string f.nm, .int .i64 f.ps, .int .i64 f.R, .int .i64 f.Fr, .slice (some ⟨b, o, none⟩) L cap] 24)).alloc (by simp) (.cells #[.string ⟨#[]⟩, .int .i64 0, .int .i64 0, .int .i64 0, .slice none 0 0] 24)
  obtain ⟨W, hW⟩ : ∃ W, (w.alloc (.cells #[.string f.nm, .int .i64 f.ps, .int .i64 f.R, .int .i64 f.Fr, .slice (some ⟨b, o, none⟩) L cap] 24)).alloc (.cells #[.string ⟨#[]⟩, .int .i64 0, .int .i64 0, .int .i64 0, .slice none 0 0] 24) = W := ⟨_, rfl⟩
  have hsW : w.heap.size + 2 ≤ W.heap.size := by rw [← hW]; simp
  rw [hW] at b0 b1 hB
  have y4 := cell_of_heap b0 4 (.slice (some ⟨b, o, none⟩) L cap) rfl
  have hl0 := (Array.getElem?_eq_some_iff.1 b0).1
  obtain ⟨W2, hcp, hP, hB2, hs2⟩ := copy_ins (cap := cap) (hC.below hB) HL.out 3
  have hmk := fun W => make_ins L (by omega) W
  have c0 := (hB2.block _ hl0).trans b0
  have c1 := (hB2.block _ (Array.getElem?_eq_some_iff.1 b1).1).trans b1
  have hBB := hB.trans (hB2.mono hB.size)
  have z0 := cell_of_heap c0 0 (.string f.nm) rfl
  have z1 := cell_of_heap c0 1 (.int .i64 f.ps) rfl
  have z2 := cell_of_heap c0 2 (.int .i64 f.R) rfl
  have z3 := cell_of_heap c0 3 (.int .i64 f.Fr) rfl
  have z4 := cell_of_heap c0 4 (.slice (some ⟨b, o, none⟩) L cap) rfl
  have zf := free_of_heap c0
  have HP := Lib.hid hP
  have HS2 := Lib.hid hs2
  clear hC hP hs2 b0 b1
  have d1 := (heap_setCell_other W2 ⟨w.heap.size, 4, none⟩ (w.heap.size + 1) (.slice (some ⟨W.heap.size, 0, none⟩) L L) (by simp only; omega)).trans c1
  have hR := setRow_heap _ _ _ #[.string f.nm, .int .i64 f.ps, .int .i64 f.R, .int .i64 f.Fr, .slice (some ⟨W.heap.size, 0, none⟩) L L] _ _ d1
  have r0 := cell_of_heap hR 0 (.string f.nm) rfl
  have r1 := cell_of_heap hR 1 (.int .i64 f.ps) rfl
  have r2 := cell_of_heap hR 2 (.int .i64 f.R) rfl
  have r3 := cell_of_heap hR 3 (.int .i64 f.Fr) rfl
  have r4 := cell_of_heap hR 4 (.slice (some ⟨W.heap.size, 0, none⟩) L L) rfl
  have HPF : Hid (PreI ((W2.setCell ⟨w.heap.size, 4, none⟩ (.slice (some ⟨W.heap.size, 0, none⟩) L L)).setRow (w.heap.size + 1) #[.string f.nm, .int .i64 f.ps, .int .i64 f.R, .int .i64 f.Fr, .slice (some ⟨W.heap.size, 0, none⟩) L L]) W.heap.size f.code) := Lib.hid (Pre.of_heap (Pre.other HP.out (by simp only; omega) _) (setRow_other _ _ _ _ (by omega)))
  have HBF : Hid (Below w.heap.size w ((W2.setCell ⟨w.heap.size, 4, none⟩ (.slice (some ⟨W.heap.size, 0, none⟩) L L)).setRow (w.heap.size + 1) #[.string f.nm, .int .i64 f.ps, .int .i64 f.R, .int .i64 f.Fr, .slice (some ⟨W.heap.size, 0, none⟩) L L])) := Lib.hid (below_setRow (hBB.setCell (Nat.le_refl _) _) (by omega) _)
  have HSW := Lib.hid hsW
  clear hR hsW c0 c1 hB hBB hB2 hbl
  go_enter Try.func23, Try.ntmps23
  go_wp2_with (first
    | (refine copy_ran (o := ⟨some 11, _, _, _, _, _⟩) rfl (.tmp 8) (.tmp 10) rfl rfl rfl hcp ?_)
    | (show wpList Try.prog _ _ (⟨none, .store _ (.tmp 2) _, _, _, _, _⟩ :: _) _ _; refine wpList_store_row rfl 24 (.tmp 2) (.tmp 14) rfl (w.heap.size + 1) #[.string f.nm, .int .i64 f.ps, .int .i64 f.R, .int .i64 f.Fr, .slice (some ⟨W.heap.size, 0, none⟩) L L] rfl rfl 24 _ d1 sF rfl (func_one _ _ _ _ _ _ _) ?_))
  (try simp only [Exit.inBlock, Exit.then])
  refine bodyPost_ret (by simp [results, Try.results23, go_sem, r0, r1, r2, r3, r4]; try rfl) rfl ?_
  exact ⟨⟨W.heap.size, by rw [HL.out], by have := HSW.out; omega, HPF.out⟩, HBF.out⟩
theorem ins_one_l (i : Ins) : ∀ v ∈ i.l, v.oneCell' = true := by
  have h := ins_one i
  rw [List.all_toArray, List.all_eq_true] at h
  exact h
/-- the code that the law makes -/
def OwnI (w : World) (base : Nat) (V : Value) (l : List Ins) : Prop := w.ownsRow base 32 15 V l.length (l.flatMap Ins.l)
end Go.Proofs.Ytkcclefonmnpnaa

/- WHAT A FUNCTION IS THAT COMES IN: its name, its numbers, its instructions. -/
namespace Go.Proofs.Ytkcclefonmnpnaa
open Go.ChangeShapes Go.WideShapes Go.ChangeAt Go.RowKit

theorem oi3 : Try.prog.underlying 3 = some (.int .i64) := by kernel_rfl
theorem oiop : Try.prog.underlying 29 = some (.int .i64) := by kernel_rfl
theorem ois : Try.prog.underlying 9 = some .string := by kernel_rfl
theorem oia : Try.prog.underlying 30 = some (.array 6 3) := by kernel_rfl
theorem oiI : Try.prog.underlying 32 = some (.struct (Try.prog.fieldsOf 32)) := by kernel_rfl
theorem oiF : Try.prog.underlying 24 = some (.struct (Try.prog.fieldsOf 24)) := by kernel_rfl
theorem oc3 : Try.prog.cellsOf 3 = 1 := by kernel_rfl
theorem ocop : Try.prog.cellsOf 29 = 1 := by kernel_rfl
theorem ocs : Try.prog.cellsOf 9 = 1 := by kernel_rfl
theorem oca : Try.prog.cellsOf 30 = 6 := by kernel_rfl
theorem ocl : Try.prog.cellsOf 22 = 1 := by kernel_rfl
theorem ocI : Try.prog.cellsOf 32 = 15 := by kernel_rfl
theorem ocF : Try.prog.cellsOf 24 = 5 := by kernel_rfl
theorem ofI : (Try.prog.fieldsOf 32).toList.map (fun f => (f.type, f.offset)) = [(3, 0), (29, 1), (3, 2), (3, 3), (3, 4), (3, 5), (9, 6), (30, 7), (3, 13), (3, 14)] := by kernel_rfl
theorem ofF : (Try.prog.fieldsOf 24).toList.map (fun f => (f.type, f.offset)) = [(9, 0), (3, 1), (3, 2), (3, 3), (22, 4)] := by kernel_rfl
theorem field_at {fs : Array Field} {l : List (Nat × Nat)} (h : fs.toList.map (fun f => (f.type, f.offset)) = l) (i : Nat) (p : Nat × Nat) (hp : l[i]? = some p) : ∃ f, fs[i]? = some f ∧ f.type = p.1 ∧ f.offset = p.2 := by
  subst h
  rw [List.getElem?_map] at hp
  cases hf : fs.toList[i]? with
  | none => rw [hf] at hp; cases hp
  | some f =>
    rw [hf] at hp
    injection hp with hp
    subst hp
    exact ⟨f, by simpa using hf, rfl, rfl⟩
theorem cell_lt {w : World} {b o : Nat} {v : Value} (h : w.cell? ⟨b, o, none⟩ = some v) : b < w.heap.size := by
  by_cases hb : b < w.heap.size
  · exact hb
  · have : w.heap[b]? = none := by simp; omega
    simp [World.cell?, this] at h
section
variable {H : Type} {enc : TypeId × Value → H} {w : World} {base : Nat} {sp : Nat → Bool} {held : Bool} {fuel : Nat} {cs : List Value} {x : DataW H × List MemPlace}
set_option maxRecDepth 100000 in
theorem trod_args (h : DataW.trod enc Try.prog w base sp held fuel 30 cs = some x) : ∃ r0 r1 r2 r3 r4 r5 : Int, cs = [.int .i64 r0, .int .i64 r1, .int .i64 r2, .int .i64 r3, .int .i64 r4, .int .i64 r5] := by
  obtain ⟨xs, m, _, _, hl, hxl, hi⟩ := DataW.trod_array oia h
  rw [oca] at hl
  have h0 := hi 0 (by omega)
  have h1 := hi 1 (by omega)
  have h2 := hi 2 (by omega)
  have h3 := hi 3 (by omega)
  have h4 := hi 4 (by omega)
  have h5 := hi 5 (by omega)
  rw [oc3, List.getElem?_eq_getElem (by omega)] at h0 h1 h2 h3 h4 h5
  obtain ⟨n0, e0, _⟩ := DataW.trod_int oi3 h0
  obtain ⟨n1, e1, _⟩ := DataW.trod_int oi3 h1
  obtain ⟨n2, e2, _⟩ := DataW.trod_int oi3 h2
  obtain ⟨n3, e3, _⟩ := DataW.trod_int oi3 h3
  obtain ⟨n4, e4, _⟩ := DataW.trod_int oi3 h4
  obtain ⟨n5, e5, _⟩ := DataW.trod_int oi3 h5
  match cs, hl with
  | [a, b, c, d, e, f], _ =>
    simp at e0 e1 e2 e3 e4 e5
    exact ⟨n0, n1, n2, n3, n4, n5, by simp [e0, e1, e2, e3, e4, e5]⟩
set_option maxRecDepth 100000 in
theorem trod_ins (h : DataW.trod enc Try.prog w base sp held fuel 32 cs = some x) : ∃ i : Ins, cs = i.l := by
  obtain ⟨xs, m, _, _, hl, hxl, hi⟩ := DataW.trod_struct oiI h
  have hsz : (Try.prog.fieldsOf 32).size = 10 := by simpa using congrArg List.length ofI
  rw [ocI] at hl
  rw [hsz] at hxl
  obtain ⟨f0, a0, b0, c0⟩ := field_at ofI 0 _ rfl
  obtain ⟨f1, a1, b1, c1⟩ := field_at ofI 1 _ rfl
  obtain ⟨f2, a2, b2, c2⟩ := field_at ofI 2 _ rfl
  obtain ⟨f3, a3, b3, c3⟩ := field_at ofI 3 _ rfl
  obtain ⟨f4, a4, b4, c4⟩ := field_at ofI 4 _ rfl
  obtain ⟨f5, a5, b5, c5⟩ := field_at ofI 5 _ rfl
  obtain ⟨f6, a6, b6, c6⟩ := field_at ofI 6 _ rfl
  obtain ⟨f7, a7, b7, c7⟩ := field_at ofI 7 _ rfl
  obtain ⟨f8, a8, b8, c8⟩ := field_at ofI 8 _ rfl
  obtain ⟨f9, a9, b9, c9⟩ := field_at ofI 9 _ rfl
  have h0 := hi 0 f0 a0
  have h1 := hi 1 f1 a1
  have h2 := hi 2 f2 a2
  have h3 := hi 3 f3 a3
  have h4 := hi 4 f4 a4
  have h5 := hi 5 f5 a5
  have h6 := hi 6 f6 a6
  have h7 := hi 7 f7 a7
  have h8 := hi 8 f8 a8
  have h9 := hi 9 f9 a9
  rw [b0, c0, oc3, List.getElem?_eq_getElem (by omega)] at h0
  rw [b1, c1, ocop, List.getElem?_eq_getElem (by omega)] at h1
  rw [b2, c2, oc3, List.getElem?_eq_getElem (by omega)] at h2
  rw [b3, c3, oc3, List.getElem?_eq_getElem (by omega)] at h3
  rw [b4, c4, oc3, List.getElem?_eq_getElem (by omega)] at h4
  rw [b5, c5, oc3, List.getElem?_eq_getElem (by omega)] at h5
  rw [b6, c6, ocs, List.getElem?_eq_getElem (by omega)] at h6
  rw [b7, c7, oca, List.getElem?_eq_getElem (by omega)] at h7
  rw [b8, c8, oc3, List.getElem?_eq_getElem (by omega)] at h8
  rw [b9, c9, oc3, List.getElem?_eq_getElem (by omega)] at h9
  obtain ⟨n0, e0, _⟩ := DataW.trod_int oi3 h0
  obtain ⟨n1, e1, _⟩ := DataW.trod_int oiop h1
  obtain ⟨n2, e2, _⟩ := DataW.trod_int oi3 h2
  obtain ⟨n3, e3, _⟩ := DataW.trod_int oi3 h3
  obtain ⟨n4, e4, _⟩ := DataW.trod_int oi3 h4
  obtain ⟨n5, e5, _⟩ := DataW.trod_int oi3 h5
  obtain ⟨s6, e6, _⟩ := DataW.trod_string ois h6
  obtain ⟨r0, r1, r2, r3, r4, r5, e7⟩ := trod_args h7
  obtain ⟨n8, e8, _⟩ := DataW.trod_int oi3 h8
  obtain ⟨n9, e9, _⟩ := DataW.trod_int oi3 h9
  clear hi h0 h1 h2 h3 h4 h5 h6 h7 h8 h9
  match cs, hl with
  | [a, b, c, d, e, f, g, k0, k1, k2, k3, k4, k5, u, v], _ =>
    simp at e0 e1 e2 e3 e4 e5 e6 e7 e8 e9
    exact ⟨⟨n0, n1, n2, n3, n4, n5, s6, r0, r1, r2, r3, r4, r5, n8, n9⟩, by simp [e0, e1, e2, e3, e4, e5, e6, e7, e8, e9]⟩
theorem addr_add2 (b o q m : Nat) : ((⟨b, o, none⟩ : Addr).add q).add m = ⟨b, o + (q + m), none⟩ := by
  rw [Go.Deep.add_add]; unfold Addr.add; split
  · rename_i h0; rw [h0, Nat.add_zero]
  · rfl
theorem no_spot {a : Addr} {v : Value} {n : Nat} (h : w.cell? (a.add n) = some v) (hn : n = 0) : a.spot = none := by
  subst hn
  rcases hs : a.spot with _ | s
  · rfl
  · exfalso
    have e1 : a.add 0 = a := by simp [Addr.add]
    rw [e1] at h
    have : w.cell? a = none := by unfold World.cell?; split <;> simp [hs]
    rw [this] at h
    cases h
set_option maxRecDepth 100000 in
theorem trod_instrs (h : DataW.trod enc Try.prog w 0 sp held fuel 22 cs = some x) (hsp : ∀ b, sp b = true) : ∃ (A : Option Addr) (l : List Ins) (cap : Nat), cs = [.slice A l.length cap] ∧ RdI w A l ∧ l.length ≤ 9223372036854775807 := by
  rcases Go.Deep.open_slice (e := 32) (by kernel_rfl) h with ⟨hcs, _⟩ | ⟨a, len, cap, m, n, D, Pl, hcs, _, hlc, hcm, hm, hx, hi⟩
  · exact ⟨none, [], 0, hcs, (fun j f hf => by simp at hf), by simp⟩
  · rw [ocI] at hi
    have hm' : m = cap := by rw [hm, if_pos (hsp _)]
    subst hm'
    have hrows : ∀ i, i < len → ∃ r : Ins, w.cells? 0 (a.add (i * 15)) 15 = some r.l := fun i hil => by
      obtain ⟨cs', hc, ht⟩ := hi i (by omega)
      obtain ⟨r, rfl⟩ := trod_ins ht
      exact ⟨r, hc⟩
    haveI : Inhabited Ins := ⟨⟨0, 0, 0, 0, 0, 0, ⟨#[]⟩, 0, 0, 0, 0, 0, 0, 0, 0⟩⟩
    obtain ⟨f, hfr⟩ := Go.Deep.choose_lt hrows
    refine ⟨some a, (List.range len).map f, m, by simpa using hcs, fun j g hg => ?_, by simp [maxLen] at hcm ⊢; omega⟩
    have hj : j < len := by simpa using (List.getElem?_eq_some_iff.1 hg).1
    have hgf : g = f j := by simp [hj] at hg; exact hg.symm
    subst hgf
    have hc := (World.cells?_some (hfr j hj)).2.2
    have h00 := (World.cells?_some (hfr 0 (by omega))).2.2 0 (by omega)
    have hsp' : a.spot = none := by
      have e1 : (a.add (0 * 15)).add 0 = a.add 0 := by simp [Addr.add]
      rw [e1] at h00
      exact no_spot (v := (f 0).l[0]) h00 rfl
    obtain ⟨b, o, spot⟩ := a
    simp only at hsp'
    subst hsp'
    have c0 := hc 0 (by omega)
    rw [addr_add2] at c0
    refine ⟨b, o, rfl, cell_lt c0, fun k hk => ?_⟩
    have ck := hc k hk
    rw [addr_add2] at ck
    rw [ck, List.getElem?_eq_getElem (by exact hk)]
end

end Go.Proofs.Ytkcclefonmnpnaa

/- WHAT A VALUE IS THAT COMES IN. -/
namespace Go.Proofs.Ytkcclefonmnpnaa
open Go.ChangeShapes Go.WideShapes Go.ChangeAt Go.RowKit

theorem Try.own : ownKnob Try.prog.godebug = none := by kernel_rfl
theorem Try.laid : laidOutB Try.prog = true := by kernel_rfl
theorem ub4 : Try.prog.underlying 4 = some .bool := by kernel_rfl
end Go.Proofs.Ytkcclefonmnpnaa

/- A LAW's ROW OUT OF ITS WALK: of whatever parameters that can be read. -/
namespace Go.Proofs.Ytkcclefonmnpnaa
open Go.ChangeShapes Go.WideShapes Go.ChangeAt Go.RowKit

section
variable {H : Type} {enc : TypeId × Value → H} {P : Program}
theorem trodAll_len {w : World} {base : Nat} {sp : Nat → Bool} {held : Bool} : ∀ {ts : List TypeId} {vs : List Value} {ds : List (DataW H)} {ps : List MemPlace}, DataW.TrodAll enc P w base sp held ts vs ds ps → vs.length = ts.length ∧ ds.length = ts.length
  | [], [], [], _, _ => ⟨rfl, rfl⟩
  | _ :: _, _ :: _, _ :: _, _, ⟨_, _, _, h, _⟩ => by
    have := trodAll_len h
    simp [this]
  | [], _ :: _, _, _, h => h.elim
  | [], [], _ :: _, _, h => h.elim
  | _ :: _, [], _, _, h => h.elim
  | _ :: _, _ :: _, [], _, h => h.elim
theorem trodAll_stays (hl : laidOutB P = true) {W W' : World} (hb : Below W.heap.size W W') {sp : Nat → Bool} : ∀ {ts : List TypeId} {vs : List Value} {ds : List (DataW H)} {ps : List MemPlace}, (∀ t ∈ ts, P.readableRec t = true ∧ t < P.types.size) →
    DataW.TrodAll enc P W 0 (fun _ => true) true ts vs ds ps → (∀ x ∈ ps, x.block < W.heap.size) → (∀ x ∈ ps, sp x.block = true) → DataW.TrodAll enc P W' 0 sp true ts vs ds ps
  | [], [], [], _, _, h, _, _ => h
  | t :: ts, v :: vs, d :: ds, ps, hr, ⟨p, q, h1, h2, e⟩, hlt, hsp => by
    subst e
    exact ⟨p, q, WideElems.Trod_stays hl (hr t (by simp)).1 (hr t (by simp)).2 h1 (fun x hx => hb.same (hlt x (List.mem_append_left _ hx))) (fun x hx => hsp x (List.mem_append_left _ hx)),
      trodAll_stays hl hb (fun t ht => hr t (by simp [ht])) h2 (fun x hx => hlt x (List.mem_append_right _ hx)) (fun x hx => hsp x (List.mem_append_right _ hx)), rfl⟩
  | [], _ :: _, _, _, _, h, _, _ => h.elim
  | [], [], _ :: _, _, _, h, _, _ => h.elim
  | _ :: _, [], _, _, _, h, _, _ => h.elim
  | _ :: _, _ :: _, [], _, _, h, _, _ => h.elim
end

theorem law_lifted {H : Type} {enc : TypeId × Value → H} {C : Checked} {os : Os} {f : FuncId} {fn : Func} {s : ChangeSpec} {tb : TypeId}
    (own : ownKnob C.prog.godebug = none) (started : os.Started) (noInit : C.prog.inits.idxOf? f = none) (hfn : C.prog.funcs[f]? = some fn)
    (witness : ∃ (w : World) (tape : Tape) (i : Input), w.os = os ∧ (w.forCall tape i).Shaped C.prog ∧ i.vars = [] ∧ Input.okWide C.prog (w.forCall tape i) .any w.heap.size f i ∧
      s.pre6 enc C.prog fn [] false (w.forCall tape i).memory i.args ∧ ({} : Assume).holds C.prog (lone (Frame.enter C.prog f i.args .normal) [] (w.forCall tape i)))
    (hvars : s.vars = []) (hres : fn.resultTypes = #[tb]) (htb : C.prog.underlying tb = some .bool) (hl : laidOutB C.prog = true)
    (hread : ∀ t ∈ fn.params.toList, C.prog.readableRec t = true ∧ t < C.prog.types.size)
    (hspec : ∀ ds : List (DataW H), ds.length = fn.params.toList.length → (s.fn H ds).results = [.lit (.bool true)] ∧ (s.fn H ds).args = ds ∧ (s.fn H ds).vars = [])
    (walk : ∀ (W : World) (base : Nat) (args : Array Value) (ds : List (DataW H)) (p : List MemPlace),
      (∀ (j : Nat) t v, fn.params[j]? = some t → args[j]? = some v → Value.okWide C.prog W .any base t v) →
      DataW.TrodAll enc C.prog W 0 (fun _ => true) true fn.params.toList args.toList ds p → (∀ x ∈ p, x.block < W.heap.size) →
      (DataW.weightsEach C.prog fn.params.toList ds).all (· ≤ reachBytes) = true →
      Calls C.prog f args W fun e W' => e = .returned (.bool true) ∧ Below W.heap.size W W') :
    ReturnsInHanded {} C os f .any (s.pre6 enc C.prog fn [] false) (s.post enc C.prog fn false true false false) := by
  refine returnsInHanded_of_change_sized own started noInit hfn witness ?_
  intro W base args ds gs before hval hW _ hsz _
  have hW' := hW
  obtain ⟨p, q, hA, hV, rfl, _, _⟩ := hW
  have hgs : gs = [] ∧ q = [] := by
    rw [hvars] at hV
    cases gs with
    | nil => exact ⟨rfl, hV⟩
    | cons g gs => exact hV.elim
  obtain ⟨rfl, rfl⟩ := hgs
  have hlt : ∀ x ∈ p, x.block < W.heap.size := fun x hx => hW'.lt x (by simpa using hx)
  have hvt : s.plain.varTypes C.prog = [] := by
    unfold DataSpec.varTypes
    show List.filterMap _ s.vars = []
    rw [hvars]; rfl
  rw [hvt, List.append_nil, List.append_nil] at hsz
  obtain ⟨e1, e2, e3⟩ := hspec ds (trodAll_len hA).2
  refine (walk W base args ds p hval hA hlt hsz).mono fun e W' ⟨he, hb⟩ => ?_
  subst he
  refine ⟨_, rfl, ds, [], p ++ [], [], p, [], hW', ?_, ?_, ?_, hb.frame _, fun h => by cases h⟩
  · rw [List.append_nil, e1, hres]
    exact trodAll_cons_mk (shut_bool htb true) trodAll_mk0
  · rw [List.append_nil, e2]
    exact trodAll_stays hl hb hread hA hlt (fun x hx => by simpa using hlt x hx)
  · rw [List.append_nil, e3, hvars]; rfl
end Go.Proofs.Ytkcclefonmnpnaa
