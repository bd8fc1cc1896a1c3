import Derived.Test.YtpadbfjocecofaaDoorF
import Derived.Test.YtpadbfjocecofaaDoorJ
namespace Go.Proofs.YtpadbfjocecofaaDoor
open Go.RowKit Go.BigFrame

theorem reftruth_any (b : Bool) (w : World) : Calls Tryd.prog 34 #[.bool b] w fun e w' => e = .returned (.int .i64 (tv b)) ∧ w = w' := by
  cases b <;> (go_enter Tryd.func34, Tryd.ntmps34; go_wp2; go_returns; exact ⟨rfl, rfl⟩)
theorem half_step (p : Int) (j : Nat) (hp : 0 ≤ p) : (p / 2 ^ j).tdiv 2 = p / 2 ^ (j + 1) := by
  have h : 0 ≤ p / 2 ^ j := Int.ediv_nonneg hp (Int.le_of_lt (Int.pow_pos (by decide)))
  rw [Int.tdiv_eq_ediv_of_nonneg h, Int.ediv_ediv_of_nonneg (Int.le_of_lt (Int.pow_pos (by decide))), Int.pow_succ]
set_option maxRecDepth 100000 in
theorem bit_any (n : Int) (k : Nat) (hk : k ≤ 32) (w : World) : Calls Tryd.prog 36 #[.int .i64 n, .int .i64 k] w fun e w' => e = .returned (.int .i64 ((pl n / 2 ^ k) % 2)) ∧ Below w.heap.size w w' := by
  have hpl := pl_bd n
  go_enter Tryd.func36, Tryd.ntmps36
  go_wp2_with (go_at_call 21; refine (refplain_any _ _).mono ?_; rintro e w' ⟨rfl, rfl⟩)
  go_loopw [5, 6] (fun p i w8 => ∃ j : Nat, j ≤ k ∧ i = .int .i64 j ∧ p = .int .i64 (pl n / 2 ^ j) ∧ Below w.heap.size w w8) (fun _ i _ => k - (intOf i).toNat)
  case atStart => exact ⟨0, by omega, rfl, by simp, Below.refl _ _⟩
  case round =>
    obtain ⟨j, hj, rfl, rfl, hB⟩ := hrel
    have hs := half_step (pl n) j hpl.1
    have h0 : 0 ≤ pl n / 2 ^ j := Int.ediv_nonneg hpl.1 (Int.le_of_lt (Int.pow_pos (by decide)))
    have h1 : pl n / 2 ^ j ≤ pl n := Int.ediv_le_self _ hpl.1
    by_cases hlt : j < k
    · have hd : wrap64 ((pl n / 2 ^ j).tdiv 2) = pl n / 2 ^ (j + 1) := by
        rw [hs]
        have h2 : 0 ≤ pl n / 2 ^ (j + 1) := Int.ediv_nonneg hpl.1 (Int.le_of_lt (Int.pow_pos (by decide)))
        have h3 : pl n / 2 ^ (j + 1) ≤ pl n := Int.ediv_le_self _ hpl.1
        exact w64 (by omega)
      have hq : wrap64 (pl n / 2 ^ (j + 1)) = pl n / 2 ^ (j + 1) := by rw [← hs]; rw [hs] at hd ⊢; exact hd
      have HQ := Lib.hid hq
      clear hq
      generalize pl n / 2 ^ j = p at *
      generalize hp' : pl n / 2 ^ (j + 1) = p' at *
      go_wp2_with fail
      exact ⟨⟨j + 1, by omega, by go_num, by rw [hp']; exact congrArg (Value.int .i64) HQ.out, hB⟩, by simp [intOf]; omega⟩
    · have hjk : j = k := by omega
      subst hjk
      generalize hpp : pl n / 2 ^ j = p at *
      have hm : p.tmod 2 = p % 2 := Int.tmod_eq_emod_of_nonneg h0
      go_wp2_with fail
      go_returns
      exact ⟨by rw [hpp]; rfl, hB⟩
theorem power_any (k : Nat) (hk : k ≤ 31) (w : World) : Calls Tryd.prog 31 #[.int .i64 k] w fun e w' => e = .returned (.int .i64 (2 ^ k)) ∧ w = w' := by
  go_enter Tryd.func31, Tryd.ntmps31
  go_wp2_with fail
  go_loopw [3, 4] (fun p i w8 => ∃ j : Nat, j ≤ k ∧ i = .int .i64 j ∧ p = .int .i64 (2 ^ j) ∧ w8 = w) (fun _ i _ => k - (intOf i).toNat)
  case atStart => exact ⟨0, by omega, rfl, by simp, rfl⟩
  case round =>
    obtain ⟨j, hj, rfl, rfl, hB⟩ := hrel
    subst hB
    by_cases hlt : j < k
    · have hp : (2 : Int) ^ j ≤ 2 ^ 31 := by
        have := Nat.pow_le_pow_right (show 0 < 2 by decide) (show j ≤ 31 by omega)
        exact_mod_cast this
      have hp0 : (0 : Int) < 2 ^ j := Int.pow_pos (by decide)
      have hs : wrap64 (2 ^ j * 2) = 2 ^ (j + 1) := by rw [Int.pow_succ]; exact w64 (by omega)
      go_wp2_with fail
      exact ⟨⟨j + 1, by omega, by go_num, rfl, trivial⟩, by simp [intOf]; omega⟩
    · have hjk : j = k := by omega
      subst hjk
      go_wp2_with fail
      go_returns
      exact ⟨rfl, rfl⟩
theorem down_eq (a : Int) (k : Nat) : (if a < 0 ∧ a.tdiv (2 ^ k) * 2 ^ k ≠ a then a.tdiv (2 ^ k) - 1 else a.tdiv (2 ^ k)) = a / 2 ^ k := by
  have hp : (0 : Int) < 2 ^ k := Int.pow_pos (by decide)
  have h1 := Int.tdiv_mul_add_tmod a (2 ^ k)
  have h2 := Int.ediv_mul_add_emod a (2 ^ k)
  by_cases h0 : 0 ≤ a
  · rw [if_neg (by omega), Int.tdiv_eq_ediv_of_nonneg h0]
  · by_cases hd : (2 : Int) ^ k ∣ a
    · have hq : a.tdiv (2 ^ k) = a / 2 ^ k := by rw [Int.tdiv_eq_ediv, if_pos (Or.inr hd), Int.add_zero]
      have h3 : a / 2 ^ k * 2 ^ k = a := Int.ediv_mul_cancel hd
      rw [hq, if_neg (fun h => h.2 h3)]
    · have hq : a.tdiv (2 ^ k) = a / 2 ^ k + 1 := by
        rw [Int.tdiv_eq_ediv, if_neg (fun h => h.elim h0 hd), Int.sign_eq_one_of_pos hp]
      rw [hq, if_pos ⟨by omega, fun h => hd ⟨a / 2 ^ k + 1, by rw [Int.mul_comm]; exact h.symm⟩⟩]
      omega
end Go.Proofs.YtpadbfjocecofaaDoor
