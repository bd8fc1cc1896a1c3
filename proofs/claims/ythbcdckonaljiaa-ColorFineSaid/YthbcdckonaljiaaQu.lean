import Derived.Laws.FloatArith
import Derived.Laws.ComplexArith
import Derived.Laws.Cover2
namespace Go.Proofs.Ythbcdckonaljiaa
open Ieee

theorem log2_mulp {n : Nat} (h : n ≠ 0) (k : Nat) : (n * 2 ^ k).log2 = n.log2 + k := by
  have h2 : n * 2 ^ k ≠ 0 := by
    have := Nat.two_pow_pos k
    exact Nat.mul_ne_zero h (by omega)
  rw [Nat.log2_eq_iff h2]
  constructor
  · rw [Nat.pow_add]; exact Nat.mul_le_mul_right _ (Nat.log2_self_le h)
  · rw [show n.log2 + k + 1 = (n.log2 + 1) + k by omega, Nat.pow_add]; exact Nat.mul_lt_mul_of_pos_right Nat.lt_log2_self (Nat.two_pow_pos k)
theorem cut_exact (way : Toward) (neg : Bool) (n d : Nat) (h : n = 0 ∨ d ≤ (n * 2 ^ d).log2 + 2) : way.cut neg (n * 2 ^ d) d = n := by
  have hg : (n * 2 ^ d) / (1 <<< min d ((n * 2 ^ d).log2 + 2)) = n ∧ (n * 2 ^ d) % (1 <<< min d ((n * 2 ^ d).log2 + 2)) = 0 := by
    rcases h with h | h
    · subst h
      simp
    · rw [Nat.min_eq_left h, Nat.shiftLeft_eq, Nat.one_mul]
      exact ⟨Nat.mul_div_cancel _ (Nat.two_pow_pos d), Nat.mul_mod_left _ _⟩
  have hp : 0 < 1 <<< min d ((n * 2 ^ d).log2 + 2) := by rw [Nat.shiftLeft_eq, Nat.one_mul]; exact Nat.two_pow_pos _
  unfold Toward.cut
  simp only [hg.1, hg.2]
  generalize 1 <<< min d ((n * 2 ^ d).log2 + 2) = g at hp
  cases way <;> simp <;> omega
def fW (n : Nat) : Nat := FloatKind.f64.nearest (n : Int)
def FV (x n : Nat) : Prop := ∃ k : Nat, Ieee.double.read x = .number false (n * 2 ^ k) (-(k : Int))
theorem near_one (n : Nat) (k : Nat) (h0 : n ≠ 0) (hn : n < 2 ^ 53) : Ieee.double.nearest false (n * 2 ^ k) (-(k : Int)) = (n.log2 + 1022) * 2 ^ 52 + n * 2 ^ (52 - n.log2) := by
  have hl : n.log2 < 53 := (Nat.log2_lt h0).2 hn
  have h2 : n * 2 ^ k ≠ 0 := by
    have := Nat.two_pow_pos k
    exact Nat.mul_ne_zero h0 (by omega)
  unfold Format.nearest
  rw [if_neg h2, log2_mulp h0]
  have hlast : max (-(k : Int) + ((n.log2 + k : Nat) : Int) - (Ieee.double.fractionBits : Nat)) Ieee.double.leastPlace = (n.log2 : Int) - 52 := by
    have e1 : Ieee.double.leastPlace = -1074 := by decide
    have e2 : (Ieee.double.fractionBits : Int) = 52 := rfl
    rw [e1, e2]; omega
  simp only [hlast]
  have hkept : Toward.even.cut false ((n * 2 ^ k) <<< (-(k : Int) - ((n.log2 : Int) - 52)).toNat) (((n.log2 : Int) - 52) - -(k : Int)).toNat = n * 2 ^ (52 - n.log2) := by
    rcases Nat.le_total k (52 - n.log2) with hk | hk
    · have e1 : (-(k : Int) - ((n.log2 : Int) - 52)).toNat = 52 - n.log2 - k := by omega
      have e2 : (((n.log2 : Int) - 52) - -(k : Int)).toNat = 0 := by omega
      rw [e1, e2, Nat.shiftLeft_eq, Nat.mul_assoc, ← Nat.pow_add, show k + (52 - n.log2 - k) = 52 - n.log2 by omega]
      have := cut_exact .even false (n * 2 ^ (52 - n.log2)) 0 (Or.inr (by omega))
      rwa [Nat.pow_zero, Nat.mul_one] at this
    · obtain ⟨d, rfl⟩ : ∃ d, k = 52 - n.log2 + d := ⟨k - (52 - n.log2), by omega⟩
      have e1 : (-((52 - n.log2 + d : Nat) : Int) - ((n.log2 : Int) - 52)).toNat = 0 := by omega
      have e2 : (((n.log2 : Int) - 52) - -((52 - n.log2 + d : Nat) : Int)).toNat = d := by omega
      rw [e1, e2, Nat.shiftLeft_zero, Nat.pow_add, ← Nat.mul_assoc]
      have hne : n * 2 ^ (52 - n.log2) ≠ 0 := Nat.mul_ne_zero h0 (by have := Nat.two_pow_pos (52 - n.log2); omega)
      refine cut_exact .even false (n * 2 ^ (52 - n.log2)) d (Or.inr ?_)
      rw [log2_mulp hne]
      omega
  rw [hkept]
  have e3 : (((n.log2 : Int) - 52) - Ieee.double.leastPlace).toNat = n.log2 + 1022 := by
    have e1 : Ieee.double.leastPlace = -1074 := by decide
    rw [e1]; omega
  have e4 : Ieee.double.binade = 2 ^ 52 := rfl
  have e5 : Ieee.double.infRung = 2047 * 2 ^ 52 := by decide
  have hb : n * 2 ^ (52 - n.log2) < 2 ^ 53 := by
    have h1 : n < 2 ^ (n.log2 + 1) := Nat.lt_log2_self
    have h3 : n * 2 ^ (52 - n.log2) < 2 ^ (n.log2 + 1) * 2 ^ (52 - n.log2) := Nat.mul_lt_mul_of_pos_right h1 (Nat.two_pow_pos _)
    rw [← Nat.pow_add, show n.log2 + 1 + (52 - n.log2) = 53 by omega] at h3
    exact h3
  rw [e3, e4, e5]
  unfold Format.word
  rw [if_neg (by simp), Nat.min_eq_left]
  generalize n * 2 ^ (52 - n.log2) = q at hb
  generalize n.log2 = l at hl
  omega
theorem fW_eq {n : Nat} (h0 : n ≠ 0) (hn : n < 2 ^ 53) : fW n = (n.log2 + 1022) * 2 ^ 52 + n * 2 ^ (52 - n.log2) := by
  have h := near_one n 0 h0 hn
  rw [Nat.pow_zero, Nat.mul_one] at h
  unfold fW FloatKind.nearest FloatKind.encode Format.write
  rw [← h]
  show Ieee.double.nearest (decide ((n : Int) < 0)) (n : Int).natAbs 0 = _
  rw [decide_eq_false (by omega), Int.natAbs_natCast]
  rfl
theorem fW_zero : fW 0 = 0 := by decide
theorem fW_fv (n : Nat) (hn : n < 2 ^ 53) : FV (fW n) n := by
  by_cases h0 : n = 0
  · subst h0
    obtain ⟨k, hk⟩ : ∃ k : Nat, k = 1074 := ⟨_, rfl⟩
    refine ⟨k, ?_⟩
    rw [fW_zero, Nat.zero_mul, show -(k : Int) = -1074 by omega]
    decide
  have hl : n.log2 < 53 := (Nat.log2_lt h0).2 hn
  refine ⟨52 - n.log2, ?_⟩
  have hb : n * 2 ^ (52 - n.log2) < 2 ^ 53 := by
    have h1 : n < 2 ^ (n.log2 + 1) := Nat.lt_log2_self
    have h3 : n * 2 ^ (52 - n.log2) < 2 ^ (n.log2 + 1) * 2 ^ (52 - n.log2) := Nat.mul_lt_mul_of_pos_right h1 (Nat.two_pow_pos _)
    rw [← Nat.pow_add, show n.log2 + 1 + (52 - n.log2) = 53 by omega] at h3
    exact h3
  have hb2 : 2 ^ 52 ≤ n * 2 ^ (52 - n.log2) := by
    have h3 : 2 ^ n.log2 * 2 ^ (52 - n.log2) ≤ n * 2 ^ (52 - n.log2) := Nat.mul_le_mul_right _ (Nat.log2_self_le h0)
    rw [← Nat.pow_add, show n.log2 + (52 - n.log2) = 52 by omega] at h3
    exact h3
  rw [fW_eq h0 hn]
  generalize n * 2 ^ (52 - n.log2) = q at hb hb2
  generalize hll : n.log2 = l at hl
  unfold Format.read
  have e1 : Ieee.double.leastPlace = -1074 := by decide
  have e4 : Ieee.double.binade = 2 ^ 52 := rfl
  have e5 : Ieee.double.infRung = 2047 * 2 ^ 52 := by decide
  have e6 : Ieee.double.signWeight = 2 ^ 63 := rfl
  simp only [e1, e4, e5, e6]
  have f1 : ((l + 1022) * 2 ^ 52 + q) / 2 ^ 63 = 0 := by omega
  have f2 : ((l + 1022) * 2 ^ 52 + q) % 2 ^ 63 = (l + 1022) * 2 ^ 52 + q := by omega
  have f3 : ((l + 1022) * 2 ^ 52 + q) % 2 ^ 52 = q - 2 ^ 52 := by omega
  have f4 : ((l + 1022) * 2 ^ 52 + q) / 2 ^ 52 = l + 1023 := by omega
  rw [f1, f2, if_neg (by omega), if_pos (by omega), f3, f4, show 2 ^ 52 + (q - 2 ^ 52) = q by omega]
  rw [show (-1074 : Int) + ((l + 1023 - 1 : Nat) : Int) = -((52 - l : Nat) : Int) by omega]
  rfl
theorem fv_write (n k : Nat) (hn : n < 2 ^ 53) : Ieee.double.write (.number false (n * 2 ^ k) (-(k : Int))) = fW n := by
  by_cases h0 : n = 0
  · subst h0
    rw [fW_zero, Nat.zero_mul]
    show Ieee.double.nearest false 0 (-(k : Int)) = 0
    unfold Format.nearest
    rw [if_pos rfl]; rfl
  · rw [fW_eq h0 hn]
    exact near_one n k h0 hn
theorem fv_add {x y a b : Nat} (hx : FV x a) (hy : FV y b) (h : a + b < 2 ^ 53) : floatBits .add .f64 x y = some (fW (a + b)) := by
  obtain ⟨i, hi⟩ := hx
  obtain ⟨j, hj⟩ := hy
  show Ieee.double.add x y = _
  unfold Format.add
  rw [hi, hj]
  have key : Datum.sum (.number false (a * 2 ^ i) (-(i : Int))) (.number false (b * 2 ^ j) (-(j : Int))) = some (.number false ((a + b) * 2 ^ max i j) (-((max i j : Nat) : Int))) := by
    unfold Datum.sum
    have e0 : min (-(i : Int)) (-(j : Int)) = -((max i j : Nat) : Int) := by omega
    simp only [e0]
    have e1 : (-(i : Int) - -((max i j : Nat) : Int)).toNat = max i j - i := by omega
    have e2 : (-(j : Int) - -((max i j : Nat) : Int)).toNat = max i j - j := by omega
    have e3 : signed false (a * 2 ^ i) (max i j - i) + signed false (b * 2 ^ j) (max i j - j) = (((a + b) * 2 ^ max i j : Nat) : Int) := by
      unfold signed
      rw [if_neg (by simp), if_neg (by simp), Nat.shiftLeft_eq, Nat.shiftLeft_eq, Nat.mul_assoc, Nat.mul_assoc, ← Nat.pow_add, ← Nat.pow_add, show i + (max i j - i) = max i j by omega, show j + (max i j - j) = max i j by omega, Nat.add_mul]
      rfl
    rw [e1, e2, e3]
    have e4 : (if (((a + b) * 2 ^ max i j : Nat) : Int) = 0 then (false && false) else decide ((((a + b) * 2 ^ max i j : Nat) : Int) < 0)) = false := by
      split
      · rfl
      · exact decide_eq_false (by omega)
    rw [e4, Int.natAbs_natCast]
  rw [key]
  show some (Ieee.double.write _) = _
  rw [fv_write _ _ h]
theorem fv_int {x n : Nat} (hx : FV x n) (h : n < 2 ^ 53) : floatToIntVal .f64 x .i64 = some (n : Int) := by
  obtain ⟨k, hk⟩ := hx
  unfold floatToIntVal
  have e1 : (FloatKind.f64.decode x).toInt .zero = some (n : Int) := by
    show (Ieee.double.read x).toInt .zero = _
    rw [hk]
    unfold Datum.toInt Datum.integral
    have e2 : (-(k : Int)).toNat = 0 := by omega
    have e3 : (- -(k : Int)).toNat = k := by omega
    simp only [e2, e3, Nat.shiftLeft_zero]
    rw [cut_exact]
    · unfold signed
      simp
    · by_cases h0 : n = 0
      · exact Or.inl h0
      · exact Or.inr (by rw [log2_mulp h0]; omega)
  rw [e1]
  have h1 : IntKind.min .i64 = -9223372036854775808 := by decide
  have h2 : IntKind.max .i64 = 9223372036854775807 := by decide
  exact if_pos ⟨by omega, by omega⟩
end Go.Proofs.Ythbcdckonaljiaa
