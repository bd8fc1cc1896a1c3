import Derived.Test.YtfaccdidjhaahaaC
namespace Go.Proofs.Ytfaccdidjhaahaa
open Go.RowKit

def gcdK (r : Row) : Nat → Nat
  | 0 => 0
  | k + 1 => Nat.gcd (gcdK r k) (r.at k).natAbs
def big (n : Int) : Prop := -4398046511104 ≤ n ∧ n ≤ 4398046511104
theorem gcdK_le (r : Row) (h : ∀ j, big (r.at j)) : ∀ k, gcdK r k ≤ 4398046511104
  | 0 => by simp [gcdK]
  | k + 1 => by
    have ih := gcdK_le r h k
    have hk := h k
    unfold big at hk
    show Nat.gcd _ _ ≤ _
    by_cases h0 : gcdK r k = 0
    · rw [h0, Nat.gcd_zero_left]; omega
    · exact Nat.le_trans (Nat.gcd_le_left _ (by omega)) ih


theorem gcd_step (a b : Nat) (_ : b ≠ 0) : Nat.gcd b (a % b) = Nat.gcd a b := by
  rw [Nat.gcd_comm a b, Nat.gcd_rec b a, Nat.gcd_comm]
def M41 : Nat := 4398046511104
def small (n : Nat) : Prop := n ≤ 4398046511104
theorem small_le {n : Nat} (h : small n) : n ≤ 9223372036854775807 := by unfold small at h; omega
theorem small_mod {a b : Nat} (h : small b) (hb : b ≠ 0) : small (a % b) := by unfold small at *; have := Nat.mod_lt a (Nat.pos_of_ne_zero hb); omega
theorem mod_lt2 (x y : Nat) (h : y ≠ 0) : (intOf (.int .i64 ((x : Int) % (y : Int)))).toNat < (intOf (.int .i64 (y : Int))).toNat := by
  have := Nat.mod_lt x (Nat.pos_of_ne_zero h)
  simp only [intOf, ← Int.natCast_emod, Int.toNat_natCast]; exact this
theorem tmod_cast {a b : Nat} (_ : b ≠ 0) : Int.tmod (a : Int) (b : Int) = ((a % b : Nat) : Int) := by simp [Int.tmod_eq_emod_of_nonneg]

set_option maxHeartbeats 400000 in
theorem divisor_any (r : Row) (w : World) (hb : ∀ j, big (r.at j)) : Calls Try.prog 20 #[r.enc] w fun e w' => e = .returned (.int .i64 (gcdK r 8 : Nat)) ∧ Below w.heap.size w w' := by
  have HB := Lib.hid hb
  clear hb
  go_enter Try.func20, Try.ntmps20
  go_wp2
  have hB : Below w.heap.size w (w.alloc r.o) := (Below.refl _ _).alloc (Nat.le_refl _) _
  generalize w.alloc r.o = W at hB ⊢
  go_loopw [3, 10] (fun d i wr => ∃ k : Nat, k ≤ 8 ∧ i = .int .i64 k ∧ d = .int .i64 (gcdK r k : Nat) ∧ Below w.heap.size w wr) (fun _ i _ => 8 - (intOf i).toNat)
  case atStart => exact ⟨0, by omega, rfl, rfl, hB⟩
  case round =>
    obtain ⟨k, hk, rfl, rfl, hb⟩ := hrel
    by_cases hlt : k < 8
    · have hix := index_arr r k hlt
      have hneg : wrap64 (-r.at k) = - r.at k := by have := HB.out k; unfold big at this; unfold wrap64; omega
      have hsm : small (r.at k).natAbs := by have := HB.out k; unfold big at this; unfold small; omega
      have hg : Nat.gcd (gcdK r k) (r.at k).natAbs = gcdK r (k + 1) := rfl
      have HG := Lib.hid hg; clear hg
      by_cases h0 : r.at k < 0
      all_goals
        go_wp2
        go_loopw [6, 7] (fun a b wr => ∃ x y : Nat, a = .int .i64 x ∧ b = .int .i64 y ∧ small y ∧ Hid (Nat.gcd x y = gcdK r (k + 1)) ∧ Below w.heap.size w wr) (fun _ b _ => (intOf b).toNat)
        case atStart => exact ⟨gcdK r k, (r.at k).natAbs, rfl, by congr 1; omega, hsm, HG.out, hb⟩
        case round =>
          obtain ⟨x, y, rfl, rfl, hsy, HG2, hb2⟩ := hrel
          by_cases hy : y = 0
          · subst hy
            go_wp2
            go_roundw
            case rel => exact ⟨k + 1, by omega, by go_num, by rw [← HG2.out]; simp, hb2⟩
            case measure => simp [intOf]; omega
          · have hyb : ((y : Int) != 0) = true := by simp; omega
            go_wp2
            go_quiet (fail)
            go_wp2
            go_roundw
            case rel => exact ⟨y, x % y, rfl, congrArg (Value.int .i64) (Int.natCast_emod x y).symm, small_mod hsy hy, (gcd_step x y hy).trans HG2.out, below_drewN hb2 _⟩
            case measure => exact mod_lt2 x y hy
    · have hk8 : k = 8 := by omega
      subst hk8
      go_wp2
      go_returns
      exact ⟨rfl, hb⟩
end Go.Proofs.Ytfaccdidjhaahaa
