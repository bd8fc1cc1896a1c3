import Derived.Test.YtpadbfjocecofaaDoorD
namespace Go.Proofs.YtpadbfjocecofaaDoor
open Go.RowKit Go.BigFrame

theorem and_mask (n : Int) (j : Nat) (hj : j ≤ 32) : bits .and .i64 n ((2 ^ j - 1 : Nat) : Int) = n % 2 ^ j := by
  show IntKind.i64.wrap ((BitVec.ofInt 64 n &&& BitVec.ofInt 64 ((2 ^ j - 1 : Nat) : Int)).toNat : Int) = _
  have hp : 2 ^ j ≤ 2 ^ 32 := Nat.pow_le_pow_right (by decide) hj
  have hp0 : 0 < 2 ^ j := Nat.pow_pos (by decide)
  have h1 : (BitVec.ofInt 64 ((2 ^ j - 1 : Nat) : Int)).toNat = 2 ^ j - 1 := by
    rw [BitVec.toNat_ofInt]
    omega
  rw [BitVec.toNat_and, h1, Nat.and_two_pow_sub_one_eq_mod, k64, BitVec.toNat_ofInt]
  have h2 : ((n % (2 ^ 64 : Nat)).toNat % 2 ^ j : Nat) = n % 2 ^ j := by
    have h3 : 0 ≤ n % ((2 ^ 64 : Nat) : Int) := Int.emod_nonneg _ (by decide)
    rw [Int.natCast_emod, Int.toNat_of_nonneg h3]
    have hd : ((2 : Int) ^ j) ∣ ((2 ^ 64 : Nat) : Int) := by
      have : (2 ^ j : Nat) ∣ 2 ^ 64 := Nat.pow_dvd_pow 2 (by omega)
      exact_mod_cast Int.natCast_dvd_natCast.2 this
    have := Int.emod_emod_of_dvd n hd
    simpa using this
  have h4 : n % 2 ^ j < 2 ^ 32 := by
    have h5 := Int.emod_lt_of_pos n (show (0 : Int) < 2 ^ j by exact_mod_cast hp0)
    have h6 : (2 : Int) ^ j ≤ 2 ^ 32 := by exact_mod_cast hp
    omega
  have h7 : 0 ≤ n % 2 ^ j := Int.emod_nonneg _ (by have : (0 : Int) < 2 ^ j := by exact_mod_cast hp0
                                                   omega)
  rw [h2]
  exact w64 (by omega)
theorem and255 (n : Int) : bits .and .i64 n 255 = n % 256 := by
  have h := and_mask n 8 (by decide)
  simpa using h
theorem xor_m1 (n : Int) (h : -2147483648 ≤ n ∧ n < 2147483648) : bits .xor .i64 (-1) n = -1 - n := by
  show IntKind.i64.wrap ((BitVec.ofInt 64 (-1) ^^^ BitVec.ofInt 64 n).toNat : Int) = _
  have h1 : BitVec.ofInt 64 (-1) = BitVec.allOnes 64 := by decide
  rw [h1, BitVec.allOnes_xor, BitVec.toNat_not, BitVec.toNat_ofInt, k64]
  unfold wrap64
  omega

theorem tw {op a b v u : Int} {t : Bool} (hd : ∀ w, Calls Tryd.prog 11 #[.int .i64 op, .int .i64 a, .int .i64 b] w fun e w' => e = .returned (.tuple #[.int .i64 v, .bool t]) ∧ w = w') (hu : v = u) (w : World) :
    Calls Tryd.prog 16 #[.int .i64 op, .int .i64 a, .int .i64 b] w fun e w' => e = .returned (.int .i64 u) ∧ w = w' := by
  subst hu
  go_enter Tryd.func16, Tryd.ntmps16
  go_wp2_with (go_at_call 11; refine (hd _).mono ?_; rintro e w' ⟨rfl, rfl⟩)
  go_returns
  exact ⟨rfl, rfl⟩
theorem twb {op a b v u : Int} {t : Bool} (hd : ∀ w, Calls Tryd.prog 11 #[.int .i64 op, .int .i64 a, .int .i64 b] w fun e w' => e = .returned (.tuple #[.int .i64 v, .bool t]) ∧ Below w.heap.size w w') (hu : v = u) (w : World) :
    Calls Tryd.prog 16 #[.int .i64 op, .int .i64 a, .int .i64 b] w fun e w' => e = .returned (.int .i64 u) ∧ Below w.heap.size w w' := by
  subst hu
  go_enter Tryd.func16, Tryd.ntmps16
  go_wp2_with (go_at_call 11; refine (hd _).mono ?_; rintro e w' ⟨rfl, hb⟩)
  go_returns
  exact ⟨rfl, hb⟩

set_option maxRecDepth 1000000 in
set_option maxHeartbeats 2000000 in
theorem twice_any (a : Int) (w : World) (h : Tab w) : Calls Tryd.prog 7 #[.int .i64 a] w fun e w' => e = .returned (.bool true) ∧ Below w.heap.size w w' := by
  have hb := wr_bd a
  have e1 : wr (wr a * 2 ^ (wr 1 % 32).toNat) = wr (wr a + wr a) := by
    rw [show (wr 1 % 32).toNat = 1 by decide]; congr 1; omega
  have e3 : wr (wr (wr (bits .xor .i64 (-1) (wr a))) + wr 1) = wr (-wr a) := by
    rw [xor_m1 _ hb, show wr 1 = 1 by decide]; unfold wr; omega
  have e4 : wr (md (pl (wr a)) (pl (wr 256))) = wr (bits .and .i64 (wr a) 255) := by
    rw [show pl (wr 256) = 256 by decide, and255]
    have : md (pl (wr a)) 256 = pl (wr a) % 256 := by
      unfold md
      rw [if_neg (by decide)]
      exact Int.tmod_eq_emod_of_nonneg (pl_bd _).1
    rw [this]
    congr 1
    unfold pl; omega
  have e5 : wr (tv (wr a == wr 0)) = wr (tv (wr a == 0)) := by rw [show wr 0 = 0 by decide]
  have e6 : wr (wr a * wr 65536) = wr (wr a * 2 ^ (wr 16 % 32).toNat) := by
    rw [show (wr 16 % 32).toNat = 16 by decide, show wr 65536 = 2 ^ 16 by decide]
  have c1 := tw (do_11 a 1) e1
  have c2 := tw (do_1 a a) rfl
  have c3 := tw (do_20 a 0) rfl
  have c4 := tw (do_21 a 0) rfl
  have c5 := tw (do_1 (wr (bits .xor .i64 (-1) (wr a))) 1) e3
  have c6 := tw (do_22 a 0) rfl
  have c7 := twb (do_7 a 256) e4
  have c8 := tw (do_23 a 0) rfl
  have c9 := tw (do_14 a 0) e5
  have c10 := tw (do_3 a 65536) e6
  have c11 := tw (do_11 a 16) rfl
  clear e1 e3 e4 e5 e6
  generalize wr (wr a + wr a) = v1 at *
  generalize wr (-wr a) = v2 at *
  generalize wr (bits .xor .i64 (-1) (wr a)) = vn at *
  generalize wr (bits .and .i64 (wr a) 255) = v3 at *
  generalize wr (tv (wr a == 0)) = v4 at *
  generalize wr (wr a * 2 ^ (wr 16 % 32).toNat) = v5 at *
  go_enter Tryd.func7, Tryd.ntmps7
  go_wp2_with (first
    | (go_at_call_of 16 (#[Value.int IntKind.i64 11, Value.int IntKind.i64 a, Value.int IntKind.i64 1]); refine (c1 _).mono ?_; rintro e w' ⟨rfl, rfl⟩)
    | (go_at_call_of 16 (#[Value.int IntKind.i64 1, Value.int IntKind.i64 a, Value.int IntKind.i64 a]); refine (c2 _).mono ?_; rintro e w' ⟨rfl, rfl⟩)
    | (go_at_call_of 16 (20 : Int); refine (c3 _).mono ?_; rintro e w' ⟨rfl, rfl⟩)
    | (go_at_call_of 16 (21 : Int); refine (c4 _).mono ?_; rintro e w' ⟨rfl, rfl⟩)
    | (go_at_call_of 16 vn; refine (c5 _).mono ?_; rintro e w' ⟨rfl, rfl⟩)
    | (go_at_call_of 16 (22 : Int); refine (c6 _).mono ?_; rintro e w' ⟨rfl, rfl⟩)
    | (go_at_call_of 16 (7 : Int); refine (c7 _).mono ?_; rintro e w1 ⟨rfl, hb1⟩; have h1 := h.below hb1)
    | (go_at_call_of 16 (23 : Int); refine (c8 _).mono ?_; rintro e w' ⟨rfl, rfl⟩)
    | (go_at_call_of 16 (14 : Int); refine (c9 _).mono ?_; rintro e w' ⟨rfl, rfl⟩)
    | (go_at_call_of 16 (3 : Int); refine (c10 _).mono ?_; rintro e w' ⟨rfl, rfl⟩)
    | (go_at_call_of 16 (16 : Int); refine (c11 _).mono ?_; rintro e w' ⟨rfl, rfl⟩)
    | (go_at_call 13; refine (awake_any _ h1).mono ?_; rintro e w3 ⟨rfl, hb3⟩))
  go_returns
  exact ⟨rfl, hb1.trans (hb3.mono hb1.size)⟩
end Go.Proofs.YtpadbfjocecofaaDoor
