import Derived.Test.YtpadbfjocecofaaDoorL
namespace Go.Proofs.YtpadbfjocecofaaDoor
open Go.RowKit Go.BigFrame

theorem down_any (a : Int) (k : Nat) (ha : -2147483648 ≤ a ∧ a < 2147483648) (hk : k < 32) (w : World) : Calls Tryd.prog 33 #[.int .i64 a, .int .i64 (2 ^ k)] w fun e w' => e = .returned (.int .i64 (a / 2 ^ k)) ∧ Below w.heap.size w w' := by
  have hd := down_eq a k
  have hp : (0 : Int) < 2 ^ k := Int.pow_pos (by decide)
  have hp2 : (2 : Int) ^ k ≤ 2147483648 := by
    have h1 := Nat.pow_le_pow_right (show 0 < 2 by decide) (show k ≤ 31 by omega)
    have h2 : (2 : Int) ^ k ≤ 2 ^ 31 := by exact_mod_cast h1
    omega
  have hq0 : (a.tdiv (2 ^ k)).natAbs ≤ a.natAbs := Int.natAbs_tdiv_le_natAbs _ _
  generalize a / 2 ^ k = r at *
  generalize (2 : Int) ^ k = D at *
  have hD : (D == 0) = false := by simp; omega
  have hq : wrap64 (a.tdiv D) = a.tdiv D := w64 (by omega)
  have hm : wrap64 (a.tdiv D * D) = a.tdiv D * D := w64 (by
    have h1 := Int.natAbs_mul (a.tdiv D) D
    have h2 : (a.tdiv D).natAbs * D.natAbs ≤ 2147483648 * 2147483648 := Nat.mul_le_mul (by omega) (by omega)
    omega)
  have hs : wrap64 (a.tdiv D - 1) = a.tdiv D - 1 := w64 (by omega)
  by_cases h0 : a < 0
  · by_cases h1 : a.tdiv D * D = a
    · rw [if_neg (fun h => h.2 h1)] at hd
      subst hd
      have h2 : (a.tdiv D * D == a) = true := by simp [h1]
      have h3 : (a.tdiv D * D != a) = false := by simp [h1]
      have h4 : decide (a.tdiv D * D = a) = true := by simp [h1]
      go_enter Tryd.func33, Tryd.ntmps33
      go_wp2_with fail
      go_returns
      exact ⟨rfl, Below.refl _ _⟩
    · rw [if_pos ⟨h0, h1⟩] at hd
      have h2 : (a.tdiv D * D == a) = false := by simp [h1]
      have h3 : (a.tdiv D * D != a) = true := by simp [h1]
      have h4 : decide (a.tdiv D * D = a) = false := by simp [h1]
      go_enter Tryd.func33, Tryd.ntmps33
      go_wp2_with fail
      go_returns
      exact ⟨by rw [← hd]; rfl, Below.refl _ _⟩
  · rw [if_neg (fun h => h0 h.1)] at hd
    subst hd
    go_enter Tryd.func33, Tryd.ntmps33
    go_wp2_with fail
    go_returns
    exact ⟨rfl, Below.refl _ _⟩

theorem pl_b (a : Int) : pl a = ((b32 a).toNat : Int) := by
  unfold b32 pl
  rw [BitVec.toNat_ofInt]
  omega
theorem bit_val (a : Int) (j : Nat) : (pl a / 2 ^ j) % 2 = (((b32 a).toNat.testBit j).toNat : Int) := by
  rw [Nat.toNat_testBit, pl_b]
  simp
theorem sum_step (Z : Nat) (j : Nat) : Z % 2 ^ (j + 1) = Z % 2 ^ j + 2 ^ j * (Z.testBit j).toNat := by rw [Nat.mod_pow_succ, Nat.toNat_testBit]
theorem bit_b (a : Int) (j : Nat) (bx : Bool) (hb : (b32 a).toNat.testBit j = bx) (hj : j ≤ 32) (w : World) : Calls Tryd.prog 36 #[.int .i64 a, .int .i64 j] w fun e w' => e = .returned (.int .i64 (bx.toNat : Int)) ∧ Below w.heap.size w w' := by
  have h := bit_any a j hj w
  rw [bit_val, hb] at h
  exact h

set_option maxRecDepth 1000000 in
set_option maxHeartbeats 4000000 in
theorem bits0_any (a b : Int) (w : World) : Calls Tryd.prog 32 #[.int .i64 a, .int .i64 b, .int .i64 0] w fun e w' => e = .returned (.int .i64 ((b32 a &&& b32 b).toNat : Int)) ∧ Below w.heap.size w w' := by
  obtain ⟨Z, hZ⟩ : ∃ Z, Z = (b32 a &&& b32 b).toNat := ⟨_, rfl⟩
  have hlt : Z < 4294967296 := by rw [hZ]; exact (b32 a &&& b32 b).isLt
  have hbit : ∀ j, Z.testBit j = ((b32 a).toNat.testBit j && (b32 b).toNat.testBit j) := fun j => by rw [hZ, BitVec.toNat_and, Nat.testBit_and]
  rw [← hZ]
  clear hZ
  go_enter Tryd.func32, Tryd.ntmps32
  go_wp2_with fail
  go_loopw [7, 8] (fun n i w8 => ∃ j : Nat, j ≤ 32 ∧ i = .int .i64 j ∧ n = .int .i64 ((Z % 2 ^ j : Nat) : Int) ∧ Below w.heap.size w w8) (fun _ i _ => 32 - (intOf i).toNat)
  case atStart => exact ⟨0, by omega, rfl, by simp [Nat.mod_one], Below.refl _ _⟩
  case round =>
    obtain ⟨j, hj, rfl, rfl, hB⟩ := hrel
    by_cases hl : j < 32
    · have hb := hbit j
      have hs := sum_step Z j
      have hm : Z % 2 ^ (j + 1) ≤ Z := Nat.mod_le _ _
      rw [hb] at hs
      have cx := fun w => bit_b a j _ rfl (by omega) w
      have cy := fun w => bit_b b j _ rfl (by omega) w
      generalize (b32 a).toNat.testBit j = bx at *
      generalize (b32 b).toNat.testBit j = bb at *
      clear hbit hb
      have cp := fun w => power_any j (by omega) w
      have hpw : (2 : Int) ^ j = ((2 ^ j : Nat) : Int) := by simp
      generalize Z % 2 ^ j = N at *
      generalize hN' : Z % 2 ^ (j + 1) = N' at *
      have hP : 0 < 2 ^ j := Nat.pow_pos (by decide)
      rw [hpw] at cp
      generalize (2 : Nat) ^ j = P at *
      cases bx <;> cases bb
      all_goals
        simp at hs
        have HS := Lib.hid hs
        have hw : N' = N ∨ wrap64 ((N : Int) + (P : Int)) = (N' : Int) := by
          by_cases h : N' = N
          · exact .inl h
          · refine .inr ?_
            rw [w64 (by omega)]
            omega
        have HW := Lib.hid hw
        clear hs hw
        go_wp2_with (first
          | (go_at_call_of 36 a; refine (cx _).mono ?_; rintro e w1 ⟨rfl, hb1⟩)
          | (go_at_call_of 36 b; refine (cy _).mono ?_; rintro e w2 ⟨rfl, hb2⟩)
          | (go_at_call 31; refine (cp _).mono ?_; rintro e w' ⟨rfl, rfl⟩))
        exact ⟨⟨j + 1, by omega, by go_num, by rw [hN']; first | exact congrArg (Value.int .i64) (by have := HS.out; omega) | exact congrArg (Value.int .i64) (HW.out.resolve_left (by have := HS.out; omega)), (hB.trans (hb1.mono hB.size)).trans (hb2.mono (Nat.le_trans hB.size hb1.size))⟩, by simp [intOf]; omega⟩
    · have hj2 : j = 32 := by omega
      subst hj2
      have hmod : Z % 2 ^ 32 = Z := Nat.mod_eq_of_lt hlt
      rw [hmod]
      go_wp2_with fail
      go_returns
      exact ⟨rfl, hB⟩

set_option maxRecDepth 1000000 in
set_option maxHeartbeats 4000000 in
theorem bits1_any (a b : Int) (w : World) : Calls Tryd.prog 32 #[.int .i64 a, .int .i64 b, .int .i64 1] w fun e w' => e = .returned (.int .i64 ((b32 a ||| b32 b).toNat : Int)) ∧ Below w.heap.size w w' := by
  obtain ⟨Z, hZ⟩ : ∃ Z, Z = (b32 a ||| b32 b).toNat := ⟨_, rfl⟩
  have hlt : Z < 4294967296 := by rw [hZ]; exact (b32 a ||| b32 b).isLt
  have hbit : ∀ j, Z.testBit j = ((b32 a).toNat.testBit j || (b32 b).toNat.testBit j) := fun j => by rw [hZ, BitVec.toNat_or, Nat.testBit_or]
  rw [← hZ]
  clear hZ
  go_enter Tryd.func32, Tryd.ntmps32
  go_wp2_with fail
  go_loopw [7, 8] (fun n i w8 => ∃ j : Nat, j ≤ 32 ∧ i = .int .i64 j ∧ n = .int .i64 ((Z % 2 ^ j : Nat) : Int) ∧ Below w.heap.size w w8) (fun _ i _ => 32 - (intOf i).toNat)
  case atStart => exact ⟨0, by omega, rfl, by simp [Nat.mod_one], Below.refl _ _⟩
  case round =>
    obtain ⟨j, hj, rfl, rfl, hB⟩ := hrel
    by_cases hl : j < 32
    · have hb := hbit j
      have hs := sum_step Z j
      have hm : Z % 2 ^ (j + 1) ≤ Z := Nat.mod_le _ _
      rw [hb] at hs
      have cx := fun w => bit_b a j _ rfl (by omega) w
      have cy := fun w => bit_b b j _ rfl (by omega) w
      generalize (b32 a).toNat.testBit j = bx at *
      generalize (b32 b).toNat.testBit j = bb at *
      clear hbit hb
      have cp := fun w => power_any j (by omega) w
      have hpw : (2 : Int) ^ j = ((2 ^ j : Nat) : Int) := by simp
      generalize Z % 2 ^ j = N at *
      generalize hN' : Z % 2 ^ (j + 1) = N' at *
      have hP : 0 < 2 ^ j := Nat.pow_pos (by decide)
      rw [hpw] at cp
      generalize (2 : Nat) ^ j = P at *
      cases bx <;> cases bb
      all_goals
        simp at hs
        have HS := Lib.hid hs
        have hw : N' = N ∨ wrap64 ((N : Int) + (P : Int)) = (N' : Int) := by
          by_cases h : N' = N
          · exact .inl h
          · refine .inr ?_
            rw [w64 (by omega)]
            omega
        have HW := Lib.hid hw
        clear hs hw
        go_wp2_with (first
          | (go_at_call_of 36 a; refine (cx _).mono ?_; rintro e w1 ⟨rfl, hb1⟩)
          | (go_at_call_of 36 b; refine (cy _).mono ?_; rintro e w2 ⟨rfl, hb2⟩)
          | (go_at_call 31; refine (cp _).mono ?_; rintro e w' ⟨rfl, rfl⟩))
        exact ⟨⟨j + 1, by omega, by go_num, by rw [hN']; first | exact congrArg (Value.int .i64) (by have := HS.out; omega) | exact congrArg (Value.int .i64) (HW.out.resolve_left (by have := HS.out; omega)), (hB.trans (hb1.mono hB.size)).trans (hb2.mono (Nat.le_trans hB.size hb1.size))⟩, by simp [intOf]; omega⟩
    · have hj2 : j = 32 := by omega
      subst hj2
      have hmod : Z % 2 ^ 32 = Z := Nat.mod_eq_of_lt hlt
      rw [hmod]
      go_wp2_with fail
      go_returns
      exact ⟨rfl, hB⟩

set_option maxRecDepth 1000000 in
set_option maxHeartbeats 4000000 in
theorem bits2_any (a b : Int) (w : World) : Calls Tryd.prog 32 #[.int .i64 a, .int .i64 b, .int .i64 2] w fun e w' => e = .returned (.int .i64 ((b32 a ^^^ b32 b).toNat : Int)) ∧ Below w.heap.size w w' := by
  obtain ⟨Z, hZ⟩ : ∃ Z, Z = (b32 a ^^^ b32 b).toNat := ⟨_, rfl⟩
  have hlt : Z < 4294967296 := by rw [hZ]; exact (b32 a ^^^ b32 b).isLt
  have hbit : ∀ j, Z.testBit j = ((b32 a).toNat.testBit j ^^ (b32 b).toNat.testBit j) := fun j => by rw [hZ, BitVec.toNat_xor, Nat.testBit_xor]
  rw [← hZ]
  clear hZ
  go_enter Tryd.func32, Tryd.ntmps32
  go_wp2_with fail
  go_loopw [7, 8] (fun n i w8 => ∃ j : Nat, j ≤ 32 ∧ i = .int .i64 j ∧ n = .int .i64 ((Z % 2 ^ j : Nat) : Int) ∧ Below w.heap.size w w8) (fun _ i _ => 32 - (intOf i).toNat)
  case atStart => exact ⟨0, by omega, rfl, by simp [Nat.mod_one], Below.refl _ _⟩
  case round =>
    obtain ⟨j, hj, rfl, rfl, hB⟩ := hrel
    by_cases hl : j < 32
    · have hb := hbit j
      have hs := sum_step Z j
      have hm : Z % 2 ^ (j + 1) ≤ Z := Nat.mod_le _ _
      rw [hb] at hs
      have cx := fun w => bit_b a j _ rfl (by omega) w
      have cy := fun w => bit_b b j _ rfl (by omega) w
      generalize (b32 a).toNat.testBit j = bx at *
      generalize (b32 b).toNat.testBit j = bb at *
      clear hbit hb
      have cp := fun w => power_any j (by omega) w
      have hpw : (2 : Int) ^ j = ((2 ^ j : Nat) : Int) := by simp
      generalize Z % 2 ^ j = N at *
      generalize hN' : Z % 2 ^ (j + 1) = N' at *
      have hP : 0 < 2 ^ j := Nat.pow_pos (by decide)
      rw [hpw] at cp
      generalize (2 : Nat) ^ j = P at *
      cases bx <;> cases bb
      all_goals
        simp at hs
        have HS := Lib.hid hs
        have hw : N' = N ∨ wrap64 ((N : Int) + (P : Int)) = (N' : Int) := by
          by_cases h : N' = N
          · exact .inl h
          · refine .inr ?_
            rw [w64 (by omega)]
            omega
        have HW := Lib.hid hw
        clear hs hw
        go_wp2_with (first
          | (go_at_call_of 36 a; refine (cx _).mono ?_; rintro e w1 ⟨rfl, hb1⟩)
          | (go_at_call_of 36 b; refine (cy _).mono ?_; rintro e w2 ⟨rfl, hb2⟩)
          | (go_at_call 31; refine (cp _).mono ?_; rintro e w' ⟨rfl, rfl⟩))
        exact ⟨⟨j + 1, by omega, by go_num, by rw [hN']; first | exact congrArg (Value.int .i64) (by have := HS.out; omega) | exact congrArg (Value.int .i64) (HW.out.resolve_left (by have := HS.out; omega)), (hB.trans (hb1.mono hB.size)).trans (hb2.mono (Nat.le_trans hB.size hb1.size))⟩, by simp [intOf]; omega⟩
    · have hj2 : j = 32 := by omega
      subst hj2
      have hmod : Z % 2 ^ 32 = Z := Nat.mod_eq_of_lt hlt
      rw [hmod]
      go_wp2_with fail
      go_returns
      exact ⟨rfl, hB⟩
end Go.Proofs.YtpadbfjocecofaaDoor
