import Derived.Test.YtdoeinccnfggiaaDoorSz
namespace Go.Proofs.YtdoeinccnfggiaaDoor
open Go.RowKit Go.BigFrame

set_option maxRecDepth 1000000 in
set_option maxHeartbeats 4000000 in
theorem sizes_any (a b c : Nat) (ha : a ≤ 255) (hb : b ≤ 255) (hc : c ≤ 255) (w : World) (hT : Tab w) : Calls Tryd.prog 8 #[.int .u8 a, .int .u8 b, .int .u8 c] w fun e w' => e = .returned (.bool true) ∧ Below w.heap.size w w' := by
  obtain ⟨m, hm⟩ : ∃ m : Nat, m = 1 + a % 60 := ⟨_, rfl⟩
  obtain ⟨n, hn⟩ : ∃ n : Nat, n = 1 + b % 60 := ⟨_, rfl⟩
  obtain ⟨k, hk⟩ : ∃ k : Nat, k = 1 + c % 3 := ⟨_, rfl⟩
  have hm1 : 1 ≤ m ∧ m ≤ 60 := by omega
  have hn1 : 1 ≤ n ∧ n ≤ 60 := by omega
  have hk1 : k = 1 ∨ k = 2 ∨ k = 3 := by omega
  have qa : (1 : Int) + (a : Int) % 60 = (m : Int) := by omega
  have qb : (1 : Int) + (b : Int) % 60 = (n : Int) := by omega
  have qc : (1 : Int) + (c : Int) % 3 = (k : Int) := by omega
  have qa0 : 0 ≤ (a : Int) % 60 := by omega
  have qa1 : (a : Int) % 60 < 60 := by omega
  have qb0 : 0 ≤ (b : Int) % 60 := by omega
  have qb1 : (b : Int) % 60 < 60 := by omega
  have qc0 : 0 ≤ (c : Int) % 3 := by omega
  have qc1 : (c : Int) % 3 < 3 := by omega
  clear hm hn hk
  have a1 := sz_arr1 k m hk1 hm1
  have a2 := sz_arr2 k m n hk1 hm1 hn1
  have p1 := sz_ptr1 k m n
  have p2 := sz_ptr2 k m n
  obtain ⟨_, d1, _⟩ := sz_low k [] noF 2 hk1
  obtain ⟨_, d2, _⟩ := sz_four k m hk1 hm1 [] noF 1
  obtain ⟨s5, d5⟩ := sz_five k m n hk1 hm1 hn1 [⟨4, 5, 0, ⟨#[]⟩⟩] noF 1
  obtain ⟨s6, d6⟩ := sz_six k m n noF 1
  simp only [List.append_nil] at d1 d2
  rw [show szT6 k m n ++ [⟨4, 5, 0, ⟨#[]⟩⟩] = szT7 k m n from rfl] at s5 d5
  have c6 := sz_sc6 k m n
  have c4 := sz_sc4 k m n
  have cl := sz_len k m n
  have hmul1 : 0 ≤ (m : Int) * n := Int.mul_nonneg (by omega) (by omega)
  have hmul2 : (m : Int) * n ≤ 60 * 60 := Int.mul_le_mul (by omega) (by omega) (by omega) (by omega)
  have hwr : wrap64 ((m : Int) * n) = (m : Int) * n := by unfold wrap64; omega
  generalize szT5 k m = T5 at *
  generalize szT6 k m n = T6 at *
  generalize szT7 k m n = T7 at *
  have A1 := Lib.hid a1
  have A2 := Lib.hid a2
  have P1 := Lib.hid p1
  have P2 := Lib.hid p2
  have S5 := Lib.hid s5
  have S6 := Lib.hid s6
  have C4 := Lib.hid c4
  have C6 := Lib.hid c6
  have CL := Lib.hid cl
  clear a1 a2 p1 p2 s5 s6 c4 c6 cl
  go_enter Tryd.func8, Tryd.ntmps8
  go_wp2_with (first
    | (go_at_call 10; refine (new_any _).mono ?_; rintro e w1 ⟨rfl, hf1⟩; obtain ⟨F1, t1, b1, f1, _⟩ := hf1.open_)
    | (go_at_call 11; have ha := array_any t2 3 4 n d2; rw [A2.out] at ha; refine ha.mono ?_; rintro e w3 ⟨rfl, ht3⟩; obtain ⟨F3, t3, b3, f3, _⟩ := (Fresh.turn b2 f2 ht3).open_)
    | (go_at_call 11; have ha := array_any t1 3 k m d1; rw [A1.out] at ha; refine ha.mono ?_; rintro e w2 ⟨rfl, ht2⟩; obtain ⟨F2, t2, b2, f2, _⟩ := (Fresh.turn b1 f1 ht2).open_)
    | (go_at_call 21; have ha := pointer_any t4 5; rw [P2.out] at ha; refine ha.mono ?_; rintro e w5 ⟨rfl, ht5⟩; obtain ⟨F5, t5, b5, f5, _⟩ := (Fresh.turn b4 f4 ht5).open_)
    | (go_at_call 21; have ha := pointer_any t3 5; rw [P1.out] at ha; refine ha.mono ?_; rintro e w4 ⟨rfl, ht4⟩; obtain ⟨F4, t4, b4, f4, _⟩ := (Fresh.turn b3 f3 ht4).open_)
    | (go_at_call_of 14 (5 : Int); have ha := size_any 4 5 w5 t5 d5; rw [S5.out] at ha; refine ha.mono ?_; rintro e w6 ⟨rfl, hb6⟩; have t6 := t5.below hb6)
    | (go_at_call_of 14 (6 : Int); have ha := size_any 2 6 w6 t6 d6; rw [S6.out] at ha; refine ha.mono ?_; rintro e w7 ⟨rfl, hb7⟩; have t7 := t6.below hb7)
    | (go_at_call_of 24 (6 : Int); have ha := scalar_any t7 6; rw [C6.out] at ha; refine ha.mono ?_; rintro e w8 ⟨rfl, hb8⟩; have t8 := t7.below hb8)
    | (go_at_call_of 24 (4 : Int); have ha := scalar_any t8 4; rw [C4.out] at ha; refine ha.mono ?_; rintro e w9 ⟨rfl, hb9⟩; have t9 := t8.below hb9; have hB9 : Below w.heap.size w w9 := b5.trans (Below.mono (hb6.trans (Below.mono (hb7.trans (Below.mono (hb8.trans (hb9.mono hb8.size)) hb7.size)) hb6.size)) b5.size))
    | (go_at_call 18; have ha := len_any t9; rw [CL.out] at ha; refine ha.mono ?_; rintro e w' ⟨rfl, rfl⟩)
    | (go_at_call 9; refine (awake_any _ (hT.below hB9)).mono ?_; rintro e w10 ⟨rfl, hb10⟩))
  go_returns
  exact ⟨rfl, hB9.trans (hb10.mono hB9.size)⟩
end Go.Proofs.YtdoeinccnfggiaaDoor
