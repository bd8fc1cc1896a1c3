import Derived.Test.YtdoeinccnfggiaaDoorPt
namespace Go.Proofs.YtdoeinccnfggiaaDoor
open Go.RowKit Go.BigFrame

theorem ext_tail (x y : ByteArray) : (x ++ y).extract x.size (x ++ y).size = y := by
  apply ByteArray.ext
  simp [ByteArray.size_append]
  rw [show x.size = x.data.size from rfl, show y.size = y.data.size from rfl, Array.extract_empty_of_size_le_start (Nat.le_refl _), Array.extract_size]
  simp
theorem star_at (x : ByteArray) (k j : Nat) (hj : j < k) : (x ++ stars k)[x.size + j]'(by rw [ByteArray.size_append, stars_size]; omega) = 42 := by
  rw [ByteArray.getElem_append_right (by omega)]
  simp [stars, ByteArray.getElem_eq_getElem_data]
set_option maxRecDepth 1000000 in
set_option maxHeartbeats 4000000 in
theorem pointers_any (n base : Nat) (hn : n ≤ 255) (hbase : base ≤ 255) (w : World) (hT : Tab w) : Calls Tryd.prog 5 #[.int .u8 n, .int .u8 base] w fun e w' => e = .returned (.bool true) ∧ Below w.heap.size w w' := by
  obtain ⟨k, hk⟩ : ∃ k : Nat, k = n % 30 := ⟨_, rfl⟩
  obtain ⟨b, hb⟩ : ∃ b : Nat, b = base % 4 := ⟨_, rfl⟩
  have hk1 : k < 30 := by omega
  have hb1 : b ≤ 3 := by omega
  have qa : (n : Int) % 30 = (k : Int) := by omega
  have qb : (base : Int) % 4 = (b : Int) := by omega
  clear hk hb
  have htx := pt_text b k hb1 k (Nat.le_refl _)
  have htb := pt_text b k hb1 0 (by omega)
  have hdx := pt_deep b k hb1 (by omega) k (Nat.le_refl _)
  have hdb := pt_deep b k hb1 (by omega) 0 (by omega)
  have hs0 : baseTx (b : Int) ++ stars 0 = baseTx b := by
    apply ByteArray.ext
    simp [stars]
  rw [hs0] at htb
  clear hs0
  have hx0 : ((ptx b 0 : Nat) : Int) = (b : Int) := rfl
  rw [hx0] at htb hdb
  have hBs := base_size (b : Int)
  have hxt := ext_tail (baseTx (b : Int)) (stars k)
  have hst := star_at (baseTx (b : Int)) k
  have hss : (baseTx (b : Int) ++ stars k).size = (baseTx (b : Int)).size + k := by rw [ByteArray.size_append, stars_size]
  have hss2 := stars_size k
  obtain ⟨x, hx⟩ : ∃ x, x = baseTx (b : Int) := ⟨_, rfl⟩
  rw [← hx] at htb htx hBs hxt hst hss
  clear hx
  obtain ⟨s, hs⟩ : ∃ s, s = x ++ stars k := ⟨_, rfl⟩
  have hst' : ∀ j, j < k → ∀ (h : x.size + j < s.size), s[x.size + j]'h = 42 := fun j hj h => by subst hs; exact hst j hj
  rw [← hs] at htx hxt hss
  have hadd : ∀ w, (Op.stringOp .add x (stars k)).run Tryd.prog w = .ok (.string s) w := fun w => by rw [hs]; exact run_string_add_sum w _ _ (by omega)
  have HS := Lib.hid hs
  clear hs hst
  generalize stars k = st at *
  obtain ⟨B, hBx⟩ : ∃ B, x.size = B := ⟨_, rfl⟩
  rw [hBx] at hBs hxt hss hst'
  have HTX := Lib.hid htx
  have HTB := Lib.hid htb
  clear htx htb
  go_enter Tryd.func5, Tryd.ntmps5
  go_wp2_with (first
    | (go_at_call 10; refine (new_any _).mono ?_; rintro e w1 ⟨rfl, hf1⟩))
  have hT0 : ptT b 0 = tys 4 := by simp [ptT]
  have hw1 : Below w.heap.size w w := Below.refl _ _
  go_loopw [8, 22] (fun x i w8 => ∃ j : Nat, j ≤ k ∧ i = .int .i64 j ∧ x = .int .i64 (ptx b j : Nat) ∧ Fresh w w8 (w.heap.size + 1) (ptT b j) noF) (fun _ i _ => k - (intOf i).toNat)
  case atStart => exact ⟨0, by omega, rfl, rfl, by rw [hT0]; exact hf1⟩
  case round =>
    obtain ⟨j, hj, rfl, rfl, hf⟩ := hrel
    by_cases hlt : j < k
    · obtain ⟨F, t, bb, ff, _⟩ := hf.open_
      have hp := pointer_any t (ptx b j : Nat)
      rw [pt_step b j hb1 (by omega)] at hp
      have hl := ptT_len b (j + 1)
      have hxx : ptx b (j + 1) = 4 + j := by simp only [ptx]; rw [if_neg (by omega)]; omega
      obtain ⟨Y, hY⟩ : ∃ Y : Int, Y = 4 + (j : Int) := ⟨_, rfl⟩
      rw [← hY] at hp
      have hY2 : (((4 + (j + 1) : Nat)) : Int) = Y + 1 := by omega
      have hY3 : wrap64 (Y + 1 - 1) = Y := by unfold wrap64; omega
      have hY4 : ((ptx b (j + 1) : Nat) : Int) = Y := by omega
      have HY4 := Lib.hid hY4
      generalize ptx b j = xj at *
      clear hf1 hT0 hx0 hw1 hY hY4 hxx
      go_wp2_with (first
        | (go_at_call 21; refine hp.mono ?_; rintro e w2 ⟨rfl, ht⟩; obtain hf2 := Fresh.turn bb ff ht; obtain ⟨F2, t2, b2, f2, _⟩ := hf2.open_)
        | (go_at_call 18; have hl2 := len_any t2; rw [hl, hY2] at hl2; refine hl2.mono ?_; rintro e w' ⟨rfl, rfl⟩))
      exact ⟨⟨j + 1, by omega, by simp, by rw [HY4.out], hf2⟩, by simp [intOf]; omega⟩
    · have hjk : j = k := by omega
      subst hjk
      obtain ⟨F, t, bb, ff, _⟩ := hf.open_
      have hTr := hT.below bb
      have hc := text_any (j + 1) (ptx b j) _ t hTr hdx
      rw [HTX.out] at hc
      generalize ptx b j = xj at *
      go_wp2_with (first
        | (go_at_call 22; refine hc.mono ?_; rintro e w2 ⟨rfl, hb2⟩))
      have t2 := t.below hb2
      have hT2 := hTr.below hb2
      have c2 : ∀ s' : Later w2, Calls Tryd.prog 22 #[.pointer (some ⟨w.heap.size + 1, 0, none⟩), .int .i64 b] s'.w fun e w' => e = .returned (.string x) ∧ Below s'.w.heap.size s'.w w' := fun s' => by
        have := text_any (0 + 1) b s'.w (t2.below s'.h) (hT2.below s'.h) hdb
        rw [HTB.out] at this
        exact this
      obtain ⟨Sz, hSz⟩ : ∃ Sz, s.size = Sz := ⟨_, rfl⟩
      have q1 : decide (Sz < j) = false := by simp; omega
      have qw : wrap64 ((Sz : Int) - (j : Int)) = (B : Int) := by unfold wrap64; omega
      have qB : (B : Int) ≤ (Sz : Int) := by omega
      rw [hss] at hSz
      have HSZ := Lib.hid hSz
      rw [hSz] at hss
      have HSS := Lib.hid hss
      rw [← hss] at hSz
      clear hSz
      have hxt' : s.extract B Sz = st := by rw [← hss]; exact hxt
      have hsl : ∀ w, (Instr.slice 9 (.string s) (some (.int .i64 (B : Int))) none none).run Tryd.prog w = .ok (.string st) w := fun w => by
        rw [run_slice_string_from_if w 9 s .i64 (B : Int) (by kernel_rfl), if_pos (by rw [hss]; omega)]
        rw [show ((B : Int)).toNat = B from rfl, hxt]
      have hix : ∀ (d i : Nat), i < j → d = B + (j - 1 - i) → ∀ w, (Instr.index 9 (.string s) (.int .i64 (d : Int))).run Tryd.prog w = .ok (.int .u8 42) w := fun d i hi hd w => by
        have h1 : 0 ≤ (d : Int) ∧ (d : Int) < s.size := by rw [hss]; have := HSZ.out; omega
        rw [run_index_string w 9 s .i64 (d : Int) (by kernel_rfl), dif_pos h1]
        have h2 := hst' (j - 1 - i) (by omega) (by rw [hss]; have := HSZ.out; omega)
        subst hd
        simp only [Int.toNat_natCast]
        rw [h2]
        rfl
      clear hc
      refine wp_region_later (by kernel_rfl) (by kernel_rfl) ?_
      repeat (go_big_quiet_step ((go_at_call 22; exact Calls.later (c2 _))))
      refine wpQuiet_nil ?_
      rintro w3 ⟨s', rfl⟩
      have hb3 := s'.h
      generalize s'.w = w3 at *
      have hl := ptT_len b j
      have t3 := t2.below hb3
      have hB3 : Below w.heap.size w w3 := bb.trans (Below.mono (hb2.trans (hb3.mono hb2.size)) bb.size)
      have hLT2 : ((4 + j : Nat) : Int) = 4 + (j : Int) := by omega
      have hlen := len_any t3
      rw [hl, hLT2] at hlen
      clear hT0 hLT2 hl c2 hsl hxt' hadd qw q1 hf1 hw1 hx0
      go_wp2
      go_loopw [63] (fun i w8 => ∃ i2 : Nat, i2 ≤ j ∧ i = .int .i64 i2 ∧ w8 = w3) (fun i _ => j - (intOf i).toNat)
      case atStart => exact ⟨0, by omega, rfl, rfl⟩
      case round =>
        obtain ⟨i2, hi2, rfl, hw8⟩ := hrel
        have hw9 := hw8.symm
        subst hw9
        by_cases hlt2 : i2 < j
        · obtain ⟨E, hE⟩ : ∃ E : Nat, E = Sz - 1 := ⟨_, rfl⟩
          obtain ⟨d, hd⟩ : ∃ d : Nat, d = B + (j - 1 - i2) := ⟨_, rfl⟩
          have hS2 := HSZ.out
          have qE : wrap64 ((Sz : Int) - 1) = (E : Int) := by unfold wrap64; omega
          have qd : wrap64 ((E : Int) - (i2 : Int)) = (d : Int) := by unfold wrap64; omega
          have hx := hix d i2 hlt2 hd
          clear hS2 hE hd hix
          go_wp2
          exact ⟨⟨i2 + 1, by omega, by simp, trivial⟩, by simp [intOf]; omega⟩
        · have hij : i2 = j := by omega
          subst hij
          clear hix
          go_wp2_with (first
            | (go_at_call 18; refine hlen.mono ?_; rintro e w' ⟨rfl, rfl⟩)
            | (go_at_call 9; refine (awake_any _ (hT.below hB3)).mono ?_; rintro e w5 ⟨rfl, hb5⟩))
          go_returns
          exact ⟨rfl, hB3.trans (hb5.mono hB3.size)⟩
end Go.Proofs.YtdoeinccnfggiaaDoor
