import Derived.Test.YtgdbkoncaojmoaaEb
/- GraphHeads. -/
namespace Go.Proofs.Ytgdbkoncaojmoaa
open Go.RowKit Go.BigFrame

noncomputable def hd1 : Code := ((((Try.f7.body).map loopsOf).getD [])[0]?).getD .skip
noncomputable def hd2 : Code := ((loopsOf (inLoop hd1))[0]?).getD .skip
set_option maxRecDepth 1000000 in
set_option maxHeartbeats 16000000 in
theorem hd2_any (f : Fn7) (hok : OkF f) (C : Option Addr) (cap N : Nat) (hN : f.code.length = N) (hN2 : N ≤ 8192) (w : World) (bx h : Nat) (hC : RdI w C f.code) (hX : w.heap[bx]? = some (.cells #[.string f.nm, .int .i64 f.ps, .int .i64 f.R, .int .i64 f.Fr, .slice C N cap] 24))
    (hD : ∀ a b W, RdI W C f.code → Calls Try.prog 20 #[.agg #[.string f.nm, .int .i64 f.ps, .int .i64 f.R, .int .i64 f.Fr, .slice C N cap], .int .i64 a, .int .i64 b] W fun e w' => e = .returned (.bool (dmB f a b)) ∧ Below W.heap.size W w')
    (L : List Nat) (A : Option Addr) (cp Ln : Nat) (hLn : L.length = Ln) (hLn2 : Ln ≤ 9000) (hR : RdN w A (asI L)) (hL : ∀ n ∈ L, n < N ∧ Dom (Eg f.code) h n)
    (x0 x2 x3 x6 x7 x8 x9 x10 x11 x12 x13 x14 x15 x16 x17 x18 x19 x20 x24 x25 x26 x27 x28 x29 x30 x31 x32 x33 x34 x35 x36 x37 x38 x39 x40 x41 x42 x43 x44 x45 x46 x47 x48 : Value) (Q : Exit → Act → World → Prop)
    (hexit : ∀ (y2 y7 y24 y25 y26 y27 y28 y29 y30 y31 y32 y33 y34 y35 y36 y37 y38 y39 y40 y41 y42 y43 y44 : Value) (w' : World) (bk : Bool), Below w.heap.size w w' → (bk = true ↔ ∃ n ∈ L, Eg f.code n h) → Q (.exit 2) ⟨(x0 :: .pointer (some ⟨bx, 0, none⟩) :: y2 :: x3 :: .int .i64 (h : Int) :: .bool bk :: x6 :: y7 :: x8 :: x9 :: x10 :: x11 :: x12 :: x13 :: x14 :: x15 :: x16 :: x17 :: x18 :: x19 :: x20 :: .slice A Ln cp :: .int .i64 (Ln : Int) :: .int .i64 (Ln : Int) :: y24 :: y25 :: y26 :: y27 :: y28 :: y29 :: y30 :: y31 :: y32 :: y33 :: y34 :: y35 :: y36 :: y37 :: y38 :: y39 :: y40 :: y41 :: y42 :: y43 :: y44 :: x45 :: x46 :: x47 :: x48 :: []).toArray, []⟩ w') :
    Code.wp Try.prog hd2 Q ⟨(x0 :: .pointer (some ⟨bx, 0, none⟩) :: x2 :: x3 :: .int .i64 (h : Int) :: .bool false :: x6 :: x7 :: x8 :: x9 :: x10 :: x11 :: x12 :: x13 :: x14 :: x15 :: x16 :: x17 :: x18 :: x19 :: x20 :: .slice A Ln cp :: .int .i64 (Ln : Int) :: .int .i64 0 :: x24 :: x25 :: x26 :: x27 :: x28 :: x29 :: x30 :: x31 :: x32 :: x33 :: x34 :: x35 :: x36 :: x37 :: x38 :: x39 :: x40 :: x41 :: x42 :: x43 :: x44 :: x45 :: x46 :: x47 :: x48 :: []).toArray, []⟩ w := by
  conv => arg 2; whnf
  have HE := Lib.hid hexit
  have HLN := Lib.hid hLn
  have HOK := Lib.hid hok
  have HC := Lib.hid hC
  have HX := Lib.hid hX
  have HD := Lib.hid hD
  have HR := Lib.hid hR
  have HL := Lib.hid hL
  have HN := Lib.hid hN
  have hlx := (Array.getElem?_eq_some_iff.1 hX).1
  clear hexit hLn hok hC hX hD hR hL hN
  go_loopw [5, 23] (fun V ix wr => ∃ (k : Nat) (bk : Bool), k ≤ Ln ∧ ix = .int .i64 k ∧ V = .bool bk ∧ Below w.heap.size w wr ∧ (bk = true ↔ ∃ n ∈ L.take k, Eg f.code n h)) (fun _ ix _ => Ln - (intOf ix).toNat)
  case atStart => exact ⟨0, false, by omega, rfl, rfl, Below.refl _ _, by simp⟩
  case round =>
    obtain ⟨k, bk, hk, rfl, rfl, hb, hbk⟩ := hrel
    by_cases hlt : k < Ln
    · obtain ⟨n, hn⟩ : ∃ n, L[k]? = some n := ⟨_, List.getElem?_eq_getElem (by rw [HLN.out]; exact hlt)⟩
      obtain ⟨hnN, hnd⟩ := HL.out n (List.mem_of_getElem? hn)
      obtain ⟨b, o, rfl, hbl, hc⟩ := (HR.out.below hb) k n (by unfold asI; rw [List.getElem?_map, hn]; rfl)
      obtain ⟨i, hi⟩ : ∃ i, f.code[n]? = some i := ⟨_, List.getElem?_eq_getElem (by rw [HN.out]; exact hnN)⟩
      have heg := Eg_iff HOK.out (q := h) hi
      have kx := (hb.block _ hlx).trans HX.out
      have d0 := cell_of_heap kx 0 _ rfl
      have d1 := cell_of_heap kx 1 _ rfl
      have d2 := cell_of_heap kx 2 _ rfl
      have d3 := cell_of_heap kx 3 _ rfl
      have d4 := cell_of_heap kx 4 _ rfl
      have hlr := (Array.getElem?_eq_some_iff.1 kx).1
      have HXR := Lib.hid kx
      have HCR := Lib.hid (HC.out.below hb)
      have hq := fun W hh => HD.out (h : Int) (n : Int) W hh
      simp only [dmB_nat] at hq
      rw [tb_true.2 hnd] at hq
      have HQ := Lib.hid hq
      have HI := Lib.hid hi
      have HEG := Lib.hid heg
      have HBB := Lib.hid hb
      have HBK := Lib.hid hbk
      have HTK := Lib.hid (take_next hn)
      have hsz := hb.size
      have hki : (k : Int) < Ln := by omega
      have hni : (n : Int) < N := by omega
      clear hb hbk hn hnd hi heg kx hq
      go_wp2_with fail
      refine (HQ.out _ HCR.out).mono ?_
      rintro e w7 ⟨rfl, hb7⟩
      have kx7 := (hb7.block _ hlr).trans HXR.out
      have b0 := cell_of_heap kx7 0 _ rfl
      have b1 := cell_of_heap kx7 1 _ rfl
      have b2 := cell_of_heap kx7 2 _ rfl
      have b3 := cell_of_heap kx7 3 _ rfl
      have b4 := cell_of_heap kx7 4 _ rfl
      have HB7 := Lib.hid (HBB.out.trans (hb7.mono hsz))
      have hC7 := HCR.out.below hb7
      have hs7 := hb7.size
      cases bk with
      | true =>
        clear kx7 hb7 d0 d1 d2 d3 d4 hC7
        go_wp2
        exact ⟨⟨k + 1, true, by omega, by go_num, rfl, HB7.out, by
          rw [HTK.out]
          obtain ⟨m, hm, he⟩ := HBK.out.1 (by simp)
          exact ⟨fun _ => ⟨m, List.mem_append_left _ hm, he⟩, fun _ => by simp⟩⟩, by simp [intOf]; omega⟩
      | false =>
        obtain ⟨bb, oo, rfl, hbl7, hcs⟩ := hC7 n _ HI.out
        obtain ⟨x0, x1, x2, x3, x4, x5, x6, x7, x8, x9, x10, x11, x12, x13, x14⟩ := RdI.load hcs
        have hna := fun W => refNext_fr i n (by omega) W
        have hnl := Ins.next_len i n
        obtain ⟨nx, hnx⟩ : ∃ nx, i.next n = nx := ⟨_, rfl⟩
        rw [hnx] at hna hnl HEG
        obtain ⟨Lx, hLx⟩ : ∃ Ln, nx.length = Ln := ⟨_, rfl⟩
        clear HI
        obtain ⟨kk, op, dst, a, b', n', text, r0, r1, r2, r3, r4, r5, to_, els⟩ := i
        simp only at x0 x1 x2 x3 x4 x5 x6 x7 x8 x9 x10 x11 x12 x13 x14
        have HNA : Hid (∀ W, Calls Try.prog 27 (#[.agg #[.int .i64 kk, .int .i64 op, .int .i64 dst, .int .i64 a, .int .i64 b', .int .i64 n', .string text, .int .i64 r0, .int .i64 r1, .int .i64 r2, .int .i64 r3, .int .i64 r4, .int .i64 r5, .int .i64 to_, .int .i64 els], .int .i64 n]) W fun e w' => (∃ A c, e = .returned (.slice A Lx c) ∧ RdN w' A nx) ∧ Below W.heap.size W w') := Lib.hid fun W => (hna W).mono fun e w' ⟨⟨A, c, h1, h2, _⟩, h4⟩ => ⟨⟨A, c, by rw [h1, hLx], h2⟩, h4⟩
        obtain ⟨y, hy⟩ : ∃ y, nx.contains (h : Int) = y := ⟨_, rfl⟩
        have HCA : Hid (∀ W A c, RdN W A nx → Calls Try.prog 26 #[.slice A Lx c, .int .i64 (h : Int)] W fun e w' => e = .returned (.bool y) ∧ W = w') := Lib.hid fun W A c hr => by
          have := In_any A nx c (h : Int) W hr (by omega)
          rw [hy, hLx] at this
          exact this
        have HY : Hid (y = true ↔ Eg f.code n h) := Lib.hid (by rw [← hy, List.contains_iff_mem]; exact HEG.out)
        clear kx7 hb7 d0 d1 d2 d3 d4 hcs hna hnl hnx hLx hy
        go_wp2_with fail
        refine (HNA.out _).mono ?_
        rintro e w8 ⟨⟨A8, c8, rfl, hrd8⟩, hb8⟩
        go_wp2_with fail
        refine (HCA.out _ _ _ hrd8).mono ?_
        rintro e w9 ⟨rfl, rfl⟩
        have HB8 := Lib.hid (HB7.out.trans (hb8.mono (Nat.le_trans hsz hs7)))
        clear hrd8 hb8
        go_wp2
        exact ⟨⟨k + 1, y, by omega, by go_num, rfl, HB8.out, by
          rw [HTK.out, HY.out]
          constructor
          · exact fun g => ⟨n, by simp, g⟩
          · rintro ⟨m, hm, he⟩
            rcases List.mem_append.1 hm with h1 | h1
            · exact absurd (HBK.out.2 ⟨m, h1, he⟩) (by simp)
            · simp only [List.mem_singleton] at h1; subst h1; exact he⟩, by simp [intOf]; omega⟩
    · obtain rfl : k = Ln := by omega
      have HX2 := fun (y2 y7 y24 y25 y26 y27 y28 y29 y30 y31 y32 y33 y34 y35 y36 y37 y38 y39 y40 y41 y42 y43 y44 : Value) => Lib.hid (HE.out y2 y7 y24 y25 y26 y27 y28 y29 y30 y31 y32 y33 y34 y35 y36 y37 y38 y39 y40 y41 y42 y43 y44 wr bk hb (by rw [← HLN.out, List.take_length] at hbk; exact hbk))
      clear hb hbk HE
      go_wp2
      exact (HX2 _ _ _ _ _ _ _ _ _ _ _ _ _ _ _ _ _ _ _ _ _ _ _).out
set_option maxRecDepth 1000000 in
set_option maxHeartbeats 8000000 in
theorem heads_few (f : Fn7) (hf : ¬ Fw9 f) (C : Option Addr) (cap : Nat) (hl9 : f.code.length ≤ 9223372036854775807) (w : World) (hC : RdI w C f.code) :
    Calls Try.prog 7 #[funcAgg f.nm f.ps f.R f.Fr C f.code.length cap] w fun e w' => e = .returned (.bool true) ∧ Below w.heap.size w w' := by
  have hB := Below.one w (funcObj f.nm f.ps f.R f.Fr C f.code.length cap)
  have bx := heap_alloc_new w (funcObj f.nm f.ps f.R f.Fr C f.code.length cap)
  have hC1 := hC.below hB
  have hA := fun W => awake9_any W
  have hF := fun W h => few9_no f hf C cap hl9 W h
  obtain ⟨N, hN⟩ : ∃ N, f.code.length = N := ⟨_, rfl⟩
  rw [hN] at hB bx hC1 hF ⊢
  simp only [funcObj, funcAgg] at hB bx hC1 hF ⊢
  obtain ⟨W, hW⟩ : ∃ W, w.alloc (.cells #[.string f.nm, .int .i64 f.ps, .int .i64 f.R, .int .i64 f.Fr, .slice C N cap] 24) = W := ⟨_, rfl⟩
  rw [hW] at bx hC1 hB
  have HC0 := Lib.hid hC1
  have HB0 := Lib.hid hB
  have HX0 := Lib.hid bx
  have hl0 := (Array.getElem?_eq_some_iff.1 bx).1
  have HAW := Lib.hid hA
  have c00 := cell_of_heap bx 0 _ rfl
  have c01 := cell_of_heap bx 1 _ rfl
  have c02 := cell_of_heap bx 2 _ rfl
  have c03 := cell_of_heap bx 3 _ rfl
  have c04 := cell_of_heap bx 4 _ rfl
  have HF := Lib.hid hF
  clear hf hN hC hC1 hB bx hF hA
  go_enter Try.func7, Try.ntmps7
  go_wp2_with fail
  refine (HF.out _ HC0.out).mono ?_
  rintro e w1 ⟨rfl, hb1⟩
  have kx1 := (hb1.block _ hl0).trans HX0.out
  have c10 := cell_of_heap kx1 0 _ rfl
  have c11 := cell_of_heap kx1 1 _ rfl
  have c12 := cell_of_heap kx1 2 _ rfl
  have c13 := cell_of_heap kx1 3 _ rfl
  have c14 := cell_of_heap kx1 4 _ rfl
  have hl1 := (Array.getElem?_eq_some_iff.1 kx1).1
  have HX1 := Lib.hid kx1
  have HC1 := Lib.hid (HC0.out.below hb1)
  have HB1 := Lib.hid (HB0.out.trans (hb1.mono HB0.out.size))
  clear kx1 hb1 c00 c01 c02 c03 c04
  go_wp2_with fail
  refine (HAW.out _).mono ?_
  rintro e w2 ⟨rfl, hb2⟩
  go_wp2
  go_returns
  exact ⟨rfl, HB1.out.trans (hb2.mono HB1.out.size)⟩
set_option maxRecDepth 1000000 in
set_option maxHeartbeats 8000000 in
theorem heads_bad (f : Fn7) (hf : Fw9 f) (hok : ¬ OkF f) (C : Option Addr) (cap : Nat) (hl9 : f.code.length ≤ 9223372036854775807) (w : World) (hC : RdI w C f.code) :
    Calls Try.prog 7 #[funcAgg f.nm f.ps f.R f.Fr C f.code.length cap] w fun e w' => e = .returned (.bool true) ∧ Below w.heap.size w w' := by
  have hB := Below.one w (funcObj f.nm f.ps f.R f.Fr C f.code.length cap)
  have bx := heap_alloc_new w (funcObj f.nm f.ps f.R f.Fr C f.code.length cap)
  have hC1 := hC.below hB
  have hA := fun W => awake9_any W
  have hF := fun W h => few9_yes f hf C cap hl9 W h
  have hH := fun W h => gHeads_no f hok C cap W h
  obtain ⟨N, hN⟩ : ∃ N, f.code.length = N := ⟨_, rfl⟩
  rw [hN] at hB bx hC1 hF hH ⊢
  simp only [funcObj, funcAgg] at hB bx hC1 hF hH ⊢
  obtain ⟨W, hW⟩ : ∃ W, w.alloc (.cells #[.string f.nm, .int .i64 f.ps, .int .i64 f.R, .int .i64 f.Fr, .slice C N cap] 24) = W := ⟨_, rfl⟩
  rw [hW] at bx hC1 hB
  have HC0 := Lib.hid hC1
  have HB0 := Lib.hid hB
  have HX0 := Lib.hid bx
  have hl0 := (Array.getElem?_eq_some_iff.1 bx).1
  have HAW := Lib.hid hA
  have c00 := cell_of_heap bx 0 _ rfl
  have c01 := cell_of_heap bx 1 _ rfl
  have c02 := cell_of_heap bx 2 _ rfl
  have c03 := cell_of_heap bx 3 _ rfl
  have c04 := cell_of_heap bx 4 _ rfl
  have HF := Lib.hid hF
  have HH := Lib.hid hH
  clear hf hN hC hC1 hB bx hF hA hH hok
  go_enter Try.func7, Try.ntmps7
  go_wp2_with fail
  refine (HF.out _ HC0.out).mono ?_
  rintro e w1 ⟨rfl, hb1⟩
  have kx1 := (hb1.block _ hl0).trans HX0.out
  have c10 := cell_of_heap kx1 0 _ rfl
  have c11 := cell_of_heap kx1 1 _ rfl
  have c12 := cell_of_heap kx1 2 _ rfl
  have c13 := cell_of_heap kx1 3 _ rfl
  have c14 := cell_of_heap kx1 4 _ rfl
  have hl1 := (Array.getElem?_eq_some_iff.1 kx1).1
  have HX1 := Lib.hid kx1
  have HC1 := Lib.hid (HC0.out.below hb1)
  have HB1 := Lib.hid (HB0.out.trans (hb1.mono HB0.out.size))
  clear kx1 hb1 c00 c01 c02 c03 c04
  go_wp2_with fail
  refine (HH.out _ HC1.out).mono ?_
  rintro e w2 ⟨rfl, hb2⟩
  have kx2 := (hb2.block _ hl1).trans HX1.out
  have c20 := cell_of_heap kx2 0 _ rfl
  have c21 := cell_of_heap kx2 1 _ rfl
  have c22 := cell_of_heap kx2 2 _ rfl
  have c23 := cell_of_heap kx2 3 _ rfl
  have c24 := cell_of_heap kx2 4 _ rfl
  have hl2 := (Array.getElem?_eq_some_iff.1 kx2).1
  have HX2 := Lib.hid kx2
  have HC2 := Lib.hid (HC1.out.below hb2)
  have HB2 := Lib.hid (HB1.out.trans (hb2.mono HB1.out.size))
  clear kx2 hb2 c10 c11 c12 c13 c14
  go_wp2_with fail
  refine wp_loop_rounds 1 ?_
  rw [rounds_succ]
  go_wp2_with fail
  refine (HAW.out _).mono ?_
  rintro e w3 ⟨rfl, hb3⟩
  go_wp2
  go_returns
  exact ⟨rfl, HB2.out.trans (hb3.mono HB2.out.size)⟩
set_option maxRecDepth 1000000 in
set_option maxHeartbeats 16000000 in
theorem heads_good (f : Fn7) (hf : Fw9 f) (hok : OkF f) (C : Option Addr) (cap : Nat) (hl9 : f.code.length ≤ 9223372036854775807) (w : World) (hC : RdI w C f.code) :
    Calls Try.prog 7 #[funcAgg f.nm f.ps f.R f.Fr C f.code.length cap] w fun e w' => e = .returned (.bool true) ∧ Below w.heap.size w w' := by
  have hB := Below.one w (funcObj f.nm f.ps f.R f.Fr C f.code.length cap)
  have bx := heap_alloc_new w (funcObj f.nm f.ps f.R f.Fr C f.code.length cap)
  have hC1 := hC.below hB
  have hA := fun W => awake9_any W
  have hF := fun W h => few9_yes f hf C cap hl9 W h
  have hH := fun W h => gHeads_yes f hok C cap W h
  have hL := fun a W h => gLoop_yes f hok a C cap W h
  have hD := fun a b W h => gDominates_yes f hok a b C cap W h
  have hN2 := hok.len.2
  have hLL : ∀ (p : Nat), IsHd (Eg f.code) p → lpL f (p : Int) = upL f.code.length (InL (Eg f.code) p) := fun p hp => upL_congr fun n _ => by rw [Int.toNat_natCast]; exact ⟨fun g => g.2.2, fun g => ⟨by omega, hp, g⟩⟩
  obtain ⟨N, hN⟩ : ∃ N, f.code.length = N := ⟨_, rfl⟩
  rw [hN] at hB bx hC1 hF hH hL hD hN2 hLL ⊢
  simp only [funcObj, funcAgg] at hB bx hC1 hF hH hL hD hN2 hLL ⊢
  obtain ⟨W, hW⟩ : ∃ W, w.alloc (.cells #[.string f.nm, .int .i64 f.ps, .int .i64 f.R, .int .i64 f.Fr, .slice C N cap] 24) = W := ⟨_, rfl⟩
  rw [hW] at bx hC1 hB
  have HC0 := Lib.hid hC1
  have HB0 := Lib.hid hB
  have HX0 := Lib.hid bx
  have hl0 := (Array.getElem?_eq_some_iff.1 bx).1
  have HAW := Lib.hid hA
  have c00 := cell_of_heap bx 0 _ rfl
  have c01 := cell_of_heap bx 1 _ rfl
  have c02 := cell_of_heap bx 2 _ rfl
  have c03 := cell_of_heap bx 3 _ rfl
  have c04 := cell_of_heap bx 4 _ rfl
  have HF := Lib.hid hF
  have HH := Lib.hid hH
  have HL := Lib.hid hL
  have HD := Lib.hid hD
  have HLL := Lib.hid hLL
  have HOK := Lib.hid hok
  have HN := Lib.hid hN
  clear hf hC hC1 hB bx hF hA hH hok hL hD hLL hl9 hN
  go_enter Try.func7, Try.ntmps7
  go_wp2_with fail
  refine (HF.out _ HC0.out).mono ?_
  rintro e w1 ⟨rfl, hb1⟩
  have kx1 := (hb1.block _ hl0).trans HX0.out
  have c10 := cell_of_heap kx1 0 _ rfl
  have c11 := cell_of_heap kx1 1 _ rfl
  have c12 := cell_of_heap kx1 2 _ rfl
  have c13 := cell_of_heap kx1 3 _ rfl
  have c14 := cell_of_heap kx1 4 _ rfl
  have hl1 := (Array.getElem?_eq_some_iff.1 kx1).1
  have HX1 := Lib.hid kx1
  have HC1 := Lib.hid (HC0.out.below hb1)
  have HB1 := Lib.hid (HB0.out.trans (hb1.mono HB0.out.size))
  clear kx1 hb1 c00 c01 c02 c03 c04
  go_wp2_with fail
  refine (HH.out _ HC1.out).mono ?_
  rintro e w2 ⟨⟨V2, rfl, ho2, _⟩, hb2⟩
  obtain ⟨A2, c2, rfl, _, hrd2⟩ := ho2.form
  obtain ⟨H, hHe, hHm⟩ := upN_is N (IsHd (Eg f.code))
  rw [hHe] at hrd2 ⊢
  obtain ⟨m, hm⟩ : ∃ m, (H.map fun n : Nat => (n : Int)).length = m := ⟨_, rfl⟩
  rw [hm]
  have hmN : m ≤ N := by rw [← hm, ← hHe]; exact upL_len N _
  have HM := Lib.hid hm
  have HHM := Lib.hid hHm
  have HRD := Lib.hid hrd2
  have kx2 := (hb2.block _ hl1).trans HX1.out
  have hl2 := (Array.getElem?_eq_some_iff.1 kx2).1
  have HX2 := Lib.hid kx2
  have HC2 := Lib.hid (HC1.out.below hb2)
  have HB2 := Lib.hid (HB1.out.trans (hb2.mono HB1.out.size))
  clear kx2 hb2 hrd2 hHe hHm hm ho2 c10 c11 c12 c13 c14
  go_wp2
  go_loopw [15] (fun ix wr => ∃ k : Nat, k ≤ m ∧ ix = .int .i64 k ∧ Below w2.heap.size w2 wr) (fun ix _ => m - (intOf ix).toNat)
  case atStart => exact ⟨0, by omega, rfl, Below.refl _ _⟩
  case round =>
    obtain ⟨k, hk, rfl, hb⟩ := hrel
    have HBB := Lib.hid hb
    by_cases hlt : k < m
    · obtain ⟨h, hh⟩ : ∃ h, H[k]? = some h := ⟨_, List.getElem?_eq_getElem (by have := HM.out; rw [List.length_map] at this; omega)⟩
      obtain ⟨hhN, hhd⟩ := (HHM.out h).1 (List.mem_of_getElem? hh)
      obtain ⟨b, o, rfl, hbl, hc⟩ := (HRD.out.below hb) k h (by rw [List.getElem?_map, hh]; rfl)
      have kx := (hb.block _ hl2).trans HX2.out
      have d0 := cell_of_heap kx 0 _ rfl
      have d1 := cell_of_heap kx 1 _ rfl
      have d2 := cell_of_heap kx 2 _ rfl
      have d3 := cell_of_heap kx 3 _ rfl
      have d4 := cell_of_heap kx 4 _ rfl
      have hlr := (Array.getElem?_eq_some_iff.1 kx).1
      have HXR := Lib.hid kx
      have HCR := Lib.hid (HC2.out.below hb)
      have hsz := hb.size
      have hki : (k : Int) < m := by omega
      have HHD := Lib.hid hhd
      obtain ⟨L, hLe, hLm⟩ := upN_is N (InL (Eg f.code) h)
      have hlp : lpL f (h : Int) = asI L := (HLL.out h hhd).trans hLe
      have hql := fun W hh => HL.out (h : Int) W hh
      rw [hlp] at hql
      obtain ⟨Ln, hLn⟩ : ∃ Ln, L.length = Ln := ⟨_, rfl⟩
      have hLnN : Ln ≤ 9000 := by
        have h1 := congrArg List.length hLe
        rw [List.length_map, hLn] at h1
        have := upL_len N (InL (Eg f.code) h)
        omega
      have HQL : Hid (∀ W, RdI W C f.code → Calls Try.prog 24 #[.agg #[.string f.nm, .int .i64 f.ps, .int .i64 f.R, .int .i64 f.Fr, .slice C N cap], .int .i64 (h : Int)] W fun e w' => (∃ A c, e = .returned (.slice A Ln c) ∧ RdN w' A (asI L)) ∧ Below W.heap.size W w') := Lib.hid fun W hh => (hql W hh).mono fun e w' ⟨⟨A, c, h1, h2⟩, h3⟩ => ⟨⟨A, c, by rw [h1]; unfold asI; rw [List.length_map, hLn], h2⟩, h3⟩
      have HLM := Lib.hid hLm
      have HLN := Lib.hid hLn
      clear hb hh hhd kx hLe hLm hlp hql hLn
      go_wp2_with fail
      refine (HQL.out _ HCR.out).mono ?_
      rintro e w7 ⟨⟨A7, c7, rfl, hrd7⟩, hb7⟩
      have kx7 := (hb7.block _ hlr).trans HXR.out
      have HRD7 := Lib.hid hrd7
      have HX7 := Lib.hid kx7
      have HC7 := Lib.hid (HCR.out.below hb7)
      have HB7 := Lib.hid (HBB.out.trans (hb7.mono hsz))
      have hs7 := hb7.size
      clear kx7 hb7 hrd7 d0 d1 d2 d3 d4
      go_wp2
      refine hd2_any f HOK.out C cap N HN.out hN2 w7 w.heap.size h HC7.out HX7.out HD.out L A7 c7 Ln HLN.out hLnN HRD7.out (fun n hn => ⟨((HLM.out n).1 hn).1, ((HLM.out n).1 hn).2.dom HHD.out.1⟩) _ _ _ _ _ _ _ _ _ _ _ _ _ _ _ _ _ _ _ _ _ _ _ _ _ _ _ _ _ _ _ _ _ _ _ _ _ _ _ _ _ _ _ _ ?_
      intro z2 z7 z24 z25 z26 z27 z28 z29 z30 z31 z32 z33 z34 z35 z36 z37 z38 z39 z40 z41 z42 z43 z44 w8 bk hb8 hbk
      have hbt : bk = true := hbk.2 (by
        obtain ⟨e, he⟩ := HHD.out.2
        exact ⟨e, (HLM.out e).2 ⟨by rw [← HN.out]; exact he.1.ltN HOK.out, he.inL⟩, he.2.1⟩)
      subst hbt
      have HB8 := Lib.hid (HB7.out.trans (hb8.mono (Nat.le_trans hsz hs7)))
      clear hb8 hbk
      go_wp2
      exact ⟨⟨k + 1, by omega, by go_num, HB8.out⟩, by simp [intOf]; omega⟩
    · obtain rfl : m = k := by omega
      clear hb
      go_wp2_with fail
      refine (HAW.out _).mono ?_
      rintro e w9 ⟨rfl, hb9⟩
      have hbb := HB2.out.trans (HBB.out.mono HB2.out.size)
      go_wp2
      go_returns
      exact ⟨rfl, hbb.trans (hb9.mono hbb.size)⟩
theorem GraphHeads_any (f : Fn7) (C : Option Addr) (cap : Nat) (hl9 : f.code.length ≤ 9223372036854775807) (w : World) (hC : RdI w C f.code) :
    Calls Try.prog 7 #[funcAgg f.nm f.ps f.R f.Fr C f.code.length cap] w fun e w' => e = .returned (.bool true) ∧ Below w.heap.size w w' := by
  by_cases hf : Fw9 f
  · by_cases hok : OkF f
    · exact heads_good f hf hok C cap hl9 w hC
    · exact heads_bad f hf hok C cap hl9 w hC
  · exact heads_few f hf C cap hl9 w hC
end Go.Proofs.Ytgdbkoncaojmoaa
