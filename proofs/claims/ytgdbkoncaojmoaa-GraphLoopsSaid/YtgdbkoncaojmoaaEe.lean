import Derived.Test.YtgdbkoncaojmoaaEb
/- Layer 9: same; the document's Before. -/
namespace Go.Proofs.Ytgdbkoncaojmoaa
open Go.RowKit Go.BigFrame

set_option maxRecDepth 1000000 in
theorem same9_self (A A' : Option Addr) (l : List Int) (c c' : Nat) (w : World) (h : RdN w A l) (h' : RdN w A' l) (hl : l.length ≤ 100000) : Calls Try.prog 15 #[.slice A l.length c, .slice A' l.length c'] w fun e w' => e = .returned (.bool true) ∧ Below w.heap.size w w' := by
  obtain ⟨L, hL⟩ : ∃ L, l.length = L := ⟨_, rfl⟩
  rw [hL] at hl ⊢
  have HL := Lib.hid hL
  have H := Lib.hid h
  have H' := Lib.hid h'
  clear hL h h'
  go_enter Try.func15, Try.ntmps15
  go_wp2
  go_loopw [13] (fun ix wr => ∃ k : Nat, k ≤ L ∧ ix = .int .i64 k ∧ Below w.heap.size w wr) (fun ix _ => L - (intOf ix).toNat)
  case atStart => exact ⟨0, by omega, rfl, Below.refl _ _⟩
  case round =>
    obtain ⟨k, hk, rfl, hb⟩ := hrel
    by_cases hlt : k < L
    · obtain ⟨y, hy⟩ : ∃ y, l[k]? = some y := ⟨_, List.getElem?_eq_getElem (by rw [HL.out]; exact hlt)⟩
      obtain ⟨b, o, rfl, hbl, hc⟩ := (H.out.below hb) k y hy
      obtain ⟨b', o', rfl, hbl', hc'⟩ := (H'.out.below hb) k y hy
      have HB := Lib.hid hb
      clear hy hb
      go_wp2
      go_quiet (fail)
      go_wp2
      exact ⟨⟨k + 1, by omega, by go_num, ⟨HB.out.os, HB.out.tape, HB.out.output, HB.out.size, HB.out.block⟩⟩, by simp [intOf]; omega⟩
    · obtain rfl : k = L := by omega
      go_wp2
      go_returns
      exact ⟨rfl, hb⟩
set_option maxRecDepth 1000000 in
set_option maxHeartbeats 16000000 in
theorem rBefore_any (f : Fn7) (hf : OkF f) (h : Nat) (C : Option Addr) (cap : Nat) (w : World) (hC : RdI w C f.code) :
    Calls Try.prog 17 #[funcAgg f.nm f.ps f.R f.Fr C f.code.length cap, .int .i64 (h : Int)] w fun e w' => SlN (upL f.code.length fun q => Eg f.code q h) e w' ∧ Below w.heap.size w w' := by
  have hB := Below.one w (funcObj f.nm f.ps f.R f.Fr C f.code.length cap)
  have bx := heap_alloc_new w (funcObj f.nm f.ps f.R f.Fr C f.code.length cap)
  have hC1 := hC.below hB
  obtain ⟨N, hN⟩ : ∃ N, f.code.length = N := ⟨_, rfl⟩
  have hN2 : N ≤ 8192 := by rw [← hN]; exact hf.len.2
  rw [hN] at hB bx hC1 ⊢
  simp only [funcObj, funcAgg] at hB bx hC1 ⊢
  obtain ⟨W, hW⟩ : ∃ W, w.alloc (.cells #[.string f.nm, .int .i64 f.ps, .int .i64 f.R, .int .i64 f.Fr, .slice C N cap] 24) = W := ⟨_, rfl⟩
  rw [hW] at bx hC1 hB
  have HC1 := Lib.hid hC1
  have HF := Lib.hid hf
  have HN := Lib.hid hN
  have HB := Lib.hid hB
  have HBX := Lib.hid bx
  have hBl := (Array.getElem?_eq_some_iff.1 bx).1
  clear hf hN hC hC1 bx hB
  go_enter Try.func17, Try.ntmps17
  go_wp2
  clear hW
  go_loopw [5, 6] (fun V ix wr => ∃ k : Nat, k ≤ N ∧ ix = .int .i64 k ∧ OwnN wr V (upL k fun q => Eg f.code q h) ∧ (∀ x, V.ownBlock = some x → W.heap.size ≤ x) ∧ Below W.heap.size W wr) (fun _ ix _ => N - (intOf ix).toNat)
  case atStart => exact ⟨0, by omega, rfl, OwnN.nil _, (fun x hx => by simp [Value.ownBlock] at hx), Below.refl _ _⟩
  case round =>
    obtain ⟨k, hk, rfl, hown, hV, hb⟩ := hrel
    have HOWN := Lib.hid hown
    have HV := Lib.hid hV
    have HBB := Lib.hid hb
    have hx4 : wr.heap[w.heap.size]? = _ := (hb.block _ hBl).trans HBX.out
    have g4 := cell_of_heap hx4 4 _ rfl
    have hll2 := (Array.getElem?_eq_some_iff.1 hx4).1
    by_cases hlt : k < N
    · have hki : (k : Int) < N := by omega
      have hsz := hb.size
      have hll := upL_len k fun q => Eg f.code q h
      have HLL := Lib.hid hll
      obtain ⟨i, hi⟩ : ∃ i, f.code[k]? = some i := ⟨_, List.getElem?_eq_getElem (by rw [HN.out]; exact hlt)⟩
      have hC2 := HC1.out.below hb
      obtain ⟨bb, oo, rfl, hbl, hcs⟩ := hC2 k i hi
      obtain ⟨x0, x1, x2, x3, x4, x5, x6, x7, x8, x9, x10, x11, x12, x13, x14⟩ := RdI.load hcs
      have hna := fun W => refNext_fr i k (by omega) W
      have hnl := Ins.next_len i k
      have heg := fun (q : Nat) => Eg_iff HF.out (q := q) hi
      obtain ⟨nx, hnx⟩ : ∃ nx, i.next k = nx := ⟨_, rfl⟩
      rw [hnx] at hna hnl heg
      obtain ⟨Ln, hLn⟩ : ∃ Ln, nx.length = Ln := ⟨_, rfl⟩
      obtain ⟨kk, op, dst, a, b', n, text, r0, r1, r2, r3, r4, r5, to_, els⟩ := i
      simp only at x0 x1 x2 x3 x4 x5 x6 x7 x8 x9 x10 x11 x12 x13 x14
      have HNA : Hid (∀ W, Calls Try.prog 27 (#[.agg #[.int .i64 kk, .int .i64 op, .int .i64 dst, .int .i64 a, .int .i64 b', .int .i64 n, .string text, .int .i64 r0, .int .i64 r1, .int .i64 r2, .int .i64 r3, .int .i64 r4, .int .i64 r5, .int .i64 to_, .int .i64 els], .int .i64 k]) W fun e w' => (∃ A c, e = .returned (.slice A Ln c) ∧ RdN w' A nx) ∧ Below W.heap.size W w') := Lib.hid fun W => (hna W).mono fun e w' ⟨⟨A, c, h1, h2, _⟩, h4⟩ => ⟨⟨A, c, by rw [h1, hLn], h2⟩, h4⟩
      obtain ⟨y, hy⟩ : ∃ y, nx.contains (h : Int) = y := ⟨_, rfl⟩
      have HCA : Hid (∀ W A c, RdN W A nx → Calls Try.prog 26 #[.slice A Ln c, .int .i64 (h : Int)] W fun e w' => e = .returned (.bool y) ∧ W = w') := Lib.hid fun W A c hr => by
        have := In_any A nx c (h : Int) W hr (by omega)
        rw [hy, hLn] at this
        exact this
      have HY : Hid (y = true ↔ Eg f.code k h) := Lib.hid (by rw [← hy, List.contains_iff_mem]; exact heg h)
      clear hown hV hb hi hC2 hcs hx4 hna hnl heg hnx hLn hy hll
      cases y with
      | false =>
        go_wp2_with (first
          | (refine (HNA.out _).mono ?_; rintro e w6 ⟨⟨A6, c6, rfl, hrd6⟩, hb6⟩)
          | (refine (HCA.out _ _ _ hrd6).mono ?_; rintro e w7 ⟨rfl, rfl⟩))
        refine ⟨⟨k + 1, by omega, by go_num, ?_, HV.out, HBB.out.trans (hb6.mono hsz)⟩, by simp [intOf]; omega⟩
        rw [upL_skip k _ (fun g => by have := HY.out.2 g; cases this)]
        exact HOWN.out.later hb6
      | true =>
        go_wp2_with (first
          | (refine (HNA.out _).mono ?_; rintro e w6 ⟨⟨A6, c6, rfl, hrd6⟩, hb6⟩; have HW6 := Lib.hid hb6)
          | (refine (HCA.out _ _ _ hrd6).mono ?_; rintro e w7 ⟨rfl, rfl⟩)
          | (at_builtin; refine append_one rfl (.tmp 23) (.tmp 25) rfl u5 (upL k fun q => Eg f.code q h) rfl ((HOWN.out.later HW6.out).alloc _) w6.heap.size k rfl (heap_alloc_new _ _) (by have := HLL.out; omega) ?_; intro V' w9 ho9 hg9 hb9))
        have hs6 := HW6.out.size
        refine ⟨⟨k + 1, by omega, by go_num, ?_, fun x hx => ?_, ?_⟩, by simp [intOf]; omega⟩
        · rw [upL_next k _ (HY.out.1 (by simp))]
          exact ho9
        · rcases hb9 with e | e
          · rw [e] at hx; exact HV.out x hx
          · rw [e] at hx; injection hx with hx; simp at hx; omega
        · exact Below.grown ((HBB.out.trans (HW6.out.mono hsz)).alloc (by omega) _) hg9 (by simp; omega) (fun x hx => HV.out x hx)
    · obtain rfl : k = N := by omega
      have HQ : Hid (SlN (upL k fun q => Eg f.code q h) (.returned u5) wr ∧ Below w.heap.size w wr) := Lib.hid ⟨by
        obtain ⟨A, c, e, _, hr⟩ := hown.form
        exact ⟨A, c, by rw [e], hr⟩, HB.out.trans (hb.mono HB.out.size)⟩
      clear hown hV hb hx4
      go_wp2
      go_returns
      exact HQ.out
end Go.Proofs.Ytgdbkoncaojmoaa
