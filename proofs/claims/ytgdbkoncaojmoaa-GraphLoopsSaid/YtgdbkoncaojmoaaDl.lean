import Derived.Test.YtgdbkoncaojmoaaDk
/- graph.ends. -/
namespace Go.Proofs.Ytgdbkoncaojmoaa
open Go.RowKit Go.BigFrame

theorem upL_next (N : Nat) (P : Nat → Prop) (h : P N) : upL (N + 1) P = upL N P ++ [(N : Int)] := by rw [upL_succ, if_pos (tb_true.2 h)]
theorem upL_skip (N : Nat) (P : Nat → Prop) (h : ¬ P N) : upL (N + 1) P = upL N P := by rw [upL_succ, if_neg (fun g => h (tb_true.1 g)), List.append_nil]
set_option maxRecDepth 1000000 in
set_option maxHeartbeats 16000000 in
theorem ends_any (f : Fn7) (hf : OkF f) (h : Nat) (C : Option Addr) (cap : Nat) (A2 : Option Addr) (c2 rb : Nat) {O : List Nat} {up : Nat → Option Nat} (hU : UpT (Eg f.code) (fun n => O.idxOf n) up) (w : World) (hC : RdI w C f.code)
    (hA : RdN w A2 (abL f.code.length up)) (hRb : Pre gB 1 4 w rb (bl f.code.length fun p => tb (R0 (Eg f.code) p))) :
    Calls Try.prog 39 #[funcAgg f.nm f.ps f.R f.Fr C f.code.length cap, .int .i64 (h : Int), .slice A2 f.code.length c2, .slice (some ⟨rb, 0, none⟩) f.code.length f.code.length] w fun e w' => OwT w.heap.size (upL f.code.length (Bk (Eg f.code) h)) e w' ∧ Below w.heap.size w w' := by
  have hlt : ∀ p, R0 (Eg f.code) p → p < f.code.length := fun p h => h.ltN hf
  have hB := Below.one w (funcObj f.nm f.ps f.R f.Fr C f.code.length cap)
  have bx := heap_alloc_new w (funcObj f.nm f.ps f.R f.Fr C f.code.length cap)
  have hC1 := hC.below hB
  have hA1 := hA.below hB
  have hR1 := Pre.later hRb hB
  obtain ⟨N, hN⟩ : ∃ N, f.code.length = N := ⟨_, rfl⟩
  have hN2 : N ≤ 8192 := by rw [← hN]; exact hf.len.2
  rw [hN] at hB bx hC1 hA1 hR1 hlt ⊢
  simp only [funcObj, funcAgg] at hB bx hC1 hA1 hR1 ⊢
  obtain ⟨W, hW⟩ : ∃ W, w.alloc (.cells #[.string f.nm, .int .i64 f.ps, .int .i64 f.R, .int .i64 f.Fr, .slice C N cap] 24) = W := ⟨_, rfl⟩
  rw [hW] at bx hC1 hB hA1 hR1
  have HC1 := Lib.hid hC1
  have HA1 := Lib.hid hA1
  have HR1 := Lib.hid hR1
  have HF := Lib.hid hf
  have HN := Lib.hid hN
  have HU := Lib.hid hU
  have HLT := Lib.hid hlt
  have HB := Lib.hid hB
  have HBX := Lib.hid bx
  have hBl := (Array.getElem?_eq_some_iff.1 bx).1
  clear hf hN hC hA hRb hC1 hA1 hR1 bx hB hlt hU
  go_enter Try.func39, Try.ntmps39
  go_wp2
  clear hW
  go_loopw [9, 13] (fun V ix wr => ∃ k : Nat, k ≤ N ∧ ix = .int .i64 k ∧ OwnN wr V (upL k (Bk (Eg f.code) h)) ∧ (∀ x, V.ownBlock = some x → W.heap.size ≤ x) ∧ Below W.heap.size W wr) (fun _ ix _ => N - (intOf ix).toNat)
  case atStart => exact ⟨0, by omega, rfl, OwnN.nil _, (fun x hx => by simp [Value.ownBlock] at hx), Below.refl _ _⟩
  case round =>
    obtain ⟨k, hk, rfl, hown, hV, hb⟩ := hrel
    have HOWN := Lib.hid hown
    have HV := Lib.hid hV
    have HBB := Lib.hid hb
    by_cases hlt : k < N
    · have hcr := PreB.cell (Pre.later HR1.out hb) (bl_get (m := fun p => tb (R0 (Eg f.code) p)) hlt)
      have hki : (k : Int) < N := by omega
      have hsz := hb.size
      have hll := upL_len k (Bk (Eg f.code) h)
      have HLL := Lib.hid hll
      have HSK : Hid (¬ Bk (Eg f.code) h k → ∀ w6, Below wr.heap.size wr w6 → ∃ k' : Nat, k' ≤ N ∧ Value.int IntKind.i64 ((k : Int) + 1) = .int .i64 k' ∧ OwnN w6 u9 (upL k' (Bk (Eg f.code) h)) ∧ (∀ x, u9.ownBlock = some x → W.heap.size ≤ x) ∧ Below W.heap.size W w6) := Lib.hid fun hno w6 h6 => ⟨k + 1, by omega, by go_num, by
        rw [upL_skip k _ hno]
        exact HOWN.out.later h6, HV.out, HBB.out.trans (h6.mono hsz)⟩
      by_cases hr : R0 (Eg f.code) k
      · rw [tb_true.2 hr] at hcr
        obtain ⟨i, hi⟩ : ∃ i, f.code[k]? = some i := ⟨_, List.getElem?_eq_getElem (by rw [HN.out]; exact hlt)⟩
        have hC2 := HC1.out.below hb
        obtain ⟨bb, oo, rfl, hbl, hcs⟩ := hC2 k i hi
        obtain ⟨x0, x1, x2, x3, x4, x5, x6, x7, x8, x9, x10, x11, x12, x13, x14⟩ := RdI.load hcs
        have hx4 : wr.heap[w.heap.size]? = _ := (hb.block _ hBl).trans HBX.out
        have g4 := cell_of_heap hx4 4 _ rfl
        have hll2 := (Array.getElem?_eq_some_iff.1 hx4).1
        have hna := fun W => Next_fr i k (by omega) W
        have hnl := Ins.next_len i k
        have heg := fun (q : Nat) => Eg_iff HF.out (q := q) hi
        obtain ⟨nx, hnx⟩ : ∃ nx, i.next k = nx := ⟨_, rfl⟩
        rw [hnx] at hna hnl heg
        obtain ⟨Ln, hLn⟩ : ∃ Ln, nx.length = Ln := ⟨_, rfl⟩
        obtain ⟨kk, op, dst, a, b', n, text, r0, r1, r2, r3, r4, r5, to_, els⟩ := i
        simp only at x0 x1 x2 x3 x4 x5 x6 x7 x8 x9 x10 x11 x12 x13 x14
        have HNA : Hid (∀ W, Calls Try.prog 31 (#[.agg #[.int .i64 kk, .int .i64 op, .int .i64 dst, .int .i64 a, .int .i64 b', .int .i64 n, .string text, .int .i64 r0, .int .i64 r1, .int .i64 r2, .int .i64 r3, .int .i64 r4, .int .i64 r5, .int .i64 to_, .int .i64 els], .int .i64 k]) W fun e w' => (∃ A c, e = .returned (.slice A Ln c) ∧ RdN w' A nx) ∧ Below W.heap.size W w') := Lib.hid fun W => (hna W).mono fun e w' ⟨⟨A, c, h1, h2, _⟩, h4⟩ => ⟨⟨A, c, by rw [h1, hLn], h2⟩, h4⟩
        obtain ⟨y, hy⟩ : ∃ y, nx.contains (h : Int) = y := ⟨_, rfl⟩
        have HCA : Hid (∀ W A c, RdN W A nx → Calls Try.prog 32 #[.slice A Ln c, .int .i64 (h : Int)] W fun e w' => e = .returned (.bool y) ∧ W = w') := Lib.hid fun W A c hr => by
          have := Contains_rd A nx c (h : Int) W hr (by omega)
          rw [hy, hLn] at this
          exact this
        have HY : Hid (y = true ↔ Eg f.code k h) := Lib.hid (by rw [← hy, List.contains_iff_mem]; exact heg h)
        have HOV : Hid (∀ W', Below wr.heap.size wr W' → Calls Try.prog 38 #[.slice A2 N c2, .int .i64 (h : Int), .int .i64 (k : Int)] W' fun e w' => e = .returned (.bool (tb (Dom (Eg f.code) h k))) ∧ W' = w') := Lib.hid fun W' hb' => over_any HU.out N HLT.out A2 c2 W' ((HA1.out.below hb).below hb') h k hr
        have HRR := Lib.hid hr
        clear hown hV hb hr hi hC2 hcs hx4 hna hnl heg hnx hLn hy hll
        cases y with
        | false =>
          go_wp2_with (first
            | (refine (HNA.out _).mono ?_; rintro e w6 ⟨⟨A6, c6, rfl, hrd6⟩, hb6⟩)
            | (refine (HCA.out _ _ _ hrd6).mono ?_; rintro e w7 ⟨rfl, rfl⟩))
          exact ⟨HSK.out (fun g => by have := HY.out.2 g.2.1; cases this) _ hb6, by simp [intOf]; omega⟩
        | true =>
          obtain ⟨z, hz⟩ : ∃ z, tb (Dom (Eg f.code) h k) = z := ⟨_, rfl⟩
          rw [hz] at HOV
          have HZ : Hid (z = true ↔ Dom (Eg f.code) h k) := Lib.hid (by rw [← hz]; exact tb_true)
          clear hz
          cases z with
          | false =>
            go_wp2_with (first
              | (refine (HNA.out _).mono ?_; rintro e w6 ⟨⟨A6, c6, rfl, hrd6⟩, hb6⟩)
              | (refine (HCA.out _ _ _ hrd6).mono ?_; rintro e w7 ⟨rfl, rfl⟩)
              | (refine (HOV.out _ hb6).mono ?_; rintro e w8 ⟨rfl, rfl⟩))
            exact ⟨HSK.out (fun g => by have := HZ.out.2 g.2.2; cases this) _ hb6, by simp [intOf]; omega⟩
          | true =>
            go_wp2_with (first
              | (refine (HNA.out _).mono ?_; rintro e w6 ⟨⟨A6, c6, rfl, hrd6⟩, hb6⟩; have HW6 := Lib.hid hb6)
              | (refine (HCA.out _ _ _ hrd6).mono ?_; rintro e w7 ⟨rfl, rfl⟩)
              | (refine (HOV.out _ HW6.out).mono ?_; rintro e w8 ⟨rfl, rfl⟩)
              | (at_builtin; refine append_one rfl (.tmp 37) (.tmp 39) rfl u9 (upL k (Bk (Eg f.code) h)) rfl ((HOWN.out.later HW6.out).alloc _) w6.heap.size k rfl (heap_alloc_new _ _) (by have := HLL.out; omega) ?_; intro V' w9 ho9 hg9 hb9))
            have hs6 := HW6.out.size
            refine ⟨⟨k + 1, by omega, by go_num, ?_, fun x hx => ?_, ?_⟩, by simp [intOf]; omega⟩
            · rw [upL_next k _ ⟨HRR.out, HY.out.1 (by simp), HZ.out.1 (by simp)⟩]
              exact ho9
            · rcases hb9 with e | e
              · rw [e] at hx; exact HV.out x hx
              · rw [e] at hx; injection hx with hx; simp at hx; omega
            · exact Below.grown ((HBB.out.trans (HW6.out.mono hsz)).alloc (by omega) _) hg9 (by simp; omega) (fun x hx => HV.out x hx)
      · rw [tb_false.2 hr] at hcr
        have HRR := Lib.hid hr
        clear hown hV hb hr hll
        go_wp2
        exact ⟨HSK.out (fun g => HRR.out g.1) _ (Below.refl _ _), by simp [intOf]; omega⟩
    · obtain rfl : k = N := by omega
      have HQ : Hid (OwT w.heap.size (upL k (Bk (Eg f.code) h)) (.returned u9) wr ∧ Below w.heap.size w wr) := Lib.hid ⟨⟨u9, rfl, hown, fun b e => Nat.le_trans HB.out.size (hV b e)⟩, HB.out.trans (hb.mono HB.out.size)⟩
      clear hown hV hb
      go_wp2
      go_returns
      exact HQ.out
end Go.Proofs.Ytgdbkoncaojmoaa
