import Derived.Test.YtaofdbboalcceaaVs
/- LiveDead: the walk, of a function that may be. -/
namespace Go.Proofs.Ytaofdbboalcceaa
open Go.RowKit Go.BigFrame

set_option maxRecDepth 1000000 in
set_option maxHeartbeats 16000000 in
theorem dead_good (f : Fn7) (hf : Few f) (hok : OkF f) (i : Ins) (C : Option Addr) (cap : Nat) (hl9 : f.code.length ≤ 9223372036854775807) (w : World) (hC : RdI w C f.code) :
    Calls Try.prog 10 #[funcAgg f.nm f.ps f.R f.Fr C f.code.length cap, i.agg] w fun e w' => e = .returned (.bool true) ∧ Below w.heap.size w w' := by
  obtain ⟨N, hN⟩ : ∃ N, f.code.length = N := ⟨_, rfl⟩
  have hN2 : N ≤ 8192 := by rw [← hN]; exact hok.len.2
  have hB := (Below.one w (funcObj f.nm f.ps f.R f.Fr C f.code.length cap)).alloc (by simp) i.obj
  have bx := alloc_keeps (heap_alloc_new w (funcObj f.nm f.ps f.R f.Fr C f.code.length cap)) i.obj
  have ix := heap_alloc_new (w.alloc (funcObj f.nm f.ps f.R f.Fr C f.code.length cap)) i.obj
  rw [show (w.alloc (funcObj f.nm f.ps f.R f.Fr C f.code.length cap)).heap.size = w.heap.size + 1 by simp] at ix
  have hC1 := hC.below hB
  have hF := few10_yes f hf C cap hl9 _ hC1
  have hD := fun W h => Dead_yes f hok C cap W h
  have hR := fun W h => refRight_yes f hok C cap W h
  have hBh := fun (m : Nat) (hm : m < f.code.length) r W h => refBehind_any f hok m hm r C cap W h
  have ha := fun W => awake10_any W
  have hp := fun W => Pure_any i W
  have hq := fun W => refPure_any i W
  rw [show deadL f.code = deadK f.code f.code.length from rfl] at hD
  rw [hN] at hB hF bx ix hC1 hD hR hBh ⊢
  obtain ⟨DL, hDL⟩ : ∃ DL, deadK f.code N = DL := ⟨_, rfl⟩
  rw [hDL] at hD
  have hDlen : DL.length ≤ N := by rw [← hDL]; exact deadK_len _ _
  obtain ⟨LD, hLD⟩ : ∃ LD, DL.length = LD := ⟨_, rfl⟩
  have hD2 : ∀ W, RdI W C f.code → Calls Try.prog 34 #[funcAgg f.nm f.ps f.R f.Fr C N cap] W fun e w' => (∃ A c, e = .returned (.slice A LD c) ∧ RdN w' A DL) ∧ Below W.heap.size W w' := fun W h => (hD W h).mono fun e w' ⟨⟨A, c, h1, h2⟩, h3⟩ => ⟨⟨A, c, by rw [h1, hLD], h2⟩, h3⟩
  obtain ⟨k, op, dst, a, b, n, text, r0, r1, r2, r3, r4, r5, to_, els⟩ := i
  obtain ⟨z, hz⟩ : ∃ z, pur ⟨k, op, dst, a, b, n, text, r0, r1, r2, r3, r4, r5, to_, els⟩ = z := ⟨_, rfl⟩
  rw [hz] at hp hq
  simp only [funcObj, funcAgg, Ins.agg] at hB hF bx ix hC1 hD2 hR hp hq hBh ⊢
  have HF := Lib.hid hF
  have HA := Lib.hid ha
  have HD := Lib.hid hD2
  have HR := Lib.hid hR
  have HP := Lib.hid hp
  have HQ := Lib.hid hq
  have HC1 := Lib.hid hC1
  have HBH := Lib.hid hBh
  have HN := Lib.hid hN
  have HDL := Lib.hid hDL
  have HLD := Lib.hid hLD
  have hLDN : LD ≤ N := by omega
  obtain ⟨W, hW⟩ : ∃ W, (w.alloc (.cells #[.string f.nm, .int .i64 f.ps, .int .i64 f.R, .int .i64 f.Fr, .slice C N cap] 24)).alloc (Ins.obj ⟨k, op, dst, a, b, n, text, r0, r1, r2, r3, r4, r5, to_, els⟩) = W := ⟨_, rfl⟩
  rw [hW] at bx ix HC1 HF
  have HB := Lib.hid (show Below w.heap.size w W by rw [← hW]; exact hB)
  have HBX := Lib.hid bx
  have HIX := Lib.hid ix
  have hBl := (Array.getElem?_eq_some_iff.1 bx).1
  have hIl := (Array.getElem?_eq_some_iff.1 ix).1
  have g0 := cell_of_heap bx 0 _ rfl
  have g1 := cell_of_heap bx 1 _ rfl
  have g2 := cell_of_heap bx 2 _ rfl
  have g3 := cell_of_heap bx 3 _ rfl
  have g4 := cell_of_heap bx 4 _ rfl
  simp only [Ins.obj] at hW
  clear hf hC hF ha hl9 hD hD2 hR hp hq hz hC1 bx ix hB hok hN hDL hLD hBh hDlen
  go_enter Try.func10, Try.ntmps10
  go_wp2_with (first
    | (refine HF.out.mono ?_; rintro e w3 ⟨rfl, hb3⟩; have hx3 := (hb3.block _ hBl).trans HBX.out; have h0 := cell_of_heap hx3 0 _ rfl; have h1 := cell_of_heap hx3 1 _ rfl; have h2 := cell_of_heap hx3 2 _ rfl; have h3 := cell_of_heap hx3 3 _ rfl; have h4 := cell_of_heap hx3 4 _ rfl; clear hx3)
    | (refine (HD.out _ (HC1.out.below hb3)).mono ?_; rintro e w4 ⟨⟨A4, c4, rfl, hrd4⟩, hb4⟩; have HRD := Lib.hid hrd4; clear hrd4))
  have hb14 := hb3.trans (hb4.mono hb3.size)
  have hI4 := (hb14.block _ hIl).trans HIX.out
  have ⟨d0, d1, d2, d3, d4, d5, d6, d7, d8, d9, d10, d11, d12, d13, d14⟩ := Ins.cells (i := ⟨k, op, dst, a, b, n, text, r0, r1, r2, r3, r4, r5, to_, els⟩) hI4
  simp only at d0 d1 d2 d3 d4 d5 d6 d7 d8 d9 d10 d11 d12 d13 d14
  have lc := fun s : Later w4 => And.intro (Later.cell d0 s) (And.intro (Later.cell d1 s) (And.intro (Later.cell d2 s) (And.intro (Later.cell d3 s) (And.intro (Later.cell d4 s) (And.intro (Later.cell d5 s) (And.intro (Later.cell d6 s) (And.intro (Later.cell d7 s) (And.intro (Later.cell d8 s) (And.intro (Later.cell d9 s) (And.intro (Later.cell d10 s) (And.intro (Later.cell d11 s) (And.intro (Later.cell d12 s) (And.intro (Later.cell d13 s) (Later.cell d14 s))))))))))))))
  clear h0 h1 h2 h3 h4 g0 g1 g2 g3 g4 hI4 hW
  refine wp_region_later (by kernel_rfl) (by kernel_rfl) ?_
  repeat (go_big_quiet_step ((first | (go_at_call 35; exact Calls.later (HP.out _)) | (go_at_call 36; exact Calls.later (HQ.out _)))))
  refine wpQuiet_nil ?_
  rintro w5 ⟨s', rfl⟩
  have hb5 := hb14.trans (s'.h.mono hb14.size)
  have hrd5 := HRD.out.below s'.h
  have hx5 := (hb5.block _ hBl).trans HBX.out
  have h0 := cell_of_heap hx5 0 _ rfl
  have h1 := cell_of_heap hx5 1 _ rfl
  have h2 := cell_of_heap hx5 2 _ rfl
  have h3 := cell_of_heap hx5 3 _ rfl
  have h4 := cell_of_heap hx5 4 _ rfl
  have HB5 := Lib.hid hb5
  clear lc d0 d1 d2 d3 d4 d5 d6 d7 d8 d9 d10 d11 d12 d13 d14 hb3 hb4 hb14 hx5
  generalize s'.w = w5 at *
  have HRD5 := Lib.hid hrd5
  clear hrd5 HRD
  have hpre : ∀ w6, Below w5.heap.size w5 w6 → Below W.heap.size W w6 := fun w6 h6 => HB5.out.trans (h6.mono HB5.out.size)
  clear hb5
  have HPRE := Lib.hid hpre
  clear hpre
  cases z
  all_goals
    go_wp2_with (first
      | (refine (HR.out _ (HC1.out.below HB5.out)).mono ?_; rintro e w6 ⟨rfl, hb6⟩; have hx6 := ((HPRE.out _ hb6).block _ hBl).trans HBX.out; have h0 := cell_of_heap hx6 0 _ rfl; have h1 := cell_of_heap hx6 1 _ rfl; have h2 := cell_of_heap hx6 2 _ rfl; have h3 := cell_of_heap hx6 3 _ rfl; have h4 := cell_of_heap hx6 4 _ rfl; clear hx6))
    have HB6 := Lib.hid (HPRE.out _ hb6)
    have HRD6 := Lib.hid (HRD5.out.below hb6)
    have h0w := Lib.hid (show OwnN w6 (.slice none 0 0) (deadK f.code 0) from OwnN.nil _)
    clear h0 h1 h2 h3 h4 hb6
    go_loopw [6, 32] (fun V ix wr => ∃ k : Nat, k ≤ N ∧ ix = .int .i64 k ∧ OwnN wr V (deadK f.code k) ∧ (∀ x, V.ownBlock = some x → w6.heap.size ≤ x) ∧ Below w6.heap.size w6 wr) (fun _ ix _ => N - (intOf ix).toNat)
    case atStart => exact ⟨0, by omega, rfl, h0w.out, (fun x hx => by simp [Value.ownBlock] at hx), Below.refl _ _⟩
    case round =>
      obtain ⟨j, hj, rfl, hown, hV, hb⟩ := hrel
      clear h0w
      have hWr := HB6.out.trans (hb.mono HB6.out.size)
      have hx4 : wr.heap[w.heap.size]? = _ := (hWr.block _ hBl).trans HBX.out
      by_cases hlt : j < N
      · obtain ⟨i, hi⟩ : ∃ i, f.code[j]? = some i := ⟨_, List.getElem?_eq_getElem (by rw [HN.out]; exact hlt)⟩
        have hrI := HC1.out.below hWr
        obtain ⟨bb, oo, rfl, hbl, hcs⟩ := hrI j i hi
        obtain ⟨x0, x1, x2, x3, x4, x5, x6, x7, x8, x9, x10, x11, x12, x13, x14⟩ := RdI.load hcs
        have g0 := cell_of_heap hx4 0 _ rfl
        have g1 := cell_of_heap hx4 1 _ rfl
        have g2 := cell_of_heap hx4 2 _ rfl
        have g3 := cell_of_heap hx4 3 _ rfl
        have g4 := cell_of_heap hx4 4 _ rfl
        have hbl2 := (Array.getElem?_eq_some_iff.1 hx4).1
        have hd := deadB_iff hi
        have kx := heap_alloc_new wr i.obj
        have hpa := fun W => refPure_any i W
        have hbe := fun W h => HBH.out j hlt i.dst W h
        obtain ⟨kk, op', dst', a', b', n', text', q0, q1, q2, q3, q4, q5, to', els'⟩ := i
        have ⟨d0, d1, d2, d3, d4, d5, d6, d7, d8, d9, d10, d11, d12, d13, d14⟩ := Ins.cells (i := ⟨kk, op', dst', a', b', n', text', q0, q1, q2, q3, q4, q5, to', els'⟩) kx
        simp only [Ins.agg] at x0 x1 x2 x3 x4 x5 x6 x7 x8 x9 x10 x11 x12 x13 x14 d0 d1 d2 d3 d4 d5 d6 d7 d8 d9 d10 d11 d12 d13 d14 hd hpa hbe
        obtain ⟨z, hz⟩ : ∃ z, pur ⟨kk, op', dst', a', b', n', text', q0, q1, q2, q3, q4, q5, to', els'⟩ = z := ⟨_, rfl⟩
        obtain ⟨y, hy⟩ : ∃ y, tb (Bh f.code j dst') = y := ⟨_, rfl⟩
        have hyb : y = true ↔ Bh f.code j dst' := by rw [← hy, tb_true]
        rw [hz] at hd hpa
        rw [hy] at hbe
        rw [← hyb] at hd
        have HPA := Lib.hid hpa
        have HBE := Lib.hid hbe
        have HDD := Lib.hid hd
        have HOWN := Lib.hid hown
        have HV := Lib.hid hV
        have HBB := Lib.hid hb
        have HWR := Lib.hid hWr
        have HRI := Lib.hid hrI
        have HX4 := Lib.hid hx4
        have hw6r := hb.size
        have HKX := Lib.hid kx
        have HDLE := Lib.hid (deadK_len f.code j)
        clear hpa hbe hd hown hV hb hi hcs hz hy hyb kx hx4 hWr hrI
        have HSK : Hid ((z = false ∨ y = true) → ∀ w8, Below wr.heap.size wr w8 → ∃ k' : Nat, k' ≤ N ∧ Value.int IntKind.i64 ((j : Int) + 1) = .int .i64 k' ∧ OwnN w8 u6 (deadK f.code k') ∧ (∀ x, u6.ownBlock = some x → w6.heap.size ≤ x) ∧ Below w6.heap.size w6 w8) := Lib.hid fun hzy w8 h8 => ⟨j + 1, by omega, by go_num, by
          rw [deadK_succ, if_neg]
          · exact HOWN.out.later h8
          · intro h
            have := HDD.out.1 h
            rcases hzy with rfl | rfl
            · cases this.1
            · exact this.2 rfl, HV.out, HBB.out.trans (h8.mono hw6r)⟩
        cases z with
        | false =>
          go_wp2_with (first
            | (refine (HPA.out _).mono ?_; rintro e w7 ⟨rfl, hb7⟩))
          exact ⟨HSK.out (Or.inl (by simp)) _ ((Below.one wr _).trans (hb7.mono (by simp))), by simp [intOf]; omega⟩
        | true =>
          cases y with
          | true =>
            go_wp2_with (first
              | (refine (HPA.out _).mono ?_; rintro e w7 ⟨rfl, hb7⟩; have hk7 := (hb7.block _ (Array.getElem?_eq_some_iff.1 HKX.out).1).trans HKX.out; have ⟨d0, d1, d2, d3, d4, d5, d6, d7, d8, d9, d10, d11, d12, d13, d14⟩ := Ins.cells (i := ⟨kk, op', dst', a', b', n', text', q0, q1, q2, q3, q4, q5, to', els'⟩) hk7; simp only at d0 d1 d2 d3 d4 d5 d6 d7 d8 d9 d10 d11 d12 d13 d14; have HW7 := Lib.hid ((Below.one wr _).trans (hb7.mono (by simp))); have hx7 := (HW7.out.block _ hbl2).trans HX4.out; have g0 := cell_of_heap hx7 0 _ rfl; have g1 := cell_of_heap hx7 1 _ rfl; have g2 := cell_of_heap hx7 2 _ rfl; have g3 := cell_of_heap hx7 3 _ rfl; have g4 := cell_of_heap hx7 4 _ rfl; clear hk7 hb7 hx7)
              | (refine (HBE.out _ (HRI.out.below HW7.out)).mono ?_; rintro e w8 ⟨rfl, hb8⟩))
            exact ⟨HSK.out (Or.inr (by simp)) _ (HW7.out.trans (hb8.mono HW7.out.size)), by simp [intOf]; omega⟩
          | false =>
            go_wp2_with (first
              | (refine (HPA.out _).mono ?_; rintro e w7 ⟨rfl, hb7⟩; have hk7 := (hb7.block _ (Array.getElem?_eq_some_iff.1 HKX.out).1).trans HKX.out; have ⟨d0, d1, d2, d3, d4, d5, d6, d7, d8, d9, d10, d11, d12, d13, d14⟩ := Ins.cells (i := ⟨kk, op', dst', a', b', n', text', q0, q1, q2, q3, q4, q5, to', els'⟩) hk7; simp only at d0 d1 d2 d3 d4 d5 d6 d7 d8 d9 d10 d11 d12 d13 d14; have HW7 := Lib.hid ((Below.one wr _).trans (hb7.mono (by simp))); have hx7 := (HW7.out.block _ hbl2).trans HX4.out; have g0 := cell_of_heap hx7 0 _ rfl; have g1 := cell_of_heap hx7 1 _ rfl; have g2 := cell_of_heap hx7 2 _ rfl; have g3 := cell_of_heap hx7 3 _ rfl; have g4 := cell_of_heap hx7 4 _ rfl; clear hk7 hb7 hx7)
              | (refine (HBE.out _ (HRI.out.below HW7.out)).mono ?_; rintro e w8 ⟨rfl, hb8⟩; have HW8 := Lib.hid (HW7.out.trans (hb8.mono HW7.out.size)); clear hb8)
              | (at_builtin; refine append_one rfl (.tmp 47) (.tmp 49) rfl u6 (deadK f.code j) rfl ((HOWN.out.later HW8.out).alloc _) w8.heap.size j rfl (heap_alloc_new _ _) (by have := HDLE.out; omega) ?_; intro V' w9 ho9 hg9 hb9))
            refine ⟨⟨j + 1, by omega, by go_num, ?_, fun x hx => ?_, ?_⟩, by simp [intOf]; omega⟩
            · rw [deadK_succ, if_pos (HDD.out.2 (by simp))]
              exact ho9
            · have hs := HW8.out.size
              rcases hb9 with e | e
              · rw [e] at hx; exact HV.out x hx
              · rw [e] at hx; injection hx with hx; simp at hx; omega
            · have hs := HW8.out.size
              exact Below.grown ((HBB.out.trans (HW8.out.mono hw6r)).alloc (by omega) _) hg9 (by simp; omega) (fun x hx => HV.out x hx)
      · obtain rfl : j = N := by omega
        have hown2 := hown
        rw [HDL.out] at hown2
        obtain ⟨A8, c8, hVf, _, hrd8⟩ := hown2.form
        rw [HLD.out] at hVf
        have hsm := same_self A4 A8 DL c4 c8 wr (HRD6.out.below hb) hrd8 (by rw [HLD.out]; omega)
        rw [HLD.out] at hsm
        have HSM := Lib.hid hsm
        have HWR := Lib.hid hWr
        subst hVf
        clear hown hown2 hV hb hrd8 hsm hWr hx4
        go_wp2_with (first
          | (refine HSM.out.mono ?_; rintro e w8 ⟨rfl, hb8⟩)
          | (refine (HA.out _).mono ?_; rintro e w9 ⟨rfl, hb9⟩))
        go_returns
        exact ⟨rfl, HB.out.trans (((HWR.out.trans (hb8.mono HWR.out.size)).trans (hb9.mono (Nat.le_trans HWR.out.size hb8.size))).mono HB.out.size)⟩
theorem LiveDead_any (f : Fn7) (i : Ins) (C : Option Addr) (cap : Nat) (hl9 : f.code.length ≤ 9223372036854775807) (w : World) (hC : RdI w C f.code) :
    Calls Try.prog 10 #[funcAgg f.nm f.ps f.R f.Fr C f.code.length cap, i.agg] w fun e w' => e = .returned (.bool true) ∧ Below w.heap.size w w' := by
  by_cases hf : Few f
  · by_cases hok : OkF f
    · exact dead_good f hf hok i C cap hl9 w hC
    · exact dead_bad f hf hok i C cap hl9 w hC
  · exact dead_few f hf i C cap hl9 w hC
end Go.Proofs.Ytaofdbboalcceaa
