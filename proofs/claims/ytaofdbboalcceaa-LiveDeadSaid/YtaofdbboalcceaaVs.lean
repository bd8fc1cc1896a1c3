import Derived.Test.YtaofdbboalcceaaVr
/- LiveDead: the walk. -/
namespace Go.Proofs.Ytaofdbboalcceaa
open Go.RowKit Go.BigFrame

set_option maxRecDepth 1000000 in
set_option maxHeartbeats 8000000 in
theorem dead_few (f : Fn7) (hf : ¬ Few f) (i : Ins) (C : Option Addr) (cap : Nat) (hl9 : f.code.length ≤ 9223372036854775807) (w : World) (hC : RdI w C f.code) :
    Calls Try.prog 10 #[funcAgg f.nm f.ps f.R f.Fr C f.code.length cap, i.agg] w fun e w' => e = .returned (.bool true) ∧ Below w.heap.size w w' := by
  have hB := (Below.one w (funcObj f.nm f.ps f.R f.Fr C f.code.length cap)).alloc (by simp) i.obj
  have hF := few10_no f hf C cap hl9 _ (hC.below hB)
  have ha := fun W => awake10_any W
  obtain ⟨k, op, dst, a, b, n, text, r0, r1, r2, r3, r4, r5, to_, els⟩ := i
  simp only [funcObj, funcAgg, Ins.agg, Ins.obj] at hB hF ⊢
  have HF := Lib.hid hF
  have HA := Lib.hid ha
  clear hf hC hF ha hl9
  go_enter Try.func10, Try.ntmps10
  go_wp2_with (first
    | (refine HF.out.mono ?_; rintro e w3 ⟨rfl, hb3⟩)
    | (refine (HA.out _).mono ?_; rintro e w4 ⟨rfl, hb4⟩))
  go_returns
  exact ⟨rfl, hB.trans ((hb3.trans (hb4.mono hb3.size)).mono hB.size)⟩
set_option maxRecDepth 1000000 in
set_option maxHeartbeats 8000000 in
theorem dead_bad (f : Fn7) (hf : Few f) (hno : ¬ OkF f) (i : Ins) (C : Option Addr) (cap : Nat) (hl9 : f.code.length ≤ 9223372036854775807) (w : World) (hC : RdI w C f.code) :
    Calls Try.prog 10 #[funcAgg f.nm f.ps f.R f.Fr C f.code.length cap, i.agg] w fun e w' => e = .returned (.bool true) ∧ Below w.heap.size w w' := by
  have hB := (Below.one w (funcObj f.nm f.ps f.R f.Fr C f.code.length cap)).alloc (by simp) i.obj
  have bx := alloc_keeps (heap_alloc_new w (funcObj f.nm f.ps f.R f.Fr C f.code.length cap)) i.obj
  have ix := heap_alloc_new (w.alloc (funcObj f.nm f.ps f.R f.Fr C f.code.length cap)) i.obj
  rw [show (w.alloc (funcObj f.nm f.ps f.R f.Fr C f.code.length cap)).heap.size = w.heap.size + 1 by simp] at ix
  have hC1 := hC.below hB
  have hF := few10_yes f hf C cap hl9 _ hC1
  have hD := fun W h => Dead_no f hno C cap W h
  have hR := fun W h => refRight_no f hno C cap W h
  have ha := fun W => awake10_any W
  have hp := fun W => Pure_any i W
  have hq := fun W => refPure_any i W
  obtain ⟨k, op, dst, a, b, n, text, r0, r1, r2, r3, r4, r5, to_, els⟩ := i
  obtain ⟨z, hz⟩ : ∃ z, pur ⟨k, op, dst, a, b, n, text, r0, r1, r2, r3, r4, r5, to_, els⟩ = z := ⟨_, rfl⟩
  rw [hz] at hp hq
  simp only [funcObj, funcAgg, Ins.agg] at hB hF bx ix hC1 hD hR hp hq ⊢
  have HF := Lib.hid hF
  have HA := Lib.hid ha
  have HD := Lib.hid hD
  have HR := Lib.hid hR
  have HP := Lib.hid hp
  have HQ := Lib.hid hq
  have HC1 := Lib.hid hC1
  obtain ⟨W, hW⟩ : ∃ W, (w.alloc (.cells #[.string f.nm, .int .i64 f.ps, .int .i64 f.R, .int .i64 f.Fr, .slice C f.code.length cap] 24)).alloc (Ins.obj ⟨k, op, dst, a, b, n, text, r0, r1, r2, r3, r4, r5, to_, els⟩) = W := ⟨_, rfl⟩
  rw [hW] at bx ix HC1 HF
  have HB := Lib.hid (show Below w.heap.size w W by rw [← hW]; exact hB)
  have HBX := Lib.hid bx
  have HIX := Lib.hid ix
  have hBl := (Array.getElem?_eq_some_iff.1 bx).1
  have hIl := (Array.getElem?_eq_some_iff.1 ix).1
  have g0 := cell_of_heap bx 0 _ rfl
  have g1 := cell_of_heap bx 1 _ rfl
  have g2 := cell_of_heap bx 2 _ rfl
  have g3 := cell_of_heap bx 3 _ rfl
  have g4 := cell_of_heap bx 4 _ rfl
  simp only [Ins.obj] at hW
  clear hf hC hF ha hl9 hD hR hp hq hz hC1 bx ix hB hno
  go_enter Try.func10, Try.ntmps10
  go_wp2_with (first
    | (refine HF.out.mono ?_; rintro e w3 ⟨rfl, hb3⟩; have hx3 := (hb3.block _ hBl).trans HBX.out; have h0 := cell_of_heap hx3 0 _ rfl; have h1 := cell_of_heap hx3 1 _ rfl; have h2 := cell_of_heap hx3 2 _ rfl; have h3 := cell_of_heap hx3 3 _ rfl; have h4 := cell_of_heap hx3 4 _ rfl; clear hx3)
    | (refine (HD.out _ (HC1.out.below hb3)).mono ?_; rintro e w4 ⟨rfl, hb4⟩))
  have hb14 := hb3.trans (hb4.mono hb3.size)
  have hI4 := (hb14.block _ hIl).trans HIX.out
  have ⟨d0, d1, d2, d3, d4, d5, d6, d7, d8, d9, d10, d11, d12, d13, d14⟩ := Ins.cells (i := ⟨k, op, dst, a, b, n, text, r0, r1, r2, r3, r4, r5, to_, els⟩) hI4
  simp only at d0 d1 d2 d3 d4 d5 d6 d7 d8 d9 d10 d11 d12 d13 d14
  have lc := fun s : Later w4 => And.intro (Later.cell d0 s) (And.intro (Later.cell d1 s) (And.intro (Later.cell d2 s) (And.intro (Later.cell d3 s) (And.intro (Later.cell d4 s) (And.intro (Later.cell d5 s) (And.intro (Later.cell d6 s) (And.intro (Later.cell d7 s) (And.intro (Later.cell d8 s) (And.intro (Later.cell d9 s) (And.intro (Later.cell d10 s) (And.intro (Later.cell d11 s) (And.intro (Later.cell d12 s) (And.intro (Later.cell d13 s) (Later.cell d14 s))))))))))))))
  clear h0 h1 h2 h3 h4 g0 g1 g2 g3 g4 hI4 hW
  refine wp_region_later (by kernel_rfl) (by kernel_rfl) ?_
  repeat (go_big_quiet_step ((first | (go_at_call 35; exact Calls.later (HP.out _)) | (go_at_call 36; exact Calls.later (HQ.out _)))))
  refine wpQuiet_nil ?_
  rintro w5 ⟨s', rfl⟩
  have hb5 := hb14.trans (s'.h.mono hb14.size)
  have hx5 := (hb5.block _ hBl).trans HBX.out
  have h0 := cell_of_heap hx5 0 _ rfl
  have h1 := cell_of_heap hx5 1 _ rfl
  have h2 := cell_of_heap hx5 2 _ rfl
  have h3 := cell_of_heap hx5 3 _ rfl
  have h4 := cell_of_heap hx5 4 _ rfl
  clear lc d0 d1 d2 d3 d4 d5 d6 d7 d8 d9 d10 d11 d12 d13 d14 hb3 hb4 hb14 hx5
  generalize s'.w = w5 at *
  cases z
  all_goals
    go_wp2_with (first
      | (refine (HR.out _ (HC1.out.below hb5)).mono ?_; rintro e w6 ⟨rfl, hb6⟩)
      | (refine (HA.out _).mono ?_; rintro e w7 ⟨rfl, hb7⟩))
    go_returns
    exact ⟨rfl, HB.out.trans (((hb5.trans (hb6.mono hb5.size)).trans (hb7.mono (Nat.le_trans hb5.size hb6.size))).mono HB.out.size)⟩
end Go.Proofs.Ytaofdbboalcceaa
