import Derived.Test.YtaofdbboalcceaaLi
/- FlowHolds. -/
namespace Go.Proofs.Ytaofdbboalcceaa
open Go.RowKit Go.BigFrame

theorem first_le {f : Fn7} {M : List (List Vl)} (h : Ans f M) (hL : 0 < f.code.length) {r : Nat} (hr : r < f.R.toNat) : join (if (r : Int) < f.ps then av else ⟨1, 0⟩) (at_ (row M 0) r) = at_ (row M 0) r := by
  have h0 := h.holds.start r
  rw [ini_at hr] at h0
  have hw := (h.holds.shp.at_ hL).at_ r
  refine (le.join ?_ hw).2 h0
  split
  · exact Or.inr (Or.inr rfl)
  · exact Or.inr (Or.inl rfl)
set_option maxRecDepth 1000000 in
set_option maxHeartbeats 8000000 in
theorem holds_no (f : Fn7) (C : Option Addr) (cap : Nat) (hl9 : f.code.length ≤ 9223372036854775807) (w : World) (hC : RdI w C f.code) (hfo : ¬ Few f ∨ ¬ OkF f) :
    Calls Try.prog 5 #[funcAgg f.nm f.ps f.R f.Fr C f.code.length cap] w fun e w' => e = .returned (.bool true) ∧ Below w.heap.size w w' := by
  have hB0 := Below.one w (funcObj f.nm f.ps f.R f.Fr C f.code.length cap)
  have bx := heap_alloc_new w (funcObj f.nm f.ps f.R f.Fr C f.code.length cap)
  have hfw := few11_any f C cap hl9 _ (hC.below hB0)
  have HC1 := Lib.hid (hC.below hB0)
  have HAW := Lib.hid awake11_any
  obtain ⟨W0, hW0⟩ : ∃ W0, w.alloc (funcObj f.nm f.ps f.R f.Fr C f.code.length cap) = W0 := ⟨_, rfl⟩
  rw [hW0] at hB0 bx hfw HC1
  have hlt0 := (Array.getElem?_eq_some_iff.1 bx).1
  clear hC
  by_cases hfew : Few f
  case neg =>
    have hfw := hfw.mono fun e w' h => (⟨h.1.is_false hfew, h.2⟩ : e = .returned (.bool false) ∧ _)
    obtain ⟨L, hL⟩ : ∃ L, f.code.length = L := ⟨_, rfl⟩
    rw [hL] at bx hfw hW0 ⊢
    simp only [funcObj, funcAgg] at hB0 bx hfw hW0 ⊢
    clear hfew hfo hL
    have y0 := cell_of_heap bx 0 (.string f.nm) rfl
    have y1 := cell_of_heap bx 1 (.int .i64 f.ps) rfl
    have y2 := cell_of_heap bx 2 (.int .i64 f.R) rfl
    have y3 := cell_of_heap bx 3 (.int .i64 f.Fr) rfl
    have y4 := cell_of_heap bx 4 (.slice C L cap) rfl
    go_enter Try.func5, Try.ntmps5
    go_wp2_with (first
      | (go_at_call 21; refine hfw.mono ?_; rintro e w1 ⟨rfl, hb1⟩)
      | (go_at_call 19; refine (HAW.out _).mono ?_; rintro e w2 ⟨rfl, hb2⟩))
    go_returns
    exact ⟨rfl, (hB0.trans (hb1.mono hB0.size)).trans (hb2.mono (Nat.le_trans hB0.size hb1.size))⟩
  have hok : ¬ OkF f := hfo.resolve_left (fun h => h hfew)
  have hfw := hfw.mono fun e w' h => (⟨h.1.is_true hfew, h.2⟩ : e = .returned (.bool true) ∧ _)
  have hah := fun W h => ahead_no f hok C cap W h
  have hrf := fun W h => (refRightFunc_any f C cap W h).mono fun e w' h => (⟨h.1.is_false hok, h.2⟩ : e = .returned (.bool false) ∧ _)
  obtain ⟨L, hL⟩ : ∃ L, f.code.length = L := ⟨_, rfl⟩
  rw [hL] at bx hfw hW0 hah hrf ⊢
  simp only [funcObj, funcAgg] at hB0 bx hfw hW0 hah hrf ⊢
  have HRF := Lib.hid hrf
  have HAH := Lib.hid hah
  clear hfew hfo hok hL hrf hah
  have y0 := cell_of_heap bx 0 (.string f.nm) rfl
  have y1 := cell_of_heap bx 1 (.int .i64 f.ps) rfl
  have y2 := cell_of_heap bx 2 (.int .i64 f.R) rfl
  have y3 := cell_of_heap bx 3 (.int .i64 f.Fr) rfl
  have y4 := cell_of_heap bx 4 (.slice C L cap) rfl
  go_enter Try.func5, Try.ntmps5
  go_wp2_with fail
  refine hfw.mono ?_
  rintro e w1 ⟨rfl, hb1⟩
  have y0 := (hb1.cell (p := ⟨w.heap.size, 0, none⟩) hlt0).trans y0
  have y1 := (hb1.cell (p := ⟨w.heap.size, 1, none⟩) hlt0).trans y1
  have y2 := (hb1.cell (p := ⟨w.heap.size, 2, none⟩) hlt0).trans y2
  have y3 := (hb1.cell (p := ⟨w.heap.size, 3, none⟩) hlt0).trans y3
  have y4 := (hb1.cell (p := ⟨w.heap.size, 4, none⟩) hlt0).trans y4
  have hlt1 := Nat.lt_of_lt_of_le hlt0 hb1.size
  have hB1 := hB0.trans (hb1.mono hB0.size)
  have HC2 := Lib.hid (HC1.out.below hb1)
  go_wp2_with fail
  refine (HAH.out _ HC2.out).mono ?_
  rintro e w2 ⟨rfl, hb2⟩
  have y0 := (hb2.cell (p := ⟨w.heap.size, 0, none⟩) hlt1).trans y0
  have y1 := (hb2.cell (p := ⟨w.heap.size, 1, none⟩) hlt1).trans y1
  have y2 := (hb2.cell (p := ⟨w.heap.size, 2, none⟩) hlt1).trans y2
  have y3 := (hb2.cell (p := ⟨w.heap.size, 3, none⟩) hlt1).trans y3
  have y4 := (hb2.cell (p := ⟨w.heap.size, 4, none⟩) hlt1).trans y4
  have hB2 := hB1.trans (hb2.mono hB1.size)
  go_wp2_with fail
  refine (HRF.out _ (HC2.out.below hb2)).mono ?_
  rintro e w3 ⟨rfl, hb3⟩
  have hB3 := hB2.trans (hb3.mono hB2.size)
  go_wp2_with fail
  refine (HAW.out _).mono ?_
  rintro e w4 ⟨rfl, hb4⟩
  go_wp2_with fail
  go_returns
  exact ⟨rfl, hB3.trans (hb4.mono hB3.size)⟩
set_option maxRecDepth 1000000 in
set_option maxHeartbeats 16000000 in
theorem holds_yes (f : Fn7) (C : Option Addr) (cap : Nat) (hl9 : f.code.length ≤ 9223372036854775807) (w : World) (hC : RdI w C f.code) (hfew : Few f) (hok : OkF f) :
    Calls Try.prog 5 #[funcAgg f.nm f.ps f.R f.Fr C f.code.length cap] w fun e w' => e = .returned (.bool true) ∧ Below w.heap.size w w' := by
  obtain ⟨hL25, hR40, hR0, hsz⟩ := hfew.small hok
  have hB0 := Below.one w (funcObj f.nm f.ps f.R f.Fr C f.code.length cap)
  have bx := heap_alloc_new w (funcObj f.nm f.ps f.R f.Fr C f.code.length cap)
  have hfw := (few11_any f C cap hl9 _ (hC.below hB0)).mono fun e w' h => (⟨h.1.is_true hfew, h.2⟩ : e = .returned (.bool true) ∧ _)
  have hah := fun W h => ahead_yes f hok hsz C cap W h (fun W h => RightFunc_any f C cap W h)
  have hrf := fun W h => (refRightFunc_any f C cap W h).mono fun e w' h => (⟨h.1.is_true hok, h.2⟩ : e = .returned (.bool true) ∧ _)
  have HC1 := Lib.hid (hC.below hB0)
  have HAW := Lib.hid awake11_any
  have HOK := Lib.hid hok
  have hL1 := hok.len
  obtain ⟨W0, hW0⟩ : ∃ W0, w.alloc (funcObj f.nm f.ps f.R f.Fr C f.code.length cap) = W0 := ⟨_, rfl⟩
  rw [hW0] at hB0 bx hfw HC1
  have hlt0 := (Array.getElem?_eq_some_iff.1 bx).1
  obtain ⟨L, hL⟩ : ∃ L, f.code.length = L := ⟨_, rfl⟩
  obtain ⟨Rn, hRn⟩ : ∃ Rn : Nat, f.R = Rn := ⟨f.R.toNat, by omega⟩
  have hRt : f.R.toNat = Rn := by omega
  have HL := Lib.hid hL
  have HRN := Lib.hid hRn
  have HRT := Lib.hid hRt
  unfold AheadT at hah
  rw [hRt] at hah
  rw [hRn] at hR40
  rw [hL] at bx hfw hW0 hah hrf hL25 hl9 hL1 ⊢
  rw [hRn] at bx hfw hW0 hah hrf ⊢
  have HFI := Lib.hid (fun (M : List (List Vl)) (h : Ans f M) (r : Nat) (hr : r < Rn) => first_le h (by omega) (r := r) (by rw [hRt]; exact hr))
  simp only [funcObj, funcAgg] at hB0 bx hfw hW0 hah hrf ⊢
  have HRF := Lib.hid hrf
  have HAH := Lib.hid hah
  clear hfew hok hL hrf hah hC hsz hRn hRt hR0
  have y0 := cell_of_heap bx 0 (.string f.nm) rfl
  have y1 := cell_of_heap bx 1 (.int .i64 f.ps) rfl
  have y2 := cell_of_heap bx 2 (.int .i64 Rn) rfl
  have y3 := cell_of_heap bx 3 (.int .i64 f.Fr) rfl
  have y4 := cell_of_heap bx 4 (.slice C L cap) rfl
  go_enter Try.func5, Try.ntmps5
  go_wp2_with fail
  refine hfw.mono ?_
  rintro e w1 ⟨rfl, hb1⟩
  have y0 := (hb1.cell (p := ⟨w.heap.size, 0, none⟩) hlt0).trans y0
  have y1 := (hb1.cell (p := ⟨w.heap.size, 1, none⟩) hlt0).trans y1
  have y2 := (hb1.cell (p := ⟨w.heap.size, 2, none⟩) hlt0).trans y2
  have y3 := (hb1.cell (p := ⟨w.heap.size, 3, none⟩) hlt0).trans y3
  have y4 := (hb1.cell (p := ⟨w.heap.size, 4, none⟩) hlt0).trans y4
  have hlt1 := Nat.lt_of_lt_of_le hlt0 hb1.size
  have HC2 := Lib.hid (HC1.out.below hb1)
  have hB1 := hB0.trans (hb1.mono hB0.size)
  clear hb1 hfw hB0 hW0 bx HC1 hlt0
  go_wp2_with fail
  refine (HAH.out w1 HC2.out).mono ?_
  rintro e w2 ⟨⟨ob, M, rfl, hM, hRM, hob⟩, hb2⟩
  have HM := Lib.hid hM
  have HRM := Lib.hid hRM
  have y0 := (hb2.cell (p := ⟨w.heap.size, 0, none⟩) hlt1).trans y0
  have y1 := (hb2.cell (p := ⟨w.heap.size, 1, none⟩) hlt1).trans y1
  have y2 := (hb2.cell (p := ⟨w.heap.size, 2, none⟩) hlt1).trans y2
  have y3 := (hb2.cell (p := ⟨w.heap.size, 3, none⟩) hlt1).trans y3
  have y4 := (hb2.cell (p := ⟨w.heap.size, 4, none⟩) hlt1).trans y4
  have hlt2 := Nat.lt_of_lt_of_le hlt1 hb2.size
  have HC3 := Lib.hid (HC2.out.below hb2)
  have hB2 := hB1.trans (hb2.mono hB1.size)
  clear hM hRM hb2 HC2 hB1 hlt1
  go_wp2_with fail
  refine (HRF.out _ HC3.out).mono ?_
  rintro e w3 ⟨rfl, hb3⟩
  have y0 := (hb3.cell (p := ⟨w.heap.size, 0, none⟩) hlt2).trans y0
  have y1 := (hb3.cell (p := ⟨w.heap.size, 1, none⟩) hlt2).trans y1
  have y2 := (hb3.cell (p := ⟨w.heap.size, 2, none⟩) hlt2).trans y2
  have y3 := (hb3.cell (p := ⟨w.heap.size, 3, none⟩) hlt2).trans y3
  have y4 := (hb3.cell (p := ⟨w.heap.size, 4, none⟩) hlt2).trans y4
  have hlt3 := Nat.lt_of_lt_of_le hlt2 hb3.size
  have HC4 := Lib.hid (HC3.out.below hb3)
  have hB3 := hB2.trans (hb3.mono hB2.size)
  obtain ⟨pb, hpb⟩ := HRM.out
  have HROWS : Hid (∀ n : Nat, n < L → w3.cell? ⟨ob, n, none⟩ = some (.slice (some ⟨pb n, 0, none⟩) Rn Rn) ∧ PreV w3 (pb n) (row M n) ∧ (row M n).length = Rn) := Lib.hid fun n hn => by
    obtain ⟨h1, h2⟩ := hpb n (row M n) (row_in (by rw [HM.out.holds.shp.len, HL.out]; exact hn))
    exact ⟨(hb3.cell (p := ⟨ob, n, none⟩) hob).trans h1, Pre.later h2 hb3, by have := (HM.out.holds.shp.at_ (p := n) (by rw [HL.out]; exact hn)).1; rw [HRT.out] at this; exact this⟩
  clear hpb HRM hb3 hB2 hlt2 hob HC3
  go_wp2_with fail
  go_loopw [42] (fun ix wr => ∃ k : Nat, k ≤ Rn ∧ ix = .int .i64 k ∧ Below w3.heap.size w3 wr) (fun ix _ => Rn - (intOf ix).toNat)
  case atStart => exact ⟨0, by omega, rfl, Below.refl _ _⟩
  case round =>
    obtain ⟨k, hk, rfl, hbw⟩ := hrel
    by_cases hlt : k < Rn
    · obtain ⟨r1, r2, r3⟩ := HROWS.out 0 (by omega)
      have hx : (row M 0)[k]? = some (at_ (row M 0) k) := by rw [at_in (by rw [r3]; exact hlt)]; simp
      have hbv := fun (x : Vl) => hbw.alloc hbw.size x.obj
      have hwi := fun W => within_any _ _ (HFI.out M HM.out k hlt) W
      have hc1 := (hbw.cell (p := ⟨w.heap.size, 1, none⟩) hlt3).trans y1
      have hltr := Nat.lt_of_lt_of_le hlt3 hbw.size
      have hL0 : (0 : Int) < L := by omega
      by_cases hps : (k : Int) < f.ps
      · rw [if_pos hps] at hwi
        have q1 : decide ((k : Int) < f.ps) = true := by simpa using hps
        clear hps
        obtain ⟨c0, c1⟩ := PreV.cells (Pre.later r2 (hbv av)) hx
        have hd := ((hbv av).cell (p := ⟨ob, 0, none⟩) (World.block_lt_of_cell? w3 _ r1)).trans r1
        have kb := heap_alloc_new wr av.obj
        have hB5 := hbv av
        generalize at_ (row M 0) k = x at *
        obtain ⟨xk, xn⟩ := x
        have b0 := cell_of_heap kb 0 (.int .i64 2) rfl
        have b1 := cell_of_heap kb 1 (.int .i64 0) rfl
        simp only [Vl.agg, Vl.obj] at c0 c1 hwi b0 b1 hB5 hd
        clear hx r1 r2 r3 hbv kb
        go_upto_region 15 with fail
        generalize wr.alloc (.cells #[.int .i64 2, .int .i64 0] 28) = w5 at *
        have lc0 := fun s : Later w5 => Later.cell c0 s
        have lc1 := fun s : Later w5 => Later.cell c1 s
        have lb0 := fun s : Later w5 => Later.cell b0 s
        have lb1 := fun s : Later w5 => Later.cell b1 s
        have ld := fun s : Later w5 => Later.cell hd s
        refine wp_region_later (by kernel_rfl) (by kernel_rfl) ?_
        repeat (go_big_quiet_step ((go_at_call 24; exact Calls.later (hwi _))))
        refine wpQuiet_nil ?_
        rintro w7 ⟨s', rfl⟩
        have hB7 := hB5.trans (s'.h.mono hB5.size)
        clear lc0 lc1 lb0 lb1 ld c0 c1 b0 b1 hd hwi hc1
        generalize s'.w = w7 at *
        go_wp2
        exact ⟨⟨k + 1, by omega, by go_num, hB7⟩, by simp [intOf]; omega⟩
      · rw [if_neg hps] at hwi
        have q1 : decide ((k : Int) < f.ps) = false := by simpa using hps
        clear hps
        obtain ⟨c0, c1⟩ := PreV.cells (Pre.later r2 (hbv ⟨1, 0⟩)) hx
        have hd := ((hbv ⟨1, 0⟩).cell (p := ⟨ob, 0, none⟩) (World.block_lt_of_cell? w3 _ r1)).trans r1
        have kb := heap_alloc_new wr (Vl.obj ⟨1, 0⟩)
        have hB5 := hbv ⟨1, 0⟩
        generalize at_ (row M 0) k = x at *
        obtain ⟨xk, xn⟩ := x
        have b0 := cell_of_heap kb 0 (.int .i64 1) rfl
        have b1 := cell_of_heap kb 1 (.int .i64 0) rfl
        simp only [Vl.agg, Vl.obj] at c0 c1 hwi b0 b1 hB5 hd
        clear hx r1 r2 r3 hbv kb
        go_upto_region 15 with fail
        generalize wr.alloc (.cells #[.int .i64 1, .int .i64 0] 28) = w5 at *
        have lc0 := fun s : Later w5 => Later.cell c0 s
        have lc1 := fun s : Later w5 => Later.cell c1 s
        have lb0 := fun s : Later w5 => Later.cell b0 s
        have lb1 := fun s : Later w5 => Later.cell b1 s
        have ld := fun s : Later w5 => Later.cell hd s
        refine wp_region_later (by kernel_rfl) (by kernel_rfl) ?_
        repeat (go_big_quiet_step ((go_at_call 24; exact Calls.later (hwi _))))
        refine wpQuiet_nil ?_
        rintro w7 ⟨s', rfl⟩
        have hB7 := hB5.trans (s'.h.mono hB5.size)
        clear lc0 lc1 lb0 lb1 ld c0 c1 b0 b1 hd hwi hc1
        generalize s'.w = w7 at *
        go_wp2
        exact ⟨⟨k + 1, by omega, by go_num, hB7⟩, by simp [intOf]; omega⟩
    · obtain rfl : k = Rn := by omega
      have HC5 := Lib.hid (HC4.out.below hbw)
      have hc2 := (hbw.cell (p := ⟨w.heap.size, 2, none⟩) hlt3).trans y2
      have hc4 := (hbw.cell (p := ⟨w.heap.size, 4, none⟩) hlt3).trans y4
      have hB4 := hB3.trans (hbw.mono hB3.size)
      have HROWS2 : Hid (∀ n : Nat, n < L → wr.cell? ⟨ob, n, none⟩ = some (.slice (some ⟨pb n, 0, none⟩) k k) ∧ PreV wr (pb n) (row M n) ∧ (row M n).length = k) := Lib.hid fun n hn => by
        obtain ⟨h1, h2, h3⟩ := HROWS.out n hn
        exact ⟨(hbw.cell (p := ⟨ob, n, none⟩) (World.block_lt_of_cell? w3 _ h1)).trans h1, Pre.later h2 hbw, h3⟩
      clear hk hlt hbw hB3 HC4 HROWS
      go_wp2_with fail
      refine hold2_any f M HM.out HOK.out L k ob w.heap.size cap C HL.out HRT.out HRN.out hL25 (by omega) pb wr hc2 HC5.out HROWS2.out _ _ _ _ _ _ _ _ _ _ _ _ _ _ _ _ _ _ _ _ _ _ _ _ _ _ _ _ _ _ _ _ _ _ _ _ _ _ _ _ _ _ _ _ _ _ _ _ _ _ _ _ _ _ _ _ _ _ _ _ _ _ _ _ _ _ _ _ _ _ _ _ _ _ _ _ _ _ _ _ _ _ _ _ _ _ _ _ _ _ _ _ _ _ _ _ _ _ _ _ _ _ _ _ _ _ _ _ _ _ _ _ _ _ _ _ _ _ _ _ _ _ _ _ _ _ _ _ _ _ _ _ _ _ _ _ _ _ _ _ _ _ _ _ _ _ _ _ _ _ _ _ _ _ _ _ _ _ _ _ _ _ _ _ ?_
      intro y2 y7 y8 y9 y10 y12 y13 y14 y15 y16 y17 y18 y66 y67 y68 y69 y70 y71 y72 y73 y74 y75 y76 y77 y78 y79 y80 y81 y82 y83 y84 y85 y86 y87 y88 y89 y90 y91 y92 y93 y94 y95 y96 y97 y98 y99 y100 y101 y102 y103 y104 y105 y106 y107 y108 y109 y110 y111 y112 y113 y114 y115 y116 y117 y118 y119 y120 y121 y122 y123 y124 y125 y126 y127 y128 y129 y130 y131 y132 y133 y134 y135 y136 y137 y138 y139 y140 y141 y142 y143 y144 y145 y146 y147 y148 y149 y150 y151 y152 y153 y154 y155 y156 y157 y158 y159 y160 y161 y162 y163 y164 y165 y166 y167 w5 hb5
      have hB5 := hB4.trans (hb5.mono hB4.size)
      clear hc2 hc4 hb5
      go_wp2_with fail
      refine (HAW.out _).mono ?_
      rintro e w6 ⟨rfl, hb6⟩
      go_wp2_with fail
      go_returns
      exact ⟨rfl, hB5.trans (hb6.mono hB5.size)⟩
theorem holds_any (f : Fn7) (C : Option Addr) (cap : Nat) (hl9 : f.code.length ≤ 9223372036854775807) (w : World) (hC : RdI w C f.code) :
    Calls Try.prog 5 #[funcAgg f.nm f.ps f.R f.Fr C f.code.length cap] w fun e w' => e = .returned (.bool true) ∧ Below w.heap.size w w' := by
  by_cases h : ¬ Few f ∨ ¬ OkF f
  · exact holds_no f C cap hl9 w hC h
  · exact holds_yes f C cap hl9 w hC (Classical.byContradiction fun h' => h (Or.inl h')) (Classical.byContradiction fun h' => h (Or.inr h'))
end Go.Proofs.Ytaofdbboalcceaa
