import Derived.Test.YtaofdbboalcceaaLk
import Derived.Test.YtaofdbboalcceaaLd
/- FlowFolds. -/
namespace Go.Proofs.Ytaofdbboalcceaa
open Go.RowKit Go.BigFrame

theorem refright_fold (f : Fn7) (M : List (List Vl)) (L nb : Nat) (hL : f.code.length = L) (hok : OkF f) (hA : Ans f M) (W : World) (hP : PreI W nb (foldL f M)) :
    Calls Try.prog 23 #[.agg #[.string f.nm, .int .i64 f.ps, .int .i64 f.R, .int .i64 f.Fr, .slice (some ⟨nb, 0, none⟩) L L]] W fun e w' => e = .returned (.bool true) ∧ Below W.heap.size W w' := by
  have hl : (foldF f M).code.length = L := by rw [← hL]; exact foldL_len f M
  have h := refRightFunc_any (foldF f M) (some ⟨nb, 0, none⟩) L W (PreI.read hP)
  rw [hl] at h
  exact h.mono fun e w' h => ⟨h.1.is_true (foldF_okf hok hA), h.2⟩
/-- folded again: the same code, nothing changed -/
def AgainT (f : Fn7) (M : List (List Vl)) (L : Nat) (e : Ending) (w : World) : Prop := ∃ nb, e = .returned (.tuple #[.agg #[.string f.nm, .int .i64 f.ps, .int .i64 f.R, .int .i64 f.Fr, .slice (some ⟨nb, 0, none⟩) L L], .int .i64 0]) ∧ PreI w nb (foldL f M)
theorem fold_again (f : Fn7) (M : List (List Vl)) (L nb : Nat) (hL : f.code.length = L) (hok : OkF f) (hA : Ans f M) (hsz : f.code.length * (f.R.toNat + 1) ≤ 65536) (W : World) (hP : PreI W nb (foldL f M)) :
    Calls Try.prog 30 #[.agg #[.string f.nm, .int .i64 f.ps, .int .i64 f.R, .int .i64 f.Fr, .slice (some ⟨nb, 0, none⟩) L L]] W fun e w' => AgainT f M L e w' ∧ Below W.heap.size W w' := by
  have hl : (foldF f M).code.length = L := by rw [← hL]; exact foldL_len f M
  have hgo := foldF_okf hok hA
  have h := fold_yes (foldF f M) hgo (by rw [hl, ← hL]; exact hsz) (some ⟨nb, 0, none⟩) L W (PreI.read hP)
  unfold FoldT at h
  rw [hl] at h
  refine h.mono fun e w' ⟨⟨nb', M', hA', he, _, hP'⟩, hb⟩ => ⟨⟨nb', ?_, ?_⟩, hb⟩
  · obtain rfl := hA'.unique (foldF_ans hok hA)
    rw [he, foldN_twice f M' L (by omega)]
    rfl
  · obtain rfl := hA'.unique (foldF_ans hok hA)
    rw [foldL_twice] at hP'
    exact hP'
theorem same_fold (f : Fn7) (M : List (List Vl)) (L nb nb' : Nat) (hL : f.code.length = L) (h9 : L ≤ 9223372036854775807) (W : World) (hP : PreI W nb (foldL f M)) (hP' : PreI W nb' (foldL f M)) :
    Calls Try.prog 31 #[.agg #[.string f.nm, .int .i64 f.ps, .int .i64 f.R, .int .i64 f.Fr, .slice (some ⟨nb, 0, none⟩) L L], .agg #[.string f.nm, .int .i64 f.ps, .int .i64 f.R, .int .i64 f.Fr, .slice (some ⟨nb', 0, none⟩) L L]] W fun e w' => e = .returned (.bool true) ∧ Below W.heap.size W w' := by
  have hl : (foldF f M).code.length = L := by rw [← hL]; exact foldL_len f M
  have h := Same_any (foldF f M) (foldF f M) (some ⟨nb, 0, none⟩) (some ⟨nb', 0, none⟩) L L (by rw [hl]; exact h9) (by rw [hl]; exact h9) W (PreI.read hP) (PreI.read hP')
  rw [hl] at h
  exact h.mono fun e w' h => ⟨h.1.is_true rfl, h.2⟩
theorem foldI_kind {i : Ins} {p : Nat} {v : List Vl} (h : foldI i p v ≠ i) : (foldI i p v).kind = 1 ∨ (foldI i p v).kind = 11 := by
  rcases foldI_cases i p v with e | ⟨_, _, _, e⟩ | ⟨_, n, _, e⟩
  · exact absurd e h
  · rw [e]; exact Or.inl rfl
  · rw [e]; exact Or.inr rfl
set_option maxRecDepth 1000000 in
set_option maxHeartbeats 8000000 in
theorem folds_no (f : Fn7) (C : Option Addr) (cap : Nat) (hl9 : f.code.length ≤ 9223372036854775807) (w : World) (hC : RdI w C f.code) (hfo : ¬ Few f ∨ ¬ OkF f) :
    Calls Try.prog 9 #[funcAgg f.nm f.ps f.R f.Fr C f.code.length cap] w fun e w' => e = .returned (.bool true) ∧ Below w.heap.size w w' := by
  have hB0 := Below.one w (funcObj f.nm f.ps f.R f.Fr C f.code.length cap)
  have bx := heap_alloc_new w (funcObj f.nm f.ps f.R f.Fr C f.code.length cap)
  have hfw := few11_any f C cap hl9 _ (hC.below hB0)
  have HC1 := Lib.hid (hC.below hB0)
  have HAW := Lib.hid awake11_any
  obtain ⟨W0, hW0⟩ : ∃ W0, w.alloc (funcObj f.nm f.ps f.R f.Fr C f.code.length cap) = W0 := ⟨_, rfl⟩
  rw [hW0] at hB0 bx hfw HC1
  have hlt0 := (Array.getElem?_eq_some_iff.1 bx).1
  clear hC
  by_cases hfew : Few f
  case neg =>
    have hfw := hfw.mono fun e w' h => (⟨h.1.is_false hfew, h.2⟩ : e = .returned (.bool false) ∧ _)
    obtain ⟨L, hL⟩ : ∃ L, f.code.length = L := ⟨_, rfl⟩
    rw [hL] at bx hfw hW0 ⊢
    simp only [funcObj, funcAgg] at hB0 bx hfw hW0 ⊢
    clear hfew hfo hL
    have y0 := cell_of_heap bx 0 (.string f.nm) rfl
    have y1 := cell_of_heap bx 1 (.int .i64 f.ps) rfl
    have y2 := cell_of_heap bx 2 (.int .i64 f.R) rfl
    have y3 := cell_of_heap bx 3 (.int .i64 f.Fr) rfl
    have y4 := cell_of_heap bx 4 (.slice C L cap) rfl
    go_enter Try.func9, Try.ntmps9
    go_wp2_with (first
      | (go_at_call 21; refine hfw.mono ?_; rintro e w1 ⟨rfl, hb1⟩)
      | (go_at_call 19; refine (HAW.out _).mono ?_; rintro e w2 ⟨rfl, hb2⟩))
    go_returns
    exact ⟨rfl, (hB0.trans (hb1.mono hB0.size)).trans (hb2.mono (Nat.le_trans hB0.size hb1.size))⟩
  have hok : ¬ OkF f := hfo.resolve_left (fun h => h hfew)
  have hfw := hfw.mono fun e w' h => (⟨h.1.is_true hfew, h.2⟩ : e = .returned (.bool true) ∧ _)
  have hfl := fun W h => fold_no f hok C cap W h
  have hrf := fun W h => (refRightFunc_any f C cap W h).mono fun e w' h => (⟨h.1.is_false hok, h.2⟩ : e = .returned (.bool false) ∧ _)
  have hsm := fun W h => (Same_any f f C C cap cap hl9 hl9 W h h).mono fun e w' h => (⟨h.1.is_true rfl, h.2⟩ : e = .returned (.bool true) ∧ _)
  obtain ⟨L, hL⟩ : ∃ L, f.code.length = L := ⟨_, rfl⟩
  rw [hL] at bx hfw hW0 hfl hrf hsm ⊢
  simp only [funcObj, funcAgg] at hB0 bx hfw hW0 hfl hrf hsm ⊢
  have HRF := Lib.hid hrf
  have HFL := Lib.hid hfl
  have HSM := Lib.hid hsm
  clear hfew hfo hok hL hrf hfl hsm
  have y0 := cell_of_heap bx 0 (.string f.nm) rfl
  have y1 := cell_of_heap bx 1 (.int .i64 f.ps) rfl
  have y2 := cell_of_heap bx 2 (.int .i64 f.R) rfl
  have y3 := cell_of_heap bx 3 (.int .i64 f.Fr) rfl
  have y4 := cell_of_heap bx 4 (.slice C L cap) rfl
  go_enter Try.func9, Try.ntmps9
  go_wp2_with (first
    | (go_at_call 21; refine hfw.mono ?_; rintro e w1 ⟨rfl, hb1⟩; have y0 := (hb1.cell (p := ⟨w.heap.size, 0, none⟩) hlt0).trans y0; have y1 := (hb1.cell (p := ⟨w.heap.size, 1, none⟩) hlt0).trans y1; have y2 := (hb1.cell (p := ⟨w.heap.size, 2, none⟩) hlt0).trans y2; have y3 := (hb1.cell (p := ⟨w.heap.size, 3, none⟩) hlt0).trans y3; have y4 := (hb1.cell (p := ⟨w.heap.size, 4, none⟩) hlt0).trans y4; have hlt1 := Nat.lt_of_lt_of_le hlt0 hb1.size; have HC2 := Lib.hid (HC1.out.below hb1); have hfl1 := HFL.out _ HC2.out; have hB1 := hB0.trans (hb1.mono hB0.size))
    | (go_at_call 30; refine hfl1.mono ?_; rintro e w2 ⟨rfl, hb2⟩; have hb2 := hb2.alloc hb2.size (.cells #[.string f.nm, .int .i64 f.ps, .int .i64 f.R, .int .i64 f.Fr, .slice C L cap] 24); have y0 := (hb2.cell (p := ⟨w.heap.size, 0, none⟩) hlt1).trans y0; have y1 := (hb2.cell (p := ⟨w.heap.size, 1, none⟩) hlt1).trans y1; have y2 := (hb2.cell (p := ⟨w.heap.size, 2, none⟩) hlt1).trans y2; have y3 := (hb2.cell (p := ⟨w.heap.size, 3, none⟩) hlt1).trans y3; have y4 := (hb2.cell (p := ⟨w.heap.size, 4, none⟩) hlt1).trans y4; have hlt2 := Nat.lt_of_lt_of_le hlt1 hb2.size; have HC3 := Lib.hid (HC2.out.below hb2); have hB2 := hB1.trans (hb2.mono hB1.size); have k2 := heap_alloc_new w2 (.cells #[.string f.nm, .int .i64 f.ps, .int .i64 f.R, .int .i64 f.Fr, .slice C L cap] 24); have hlt2b := (Array.getElem?_eq_some_iff.1 k2).1; have gx0 := cell_of_heap k2 0 (.string f.nm) rfl; have gx1 := cell_of_heap k2 1 (.int .i64 f.ps) rfl; have gx2 := cell_of_heap k2 2 (.int .i64 f.R) rfl; have gx3 := cell_of_heap k2 3 (.int .i64 f.Fr) rfl; have gx4 := cell_of_heap k2 4 (.slice C L cap) rfl; have hrf2 := HRF.out _ HC3.out)
    | (go_at_call 23; refine hrf2.mono ?_; rintro e w3 ⟨rfl, hb3⟩; have y0 := (hb3.cell (p := ⟨w.heap.size, 0, none⟩) hlt2).trans y0; have y1 := (hb3.cell (p := ⟨w.heap.size, 1, none⟩) hlt2).trans y1; have y2 := (hb3.cell (p := ⟨w.heap.size, 2, none⟩) hlt2).trans y2; have y3 := (hb3.cell (p := ⟨w.heap.size, 3, none⟩) hlt2).trans y3; have y4 := (hb3.cell (p := ⟨w.heap.size, 4, none⟩) hlt2).trans y4; have gx0 := (hb3.cell (p := ⟨w2.heap.size, 0, none⟩) hlt2b).trans gx0; have gx1 := (hb3.cell (p := ⟨w2.heap.size, 1, none⟩) hlt2b).trans gx1; have gx2 := (hb3.cell (p := ⟨w2.heap.size, 2, none⟩) hlt2b).trans gx2; have gx3 := (hb3.cell (p := ⟨w2.heap.size, 3, none⟩) hlt2b).trans gx3; have gx4 := (hb3.cell (p := ⟨w2.heap.size, 4, none⟩) hlt2b).trans gx4; have hB3 := hB2.trans (hb3.mono hB2.size); have hsm3 := HSM.out _ (HC3.out.below hb3))
    | (go_at_call 31; refine hsm3.mono ?_; rintro e w4 ⟨rfl, hb4⟩)
    | (go_at_call 19; refine (HAW.out _).mono ?_; rintro e w5 ⟨rfl, hb5⟩))
  go_returns
  exact ⟨rfl, hB3.trans ((hb4.trans (hb5.mono hb4.size)).mono hB3.size)⟩
set_option maxRecDepth 1000000 in
set_option maxHeartbeats 16000000 in
theorem folds_yes (f : Fn7) (C : Option Addr) (cap : Nat) (hl9 : f.code.length ≤ 9223372036854775807) (w : World) (hC : RdI w C f.code) (hfew : Few f) (hok : OkF f) :
    Calls Try.prog 9 #[funcAgg f.nm f.ps f.R f.Fr C f.code.length cap] w fun e w' => e = .returned (.bool true) ∧ Below w.heap.size w w' := by
  obtain ⟨hL25, _, _, hsz⟩ := hfew.small hok
  have hB0 := Below.one w (funcObj f.nm f.ps f.R f.Fr C f.code.length cap)
  have bx := heap_alloc_new w (funcObj f.nm f.ps f.R f.Fr C f.code.length cap)
  have hfw := (few11_any f C cap hl9 _ (hC.below hB0)).mono fun e w' h => (⟨h.1.is_true hfew, h.2⟩ : e = .returned (.bool true) ∧ _)
  have hfo := fun W h => fold_yes f hok hsz C cap W h
  have hrf := fun W h => (refRightFunc_any f C cap W h).mono fun e w' h => (⟨h.1.is_true hok, h.2⟩ : e = .returned (.bool true) ∧ _)
  have HC1 := Lib.hid (hC.below hB0)
  have HAW := Lib.hid awake11_any
  have HOK := Lib.hid hok
  have HSZ := Lib.hid hsz
  obtain ⟨W0, hW0⟩ : ∃ W0, w.alloc (funcObj f.nm f.ps f.R f.Fr C f.code.length cap) = W0 := ⟨_, rfl⟩
  rw [hW0] at hB0 bx hfw HC1
  have hlt0 := (Array.getElem?_eq_some_iff.1 bx).1
  obtain ⟨L, hL⟩ : ∃ L, f.code.length = L := ⟨_, rfl⟩
  have HL := Lib.hid hL
  unfold FoldT at hfo
  rw [hL] at bx hfw hW0 hfo hrf hL25 hl9 ⊢
  simp only [funcObj, funcAgg] at hB0 bx hfw hW0 hfo hrf ⊢
  have HRF := Lib.hid hrf
  have HFO := Lib.hid hfo
  clear hfew hok hL hrf hfo hC hsz
  have y0 := cell_of_heap bx 0 (.string f.nm) rfl
  have y1 := cell_of_heap bx 1 (.int .i64 f.ps) rfl
  have y2 := cell_of_heap bx 2 (.int .i64 f.R) rfl
  have y3 := cell_of_heap bx 3 (.int .i64 f.Fr) rfl
  have y4 := cell_of_heap bx 4 (.slice C L cap) rfl
  go_enter Try.func9, Try.ntmps9
  go_wp2_with fail
  refine hfw.mono ?_
  rintro e w1 ⟨rfl, hb1⟩
  have y0 := (hb1.cell (p := ⟨w.heap.size, 0, none⟩) hlt0).trans y0
  have y1 := (hb1.cell (p := ⟨w.heap.size, 1, none⟩) hlt0).trans y1
  have y2 := (hb1.cell (p := ⟨w.heap.size, 2, none⟩) hlt0).trans y2
  have y3 := (hb1.cell (p := ⟨w.heap.size, 3, none⟩) hlt0).trans y3
  have y4 := (hb1.cell (p := ⟨w.heap.size, 4, none⟩) hlt0).trans y4
  have hlt1 := Nat.lt_of_lt_of_le hlt0 hb1.size
  have HC2 := Lib.hid (HC1.out.below hb1)
  have hB1 := hB0.trans (hb1.mono hB0.size)
  clear hb1 hfw hB0 hW0 bx HC1 hlt0
  go_wp2_with fail
  refine (HFO.out w1 HC2.out).mono ?_
  rintro e w2 ⟨⟨nb, M, hA, rfl, hnb, hP⟩, hb2⟩
  have HA := Lib.hid hA
  have hb2 := hb2.alloc hb2.size (.cells #[.string f.nm, .int .i64 f.ps, .int .i64 f.R, .int .i64 f.Fr, .slice (some ⟨nb, 0, none⟩) L L] 24)
  have k2 := heap_alloc_new w2 (.cells #[.string f.nm, .int .i64 f.ps, .int .i64 f.R, .int .i64 f.Fr, .slice (some ⟨nb, 0, none⟩) L L] 24)
  have HP := Lib.hid (Pre.later hP (Below.one w2 (.cells #[.string f.nm, .int .i64 f.ps, .int .i64 f.R, .int .i64 f.Fr, .slice (some ⟨nb, 0, none⟩) L L] 24)))
  have hB2 := hB1.trans (hb2.mono hB1.size)
  have HC3 := Lib.hid (HC2.out.below hb2)
  have hlt2 := Nat.lt_of_lt_of_le hlt1 hb2.size
  have hlt2b := (Array.getElem?_eq_some_iff.1 k2).1
  have y0 := (hb2.cell (p := ⟨w.heap.size, 0, none⟩) hlt1).trans y0
  have y1 := (hb2.cell (p := ⟨w.heap.size, 1, none⟩) hlt1).trans y1
  have y2 := (hb2.cell (p := ⟨w.heap.size, 2, none⟩) hlt1).trans y2
  have y3 := (hb2.cell (p := ⟨w.heap.size, 3, none⟩) hlt1).trans y3
  have y4 := (hb2.cell (p := ⟨w.heap.size, 4, none⟩) hlt1).trans y4
  have gx0 := cell_of_heap k2 0 (.string f.nm) rfl
  have gx1 := cell_of_heap k2 1 (.int .i64 f.ps) rfl
  have gx2 := cell_of_heap k2 2 (.int .i64 f.R) rfl
  have gx3 := cell_of_heap k2 3 (.int .i64 f.Fr) rfl
  have gx4 := cell_of_heap k2 4 (.slice (some ⟨nb, 0, none⟩) L L) rfl
  clear hb2 hA hP k2 hnb HC2 hB1 hlt1
  go_wp2_with fail
  refine (HRF.out _ HC3.out).mono ?_
  rintro e w3 ⟨rfl, hb3⟩
  have hB3 := hB2.trans (hb3.mono hB2.size)
  have HC4 := Lib.hid (HC3.out.below hb3)
  have HP2 := Lib.hid (Pre.later HP.out hb3)
  have hlt3 := Nat.lt_of_lt_of_le hlt2 hb3.size
  have hlt3b := Nat.lt_of_lt_of_le hlt2b hb3.size
  have y0 := (hb3.cell (p := ⟨w.heap.size, 0, none⟩) hlt2).trans y0
  have y1 := (hb3.cell (p := ⟨w.heap.size, 1, none⟩) hlt2).trans y1
  have y2 := (hb3.cell (p := ⟨w.heap.size, 2, none⟩) hlt2).trans y2
  have y3 := (hb3.cell (p := ⟨w.heap.size, 3, none⟩) hlt2).trans y3
  have y4 := (hb3.cell (p := ⟨w.heap.size, 4, none⟩) hlt2).trans y4
  have gx0 := (hb3.cell (p := ⟨w2.heap.size, 0, none⟩) hlt2b).trans gx0
  have gx1 := (hb3.cell (p := ⟨w2.heap.size, 1, none⟩) hlt2b).trans gx1
  have gx2 := (hb3.cell (p := ⟨w2.heap.size, 2, none⟩) hlt2b).trans gx2
  have gx3 := (hb3.cell (p := ⟨w2.heap.size, 3, none⟩) hlt2b).trans gx3
  have gx4 := (hb3.cell (p := ⟨w2.heap.size, 4, none⟩) hlt2b).trans gx4
  clear hb3 HC3 hB2 hlt2 hlt2b HP
  go_wp2_with fail
  refine (refright_fold f M L nb HL.out HOK.out HA.out _ HP2.out).mono ?_
  rintro e w4 ⟨rfl, hb4⟩
  have hB4 := hB3.trans (hb4.mono hB3.size)
  have HC5 := Lib.hid (HC4.out.below hb4)
  have HP3 := Lib.hid (Pre.later HP2.out hb4)
  have hlt4 := Nat.lt_of_lt_of_le hlt3 hb4.size
  have hlt4b := Nat.lt_of_lt_of_le hlt3b hb4.size
  have y0 := (hb4.cell (p := ⟨w.heap.size, 0, none⟩) hlt3).trans y0
  have y1 := (hb4.cell (p := ⟨w.heap.size, 1, none⟩) hlt3).trans y1
  have y2 := (hb4.cell (p := ⟨w.heap.size, 2, none⟩) hlt3).trans y2
  have y3 := (hb4.cell (p := ⟨w.heap.size, 3, none⟩) hlt3).trans y3
  have y4 := (hb4.cell (p := ⟨w.heap.size, 4, none⟩) hlt3).trans y4
  have gx0 := (hb4.cell (p := ⟨w2.heap.size, 0, none⟩) hlt3b).trans gx0
  have gx1 := (hb4.cell (p := ⟨w2.heap.size, 1, none⟩) hlt3b).trans gx1
  have gx2 := (hb4.cell (p := ⟨w2.heap.size, 2, none⟩) hlt3b).trans gx2
  have gx3 := (hb4.cell (p := ⟨w2.heap.size, 3, none⟩) hlt3b).trans gx3
  have gx4 := (hb4.cell (p := ⟨w2.heap.size, 4, none⟩) hlt3b).trans gx4
  clear hb4 HC4 hB3 hlt3 hlt3b HP2
  go_wp2_with fail
  go_loopw [5, 61] (fun c ix wr => ∃ k : Nat, k ≤ L ∧ ix = .int .i64 k ∧ c = .int .i64 (foldN f M k : Int) ∧ Below w4.heap.size w4 wr) (fun _ ix _ => L - (intOf ix).toNat)
  case atStart => exact ⟨0, by omega, rfl, rfl, Below.refl _ _⟩
  case round =>
    obtain ⟨k, hk, rfl, rfl, hbw⟩ := hrel
    have hltr := Nat.lt_of_lt_of_le hlt4 hbw.size
    have hltrb := Nat.lt_of_lt_of_le hlt4b hbw.size
    have yw0 := (hbw.cell (p := ⟨w.heap.size, 0, none⟩) hlt4).trans y0
    have yw1 := (hbw.cell (p := ⟨w.heap.size, 1, none⟩) hlt4).trans y1
    have yw2 := (hbw.cell (p := ⟨w.heap.size, 2, none⟩) hlt4).trans y2
    have yw3 := (hbw.cell (p := ⟨w.heap.size, 3, none⟩) hlt4).trans y3
    have yw4 := (hbw.cell (p := ⟨w.heap.size, 4, none⟩) hlt4).trans y4
    have gw0 := (hbw.cell (p := ⟨w2.heap.size, 0, none⟩) hlt4b).trans gx0
    have gw1 := (hbw.cell (p := ⟨w2.heap.size, 1, none⟩) hlt4b).trans gx1
    have gw2 := (hbw.cell (p := ⟨w2.heap.size, 2, none⟩) hlt4b).trans gx2
    have gw3 := (hbw.cell (p := ⟨w2.heap.size, 3, none⟩) hlt4b).trans gx3
    have gw4 := (hbw.cell (p := ⟨w2.heap.size, 4, none⟩) hlt4b).trans gx4
    by_cases hlt : k < L
    · have hfn := foldN_le f M k
      have hi := insAt_in (l := f.code) (p := k) (by rw [HL.out]; exact hlt)
      have hj := foldL_at (M := M) (f := f) (p := k) (by rw [HL.out]; exact hlt)
      have HS : Hid (foldN f M (k + 1) = foldN f M k + (if foldI (insAt f.code k) k (row M k) = insAt f.code k then 0 else 1)) := Lib.hid rfl
      obtain ⟨b, o, rfl, hlb, hcs⟩ := (HC5.out.below hbw) k _ hi
      have hpw := Pre.later HP3.out hbw
      have hgb := Pre.lt hpw
      obtain ⟨g0, g1, g2, g3, g4, g5, g6, g7, g8, g9, g10, g11, g12, g13, g14⟩ := PreI.cells hpw hj
      obtain ⟨x0, x1, x2, x3, x4, x5, x6, x7, x8, x9, x10, x11, x12, x13, x14⟩ := RdI.load hcs
      have hne := fun W => neq_ins (insAt f.code k) (foldI (insAt f.code k) k (row M k)) W
      have hkd := foldI_kind (i := insAt f.code k) (p := k) (v := row M k)
      clear hi hj hcs hpw
      generalize foldI (insAt f.code k) k (row M k) = y at *
      generalize insAt f.code k = x at *
      by_cases hxy : x = y
      · rw [decide_eq_true hxy] at hne
        have HS2 : Hid (foldN f M (k + 1) = foldN f M k) := Lib.hid (by rw [HS.out, if_pos hxy.symm]; rfl)
        clear hkd hxy HS
        obtain ⟨ka, op, dst, a, bb, n, text, r0, r1, r2, r3, r4, r5, to_, els⟩ := x
        obtain ⟨kb, op', dst', a', bb', n', text', r0', r1', r2', r3', r4', r5', to_', els'⟩ := y
        simp only [Ins.agg, Bool.not_true] at x0 x1 x2 x3 x4 x5 x6 x7 x8 x9 x10 x11 x12 x13 x14 g0 g1 g2 g3 g4 g5 g6 g7 g8 g9 g10 g11 g12 g13 g14 hne
        go_wp2
        go_quiet (fail)
        go_wp2
        exact ⟨⟨k + 1, by omega, by go_num, by rw [HS2.out], below_drewN hbw _⟩, by simp [intOf]; omega⟩
      · rw [decide_eq_false hxy] at hne
        have HS2 : Hid (foldN f M (k + 1) = foldN f M k + 1) := Lib.hid (by rw [HS.out, if_neg (fun e => hxy e.symm)])
        have hkd2 := hkd (fun e => hxy e.symm)
        clear hxy HS hkd
        obtain ⟨ka, op, dst, a, bb, n, text, r0, r1, r2, r3, r4, r5, to_, els⟩ := x
        obtain ⟨kb, op', dst', a', bb', n', text', r0', r1', r2', r3', r4', r5', to_', els'⟩ := y
        simp only [Ins.agg, Bool.not_false] at x0 x1 x2 x3 x4 x5 x6 x7 x8 x9 x10 x11 x12 x13 x14 g0 g1 g2 g3 g4 g5 g6 g7 g8 g9 g10 g11 g12 g13 g14 hne hkd2
        rcases hkd2 with rfl | rfl
        all_goals
          go_wp2
          go_quiet (fail)
          go_wp2
          exact ⟨⟨k + 1, by omega, by go_num, by rw [HS2.out]; go_num, below_drewN hbw _⟩, by simp [intOf]; omega⟩
    · obtain rfl : k = L := by omega
      have HP4 := Lib.hid (Pre.later HP3.out hbw)
      have hB5 := hB4.trans (hbw.mono hB4.size)
      clear hbw hk hlt HC5 HP3 hB4 hlt4 hlt4b
      go_wp2_with fail
      refine (fold_again f M k nb HL.out HOK.out HA.out HSZ.out _ HP4.out).mono ?_
      rintro e w6 ⟨⟨nb2, rfl, hP6⟩, hb6⟩
      have k6 := heap_alloc_new w6 (.cells #[.string f.nm, .int .i64 f.ps, .int .i64 f.R, .int .i64 f.Fr, .slice (some ⟨nb2, 0, none⟩) k k] 24)
      have HP6 := Lib.hid (Pre.later hP6 (Below.one w6 (.cells #[.string f.nm, .int .i64 f.ps, .int .i64 f.R, .int .i64 f.Fr, .slice (some ⟨nb2, 0, none⟩) k k] 24)))
      have hb6 := hb6.alloc hb6.size (.cells #[.string f.nm, .int .i64 f.ps, .int .i64 f.R, .int .i64 f.Fr, .slice (some ⟨nb2, 0, none⟩) k k] 24)
      have HP5 := Lib.hid (Pre.later HP4.out hb6)
      have hB6 := hB5.trans (hb6.mono hB5.size)
      have hlt6 := (Array.getElem?_eq_some_iff.1 k6).1
      have gv0 := (hb6.cell (p := ⟨w2.heap.size, 0, none⟩) hltrb).trans gw0
      have gv1 := (hb6.cell (p := ⟨w2.heap.size, 1, none⟩) hltrb).trans gw1
      have gv2 := (hb6.cell (p := ⟨w2.heap.size, 2, none⟩) hltrb).trans gw2
      have gv3 := (hb6.cell (p := ⟨w2.heap.size, 3, none⟩) hltrb).trans gw3
      have gv4 := (hb6.cell (p := ⟨w2.heap.size, 4, none⟩) hltrb).trans gw4
      have hx0 := cell_of_heap k6 0 (.string f.nm) rfl
      have hx1 := cell_of_heap k6 1 (.int .i64 f.ps) rfl
      have hx2 := cell_of_heap k6 2 (.int .i64 f.R) rfl
      have hx3 := cell_of_heap k6 3 (.int .i64 f.Fr) rfl
      have hx4 := cell_of_heap k6 4 (.slice (some ⟨nb2, 0, none⟩) k k) rfl
      clear hb6 hP6 k6 HP4 hB5
      go_wp2_with fail
      refine (same_fold f M k nb nb2 HL.out hl9 _ HP5.out HP6.out).mono ?_
      rintro e w7 ⟨rfl, hb7⟩
      have hB7 := hB6.trans (hb7.mono hB6.size)
      go_wp2_with fail
      refine (HAW.out _).mono ?_
      rintro e w8 ⟨rfl, hb8⟩
      go_wp2_with fail
      go_returns
      exact ⟨rfl, hB7.trans (hb8.mono hB7.size)⟩
theorem folds_any (f : Fn7) (C : Option Addr) (cap : Nat) (hl9 : f.code.length ≤ 9223372036854775807) (w : World) (hC : RdI w C f.code) :
    Calls Try.prog 9 #[funcAgg f.nm f.ps f.R f.Fr C f.code.length cap] w fun e w' => e = .returned (.bool true) ∧ Below w.heap.size w w' := by
  by_cases h : ¬ Few f ∨ ¬ OkF f
  · exact folds_no f C cap hl9 w hC h
  · exact folds_yes f C cap hl9 w hC (Classical.byContradiction fun h' => h (Or.inl h')) (Classical.byContradiction fun h' => h (Or.inr h'))
end Go.Proofs.Ytaofdbboalcceaa
