import Derived.Test.YtdoeinccnfggiaaDoorC
namespace Go.Proofs.YtdoeinccnfggiaaDoor
open Go.RowKit Go.BigFrame

theorem alloc_keeps {w : World} {p : Nat} {o : Obj} (h : w.heap[p]? = some o) (o' : Obj) : (w.alloc o').heap[p]? = some o := by
  rw [Below.heap_alloc _ _ _ (Array.getElem?_eq_some_iff.1 h).1]
  exact h
theorem OwnT.off {w : World} {V : Value} {T : List Ty} (h : OwnT w V T) {p : Nat} {cs : Array Value} {t : TypeId} {fz : Nat × Nat} (hp : w.heap[p]? = some (.cells cs t fz)) (ht : t ≠ 51) : some p ≠ V.ownBlock := fun e => by
  obtain ⟨_, _, _, hV, _⟩ := h.form
  obtain ⟨cur, hc, _⟩ := hV p e.symm
  rw [hp] at hc
  injection hc with hc
  injection hc with _ hc
  exact ht hc
set_option maxRecDepth 1000000 in
set_option maxHeartbeats 2000000 in
theorem put_any {w : World} {p : Nat} {F : Nat → Prop} {T : List Ty} {D} (h : Tb w p F T D) (x : Ty) : Calls Tryd.prog 25 #[.pointer (some ⟨p, 0, none⟩), x.agg] w fun e w' =>
    e = .returned (.tuple #[.int .i64 (putL T x).2.1, .int .i64 (putL T x).2.2]) ∧ Turn w w' p F (putL T x).1 D := by
  have hTb := h
  obtain ⟨V, M, m, g, h1, h2, h3, h4, h5, h6, h7, h8⟩ := h
  have hp := (Array.getElem?_eq_some_iff.1 h1).1
  have hB0 : Below w.heap.size w (w.alloc (.cells #[.int .i64 x.kind, .int .i64 x.elem, .int .i64 x.n, .string x.name] 51)) := Below.one w _
  have hnew := heap_alloc_new w (.cells #[.int .i64 x.kind, .int .i64 x.elem, .int .i64 x.n, .string x.name] 51)
  have hsz : (w.alloc (.cells #[.int .i64 x.kind, .int .i64 x.elem, .int .i64 x.n, .string x.name] 51)).heap.size = w.heap.size + 1 := by simp
  obtain ⟨W, hW⟩ : ∃ W, w.alloc (.cells #[.int .i64 x.kind, .int .i64 x.elem, .int .i64 x.n, .string x.name] 51) = W := ⟨_, rfl⟩
  rw [hW] at hnew hB0 hsz
  have hcell0 := (hB0.cell (p := ⟨p, 0, none⟩) hp).trans (cell_of_heap h1 0 V rfl)
  have hOW := h2.below hB0
  have hx0 := cell_of_heap hnew 0 (.int .i64 x.kind) rfl
  have hx1 := cell_of_heap hnew 1 (.int .i64 x.elem) rfl
  have hx2 := cell_of_heap hnew 2 (.int .i64 x.n) rfl
  have hx3 := cell_of_heap hnew 3 (.string x.name) rfl
  obtain ⟨A, cap, hV, _, _⟩ := h2.form
  have hi := fun (s : Later W) => index_any (hOW.below s.h) h8 x
  obtain ⟨L, hL⟩ : ∃ L, T.length = L := ⟨_, rfl⟩
  rw [hL] at hV h8
  subst hV
  have hl0 := Later.cell hcell0
  have hlx0 := Later.cell hx0
  have hlx1 := Later.cell hx1
  have hlx2 := Later.cell hx2
  have hlx3 := Later.cell hx3
  have hmem : ∀ w1 : World, Below W.heap.size W w1 → Below w.heap.size w w1 ∧ w1.cell? ⟨p, 0, none⟩ = some (.slice A L cap) ∧ w1.heap[p]? = some (.cells #[.slice A L cap, .map (some M)] 66 (0, 0)) ∧ OwnT w1 (.slice A L cap) T := fun w1 hb1 => by
    have hlt : p < W.heap.size := by omega
    have hh := ((hb1.block p hlt).trans (hB0.block p hp)).trans h1
    exact ⟨hB0.trans (hb1.mono hB0.size), cell_of_heap hh 0 _ rfl, hh, hOW.below hb1⟩
  have hmx : ∀ w1 : World, Below W.heap.size W w1 → w1.cell? ⟨w.heap.size, 0, none⟩ = some (.int .i64 x.kind) ∧ w1.cell? ⟨w.heap.size, 1, none⟩ = some (.int .i64 x.elem) ∧ w1.cell? ⟨w.heap.size, 2, none⟩ = some (.int .i64 x.n) ∧ w1.cell? ⟨w.heap.size, 3, none⟩ = some (.string x.name) := fun w1 hb1 => by
    have hlt : w.heap.size < W.heap.size := by omega
    exact ⟨(hb1.cell (p := ⟨w.heap.size, 0, none⟩) hlt).trans hx0, (hb1.cell (p := ⟨w.heap.size, 1, none⟩) hlt).trans hx1, (hb1.cell (p := ⟨w.heap.size, 2, none⟩) hlt).trans hx2, (hb1.cell (p := ⟨w.heap.size, 3, none⟩) hlt).trans hx3⟩
  cases hf : find1 x T 0 with
  | some i =>
    have hput : putL T x = (T, (i : Int), 0) := by unfold putL; rw [hf]
    have hidx : idx T x = (i : Int) := by unfold idx; rw [hf]
    rw [hidx] at hi
    rw [hput]
    clear hput hidx hf
    have q1 : decide ((i : Int) ≥ 0) = true := by simp
    go_enter Tryd.func25, Tryd.ntmps25
    go_wp2
    refine wp_region_later (by kernel_rfl) (by kernel_rfl) ?_
    repeat (go_big_quiet_step ((go_at_call 35; exact Calls.later (hi _))))
    refine wpQuiet_nil ?_
    rintro w1 ⟨s, rfl⟩
    have hb1 := s.h
    go_wp2
    go_returns
    exact ⟨rfl, Turn.of_below hTb (hmem _ hb1).1⟩
  | none =>
    have hidx : idx T x = -1 := by unfold idx; rw [hf]
    rw [hidx] at hi
    by_cases h256 : L = 256
    · have hput : putL T x = (T, 0, 4) := by unfold putL; rw [hf]; simp only; rw [if_pos (by omega)]
      rw [hput]
      have q2 : ((L : Int) == 256) = true := by simp; omega
      clear hput hidx hf h256
      go_enter Tryd.func25, Tryd.ntmps25
      go_wp2
      refine wp_region_later (by kernel_rfl) (by kernel_rfl) ?_
      repeat (go_big_quiet_step ((go_at_call 35; exact Calls.later (hi _))))
      refine wpQuiet_nil ?_
      rintro w1 ⟨s, rfl⟩
      have hb1 := s.h
      obtain ⟨g1, g2, g3, g4⟩ := hmem _ hb1
      go_wp2
      go_returns
      exact ⟨rfl, Turn.of_below hTb g1⟩
    · have hput : putL T x = (T ++ [x], (L : Int), 0) := by unfold putL; rw [hf]; simp only; rw [if_neg (by omega), hL]
      rw [hput]
      have q2 : ((L : Int) == 256) = false := by simp; omega
      clear hput hidx hf
      go_enter Tryd.func25, Tryd.ntmps25
      go_wp2
      refine wp_region_later (by kernel_rfl) (by kernel_rfl) ?_
      repeat (go_big_quiet_step ((go_at_call 35; exact Calls.later (hi _))))
      refine wpQuiet_nil ?_
      rintro w1 ⟨s, rfl⟩
      have hb1 := s.h
      obtain ⟨g1, g2, g3, g4⟩ := hmem _ hb1
      obtain ⟨k0, k1, k2, k3⟩ := hmx _ hb1
      have hVp := g4.off g3 (by decide)
      have hp1 : p < s.w.heap.size := (Array.getElem?_eq_some_iff.1 g3).1
      have hq1 : w.heap.size < s.w.heap.size := by have := hb1.size; omega
      clear hi hl0 hlx0 hlx1 hlx2 hlx3 hmem hmx
      generalize s.w = w1 at *
      go_wp2
      go_region_law (refine step_append_ty rfl (.tmp 26) (.tmp 28) rfl (.slice A L cap) T rfl (g4.alloc _) w1.heap.size x rfl (heap_alloc_new _ _) (by omega) ?_; intro V' w2 ho hg hat; have hp2 : w2.heap[p]? = some (.cells #[.slice A L cap, .map (some M)] 66 (0, 0)) := (by rw [hg.block p (by simp; omega) hVp]; exact alloc_keeps g3 _); have hc2 := cell_of_heap hp2 0 (.slice A L cap) rfl; have hz2 := free_of_heap hp2 0; obtain ⟨A2, cap2, rfl, _⟩ := ho.form)
      all_goals (go_wp2; go_returns; have hl : (T ++ [x]).length = L + 1 := (by simp [hL]); rw [hl] at ho hat; exact ⟨rfl, Turn.put rfl h1 h2 h3 h4 h5 h6 h7 (by omega) (by first | exact (g1.drew).alloc g1.size _ | exact g1.alloc g1.size _) ho hg hat⟩)
end Go.Proofs.YtdoeinccnfggiaaDoor
