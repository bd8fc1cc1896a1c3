import Derived.Test.YtkcclefonmnpnaaMx
import Derived.Test.YtkcclefonmnpnaaIl
import Derived.Test.YtkcclefonmnpnaaIe
import Derived.Test.YtkcclefonmnpnaaZg2
import Derived.Test.YtkcclefonmnpnaaZq
import Derived.Test.YtkcclefonmnpnaaXe
import Derived.Test.YtkcclefonmnpnaaXb
/- inline.Of, where it tells nothing. -/
namespace Go.Proofs.Ytkcclefonmnpnaa
open Go.RowKit Go.BigFrame

abbrev zFnO : Obj := .cells #[.string ⟨#[]⟩, .int .i64 0, .int .i64 0, .int .i64 0, .slice none 0 0] 24 (0, 0)
set_option maxRecDepth 1000000 in
set_option maxHeartbeats 8000000 in
theorem Of_noA (u : Un7) (F G : Option Addr) (cF cG : Nat) (kk : Int) (hno : ¬ OkU u) (hlf : u.funcs.length ≤ 100000) (hlg : u.globs.length ≤ 100000) (w : World) (h : RdU w F G u) :
    Calls Try.prog 42 #[unAgg u F G cF cG, .int .i64 kk] w fun e w' => e = .returned (.tuple #[.agg #[.string ⟨#[]⟩, .int .i64 0, .int .i64 0, .int .i64 0, .slice none 0 0], .int .i64 0]) ∧ Below w.heap.size w w' := by
  obtain ⟨b0, b1, hB⟩ := made_two w (unObj u F G cF cG) zFnO
  obtain ⟨W, hW⟩ : ∃ W, (w.alloc (unObj u F G cF cG)).alloc zFnO = W := ⟨_, rfl⟩
  rw [hW] at b0 b1 hB
  have hr := (Right7_any u F G cF cG W (h.below hB) hlf hlg).mono fun e w' h => (⟨by obtain ⟨⟨bv, h1, h2⟩, _⟩ := h; rw [h1, show bv = false from by cases bv with | false => rfl | true => exact absurd (h2.1 rfl) hno], h.2⟩ : e = .returned (.bool false) ∧ Below W.heap.size W w')
  obtain ⟨N, hN⟩ : ∃ N, u.funcs.length = N := ⟨_, rfl⟩
  obtain ⟨M, hM⟩ : ∃ M, u.globs.length = M := ⟨_, rfl⟩
  simp only [unObj, unAgg, zFnO] at b0 b1 hW hr ⊢
  rw [hN, hM] at b0 hW hr ⊢
  have g0 := cell_of_heap b0 0 (.slice F N cF) rfl
  have g1 := cell_of_heap b0 1 (.slice G M cG) rfl
  have g2 := cell_of_heap b0 2 (.int .i64 u.top) rfl
  have HB := Lib.hid hB
  have H0 := Lib.hid b0
  have H1 := Lib.hid b1
  have HR := Lib.hid hr
  clear hB b0 b1 hr h hlg
  go_enter Try.func42, Try.ntmps42
  go_wp2_with fail
  (try rw [hW])
  refine HR.out.mono ?_
  rintro e w1 ⟨rfl, hb1⟩
  dsimp only
  have c0 := (hb1.block _ (Array.getElem?_eq_some_iff.1 H0.out).1).trans H0.out
  have c1 := (hb1.block _ (Array.getElem?_eq_some_iff.1 H1.out).1).trans H1.out
  have k0 := cell_of_heap c0 0 (.slice F N cF) rfl
  have k1 := cell_of_heap c0 1 (.slice G M cG) rfl
  have k2 := cell_of_heap c0 2 (.int .i64 u.top) rfl
  have hlc := (Array.getElem?_eq_some_iff.1 c0).1
  have C1 := Lib.hid c1
  have HB1 := Lib.hid (HB.out.trans (hb1.mono HB.out.size))
  have hs := setRow_heap _ _ _ #[.string ⟨#[]⟩, .int .i64 0, .int .i64 0, .int .i64 0, .slice none 0 0] _ _ c1
  have r0 := cell_of_heap hs 0 (.string ⟨#[]⟩) rfl
  have r1 := cell_of_heap hs 1 (.int .i64 0) rfl
  have r2 := cell_of_heap hs 2 (.int .i64 0) rfl
  have r3 := cell_of_heap hs 3 (.int .i64 0) rfl
  have r4 := cell_of_heap hs 4 (.slice none 0 0) rfl
  clear hb1 g0 g1 g2 c0 c1 hW hs
  go_wp2_with (show wpList Try.prog _ _ (⟨none, .store _ (.tmp 4) _, _, _, _, _⟩ :: _) _ _; refine wpList_store_row rfl 24 (.tmp 4) (.tmp 30) rfl (w.heap.size + 1) #[.string ⟨#[]⟩, .int .i64 0, .int .i64 0, .int .i64 0, .slice none 0 0] rfl rfl 24 _ C1.out sF rfl (func_one _ _ _ _ _ _ _) ?_)
  (try simp only [Exit.inBlock, Exit.then])
  refine bodyPost_ret (by simp [results, Try.results42, go_sem, r0, r1, r2, r3, r4]; try rfl) rfl ?_
  exact ⟨rfl, below_setRow HB1.out (by omega) _⟩
set_option maxRecDepth 1000000 in
set_option maxHeartbeats 8000000 in
theorem Of_noB (u : Un7) (F G : Option Addr) (cF cG : Nat) (kk : Int) (hU : OkU u) (hk : kk < 0) (hlf : u.funcs.length ≤ 100000) (hlg : u.globs.length ≤ 100000) (w : World) (h : RdU w F G u) :
    Calls Try.prog 42 #[unAgg u F G cF cG, .int .i64 kk] w fun e w' => e = .returned (.tuple #[.agg #[.string ⟨#[]⟩, .int .i64 0, .int .i64 0, .int .i64 0, .slice none 0 0], .int .i64 0]) ∧ Below w.heap.size w w' := by
  obtain ⟨b0, b1, hB⟩ := made_two w (unObj u F G cF cG) zFnO
  obtain ⟨W, hW⟩ : ∃ W, (w.alloc (unObj u F G cF cG)).alloc zFnO = W := ⟨_, rfl⟩
  rw [hW] at b0 b1 hB
  have hr := (Right7_any u F G cF cG W (h.below hB) hlf hlg).mono fun e w' h => (⟨by obtain ⟨⟨bv, h1, h2⟩, _⟩ := h; rw [h1, h2.2 hU], h.2⟩ : e = .returned (.bool true) ∧ Below W.heap.size W w')
  obtain ⟨N, hN⟩ : ∃ N, u.funcs.length = N := ⟨_, rfl⟩
  obtain ⟨M, hM⟩ : ∃ M, u.globs.length = M := ⟨_, rfl⟩
  simp only [unObj, unAgg, zFnO] at b0 b1 hW hr ⊢
  rw [hN, hM] at b0 hW hr ⊢
  have g0 := cell_of_heap b0 0 (.slice F N cF) rfl
  have g1 := cell_of_heap b0 1 (.slice G M cG) rfl
  have g2 := cell_of_heap b0 2 (.int .i64 u.top) rfl
  have HB := Lib.hid hB
  have H0 := Lib.hid b0
  have H1 := Lib.hid b1
  have HR := Lib.hid hr
  have q1 : decide (kk < 0) = true := by simpa using hk
  clear hk hU hN hM hlf
  clear hB b0 b1 hr h hlg
  go_enter Try.func42, Try.ntmps42
  go_wp2_with fail
  (try rw [hW])
  refine HR.out.mono ?_
  rintro e w1 ⟨rfl, hb1⟩
  dsimp only
  have c0 := (hb1.block _ (Array.getElem?_eq_some_iff.1 H0.out).1).trans H0.out
  have c1 := (hb1.block _ (Array.getElem?_eq_some_iff.1 H1.out).1).trans H1.out
  have k0 := cell_of_heap c0 0 (.slice F N cF) rfl
  have k1 := cell_of_heap c0 1 (.slice G M cG) rfl
  have k2 := cell_of_heap c0 2 (.int .i64 u.top) rfl
  have hlc := (Array.getElem?_eq_some_iff.1 c0).1
  have C1 := Lib.hid c1
  have HB1 := Lib.hid (HB.out.trans (hb1.mono HB.out.size))
  have hs := setRow_heap _ _ _ #[.string ⟨#[]⟩, .int .i64 0, .int .i64 0, .int .i64 0, .slice none 0 0] _ _ c1
  have r0 := cell_of_heap hs 0 (.string ⟨#[]⟩) rfl
  have r1 := cell_of_heap hs 1 (.int .i64 0) rfl
  have r2 := cell_of_heap hs 2 (.int .i64 0) rfl
  have r3 := cell_of_heap hs 3 (.int .i64 0) rfl
  have r4 := cell_of_heap hs 4 (.slice none 0 0) rfl
  clear hb1 g0 g1 g2 c0 c1 hW hs
  go_wp2_with (show wpList Try.prog _ _ (⟨none, .store _ (.tmp 4) _, _, _, _, _⟩ :: _) _ _; refine wpList_store_row rfl 24 (.tmp 4) (.tmp 30) rfl (w.heap.size + 1) #[.string ⟨#[]⟩, .int .i64 0, .int .i64 0, .int .i64 0, .slice none 0 0] rfl rfl 24 _ C1.out sF rfl (func_one _ _ _ _ _ _ _) ?_)
  (try simp only [Exit.inBlock, Exit.then])
  refine bodyPost_ret (by simp [results, Try.results42, go_sem, r0, r1, r2, r3, r4]; try rfl) rfl ?_
  exact ⟨rfl, below_setRow HB1.out (by omega) _⟩
set_option maxRecDepth 1000000 in
set_option maxHeartbeats 8000000 in
theorem Of_noC (u : Un7) (F G : Option Addr) (cF cG : Nat) (kk : Int) (hU : OkU u) (hk : 0 ≤ kk) (hk2 : (u.funcs.length : Int) ≤ kk) (hlf : u.funcs.length ≤ 100000) (hlg : u.globs.length ≤ 100000) (w : World) (h : RdU w F G u) :
    Calls Try.prog 42 #[unAgg u F G cF cG, .int .i64 kk] w fun e w' => e = .returned (.tuple #[.agg #[.string ⟨#[]⟩, .int .i64 0, .int .i64 0, .int .i64 0, .slice none 0 0], .int .i64 0]) ∧ Below w.heap.size w w' := by
  obtain ⟨b0, b1, hB⟩ := made_two w (unObj u F G cF cG) zFnO
  obtain ⟨W, hW⟩ : ∃ W, (w.alloc (unObj u F G cF cG)).alloc zFnO = W := ⟨_, rfl⟩
  rw [hW] at b0 b1 hB
  have hr := (Right7_any u F G cF cG W (h.below hB) hlf hlg).mono fun e w' h => (⟨by obtain ⟨⟨bv, h1, h2⟩, _⟩ := h; rw [h1, h2.2 hU], h.2⟩ : e = .returned (.bool true) ∧ Below W.heap.size W w')
  obtain ⟨N, hN⟩ : ∃ N, u.funcs.length = N := ⟨_, rfl⟩
  obtain ⟨M, hM⟩ : ∃ M, u.globs.length = M := ⟨_, rfl⟩
  simp only [unObj, unAgg, zFnO] at b0 b1 hW hr ⊢
  rw [hN, hM] at b0 hW hr ⊢
  have g0 := cell_of_heap b0 0 (.slice F N cF) rfl
  have g1 := cell_of_heap b0 1 (.slice G M cG) rfl
  have g2 := cell_of_heap b0 2 (.int .i64 u.top) rfl
  have HB := Lib.hid hB
  have H0 := Lib.hid b0
  have H1 := Lib.hid b1
  have HR := Lib.hid hr
  rw [hN] at hk2
  have q1 : decide (kk < 0) = false := by simp; omega
  have q2 : decide (kk ≥ (N : Int)) = true := by simp; omega
  have q3 : decide ((N : Int) ≤ kk) = true := by simp; omega
  clear hk hk2 hU hN hM hlf
  clear hB b0 b1 hr h hlg
  go_enter Try.func42, Try.ntmps42
  go_wp2_with fail
  (try rw [hW])
  refine HR.out.mono ?_
  rintro e w1 ⟨rfl, hb1⟩
  dsimp only
  have c0 := (hb1.block _ (Array.getElem?_eq_some_iff.1 H0.out).1).trans H0.out
  have c1 := (hb1.block _ (Array.getElem?_eq_some_iff.1 H1.out).1).trans H1.out
  have k0 := cell_of_heap c0 0 (.slice F N cF) rfl
  have k1 := cell_of_heap c0 1 (.slice G M cG) rfl
  have k2 := cell_of_heap c0 2 (.int .i64 u.top) rfl
  have hlc := (Array.getElem?_eq_some_iff.1 c0).1
  have C1 := Lib.hid c1
  have HB1 := Lib.hid (HB.out.trans (hb1.mono HB.out.size))
  have hs := setRow_heap _ _ _ #[.string ⟨#[]⟩, .int .i64 0, .int .i64 0, .int .i64 0, .slice none 0 0] _ _ c1
  have r0 := cell_of_heap hs 0 (.string ⟨#[]⟩) rfl
  have r1 := cell_of_heap hs 1 (.int .i64 0) rfl
  have r2 := cell_of_heap hs 2 (.int .i64 0) rfl
  have r3 := cell_of_heap hs 3 (.int .i64 0) rfl
  have r4 := cell_of_heap hs 4 (.slice none 0 0) rfl
  clear hb1 g0 g1 g2 c0 c1 hW hs
  go_wp2_with (show wpList Try.prog _ _ (⟨none, .store _ (.tmp 4) _, _, _, _, _⟩ :: _) _ _; refine wpList_store_row rfl 24 (.tmp 4) (.tmp 30) rfl (w.heap.size + 1) #[.string ⟨#[]⟩, .int .i64 0, .int .i64 0, .int .i64 0, .slice none 0 0] rfl rfl 24 _ C1.out sF rfl (func_one _ _ _ _ _ _ _) ?_)
  (try simp only [Exit.inBlock, Exit.then])
  refine bodyPost_ret (by simp [results, Try.results42, go_sem, r0, r1, r2, r3, r4]; try rfl) rfl ?_
  exact ⟨rfl, below_setRow HB1.out (by omega) _⟩
theorem Of_no (u : Un7) (F G : Option Addr) (cF cG : Nat) (kk : Int) (hno : ¬ (OkU u ∧ 0 ≤ kk ∧ kk < u.funcs.length)) (hlf : u.funcs.length ≤ 100000) (hlg : u.globs.length ≤ 100000) (w : World) (h : RdU w F G u) :
    Calls Try.prog 42 #[unAgg u F G cF cG, .int .i64 kk] w fun e w' => e = .returned (.tuple #[.agg #[.string ⟨#[]⟩, .int .i64 0, .int .i64 0, .int .i64 0, .slice none 0 0], .int .i64 0]) ∧ Below w.heap.size w w' := by
  by_cases hU : OkU u
  · by_cases hk : kk < 0
    · exact Of_noB u F G cF cG kk hU hk hlf hlg w h
    · by_cases h1 : kk < u.funcs.length
      · exact absurd ⟨hU, by omega, h1⟩ hno
      · exact Of_noC u F G cF cG kk hU (by omega) (by omega) hlf hlg w h
  · exact Of_noA u F G cF cG kk hU hlf hlg w h
end Go.Proofs.Ytkcclefonmnpnaa
