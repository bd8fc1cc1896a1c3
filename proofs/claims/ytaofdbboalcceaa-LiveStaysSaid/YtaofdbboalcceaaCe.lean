import Derived.Test.YtaofdbboalcceaaCc
/- THE CODE's OWN small functions: uses, sets, Sets, Uses, Next, Plain; words. -/
namespace Go.Proofs.Ytaofdbboalcceaa
open Go.RowKit Go.BigFrame

def wr (n : Int) : Int := (n + 2147483648) % 4294967296 - 2147483648
theorem wrap_any (n : Int) (w : World) : Calls Try.prog 97 #[.int .i64 n] w fun e w' => e = .returned (.int .i64 (wr n)) ∧ w = w' := by
  have h1 : wrap64 (wrap32 (n % 4294967296)) = wr n := by unfold wrap64 wrap32 wr; omega
  go_enter Try.func97, Try.ntmps97
  go_wp2
  go_returns
  exact ⟨congrArg (fun x => Ending.returned (.int .i64 x)) h1, rfl⟩
theorem is_any (n : Int) (w : World) : Calls Try.prog 88 #[.int .i64 n] w fun e w' => e = .returned (.bool (decide (-2147483648 ≤ n ∧ n ≤ 2147483647))) ∧ w = w' := by
  have h : (wr n == n) = decide (-2147483648 ≤ n ∧ n ≤ 2147483647) := by
    rw [Bool.eq_iff_iff]
    simp [wr]
    omega
  rw [← h]
  clear h
  go_enter Try.func88, Try.ntmps88
  go_wp2_with (first
    | (go_at_call 97; refine (wrap_any n _).mono ?_; rintro e w1 ⟨rfl, hw⟩; subst hw))
  go_returns
  exact ⟨rfl, rfl⟩
theorem one_any (n : Int) (w : World) : Calls Try.prog 83 #[.int .i64 n] w fun e w' => e = .returned (.bool (decide (20 ≤ n ∧ n ≤ 23))) ∧ w = w' := by
  have hc : (decide (n ≥ 20) = true ∧ decide (20 ≤ n) = true ∧ decide (n ≤ 23) = true ∧ decide (20 ≤ n ∧ n ≤ 23) = true) ∨ (decide (n ≥ 20) = true ∧ decide (20 ≤ n) = true ∧ decide (n ≤ 23) = false ∧ decide (20 ≤ n ∧ n ≤ 23) = false) ∨ (decide (n ≥ 20) = false ∧ decide (20 ≤ n) = false ∧ decide (n ≤ 23) = true ∧ decide (20 ≤ n ∧ n ≤ 23) = false) := by simp; omega
  rcases hc with ⟨q1, q2, q3, q4⟩ | ⟨q1, q2, q3, q4⟩ | ⟨q1, q2, q3, q4⟩
  all_goals
    rw [q4]
    clear q4
    go_enter Try.func83, Try.ntmps83
    go_wp2
    go_returns
    exact ⟨rfl, rfl⟩
theorem two_any (n : Int) (w : World) : Calls Try.prog 84 #[.int .i64 n] w fun e w' => e = .returned (.bool (decide (1 ≤ n ∧ n ≤ 19))) ∧ w = w' := by
  have hc : (decide (n ≥ 1) = true ∧ decide (1 ≤ n) = true ∧ decide (n ≤ 19) = true ∧ decide (1 ≤ n ∧ n ≤ 19) = true) ∨ (decide (n ≥ 1) = true ∧ decide (1 ≤ n) = true ∧ decide (n ≤ 19) = false ∧ decide (1 ≤ n ∧ n ≤ 19) = false) ∨ (decide (n ≥ 1) = false ∧ decide (1 ≤ n) = false ∧ decide (n ≤ 19) = true ∧ decide (1 ≤ n ∧ n ≤ 19) = false) := by simp; omega
  rcases hc with ⟨q1, q2, q3, q4⟩ | ⟨q1, q2, q3, q4⟩ | ⟨q1, q2, q3, q4⟩
  all_goals
    rw [q4]
    clear q4
    go_enter Try.func84, Try.ntmps84
    go_wp2
    go_returns
    exact ⟨rfl, rfl⟩
set_option maxRecDepth 1000000 in
theorem uses_any (k : Int) (w : World) : Calls Try.prog 102 #[.int .i64 k] w fun e w' => e = .returned (.tuple #[.bool (kA k), .bool (kB k)]) ∧ w = w' := by
  by_cases hx : k = 2 ∨ k = 4 ∨ k = 6 ∨ k = 10 ∨ k = 12 ∨ k = 13 ∨ k = 3 ∨ k = 7
  · rcases hx with rfl | rfl | rfl | rfl | rfl | rfl | rfl | rfl
    all_goals
      go_enter Try.func102, Try.ntmps102
      go_wp2
      go_returns
      exact ⟨rfl, rfl⟩
  · have hA : kA k = false := by simp [kA]; omega
    have hB : kB k = false := by simp [kB]; omega
    have q2 : (k == 2) = false := by simp; omega
    have q3 : (k == 3) = false := by simp; omega
    have q4 : (k == 4) = false := by simp; omega
    have q6 : (k == 6) = false := by simp; omega
    have q7 : (k == 7) = false := by simp; omega
    have q10 : (k == 10) = false := by simp; omega
    have q12 : (k == 12) = false := by simp; omega
    have q13 : (k == 13) = false := by simp; omega
    rw [hA, hB]
    clear hA hB hx
    go_enter Try.func102, Try.ntmps102
    go_wp2
    go_returns
    exact ⟨rfl, rfl⟩
set_option maxRecDepth 1000000 in
theorem sets_any (k : Int) (w : World) : Calls Try.prog 78 #[.int .i64 k] w fun e w' => e = .returned (.bool (kS k)) ∧ w = w' := by
  have hc : (decide (k ≥ 1) = true ∧ decide (1 ≤ k) = true ∧ decide (k ≤ 6) = true ∧ kS k = true) ∨ (decide (k ≥ 1) = true ∧ decide (1 ≤ k) = true ∧ decide (k ≤ 6) = false ∧ (k == 8) = true ∧ kS k = true) ∨ (decide (k ≥ 1) = true ∧ decide (1 ≤ k) = true ∧ decide (k ≤ 6) = false ∧ (k == 8) = false ∧ (k == 9) = true ∧ kS k = true) ∨
      (decide (k ≥ 1) = true ∧ decide (1 ≤ k) = true ∧ decide (k ≤ 6) = false ∧ (k == 8) = false ∧ (k == 9) = false ∧ kS k = false) ∨ (decide (k ≥ 1) = false ∧ decide (1 ≤ k) = false ∧ (k == 8) = false ∧ (k == 9) = false ∧ kS k = false) := by
    simp [kS]; omega
  rcases hc with ⟨q1, q2, q3, q4⟩ | ⟨q1, q2, q3, q5, q4⟩ | ⟨q1, q2, q3, q5, q6, q4⟩ | ⟨q1, q2, q3, q5, q6, q4⟩ | ⟨q1, q2, q5, q6, q4⟩
  all_goals
    rw [q4]
    clear q4
    go_enter Try.func78, Try.ntmps78
    go_wp2
    go_returns
    exact ⟨rfl, rfl⟩
set_option maxRecDepth 1000000 in
theorem Sets_any (i : Ins) (w : World) : Calls Try.prog 51 #[i.agg] w fun e w' => e = .returned (.int .i64 i.sets) ∧ Below w.heap.size w w' := by
  obtain ⟨k, op, dst, a, b, n, text, r0, r1, r2, r3, r4, r5, to_, els⟩ := i
  have hb0 := Below.one w (Ins.obj ⟨k, op, dst, a, b, n, text, r0, r1, r2, r3, r4, r5, to_, els⟩)
  simp only [Ins.obj, Ins.agg, Ins.sets] at hb0 ⊢
  have hk := fun w => sets_any k w
  cases hs : kS k
  all_goals
    rw [hs] at hk
    clear hs
    go_enter Try.func51, Try.ntmps51
    go_wp2_with (first
      | (go_at_call 78; refine (hk _).mono ?_; rintro e w1 ⟨rfl, hw⟩; subst hw))
    go_returns
    exact ⟨rfl, hb0⟩
set_option maxRecDepth 1000000 in
theorem Plain_any (k : Int) (w : World) : Calls Try.prog 28 #[.int .i64 k] w fun e w' => e = .returned (Ins.agg ⟨k, 0, -1, 0, 0, 0, ⟨#[]⟩, 0, 0, 0, 0, 0, 0, 0, -1⟩) ∧ Below w.heap.size w w' := by
  go_enter Try.func28, Try.ntmps28
  go_wp2
  (try simp only [Exit.inBlock, Exit.then])
  refine bodyPost_ret (by simp [results, Try.results28, go_sem]; try rfl) rfl ?_
  exact ⟨rfl, Below.one _ _⟩
set_option maxRecDepth 1000000 in
set_option maxHeartbeats 4000000 in
theorem Next_any (i : Ins) (p : Int) (hp : 0 ≤ p ∧ p ≤ 100000) (w : World) : Calls Try.prog 48 #[i.agg, .int .i64 p] w fun e w' => SlN (i.next p) e w' ∧ Below w.heap.size w w' := by
  obtain ⟨k, op, dst, a, b, n, text, r0, r1, r2, r3, r4, r5, to_, els⟩ := i
  have hb0 := Below.one w (Ins.obj ⟨k, op, dst, a, b, n, text, r0, r1, r2, r3, r4, r5, to_, els⟩)
  have bx := heap_alloc_new w (Ins.obj ⟨k, op, dst, a, b, n, text, r0, r1, r2, r3, r4, r5, to_, els⟩)
  simp only [Ins.obj, Ins.agg, Ins.next] at hb0 bx ⊢
  have hwr : wrap64 (p + 1) = p + 1 := by unfold wrap64; omega
  have hone : ∀ (W : World) (x : Int), RdN (W.alloc (.cells #[.int .i64 x] 3)) (some ⟨W.heap.size, 0, none⟩) [x] := fun W x j y hj => by
    cases j with
    | succ j => simp at hj
    | zero =>
      simp at hj
      subst hj
      exact ⟨W.heap.size, 0, rfl, by simp, cell_of_heap (heap_alloc_new W (.cells #[.int .i64 x] 3)) 0 _ rfl⟩
  have htwo : ∀ (W : World) (x y : Int), RdN (W.alloc (.cells #[.int .i64 x, .int .i64 y] 3)) (some ⟨W.heap.size, 0, none⟩) [x, y] := fun W x y j z hj => by
    have hn := heap_alloc_new W (.cells #[.int .i64 x, .int .i64 y] 3)
    match j with
    | 0 => simp at hj; subst hj; exact ⟨W.heap.size, 0, rfl, by simp, cell_of_heap hn 0 _ rfl⟩
    | 1 => simp at hj; subst hj; exact ⟨W.heap.size, 0, rfl, by simp, cell_of_heap hn 1 _ rfl⟩
    | j + 2 => simp at hj
  have h1 := hone (w.alloc (Ins.obj ⟨k, op, dst, a, b, n, text, r0, r1, r2, r3, r4, r5, to_, els⟩))
  have h2 := htwo (w.alloc (Ins.obj ⟨k, op, dst, a, b, n, text, r0, r1, r2, r3, r4, r5, to_, els⟩))
  simp only [Ins.obj] at h1 h2
  rw [show (w.alloc (Ins.obj ⟨k, op, dst, a, b, n, text, r0, r1, r2, r3, r4, r5, to_, els⟩)).heap.size = w.heap.size + 1 by simp] at h1 h2
  by_cases e11 : k = 11
  · subst e11
    go_enter Try.func48, Try.ntmps48
    go_wp2
    go_returns
    exact ⟨⟨_, 1, rfl, h1 _⟩, hb0.alloc hb0.size _⟩
  · rw [if_neg e11]
    have q1 : (k == 11) = false := by simpa using e11
    by_cases e12 : k = 12
    · subst e12
      go_enter Try.func48, Try.ntmps48
      go_wp2
      go_returns
      exact ⟨⟨_, 2, rfl, h2 _ _⟩, hb0.alloc hb0.size _⟩
    · rw [if_neg e12]
      have q2 : (k == 12) = false := by simpa using e12
      by_cases e13 : k = 13
      · subst e13
        go_enter Try.func48, Try.ntmps48
        go_wp2
        go_returns
        exact ⟨⟨none, 0, rfl, fun j y hj => by simp at hj⟩, hb0⟩
      · rw [if_neg e13]
        have q3 : (k == 13) = false := by simpa using e13
        clear e11 e12 e13
        go_enter Try.func48, Try.ntmps48
        go_wp2
        go_returns
        exact ⟨⟨_, 1, rfl, h1 _⟩, hb0.alloc hb0.size _⟩
end Go.Proofs.Ytaofdbboalcceaa
