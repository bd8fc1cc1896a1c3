import Derived.Test.YtpadbfjocecofaaDoorN
namespace Go.Proofs.YtpadbfjocecofaaDoor
open Go.RowKit Go.BigFrame

set_option maxRecDepth 1000000 in
set_option maxHeartbeats 2000000 in
theorem do_out (op a b : Int) (h : op < 1 ∨ 23 < op) (w : World) : Calls Tryd.prog 11 #[.int .i64 op, .int .i64 a, .int .i64 b] w fun e w' => e = .returned (.tuple #[.int .i64 0, .bool false]) ∧ w = w' := by
  have hn : ∀ k : Int, 1 ≤ k → k ≤ 23 → (op == k) = false := fun k h1 h2 => beq_eq_false_iff_ne.2 (by omega)
  have n1 := hn 1 (by decide) (by decide); have n2 := hn 2 (by decide) (by decide); have n3 := hn 3 (by decide) (by decide); have n4 := hn 4 (by decide) (by decide)
  have n5 := hn 5 (by decide) (by decide); have n6 := hn 6 (by decide) (by decide); have n7 := hn 7 (by decide) (by decide); have n8 := hn 8 (by decide) (by decide)
  have n9 := hn 9 (by decide) (by decide); have n10 := hn 10 (by decide) (by decide); have n11 := hn 11 (by decide) (by decide); have n12 := hn 12 (by decide) (by decide)
  have n13 := hn 13 (by decide) (by decide); have n14 := hn 14 (by decide) (by decide); have n15 := hn 15 (by decide) (by decide); have n16 := hn 16 (by decide) (by decide)
  have n17 := hn 17 (by decide) (by decide); have n18 := hn 18 (by decide) (by decide); have n19 := hn 19 (by decide) (by decide); have n20 := hn 20 (by decide) (by decide)
  have n21 := hn 21 (by decide) (by decide); have n22 := hn 22 (by decide) (by decide); have n23 := hn 23 (by decide) (by decide)
  clear hn h
  go_enter Tryd.func11, Tryd.ntmps11
  go_wp2_with (go_at_call 12; refine (wrap_any _ _).mono ?_; rintro e w' ⟨rfl, rfl⟩)
  go_returns
  exact ⟨rfl, rfl⟩

set_option maxRecDepth 1000000 in
set_option maxHeartbeats 2000000 in
theorem ref_out (op a b : Int) (h : op < 1 ∨ 23 < op) (w : World) : Calls Tryd.prog 17 #[.int .i64 op, .int .i64 a, .int .i64 b] w fun e w' => e = .returned (.tuple #[.int .i64 0, .bool false]) ∧ w = w' := by
  have h6 := pl_bd (wr b)
  obtain ⟨kk, hkk⟩ : ∃ kk, kk = (wr b % 32).toNat := ⟨_, rfl⟩
  have hk1 : pl (wr b) % 32 = (kk : Int) := by rw [hkk]; unfold pl; omega
  have hk2 : (pl (wr b)).tmod 32 = (kk : Int) := by rw [Int.tmod_eq_emod_of_nonneg h6.1, hk1]
  have hk3 : kk ≤ 31 := by omega
  clear hkk
  by_cases h1 : op < 1
  · have l1 : decide (op < 1) = true := by simp [h1]
    go_enter Tryd.func17, Tryd.ntmps17
    go_wp2_with (first
      | (go_at_call 19; refine (refwrap_any _ _).mono ?_; rintro e w' ⟨rfl, rfl⟩)
      | (go_at_call 21; refine (refplain_any _ _).mono ?_; rintro e w' ⟨rfl, rfl⟩)
      | (go_at_call 31; refine (power_any kk hk3 _).mono ?_; rintro e w' ⟨rfl, rfl⟩))
    go_returns
    exact ⟨rfl, rfl⟩
  · have h2 : 23 < op := by omega
    have l1 : decide (op < 1) = false := by simp [h1]
    have l2 : decide (23 < op) = true := by simp [h2]
    go_enter Tryd.func17, Tryd.ntmps17
    go_wp2_with (first
      | (go_at_call 19; refine (refwrap_any _ _).mono ?_; rintro e w' ⟨rfl, rfl⟩)
      | (go_at_call 21; refine (refplain_any _ _).mono ?_; rintro e w' ⟨rfl, rfl⟩)
      | (go_at_call 31; refine (power_any kk hk3 _).mono ?_; rintro e w' ⟨rfl, rfl⟩))
    go_returns
    exact ⟨rfl, rfl⟩
set_option maxRecDepth 1000000 in
theorem does_gen (op a b v : Int) (t : Bool) (hv : wr v = v)
    (hd : ∀ w, Calls Tryd.prog 11 #[.int .i64 op, .int .i64 a, .int .i64 b] w fun e w' => e = .returned (.tuple #[.int .i64 v, .bool t]) ∧ Below w.heap.size w w')
    (hr : ∀ w, Calls Tryd.prog 17 #[.int .i64 op, .int .i64 a, .int .i64 b] w fun e w' => e = .returned (.tuple #[.int .i64 v, .bool t]) ∧ Below w.heap.size w w')
    (w : World) (h : Tab w) : Calls Tryd.prog 8 #[.int .i64 op, .int .i64 a, .int .i64 b] w fun e w' => e = .returned (.bool true) ∧ Below w.heap.size w w' := by
  have hi : ∀ w, Calls Tryd.prog 18 #[.int .i64 v] w fun e w' => e = .returned (.bool true) ∧ w = w' := fun w => by
    have h := is_any v w
    rwa [hv, beq_self_eq_true] at h
  have e1 : (v == v) = true := beq_self_eq_true v
  have e2 : (t == t) = true := beq_self_eq_true t
  clear hv
  go_enter Tryd.func8, Tryd.ntmps8
  go_wp2_with (first
    | (go_at_call 11; refine (hd _).mono ?_; rintro e w1 ⟨rfl, hb1⟩; have h1 := h.below hb1)
    | (go_at_call 17; refine (hr _).mono ?_; rintro e w2 ⟨rfl, hb2⟩; have h2 := h1.below hb2)
    | (go_at_call 18; refine (hi _).mono ?_; rintro e w' ⟨rfl, rfl⟩)
    | (go_at_call 13; refine (awake_any _ h2).mono ?_; rintro e w3 ⟨rfl, hb3⟩))
  go_returns
  exact ⟨rfl, (hb1.trans (hb2.mono hb1.size)).trans (hb3.mono (Nat.le_trans hb1.size hb2.size))⟩
theorem same_below {f : FuncId} {args : Array Value} {v : Ending} {w : World} (h : Calls Tryd.prog f args w fun e w' => e = v ∧ w = w') : Calls Tryd.prog f args w fun e w' => e = v ∧ Below w.heap.size w w' :=
  h.mono fun _ _ ⟨he, hw⟩ => ⟨he, by subst hw; exact Below.refl _ _⟩
theorem does_any (op a b : Int) (w : World) (h : Tab w) : Calls Tryd.prog 8 #[.int .i64 op, .int .i64 a, .int .i64 b] w fun e w' => e = .returned (.bool true) ∧ Below w.heap.size w w' := by
  by_cases ho : op < 1 ∨ 23 < op
  · exact does_gen op a b 0 false (by decide) (fun w => same_below (do_out op a b ho w)) (fun w => same_below (ref_out op a b ho w)) w h
  · have hc : op = 1 ∨ op = 2 ∨ op = 3 ∨ op = 4 ∨ op = 5 ∨ op = 6 ∨ op = 7 ∨ op = 8 ∨ op = 9 ∨ op = 10 ∨ op = 11 ∨ op = 12 ∨ op = 13 ∨ op = 14 ∨ op = 15 ∨ op = 16 ∨ op = 17 ∨ op = 18 ∨ op = 19 ∨ op = 20 ∨ op = 21 ∨ op = 22 ∨ op = 23 := by omega
    rcases hc with rfl | rfl | rfl | rfl | rfl | rfl | rfl | rfl | rfl | rfl | rfl | rfl | rfl | rfl | rfl | rfl | rfl | rfl | rfl | rfl | rfl | rfl | rfl
    · exact does_gen 1 a b _ _ (wr_wr _) (fun w => same_below (do_1 a b w)) (fun w => ref_1 a b w) w h
    · exact does_gen 2 a b _ _ (wr_wr _) (fun w => same_below (do_2 a b w)) (fun w => ref_2 a b w) w h
    · exact does_gen 3 a b _ _ (wr_wr _) (fun w => same_below (do_3 a b w)) (fun w => ref_3 a b w) w h
    · exact does_gen 4 a b _ _ (wr_wr _) (fun w => do_4 a b w) (fun w => ref_4 a b w) w h
    · exact does_gen 5 a b _ _ (wr_wr _) (fun w => do_5 a b w) (fun w => ref_5 a b w) w h
    · exact does_gen 6 a b _ _ (wr_wr _) (fun w => do_6 a b w) (fun w => ref_6 a b w) w h
    · exact does_gen 7 a b _ _ (wr_wr _) (fun w => do_7 a b w) (fun w => ref_7 a b w) w h
    · exact does_gen 8 a b _ _ (wr_wr _) (fun w => same_below (do_8 a b w)) (fun w => ref_8 a b w) w h
    · exact does_gen 9 a b _ _ (wr_wr _) (fun w => same_below (do_9 a b w)) (fun w => ref_9 a b w) w h
    · exact does_gen 10 a b _ _ (wr_wr _) (fun w => same_below (do_10 a b w)) (fun w => ref_10 a b w) w h
    · exact does_gen 11 a b _ _ (wr_wr _) (fun w => same_below (do_11 a b w)) (fun w => ref_11 a b w) w h
    · exact does_gen 12 a b _ _ (wr_wr _) (fun w => same_below (do_12 a b w)) (fun w => ref_12 a b w) w h
    · exact does_gen 13 a b _ _ (wr_wr _) (fun w => same_below (do_13 a b w)) (fun w => ref_13 a b w) w h
    · exact does_gen 14 a b _ _ (wr_wr _) (fun w => same_below (do_14 a b w)) (fun w => ref_14 a b w) w h
    · exact does_gen 15 a b _ _ (wr_wr _) (fun w => same_below (do_15 a b w)) (fun w => ref_15 a b w) w h
    · exact does_gen 16 a b _ _ (wr_wr _) (fun w => same_below (do_16 a b w)) (fun w => ref_16 a b w) w h
    · exact does_gen 17 a b _ _ (wr_wr _) (fun w => same_below (do_17 a b w)) (fun w => ref_17 a b w) w h
    · exact does_gen 18 a b _ _ (wr_wr _) (fun w => same_below (do_18 a b w)) (fun w => ref_18 a b w) w h
    · exact does_gen 19 a b _ _ (wr_wr _) (fun w => same_below (do_19 a b w)) (fun w => ref_19 a b w) w h
    · exact does_gen 20 a b _ _ (wr_wr _) (fun w => same_below (do_20 a b w)) (fun w => ref_20 a b w) w h
    · exact does_gen 21 a b _ _ (wr_wr _) (fun w => same_below (do_21 a b w)) (fun w => ref_21 a b w) w h
    · exact does_gen 22 a b _ _ (wr_wr _) (fun w => same_below (do_22 a b w)) (fun w => ref_22 a b w) w h
    · exact does_gen 23 a b _ _ (wr_wr _) (fun w => same_below (do_23 a b w)) (fun w => ref_23 a b w) w h
end Go.Proofs.YtpadbfjocecofaaDoor
