import Derived.Test.YtpadbfjocecofaaDoorC
namespace Go.Proofs.YtpadbfjocecofaaDoor
open Go.RowKit Go.BigFrame

theorem wr_tv (b : Bool) : wr (tv b) = tv b := by cases b <;> decide
theorem wr_wr (n : Int) : wr (wr n) = wr n := by unfold wr; omega
theorem tv_lt (a b : Int) : tv (decide (a < b)) + tv (decide (b < a)) + tv (a == b) = 1 := by
  rcases Int.lt_trichotomy a b with h | h | h
  · have h2 : ¬ b < a := by omega
    have h3 : ¬ a = b := by omega
    simp [tv, h, h2, h3]
  · subst h; simp [tv]
  · have h2 : ¬ a < b := by omega
    have h3 : ¬ a = b := by omega
    simp [tv, h, h2, h3]
theorem tv_le (a b : Int) : 1 - tv (decide (b < a)) = tv (decide (a ≤ b)) := by
  by_cases h : b < a
  · have h2 : ¬ a ≤ b := by omega
    simp [tv, h, h2]
  · have h2 : a ≤ b := by omega
    simp [tv, h, h2]
theorem pl_moved (a b : Int) : decide (wr (wr (wr a + wr (-2147483648))) < wr (wr (wr b + wr (-2147483648)))) = decide (pl (wr a) < pl (wr b)) := by
  have h : (wr (wr (wr a + wr (-2147483648))) < wr (wr (wr b + wr (-2147483648)))) ↔ pl (wr a) < pl (wr b) := by unfold wr pl; omega
  exact decide_eq_decide.2 h

set_option maxRecDepth 1000000 in
set_option maxHeartbeats 1000000 in
theorem orders_any (a b : Int) (w : World) (h : Tab w) : Calls Tryd.prog 4 #[.int .i64 a, .int .i64 b] w fun e w' => e = .returned (.bool true) ∧ Below w.heap.size w w' := by
  have c1 := fun w => do_16 a b w
  have c2 := fun w => do_16 b a w
  have c3 := fun w => do_14 a b w
  have c4 := fun w => do_17 a b w
  have c5 := fun w => do_18 a b w
  have c6 := fun w => do_1 a (-2147483648) w
  have c7 := fun w => do_1 b (-2147483648) w
  have c8 := fun w => do_16 (wr (wr a + wr (-2147483648))) (wr (wr b + wr (-2147483648))) w
  rw [pl_moved] at c8
  have m1 := tv_lt (wr a) (wr b)
  have m2 := tv_le (wr a) (wr b)
  simp only [wr_tv] at c1 c2 c3 c4 c5 c8
  have b1 : 0 ≤ tv (decide (wr a < wr b)) ∧ tv (decide (wr a < wr b)) ≤ 1 := by cases decide (wr a < wr b) <;> decide
  have b2 : 0 ≤ tv (decide (wr b < wr a)) ∧ tv (decide (wr b < wr a)) ≤ 1 := by cases decide (wr b < wr a) <;> decide
  generalize tv (decide (wr a < wr b)) = lt at *
  generalize tv (decide (wr b < wr a)) = gt at *
  generalize tv (wr a == wr b) = eq at *
  generalize tv (decide (wr a ≤ wr b)) = le at *
  generalize tv (decide (pl (wr a) < pl (wr b))) = u at *
  generalize wr (wr a + wr (-2147483648)) = x at *
  generalize wr (wr b + wr (-2147483648)) = y at *
  have f1 : wrap64 (lt + gt) = lt + gt := w64 (by omega)
  have f2 : wrap64 (lt + gt + eq) = 1 := by rw [m1]; exact w64 (by omega)
  have f3 : wrap64 (1 - gt) = le := by rw [← m2]; exact w64 (by omega)
  go_enter Tryd.func4, Tryd.ntmps4
  go_wp2_with (first
    | (go_at_call_of 11 (14 : Int); refine (c3 _).mono ?_; rintro e w' ⟨rfl, rfl⟩)
    | (go_at_call_of 11 (17 : Int); refine (c4 _).mono ?_; rintro e w' ⟨rfl, rfl⟩)
    | (go_at_call_of 11 (18 : Int); refine (c5 _).mono ?_; rintro e w' ⟨rfl, rfl⟩)
    | (go_at_call_of 11 (#[Value.int IntKind.i64 16, Value.int IntKind.i64 a, Value.int IntKind.i64 b]); refine (c1 _).mono ?_; rintro e w' ⟨rfl, rfl⟩)
    | (go_at_call_of 11 (#[Value.int IntKind.i64 16, Value.int IntKind.i64 b, Value.int IntKind.i64 a]); refine (c2 _).mono ?_; rintro e w' ⟨rfl, rfl⟩)
    | (go_at_call_of 11 (#[Value.int IntKind.i64 16, Value.int IntKind.i64 x, Value.int IntKind.i64 y]); refine (c8 _).mono ?_; rintro e w' ⟨rfl, rfl⟩)
    | (go_at_call_of 11 (1 : Int); go_at_call_of 11 a; refine (c6 _).mono ?_; rintro e w' ⟨rfl, rfl⟩)
    | (go_at_call_of 11 (1 : Int); go_at_call_of 11 b; refine (c7 _).mono ?_; rintro e w' ⟨rfl, rfl⟩)
    | (go_at_call 13; refine (awake_any _ h).mono ?_; rintro e w3 ⟨rfl, hb3⟩))
  go_returns
  exact ⟨rfl, hb3⟩
end Go.Proofs.YtpadbfjocecofaaDoor
