import Derived.Test.YtpadbfjocecofaaDoorC
namespace Go.Proofs.YtpadbfjocecofaaDoor
open Go.RowKit Go.BigFrame

theorem tmod_bd (n : Int) : (n.tmod 4294967296 = n % 4294967296 ∧ 0 ≤ n) ∨ (n.tmod 4294967296 = n % 4294967296 - 4294967296 ∧ n % 4294967296 ≠ 0 ∧ n < 0) ∨ (n.tmod 4294967296 = 0 ∧ n % 4294967296 = 0 ∧ n < 0) := by
  rcases Int.le_total 0 n with h | h
  · exact .inl ⟨Int.tmod_eq_emod_of_nonneg h, h⟩
  · have h1 := Int.tmod_add_mul_tdiv n 4294967296
    have h2 : n.tmod 4294967296 ≤ 0 := by
      have := Int.tmod_nonneg 4294967296 (show 0 ≤ -n by omega)
      rw [Int.neg_tmod] at this
      omega
    have h3 : (n.tmod 4294967296).natAbs < 4294967296 := by
      rw [Int.natAbs_tmod]; exact Nat.mod_lt _ (by decide)
    omega

theorem refwrap_any (n : Int) (w : World) : Calls Tryd.prog 19 #[.int .i64 n] w fun e w' => e = .returned (.int .i64 (wr n)) ∧ w = w' := by
  have h0 := tmod_bd n
  by_cases h1 : 2147483648 ≤ n.tmod 4294967296
  · have h2 : wrap64 (n.tmod 4294967296 - 4294967296) = n.tmod 4294967296 - 4294967296 := w64 (by omega)
    have h3 : n % 4294967296 - 4294967296 = wr n := by unfold wr; omega
    go_enter Tryd.func19, Tryd.ntmps19
    go_wp2
    go_returns
    exact ⟨rfl, rfl⟩
  · by_cases h3 : n.tmod 4294967296 < -2147483648
    · have h2 : n.tmod 4294967296 + 4294967296 = wr n := by unfold wr; omega
      go_enter Tryd.func19, Tryd.ntmps19
      go_wp2
      go_returns
      exact ⟨rfl, rfl⟩
    · have h2 : n.tmod 4294967296 = wr n := by unfold wr; omega
      go_enter Tryd.func19, Tryd.ntmps19
      go_wp2
      go_returns
      exact ⟨rfl, rfl⟩
theorem refplain_any (n : Int) (w : World) : Calls Tryd.prog 21 #[.int .i64 n] w fun e w' => e = .returned (.int .i64 (pl n)) ∧ w = w' := by
  have h1 := wr_bd n
  by_cases h : wr n < 0
  · have h2 : wrap64 (wr n + 4294967296) = wr n + 4294967296 := w64 (by omega)
    have h3 : wr n + 4294967296 = pl n := by unfold wr pl at *; omega
    go_enter Tryd.func21, Tryd.ntmps21
    go_wp2_with (go_at_call 19; refine (refwrap_any _ _).mono ?_; rintro e w' ⟨rfl, rfl⟩)
    go_returns
    exact ⟨rfl, rfl⟩
  · have h3 : wr n = pl n := by unfold wr pl at *; omega
    go_enter Tryd.func21, Tryd.ntmps21
    go_wp2_with (go_at_call 19; refine (refwrap_any _ _).mono ?_; rintro e w' ⟨rfl, rfl⟩)
    go_returns
    exact ⟨rfl, rfl⟩
theorem is_any (n : Int) (w : World) : Calls Tryd.prog 18 #[.int .i64 n] w fun e w' => e = .returned (.bool (wr n == n)) ∧ w = w' := by
  go_enter Tryd.func18, Tryd.ntmps18
  go_wp2_with (go_at_call 12; refine (wrap_any _ _).mono ?_; rintro e w' ⟨rfl, rfl⟩)
  go_returns
  exact ⟨rfl, rfl⟩
theorem is_eq (n : Int) : (wr n == n) = (decide (-2147483648 ≤ n) && decide (n < 2147483648)) := by
  by_cases h1 : -2147483648 ≤ n <;> by_cases h2 : n < 2147483648 <;> simp [h1, h2] <;> unfold wr <;> omega
set_option maxRecDepth 1000000 in
set_option maxHeartbeats 1000000 in
theorem wraps_any (n : Int) (w : World) (h : Tab w) : Calls Tryd.prog 9 #[.int .i64 n] w fun e w' => e = .returned (.bool true) ∧ Below w.heap.size w w' := by
  have hi := is_eq n
  obtain ⟨p, hp⟩ : ∃ p, decide (-2147483648 ≤ n) = p := ⟨_, rfl⟩
  obtain ⟨q, hq⟩ : ∃ q, decide (n < 2147483648) = q := ⟨_, rfl⟩
  rw [hp, hq] at hi
  have hp' : decide (n ≥ -2147483648) = p := hp
  cases p <;> cases q
  all_goals
    go_enter Tryd.func9, Tryd.ntmps9
    go_wp2_with (first
      | (go_at_call 12; refine (wrap_any _ _).mono ?_; rintro e w' ⟨rfl, rfl⟩)
      | (go_at_call 19; refine (refwrap_any _ _).mono ?_; rintro e w' ⟨rfl, rfl⟩)
      | (go_at_call 20; refine (plain_any _ _).mono ?_; rintro e w' ⟨rfl, rfl⟩)
      | (go_at_call 21; refine (refplain_any _ _).mono ?_; rintro e w' ⟨rfl, rfl⟩)
      | (go_at_call 18; refine (is_any _ _).mono ?_; rintro e w' ⟨rfl, rfl⟩; rw [show (wr n == n) = _ from hi])
      | (go_at_call 13; refine (awake_any _ h).mono ?_; rintro e w3 ⟨rfl, hb3⟩))
    go_returns
    exact ⟨rfl, hb3⟩
end Go.Proofs.YtpadbfjocecofaaDoor
