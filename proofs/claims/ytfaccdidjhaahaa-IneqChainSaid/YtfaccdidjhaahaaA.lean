import Derived.Test.YtfaccdidjhaahaaChecked
import Derived.ProofKit
import Derived.WalkKit
import Derived.WalkLawsBesides
import Derived.WalkSpells
import Derived.Outline
import Derived.Laws.Rows
import Derived.Lib.Hide
import Derived.Handy
namespace Go.Proofs.Ytfaccdidjhaahaa
open Go.RowKit

def far (n : Int) : Bool := decide (-1048576 ≤ n) && decide (n ≤ 1048576)

theorem within_any (n : Int) (w : World) : Calls Try.prog 19 #[.int .i64 n] w fun e w' => e = .returned (.bool (far n)) ∧ w = w' := by
  by_cases h1 : -1048576 ≤ n <;> by_cases h2 : n ≤ 1048576
  all_goals
    go_enter Try.func19, Try.ntmps19
    go_wp2
    go_ret
    exact ⟨by simp [far, h1, h2], rfl⟩

structure Row where
  (f0 f1 f2 f3 f4 f5 f6 f7 c : Int)
abbrev Row.enc (r : Row) : Value := .agg #[.int .i64 r.f0, .int .i64 r.f1, .int .i64 r.f2, .int .i64 r.f3, .int .i64 r.f4, .int .i64 r.f5, .int .i64 r.f6, .int .i64 r.f7, .int .i64 r.c]
def Row.F (r : Row) : List Int := [r.f0, r.f1, r.f2, r.f3, r.f4, r.f5, r.f6, r.f7]
def Row.at (r : Row) (k : Nat) : Int := r.F.getD k 0
def Row.right (r : Row) : Bool := r.F.all far && far r.c

theorem index_arr (r : Row) (k : Nat) (h : k < 8) (w : World) : (Instr.index 22 (.agg #[.int .i64 r.f0, .int .i64 r.f1, .int .i64 r.f2, .int .i64 r.f3, .int .i64 r.f4, .int .i64 r.f5, .int .i64 r.f6, .int .i64 r.f7]) (.int .i64 k)).run Try.prog w = .ok (.int .i64 (r.at k)) w :=
  match k, h with
  | 0, _ => by kernel_rfl
  | 1, _ => by kernel_rfl
  | 2, _ => by kernel_rfl
  | 3, _ => by kernel_rfl
  | 4, _ => by kernel_rfl
  | 5, _ => by kernel_rfl
  | 6, _ => by kernel_rfl
  | 7, _ => by kernel_rfl

theorem all_take (r : Row) : (∀ j, j < 8 → far (r.at j) = true) → r.F.all far = true := by
  intro h
  have h0 := h 0; have h1 := h 1; have h2 := h 2; have h3 := h 3; have h4 := h 4; have h5 := h 5; have h6 := h 6; have h7 := h 7
  simp [Row.at, Row.F] at *
  simp [*]
theorem not_all (r : Row) (j : Nat) (h : j < 8) (hf : far (r.at j) = false) : r.F.all far = false := by
  have : j = 0 ∨ j = 1 ∨ j = 2 ∨ j = 3 ∨ j = 4 ∨ j = 5 ∨ j = 6 ∨ j = 7 := by omega
  rcases this with rfl | rfl | rfl | rfl | rfl | rfl | rfl | rfl <;> simp [Row.at, Row.F] at * <;> simp [*]

set_option maxHeartbeats 400000 in
theorem right_any (r : Row) (w : World) : Calls Try.prog 10 #[r.enc] w fun e w' => e = .returned (.bool r.right) ∧ Below w.heap.size w w' := by
  go_enter Try.func10, Try.ntmps10
  go_wp2
  go_loop [7] (fun i => ∃ k : Nat, k ≤ 8 ∧ i = .int .i64 k ∧ Hid (∀ j, j < k → far (r.at j) = true)) (fun i => 8 - (intOf i).toNat)
  case atStart => exact ⟨0, by omega, rfl, fun j hj => by omega⟩
  case round =>
    obtain ⟨k, hk, rfl, hf⟩ := hrel
    by_cases hlt : k < 8
    · have hix := index_arr r k hlt
      by_cases hfar : far (r.at k) = true
      · go_wp2_with (go_at_call 19; refine (within_any _ _).mono ?_; rintro e w' ⟨rfl, rfl⟩)
        go_round
        case rel => exact ⟨k + 1, by omega, by go_num, fun j hj => by rcases Nat.lt_succ_iff_lt_or_eq.1 hj with h | rfl; exact hf j h; exact hfar⟩
        case measure => simp [intOf]; omega
      · have hfar' : far (r.at k) = false := by simpa using hfar
        go_wp2_with (go_at_call 19; refine (within_any _ _).mono ?_; rintro e w' ⟨rfl, rfl⟩)
        go_ret
        exact ⟨by simp [Row.right, not_all r k hlt hfar'], (Below.refl _ _).alloc (Nat.le_refl _) _⟩
    · have hk8 : k = 8 := by omega
      subst hk8
      go_wp2_with (go_at_call 19; refine (within_any _ _).mono ?_; rintro e w' ⟨rfl, rfl⟩)
      go_ret
      exact ⟨by simp [Row.right, all_take r hf], (Below.refl _ _).alloc (Nat.le_refl _) _⟩
end Go.Proofs.Ytfaccdidjhaahaa
