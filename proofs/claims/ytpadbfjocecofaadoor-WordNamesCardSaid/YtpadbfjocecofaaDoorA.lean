import Derived.Test.YtpadbfjocecofaaDoorChecked
import Derived.ProofKit
import Derived.WalkKit
import Derived.WalkLawsBesides
import Derived.WalkSpells
import Derived.Outline
import Derived.Laws.Rows
import Derived.Lib.Hide
import Derived.Handy
import Derived.WalkMore
import Derived.ScopeJumps
import Derived.Deep.QuietTactic
import Derived.BigQuiet
import Derived.Laws.BitsLemmas
namespace Go.Proofs.YtpadbfjocecofaaDoor
open Go.RowKit Go.BigFrame

def wr (n : Int) : Int := (n + 2147483648) % 4294967296 - 2147483648
def pl (n : Int) : Int := n % 4294967296

theorem wr_bd (n : Int) : -2147483648 ≤ wr n ∧ wr n < 2147483648 := by unfold wr; omega
theorem pl_bd (n : Int) : 0 ≤ pl n ∧ pl n < 4294967296 := by unfold pl; omega
theorem w64 {n : Int} (h : -9223372036854775808 ≤ n ∧ n < 9223372036854775808) : wrap64 n = n := by unfold wrap64; omega
theorem k64 (n : Int) : IntKind.i64.wrap n = wrap64 n := by rw [IntKind.wrap_i64]; unfold wrap64; rfl
theorem wrap_any (n : Int) (w : World) : Calls Tryd.prog 12 #[.int .i64 n] w fun e w' => e = .returned (.int .i64 (wr n)) ∧ w = w' := by
  have h1 : wrap64 (wrap32 (n % 4294967296)) = wr n := by unfold wrap64 wrap32 wr; omega
  go_enter Tryd.func12, Tryd.ntmps12
  go_wp2
  go_returns
  exact ⟨congrArg (fun x => Ending.returned (.int .i64 x)) h1, rfl⟩
theorem plain_any (n : Int) (w : World) : Calls Tryd.prog 20 #[.int .i64 n] w fun e w' => e = .returned (.int .i64 (pl n)) ∧ w = w' := by
  go_enter Tryd.func20, Tryd.ntmps20
  go_wp2
  go_returns
  exact ⟨rfl, rfl⟩
def tv (b : Bool) : Int := if b then 1 else 0
def dv (a b : Int) : Int := if b = 0 then 0 else a.tdiv b
def md (a b : Int) : Int := if b = 0 then 0 else a.tmod b
theorem truth_any (b : Bool) (w : World) : Calls Tryd.prog 30 #[.bool b] w fun e w' => e = .returned (.int .i64 (tv b)) ∧ w = w' := by
  cases b <;> (go_enter Tryd.func30, Tryd.ntmps30; go_wp2; go_returns; exact ⟨rfl, rfl⟩)
theorem told_any (n : Int) (w : World) : Calls Tryd.prog 28 #[.int .i64 n] w fun e w' => e = .returned (.tuple #[.int .i64 (wr n), .bool true]) ∧ w = w' := by
  go_enter Tryd.func28, Tryd.ntmps28
  go_wp2_with (go_at_call 12; refine (wrap_any _ _).mono ?_; rintro e w' ⟨rfl, rfl⟩)
  go_returns
  exact ⟨rfl, rfl⟩
theorem divide_any (a b : Int) (w : World) (ha : -4294967296 ≤ a ∧ a < 4294967296) (hb : -4294967296 ≤ b ∧ b < 4294967296) :
    Calls Tryd.prog 29 #[.int .i64 a, .int .i64 b] w fun e w' => e = .returned (.tuple #[.int .i64 (dv a b), .int .i64 (md a b), .bool (!decide (b = 0))]) ∧ Below w.heap.size w w' := by
  by_cases h : b = 0
  · subst h
    go_enter Tryd.func29, Tryd.ntmps29
    go_wp2
    refine wp_scope_jumps 0 (fun a' w' => w' = w ∧ ∃ (u2 u3 u9 u10 u11 u12 u13 u14 : Value), a' = { tmps := #[.int .i64 a, .int .i64 0, u2, u3, .int .i64 0, .int .i64 0, .bool false, .int .i64 0, .bool true, u9, u10, u11, u12, u13, u14], defers := [] }) (fun _ _ => 0) rfl ?_ ?_
    · go_wp2
      go_step3
      exact ⟨rfl, rfl, _, _, _, _, _, _, _, _, rfl⟩
    · rintro _ _ ⟨rfl, u2, u3, u9, u10, u11, u12, u13, u14, rfl⟩
      go_wp2
      simp only [Exit.jump]
      go_returns
      exact ⟨rfl, Below.refl _ _⟩
  · have h1 : (b == 0) = false := by simp [h]
    have hq : wrap64 (a.tdiv b) = a.tdiv b := w64 (by
      have h1 := Int.natAbs_tdiv_le_natAbs a b
      omega)
    have hm : wrap64 (a.tmod b) = a.tmod b := w64 (by
      have h1 := Int.tmod_add_mul_tdiv a b
      have h2 : (a.tmod b).natAbs ≤ a.natAbs := by rw [Int.natAbs_tmod]; exact Nat.mod_le _ _
      omega)
    go_enter Tryd.func29, Tryd.ntmps29
    go_wp2
    go_step3
    go_wp2
    have hq' : IntKind.i64.wrap (a.tdiv b) = a.tdiv b := by rw [k64]; exact hq
    have hm' : IntKind.i64.wrap (a.tmod b) = a.tmod b := by rw [k64]; exact hm
    go_quiet (fail)
    go_wp2
    rw [Exit.noGoto_ret]
    go_returns
    exact ⟨by simp [h, dv, md], below_drewN (Below.refl _ _) nq⟩
theorem two_any (n : Int) (w : World) : Calls Tryd.prog 24 #[.int .i64 n] w fun e w' => e = .returned (.bool (decide (1 ≤ n) && decide (n ≤ 19))) ∧ w = w' := by
  by_cases h : 1 ≤ n
  · have h' : decide (n ≥ 1) = true := by simp; omega
    have h'' : decide (1 ≤ n) = true := by simp; omega
    go_enter Tryd.func24, Tryd.ntmps24
    go_wp2
    go_returns
    exact ⟨by simp; omega, rfl⟩
  · have h' : decide (n ≥ 1) = false := by simp; omega
    have h'' : decide (1 ≤ n) = false := by simp; omega
    go_enter Tryd.func24, Tryd.ntmps24
    go_wp2
    go_returns
    exact ⟨by simp, rfl⟩
theorem one_any (n : Int) (w : World) : Calls Tryd.prog 25 #[.int .i64 n] w fun e w' => e = .returned (.bool (decide (20 ≤ n) && decide (n ≤ 23))) ∧ w = w' := by
  by_cases h : 20 ≤ n
  · have h' : decide (n ≥ 20) = true := by simp; omega
    have h'' : decide (20 ≤ n) = true := by simp; omega
    go_enter Tryd.func25, Tryd.ntmps25
    go_wp2
    go_returns
    exact ⟨by simp; omega, rfl⟩
  · have h' : decide (n ≥ 20) = false := by simp; omega
    have h'' : decide (20 ≤ n) = false := by simp; omega
    go_enter Tryd.func25, Tryd.ntmps25
    go_wp2
    go_returns
    exact ⟨by simp, rfl⟩
end Go.Proofs.YtpadbfjocecofaaDoor
