import Derived.Test.YtihbgppcacaekaaDoorPb
/- PLAIN: how much goes out. -/
namespace Go.Proofs.YtihbgppcacaekaaDoor
open Go

namespace Rn
theorem stepL_len (by_ : ByteArray → Option Ob) (R : Rn) (f : Fm) (rest : List Fm) (l : Ln) : (R.stepL by_ f rest l).outp.length ≤ R.outp.length + 1 := by
  unfold stepL
  repeat' split
  all_goals first
    | (rw [touch_outp]; exact Nat.le_succ _)
    | (rw [enter_outp]; exact Nat.le_succ _)
    | (rw [back_outp]; exact Nat.le_succ _)
    | (rw [reckon_outp]; exact Nat.le_succ _)
    | exact Nat.le_succ _
    | (rw [show ∀ (A : Rn) (x : List Int), ({ A with outp := x } : Rn).outp = x from fun _ _ => rfl, List.length_append]; exact Nat.le_refl _)
theorem step_len (by_ : ByteArray → Option Ob) (R : Rn) : (R.step by_).outp.length ≤ R.outp.length + 1 := by
  unfold step
  split
  · exact Nat.le_succ _
  · exact stepL_len _ _ _ _ _
theorem iter_len (by_ : ByteArray → Option Ob) : ∀ (k : Nat) (R : Rn), (iter by_ k R).outp.length ≤ R.outp.length + k
  | 0, R => Nat.le_refl _
  | k + 1, R => by
    rw [iter_succ]
    split
    · omega
    · have h1 := iter_len by_ k (R.step by_)
      have h2 := step_len by_ R
      omega
end Rn
theorem run_len (m : Im) (inp : List Int) {fuel : Int} {n : Nat} (h : fuel ≤ n) : (runM m inp fuel).outp.length ≤ n := by
  unfold runM
  split
  · cases byName m mainB with
    | none => exact Nat.zero_le _
    | some o =>
      simp only
      rw [Rn.res_outp]
      have h1 := Rn.iter_len (byName m) (clip fuel) ((rn0 m inp).enter o zero6)
      rw [Rn.enter_outp] at h1
      have h2 : clip fuel ≤ n := by unfold clip; omega
      have h3 : (rn0 m inp).outp.length = 0 := rfl
      omega
  · exact Nat.zero_le _
end Go.Proofs.YtihbgppcacaekaaDoor
