import Derived.Test.YtfaccdidjhaahaaN
namespace Go.Proofs.Ytfaccdidjhaahaa
theorem ui5 : Try.prog.underlying 5 = some (.int .u8) := by kernel_rfl
theorem u8_nat {n : Int} (h : (Lit.int .u8 n).wf = true) : ∃ m : Nat, n = (m : Int) ∧ m ≤ 255 := by
  have h1 : IntKind.u8.min ≤ n ∧ n ≤ IntKind.u8.max := by simpa [Lit.wf] using h
  have e0 : IntKind.u8.min = 0 := by decide
  have e1 : IntKind.u8.max = 255 := by decide
  rw [e0, e1] at h1
  exact ⟨n.toNat, by omega, by omega⟩
end Go.Proofs.Ytfaccdidjhaahaa
