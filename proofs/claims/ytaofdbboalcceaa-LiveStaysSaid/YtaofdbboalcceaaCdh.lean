import Derived.Test.YtaofdbboalcceaaCd
namespace Go.Proofs.Ytaofdbboalcceaa
open Go.RowKit Go.BigFrame

/-- a call with so many of its arguments filled in -/
def fillA (i : Ins) (m : Int) : Ins := ⟨8, 0, i.dst, 0, 0, i.n, i.text, if 0 < m then i.r0 else 0, if 1 < m then i.r1 else 0, if 2 < m then i.r2 else 0, if 3 < m then i.r3 else 0, if 4 < m then i.r4 else 0, if 5 < m then i.r5 else 0, 0, -1⟩
theorem Ins.uses_len (i : Ins) : i.uses.length ≤ 8 := by
  unfold Ins.uses
  simp only [List.length_append]
  have h1 : (if kA i.kind then [i.a] else []).length ≤ 1 := by split <;> simp
  have h2 : (if kB i.kind then [i.b] else []).length ≤ 1 := by split <;> simp
  have h3 : (if i.kind = 8 then i.args.take i.n.toNat else []).length ≤ 6 := by
    split
    · rw [List.length_take]; simp [Ins.args]; omega
    · simp
  omega
end Go.Proofs.Ytaofdbboalcceaa
