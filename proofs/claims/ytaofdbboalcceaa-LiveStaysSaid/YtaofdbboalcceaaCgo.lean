import Derived.Test.YtaofdbboalcceaaCg
/- An instruction whose first m arguments are 0. -/
namespace Go.Proofs.Ytaofdbboalcceaa
open Go.RowKit Go.BigFrame

def clrA (i : Ins) (m : Int) : Ins := ⟨i.kind, i.op, i.dst, i.a, i.b, i.n, i.text, if 0 < m then 0 else i.r0, if 1 < m then 0 else i.r1, if 2 < m then 0 else i.r2, if 3 < m then 0 else i.r3, if 4 < m then 0 else i.r4, if 5 < m then 0 else i.r5, i.to_, i.els⟩
end Go.Proofs.Ytaofdbboalcceaa
