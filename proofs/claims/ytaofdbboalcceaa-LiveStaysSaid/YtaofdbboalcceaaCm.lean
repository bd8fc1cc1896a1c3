import Derived.Test.YtaofdbboalcceaaCa
/- THE LOOPS OF A CODE. -/
namespace Go.Proofs.Ytaofdbboalcceaa
open Go.RowKit Go.BigFrame

/-- the outermost loops of a code, whole, in order -/
def loopsOf : Code → List Code
  | .loop c => [.loop c]
  | .seq a b => loopsOf a ++ loopsOf b
  | .block _ c => loopsOf c
  | .scope c => loopsOf c
  | .cond _ a b => loopsOf a ++ loopsOf b
  | _ => []
def inLoop : Code → Code
  | .loop c => c
  | c => c
end Go.Proofs.Ytaofdbboalcceaa
