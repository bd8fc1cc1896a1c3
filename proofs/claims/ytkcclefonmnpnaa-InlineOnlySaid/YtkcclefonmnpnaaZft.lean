import Derived.Laws.Tables
import Derived.Laws.CopyOwn
import Derived.WalkKit
import Derived.ProofKit
import Derived.StillTail
import Derived.Test.YtkcclefonmnpnaaZb
namespace Go.Proofs.Ytkcclefonmnpnaa
open Go.RowKit Go.BigFrame
theorem Tru.yes {p:Prop}(h:p):Tru p (.returned (.bool true)):=⟨true,rfl,by simp [h]⟩
end Go.Proofs.Ytkcclefonmnpnaa
/- code.Same: are two functions the same? -/
