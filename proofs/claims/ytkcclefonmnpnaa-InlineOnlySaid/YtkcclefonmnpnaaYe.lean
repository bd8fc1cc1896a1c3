import Derived.Deep.CutBlock
import Derived.WalkKit
import Derived.ProofKit
import Derived.StillTail
import Derived.Laws.Tables
import Derived.Laws.CopyOwn
import Derived.Deep.RegionWith
import Derived.WalkMore
import Derived.ScopeJumps
import Derived.Laws.BitsLemmas
import Derived.Laws.Shifts
import Derived.Laws.CopyRow
import Derived.Laws.MakeOwn
import Derived.Deep.LoopGhost
import Derived.Deep.RegionHeld3
import Derived.Test.YtkcclefonmnpnaaZb
namespace Go.Proofs.Ytkcclefonmnpnaa
open Go.RowKit Go.BigFrame
theorem tru_is {p:Prop}{e:Ending}(h:Tru p e)(hp:p):e = .returned (.bool true):=by
  obtain ⟨b,h1,h2⟩:=h
  rw [h1,h2.2 hp]
theorem tru_no {p:Prop}{e:Ending}(h:Tru p e)(hp:¬ p):e = .returned (.bool false):=by
  obtain ⟨b,h1,h2⟩:=h
  cases b with
  | false=>exact h1
  | true=>exact absurd (h2.1 rfl) hp
end Go.Proofs.Ytkcclefonmnpnaa

