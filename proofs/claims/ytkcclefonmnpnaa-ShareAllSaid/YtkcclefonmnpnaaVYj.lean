import Derived.Deep.CutRange
import Derived.Deep.RegionHeld3
import Derived.Deep.CutBlock
import Derived.StringKeys
import Derived.Maps.Own
import Derived.Maps.OwnOps
import Derived.Maps.RangeRun
import Derived.Maps.RangeWalk
import Derived.Deep.LoopGhost
import Derived.Carry
import Derived.Deep.RegionWith
import Derived.Test.YtkcclefonmnpnaaShelf
import Derived.StillTailTactics
import Derived.RegionTactic
import Derived.BigRegion
import Derived.Laws.OwnMore
import Derived.Laws.CopyRow
import Derived.Laws.MakeOwn
import Derived.WalkMore
import Derived.ScopeJumps
import Derived.Laws.BitsLemmas
import Derived.Laws.Shifts
import Derived.ChangeAlike
import Derived.Deep.RegionLaw
import Derived.Test.YtkcclefonmnpnaaProg
import Derived.Test.YtkcclefonmnpnaaVZfs
namespace Go.Proofs.Ytkcclefonmnpnaa
open Go.RowKit Go.BigFrame
theorem pQ {f:aR}(h:Sm f)(ho:OkF f):f.code.length*(f.R.toNat+1)≤65536:=by
 obtain⟨_,h1,h2,_⟩:=h
 have h3:=ho.R
 have h4:=ho.ps
 have h5:f.R.toNat+1≤41:=by omega
 have:=Nat.mul_le_mul h1 h5
 omega
end Go.Proofs.Ytkcclefonmnpnaa
