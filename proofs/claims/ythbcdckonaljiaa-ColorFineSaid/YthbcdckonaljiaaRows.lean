/-
  No cell of these rows narrows 'for every input' (looked for: loops, veiled, ifaces, maps, wideKeys, modest, calm, conditions, laid).
  DERIVED. THE GIVEN ROWS OF THIS SEAT. 3 by the template 'for every input the law returns true; each argument reads behind the call as it read before'; 0 by the template 'total and deterministic' (their statements: YthbcdckonaljiaaTotals.lean).
  GIVEN WITH THE SEED: the statements are not yours to turn. If you find one false, say at which input.
  Laid BY PROGRAM, IN A SANDBOX (cutbox-rows.mjs): the forced cells as the released guide's own fill.sh prints them over the translation 499fa089f160bb66… (all of the seat's roots in one cut). By AI agents, Wed Nov 11 2026. No macro, syntax, notation, axiom, sorry.
-/
import Derived.Test.YthbcdckonaljiaaChecked
import GoSem.Claim
import GoSem.ClaimJoined
import GoSem.ClaimMapViews
import Derived.JoinedTies
import Derived.KernelRfl
namespace Go.Proofs.Ythbcdckonaljiaa
/- THE CELL 'sum', in the pinned program and in every row, IS THE sha256 OF THE DUMP (.gsa) THAT YthbcdckonaljiaaProg.lean LOADS. Nothing in Lean hashes anything: it is a label: what it is worth is what the hold of that sum in a sandbox is worth. -/
noncomputable def Try.pinned : Pinned := { name := "ythbcdckonaljiaa", sum := "499fa089f160bb66fb69c9ea9cfb7b5e3552a2bb07748d12526e8b5f70160d55", checked := Try.checked }
namespace Rows
def none {H : Type} : Left H := { results := [], args := [] }

/-- 'doppellaw11.FlowStraight': WHATEVER THE INPUT: true; the input reads as it did. -/
def flowStraightSpec : ChangeSpec := { name := "flowStraight", fn := fun _ => fun
  | [d] => { results := [.lit (.bool true)], args := [d] }
  | _ => none }
def flowStraightRow : OpenClaim := { program := "ythbcdckonaljiaa", sum := "499fa089f160bb66fb69c9ea9cfb7b5e3552a2bb07748d12526e8b5f70160d55", func := "doppel/doppellaw11.FlowStraight", spec := "flowStraight", unfollowed := true, recurses := true, apart := false }
def FlowStraightSaid : Prop := flowStraightRow.holds Try.pinned (OpenSpec.ofChange flowStraightSpec)

/-- ITS FALSE NEIGHBOUR: 'it returns false'. Refute it at one input. -/
def flowStraightWrong : ChangeSpec := { name := "flowStraight", fn := fun _ => fun
  | [d] => { results := [.lit (.bool false)], args := [d] }
  | _ => none }
def FlowStraightWrongFalsely : Prop := flowStraightRow.holds Try.pinned (OpenSpec.ofChange flowStraightWrong)

/-- 'doppellaw14.ColorFine': WHATEVER THE INPUT: true; the input reads as it did. -/
def colorFineSpec : ChangeSpec := { name := "colorFine", fn := fun _ => fun
  | [d] => { results := [.lit (.bool true)], args := [d] }
  | _ => none }
def colorFineRow : OpenClaim := { program := "ythbcdckonaljiaa", sum := "499fa089f160bb66fb69c9ea9cfb7b5e3552a2bb07748d12526e8b5f70160d55", func := "doppel/doppellaw14.ColorFine", spec := "colorFine", unfollowed := true, recurses := true, apart := false }
def ColorFineSaid : Prop := colorFineRow.holds Try.pinned (OpenSpec.ofChange colorFineSpec)

/-- ITS FALSE NEIGHBOUR: 'it returns false'. Refute it at one input. -/
def colorFineWrong : ChangeSpec := { name := "colorFine", fn := fun _ => fun
  | [d] => { results := [.lit (.bool false)], args := [d] }
  | _ => none }
def ColorFineWrongFalsely : Prop := colorFineRow.holds Try.pinned (OpenSpec.ofChange colorFineWrong)

/-- 'doppellaw14.ColorFew': WHATEVER THE INPUT: true; the input reads as it did. -/
def colorFewSpec : ChangeSpec := { name := "colorFew", fn := fun _ => fun
  | [d] => { results := [.lit (.bool true)], args := [d] }
  | _ => none }
def colorFewRow : OpenClaim := { program := "ythbcdckonaljiaa", sum := "499fa089f160bb66fb69c9ea9cfb7b5e3552a2bb07748d12526e8b5f70160d55", func := "doppel/doppellaw14.ColorFew", spec := "colorFew", unfollowed := true, recurses := true, apart := false }
def ColorFewSaid : Prop := colorFewRow.holds Try.pinned (OpenSpec.ofChange colorFewSpec)

/-- ITS FALSE NEIGHBOUR: 'it returns false'. Refute it at one input. -/
def colorFewWrong : ChangeSpec := { name := "colorFew", fn := fun _ => fun
  | [d] => { results := [.lit (.bool false)], args := [d] }
  | _ => none }
def ColorFewWrongFalsely : Prop := colorFewRow.holds Try.pinned (OpenSpec.ofChange colorFewWrong)

/- THE SECOND FORM. 'bulk': how many values and letters a reading holds, each counted each time it is reached (what is shared counts as often as it is met; a slice's spare places count too). A statement '..UptoSaid' is the law's where the arguments, and the package variables that the reading takes, are together of bulk at most 1048576: NARROWER than '..Said'. Prove '..Said' where nothing that the law and all that it calls make is longer than what came in: it says more and counts as full. Else prove '..UptoSaid'. A law counts once. -/
mutual
def uptoBulk {H : Type} : DataW H → Nat
  | .lit (.string bytes) => bytes.length + 1
  | .lit _ => 1
  | .nil => 1
  | .ptr d => uptoBulk d + 1
  | .slice elems spare => uptoBulkAll elems + uptoBulkAll spare + 1
  | .agg parts => uptoBulkAll parts + 1
  | .iface _ d => uptoBulk d + 1
  | .map entries => uptoBulkEntries entries + 1
  | .held _ => 1
def uptoBulkAll {H : Type} : List (DataW H) → Nat
  | [] => 0
  | d :: r => uptoBulk d + uptoBulkAll r
def uptoBulkEntries {H : Type} : List (Lit × DataW H) → Nat
  | [] => 0
  | x :: r => uptoBulkEntry x + uptoBulkEntries r
def uptoBulkEntry {H : Type} : Lit × DataW H → Nat
  | (.string bytes, d) => bytes.length + uptoBulk d + 1
  | (_, d) => uptoBulk d + 1
 end
def uptoSmall : (H : Type) → List (DataW H) → Bool := fun _ ds => decide (uptoBulkAll ds ≤ 1048576)
def OpenSpec.upto (s : _root_.Go.ChangeSpec) : _root_.Go.OpenSpec := { _root_.Go.OpenSpec.ofChange s with cond := some uptoSmall }

/-- 'doppellaw11.FlowStraight', WHERE WHAT IT READS IS OF BULK AT MOST 1048576: true; the input reads as it did. -/
def flowStraightUptoRow : OpenClaim := { program := "ythbcdckonaljiaa", sum := "499fa089f160bb66fb69c9ea9cfb7b5e3552a2bb07748d12526e8b5f70160d55", func := "doppel/doppellaw11.FlowStraight", spec := "flowStraight", unfollowed := true, recurses := true, apart := false, narrowed := true }
def FlowStraightUptoSaid : Prop := flowStraightUptoRow.holds Try.pinned (OpenSpec.upto flowStraightSpec)

/-- 'doppellaw14.ColorFine', WHERE WHAT IT READS IS OF BULK AT MOST 1048576: true; the input reads as it did. -/
def colorFineUptoRow : OpenClaim := { program := "ythbcdckonaljiaa", sum := "499fa089f160bb66fb69c9ea9cfb7b5e3552a2bb07748d12526e8b5f70160d55", func := "doppel/doppellaw14.ColorFine", spec := "colorFine", unfollowed := true, recurses := true, apart := false, narrowed := true }
def ColorFineUptoSaid : Prop := colorFineUptoRow.holds Try.pinned (OpenSpec.upto colorFineSpec)

/-- 'doppellaw14.ColorFew', WHERE WHAT IT READS IS OF BULK AT MOST 1048576: true; the input reads as it did. -/
def colorFewUptoRow : OpenClaim := { program := "ythbcdckonaljiaa", sum := "499fa089f160bb66fb69c9ea9cfb7b5e3552a2bb07748d12526e8b5f70160d55", func := "doppel/doppellaw14.ColorFew", spec := "colorFew", unfollowed := true, recurses := true, apart := false, narrowed := true }
def ColorFewUptoSaid : Prop := colorFewUptoRow.holds Try.pinned (OpenSpec.upto colorFewSpec)

end Rows
end Go.Proofs.Ythbcdckonaljiaa
