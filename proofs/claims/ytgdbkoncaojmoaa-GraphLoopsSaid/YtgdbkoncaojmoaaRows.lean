/-
  No cell of these rows narrows 'for every input' (looked for: loops, veiled, ifaces, maps, wideKeys, modest, calm, conditions, laid).
  DERIVED. THE GIVEN ROWS OF THIS SEAT. 6 by the template 'for every input the law returns true; each argument reads behind the call as it read before'; 0 by the template 'total and deterministic' (their statements: YtgdbkoncaojmoaaTotals.lean).
  GIVEN WITH THE SEED: the statements are not yours to turn. If you find one false, say at which input.
  Laid BY PROGRAM, IN A SANDBOX (cutbox-rows.mjs): the forced cells as the released guide's own fill.sh prints them over the translation e47fbf416debd9be… (all of the seat's roots in one cut). By AI agents, Wed Nov 11 2026. No macro, syntax, notation, axiom, sorry.
-/
import Derived.Test.YtgdbkoncaojmoaaChecked
import GoSem.Claim
import GoSem.ClaimJoined
import GoSem.ClaimMapViews
import Derived.JoinedTies
import Derived.KernelRfl
namespace Go.Proofs.Ytgdbkoncaojmoaa
/- THE CELL 'sum', in the pinned program and in every row, IS THE sha256 OF THE DUMP (.gsa) THAT YtgdbkoncaojmoaaProg.lean LOADS. Nothing in Lean hashes anything: it is a label: what it is worth is what the hold of that sum in a sandbox is worth. -/
noncomputable def Try.pinned : Pinned := { name := "ytgdbkoncaojmoaa", sum := "e47fbf416debd9beb3029cb2bcf3bc3c9e63c9ca10e55ccd0ab6d6570d40e1e3", checked := Try.checked }
namespace Rows
def none {H : Type} : Left H := { results := [], args := [] }

/-- 'doppellaw09.GraphEdges': WHATEVER THE INPUT: true; the input reads as it did. -/
def graphEdgesSpec : ChangeSpec := { name := "graphEdges", fn := fun _ => fun
  | [d] => { results := [.lit (.bool true)], args := [d] }
  | _ => none }
def graphEdgesRow : OpenClaim := { program := "ytgdbkoncaojmoaa", sum := "e47fbf416debd9beb3029cb2bcf3bc3c9e63c9ca10e55ccd0ab6d6570d40e1e3", func := "doppel/doppellaw09.GraphEdges", spec := "graphEdges", unfollowed := true, recurses := true, apart := false }
def GraphEdgesSaid : Prop := graphEdgesRow.holds Try.pinned (OpenSpec.ofChange graphEdgesSpec)

/-- ITS FALSE NEIGHBOUR: 'it returns false'. Refute it at one input. -/
def graphEdgesWrong : ChangeSpec := { name := "graphEdges", fn := fun _ => fun
  | [d] => { results := [.lit (.bool false)], args := [d] }
  | _ => none }
def GraphEdgesWrongFalsely : Prop := graphEdgesRow.holds Try.pinned (OpenSpec.ofChange graphEdgesWrong)

/-- 'doppellaw09.GraphDominates': WHATEVER THE INPUT: true; the input reads as it did. -/
def graphDominatesSpec : ChangeSpec := { name := "graphDominates", fn := fun _ => fun
  | [d1, d2, d3] => { results := [.lit (.bool true)], args := [d1, d2, d3] }
  | _ => none }
def graphDominatesRow : OpenClaim := { program := "ytgdbkoncaojmoaa", sum := "e47fbf416debd9beb3029cb2bcf3bc3c9e63c9ca10e55ccd0ab6d6570d40e1e3", func := "doppel/doppellaw09.GraphDominates", spec := "graphDominates", unfollowed := true, recurses := true, apart := false }
def GraphDominatesSaid : Prop := graphDominatesRow.holds Try.pinned (OpenSpec.ofChange graphDominatesSpec)

/-- ITS FALSE NEIGHBOUR: 'it returns false'. Refute it at one input. -/
def graphDominatesWrong : ChangeSpec := { name := "graphDominates", fn := fun _ => fun
  | [d1, d2, d3] => { results := [.lit (.bool false)], args := [d1, d2, d3] }
  | _ => none }
def GraphDominatesWrongFalsely : Prop := graphDominatesRow.holds Try.pinned (OpenSpec.ofChange graphDominatesWrong)

/-- 'doppellaw09.GraphLoops': WHATEVER THE INPUT: true; the input reads as it did. -/
def graphLoopsSpec : ChangeSpec := { name := "graphLoops", fn := fun _ => fun
  | [d1, d2] => { results := [.lit (.bool true)], args := [d1, d2] }
  | _ => none }
def graphLoopsRow : OpenClaim := { program := "ytgdbkoncaojmoaa", sum := "e47fbf416debd9beb3029cb2bcf3bc3c9e63c9ca10e55ccd0ab6d6570d40e1e3", func := "doppel/doppellaw09.GraphLoops", spec := "graphLoops", unfollowed := true, recurses := true, apart := false }
def GraphLoopsSaid : Prop := graphLoopsRow.holds Try.pinned (OpenSpec.ofChange graphLoopsSpec)

/-- ITS FALSE NEIGHBOUR: 'it returns false'. Refute it at one input. -/
def graphLoopsWrong : ChangeSpec := { name := "graphLoops", fn := fun _ => fun
  | [d1, d2] => { results := [.lit (.bool false)], args := [d1, d2] }
  | _ => none }
def GraphLoopsWrongFalsely : Prop := graphLoopsRow.holds Try.pinned (OpenSpec.ofChange graphLoopsWrong)

/-- 'doppellaw09.GraphLine': WHATEVER THE INPUT: true; the input reads as it did. -/
def graphLineSpec : ChangeSpec := { name := "graphLine", fn := fun _ => fun
  | [d1, d2, d3, d4] => { results := [.lit (.bool true)], args := [d1, d2, d3, d4] }
  | _ => none }
def graphLineRow : OpenClaim := { program := "ytgdbkoncaojmoaa", sum := "e47fbf416debd9beb3029cb2bcf3bc3c9e63c9ca10e55ccd0ab6d6570d40e1e3", func := "doppel/doppellaw09.GraphLine", spec := "graphLine", unfollowed := true, recurses := true, apart := false }
def GraphLineSaid : Prop := graphLineRow.holds Try.pinned (OpenSpec.ofChange graphLineSpec)

/-- ITS FALSE NEIGHBOUR: 'it returns false'. Refute it at one input. -/
def graphLineWrong : ChangeSpec := { name := "graphLine", fn := fun _ => fun
  | [d1, d2, d3, d4] => { results := [.lit (.bool false)], args := [d1, d2, d3, d4] }
  | _ => none }
def GraphLineWrongFalsely : Prop := graphLineRow.holds Try.pinned (OpenSpec.ofChange graphLineWrong)

/-- 'doppellaw09.GraphHeads': WHATEVER THE INPUT: true; the input reads as it did. -/
def graphHeadsSpec : ChangeSpec := { name := "graphHeads", fn := fun _ => fun
  | [d] => { results := [.lit (.bool true)], args := [d] }
  | _ => none }
def graphHeadsRow : OpenClaim := { program := "ytgdbkoncaojmoaa", sum := "e47fbf416debd9beb3029cb2bcf3bc3c9e63c9ca10e55ccd0ab6d6570d40e1e3", func := "doppel/doppellaw09.GraphHeads", spec := "graphHeads", unfollowed := true, recurses := true, apart := false }
def GraphHeadsSaid : Prop := graphHeadsRow.holds Try.pinned (OpenSpec.ofChange graphHeadsSpec)

/-- ITS FALSE NEIGHBOUR: 'it returns false'. Refute it at one input. -/
def graphHeadsWrong : ChangeSpec := { name := "graphHeads", fn := fun _ => fun
  | [d] => { results := [.lit (.bool false)], args := [d] }
  | _ => none }
def GraphHeadsWrongFalsely : Prop := graphHeadsRow.holds Try.pinned (OpenSpec.ofChange graphHeadsWrong)

/-- 'doppellaw09.GraphWalk': WHATEVER THE INPUT: true; the input reads as it did. -/
def graphWalkSpec : ChangeSpec := { name := "graphWalk", fn := fun _ => fun
  | [d] => { results := [.lit (.bool true)], args := [d] }
  | _ => none }
def graphWalkRow : OpenClaim := { program := "ytgdbkoncaojmoaa", sum := "e47fbf416debd9beb3029cb2bcf3bc3c9e63c9ca10e55ccd0ab6d6570d40e1e3", func := "doppel/doppellaw09.GraphWalk", spec := "graphWalk", unfollowed := true, recurses := true, apart := false }
def GraphWalkSaid : Prop := graphWalkRow.holds Try.pinned (OpenSpec.ofChange graphWalkSpec)

/-- ITS FALSE NEIGHBOUR: 'it returns false'. Refute it at one input. -/
def graphWalkWrong : ChangeSpec := { name := "graphWalk", fn := fun _ => fun
  | [d] => { results := [.lit (.bool false)], args := [d] }
  | _ => none }
def GraphWalkWrongFalsely : Prop := graphWalkRow.holds Try.pinned (OpenSpec.ofChange graphWalkWrong)

/- THE SECOND FORM. 'bulk': how many values and letters a reading holds, each counted each time it is reached (what is shared counts as often as it is met; a slice's spare places count too). A statement '..UptoSaid' is the law's where the arguments, and the package variables that the reading takes, are together of bulk at most 1048576: NARROWER than '..Said'. Prove '..Said' where nothing that the law and all that it calls make is longer than what came in: it says more and counts as full. Else prove '..UptoSaid'. A law counts once. -/
mutual
def uptoBulk {H : Type} : DataW H → Nat
  | .lit (.string bytes) => bytes.length + 1
  | .lit _ => 1
  | .nil => 1
  | .ptr d => uptoBulk d + 1
  | .slice elems spare => uptoBulkAll elems + uptoBulkAll spare + 1
  | .agg parts => uptoBulkAll parts + 1
  | .iface _ d => uptoBulk d + 1
  | .map entries => uptoBulkEntries entries + 1
  | .held _ => 1
def uptoBulkAll {H : Type} : List (DataW H) → Nat
  | [] => 0
  | d :: r => uptoBulk d + uptoBulkAll r
def uptoBulkEntries {H : Type} : List (Lit × DataW H) → Nat
  | [] => 0
  | x :: r => uptoBulkEntry x + uptoBulkEntries r
def uptoBulkEntry {H : Type} : Lit × DataW H → Nat
  | (.string bytes, d) => bytes.length + uptoBulk d + 1
  | (_, d) => uptoBulk d + 1
 end
def uptoSmall : (H : Type) → List (DataW H) → Bool := fun _ ds => decide (uptoBulkAll ds ≤ 1048576)
def OpenSpec.upto (s : _root_.Go.ChangeSpec) : _root_.Go.OpenSpec := { _root_.Go.OpenSpec.ofChange s with cond := some uptoSmall }

/-- 'doppellaw09.GraphEdges', WHERE WHAT IT READS IS OF BULK AT MOST 1048576: true; the input reads as it did. -/
def graphEdgesUptoRow : OpenClaim := { program := "ytgdbkoncaojmoaa", sum := "e47fbf416debd9beb3029cb2bcf3bc3c9e63c9ca10e55ccd0ab6d6570d40e1e3", func := "doppel/doppellaw09.GraphEdges", spec := "graphEdges", unfollowed := true, recurses := true, apart := false, narrowed := true }
def GraphEdgesUptoSaid : Prop := graphEdgesUptoRow.holds Try.pinned (OpenSpec.upto graphEdgesSpec)

/-- 'doppellaw09.GraphDominates', WHERE WHAT IT READS IS OF BULK AT MOST 1048576: true; the input reads as it did. -/
def graphDominatesUptoRow : OpenClaim := { program := "ytgdbkoncaojmoaa", sum := "e47fbf416debd9beb3029cb2bcf3bc3c9e63c9ca10e55ccd0ab6d6570d40e1e3", func := "doppel/doppellaw09.GraphDominates", spec := "graphDominates", unfollowed := true, recurses := true, apart := false, narrowed := true }
def GraphDominatesUptoSaid : Prop := graphDominatesUptoRow.holds Try.pinned (OpenSpec.upto graphDominatesSpec)

/-- 'doppellaw09.GraphLoops', WHERE WHAT IT READS IS OF BULK AT MOST 1048576: true; the input reads as it did. -/
def graphLoopsUptoRow : OpenClaim := { program := "ytgdbkoncaojmoaa", sum := "e47fbf416debd9beb3029cb2bcf3bc3c9e63c9ca10e55ccd0ab6d6570d40e1e3", func := "doppel/doppellaw09.GraphLoops", spec := "graphLoops", unfollowed := true, recurses := true, apart := false, narrowed := true }
def GraphLoopsUptoSaid : Prop := graphLoopsUptoRow.holds Try.pinned (OpenSpec.upto graphLoopsSpec)

/-- 'doppellaw09.GraphLine', WHERE WHAT IT READS IS OF BULK AT MOST 1048576: true; the input reads as it did. -/
def graphLineUptoRow : OpenClaim := { program := "ytgdbkoncaojmoaa", sum := "e47fbf416debd9beb3029cb2bcf3bc3c9e63c9ca10e55ccd0ab6d6570d40e1e3", func := "doppel/doppellaw09.GraphLine", spec := "graphLine", unfollowed := true, recurses := true, apart := false, narrowed := true }
def GraphLineUptoSaid : Prop := graphLineUptoRow.holds Try.pinned (OpenSpec.upto graphLineSpec)

/-- 'doppellaw09.GraphHeads', WHERE WHAT IT READS IS OF BULK AT MOST 1048576: true; the input reads as it did. -/
def graphHeadsUptoRow : OpenClaim := { program := "ytgdbkoncaojmoaa", sum := "e47fbf416debd9beb3029cb2bcf3bc3c9e63c9ca10e55ccd0ab6d6570d40e1e3", func := "doppel/doppellaw09.GraphHeads", spec := "graphHeads", unfollowed := true, recurses := true, apart := false, narrowed := true }
def GraphHeadsUptoSaid : Prop := graphHeadsUptoRow.holds Try.pinned (OpenSpec.upto graphHeadsSpec)

/-- 'doppellaw09.GraphWalk', WHERE WHAT IT READS IS OF BULK AT MOST 1048576: true; the input reads as it did. -/
def graphWalkUptoRow : OpenClaim := { program := "ytgdbkoncaojmoaa", sum := "e47fbf416debd9beb3029cb2bcf3bc3c9e63c9ca10e55ccd0ab6d6570d40e1e3", func := "doppel/doppellaw09.GraphWalk", spec := "graphWalk", unfollowed := true, recurses := true, apart := false, narrowed := true }
def GraphWalkUptoSaid : Prop := graphWalkUptoRow.holds Try.pinned (OpenSpec.upto graphWalkSpec)

end Rows
end Go.Proofs.Ytgdbkoncaojmoaa
