/-
  No cell of these rows narrows 'for every input' (looked for: loops, veiled, ifaces, maps, wideKeys, modest, calm, conditions, laid).
  DERIVED. THE GIVEN ROWS OF THIS SEAT. 12 by the template 'for every input the law returns true; each argument reads behind the call as it read before'; 0 by the template 'total and deterministic' (their statements: YtkcclefonmnpnaaTotals.lean).
  GIVEN WITH THE SEED: the statements are not yours to turn. If you find one false, say at which input.
  Laid BY PROGRAM, IN A SANDBOX (cutbox-rows.mjs): the forced cells as the released guide's own fill.sh prints them over the translation a7d65257c3ec59cc… (all of the seat's roots in one cut). By AI agents, Wed Nov 11 2026. No macro, syntax, notation, axiom, sorry.
-/
import Derived.Test.YtkcclefonmnpnaaChecked
import GoSem.Claim
import GoSem.ClaimJoined
import GoSem.ClaimMapViews
import Derived.JoinedTies
import Derived.KernelRfl
namespace Go.Proofs.Ytkcclefonmnpnaa
/- THE CELL 'sum', in the pinned program and in every row, IS THE sha256 OF THE DUMP (.gsa) THAT YtkcclefonmnpnaaProg.lean LOADS. Nothing in Lean hashes anything: it is a label: what it is worth is what the hold of that sum in a sandbox is worth. -/
noncomputable def Try.pinned : Pinned := { name := "ytkcclefonmnpnaa", sum := "a7d65257c3ec59ccf7e1df1287afba83462c7d60a6c4c7720deae4a5f92260fd", checked := Try.checked }
namespace Rows
def none {H : Type} : Left H := { results := [], args := [] }

/-- 'doppellaw12.ShareFirsts': WHATEVER THE INPUT: true; the input reads as it did. -/
def shareFirstsSpec : ChangeSpec := { name := "shareFirsts", fn := fun _ => fun
  | [d] => { results := [.lit (.bool true)], args := [d] }
  | _ => none }
def shareFirstsRow : OpenClaim := { program := "ytkcclefonmnpnaa", sum := "a7d65257c3ec59ccf7e1df1287afba83462c7d60a6c4c7720deae4a5f92260fd", func := "doppel/doppellaw12.ShareFirsts", spec := "shareFirsts", unfollowed := true, recurses := true, plainKeys := false, apart := false }
def ShareFirstsSaid : Prop := shareFirstsRow.holds Try.pinned (OpenSpec.ofChange shareFirstsSpec)

/-- ITS FALSE NEIGHBOUR: 'it returns false'. Refute it at one input. -/
def shareFirstsWrong : ChangeSpec := { name := "shareFirsts", fn := fun _ => fun
  | [d] => { results := [.lit (.bool false)], args := [d] }
  | _ => none }
def ShareFirstsWrongFalsely : Prop := shareFirstsRow.holds Try.pinned (OpenSpec.ofChange shareFirstsWrong)

/-- 'doppellaw12.ShareKeeps': WHATEVER THE INPUT: true; the input reads as it did. -/
def shareKeepsSpec : ChangeSpec := { name := "shareKeeps", fn := fun _ => fun
  | [d] => { results := [.lit (.bool true)], args := [d] }
  | _ => none }
def shareKeepsRow : OpenClaim := { program := "ytkcclefonmnpnaa", sum := "a7d65257c3ec59ccf7e1df1287afba83462c7d60a6c4c7720deae4a5f92260fd", func := "doppel/doppellaw12.ShareKeeps", spec := "shareKeeps", unfollowed := true, recurses := true, plainKeys := false, apart := false }
def ShareKeepsSaid : Prop := shareKeepsRow.holds Try.pinned (OpenSpec.ofChange shareKeepsSpec)

/-- ITS FALSE NEIGHBOUR: 'it returns false'. Refute it at one input. -/
def shareKeepsWrong : ChangeSpec := { name := "shareKeeps", fn := fun _ => fun
  | [d] => { results := [.lit (.bool false)], args := [d] }
  | _ => none }
def ShareKeepsWrongFalsely : Prop := shareKeepsRow.holds Try.pinned (OpenSpec.ofChange shareKeepsWrong)

/-- 'doppellaw12.ShareOnce': WHATEVER THE INPUT: true; the input reads as it did. -/
def shareOnceSpec : ChangeSpec := { name := "shareOnce", fn := fun _ => fun
  | [d] => { results := [.lit (.bool true)], args := [d] }
  | _ => none }
def shareOnceRow : OpenClaim := { program := "ytkcclefonmnpnaa", sum := "a7d65257c3ec59ccf7e1df1287afba83462c7d60a6c4c7720deae4a5f92260fd", func := "doppel/doppellaw12.ShareOnce", spec := "shareOnce", unfollowed := true, recurses := true, plainKeys := false, apart := false }
def ShareOnceSaid : Prop := shareOnceRow.holds Try.pinned (OpenSpec.ofChange shareOnceSpec)

/-- ITS FALSE NEIGHBOUR: 'it returns false'. Refute it at one input. -/
def shareOnceWrong : ChangeSpec := { name := "shareOnce", fn := fun _ => fun
  | [d] => { results := [.lit (.bool false)], args := [d] }
  | _ => none }
def ShareOnceWrongFalsely : Prop := shareOnceRow.holds Try.pinned (OpenSpec.ofChange shareOnceWrong)

/-- 'doppellaw12.ShareDoes': WHATEVER THE INPUT: true; the input reads as it did. -/
def shareDoesSpec : ChangeSpec := { name := "shareDoes", fn := fun _ => fun
  | [d1, d2, d3] => { results := [.lit (.bool true)], args := [d1, d2, d3] }
  | _ => none }
def shareDoesRow : OpenClaim := { program := "ytkcclefonmnpnaa", sum := "a7d65257c3ec59ccf7e1df1287afba83462c7d60a6c4c7720deae4a5f92260fd", func := "doppel/doppellaw12.ShareDoes", spec := "shareDoes", unfollowed := true, recurses := true, plainKeys := false, apart := false }
def ShareDoesSaid : Prop := shareDoesRow.holds Try.pinned (OpenSpec.ofChange shareDoesSpec)

/-- ITS FALSE NEIGHBOUR: 'it returns false'. Refute it at one input. -/
def shareDoesWrong : ChangeSpec := { name := "shareDoes", fn := fun _ => fun
  | [d1, d2, d3] => { results := [.lit (.bool false)], args := [d1, d2, d3] }
  | _ => none }
def ShareDoesWrongFalsely : Prop := shareDoesRow.holds Try.pinned (OpenSpec.ofChange shareDoesWrong)

/-- 'doppellaw12.ShareAll': WHATEVER THE INPUT: true; the input reads as it did. -/
def shareAllSpec : ChangeSpec := { name := "shareAll", fn := fun _ => fun
  | [d1, d2, d3] => { results := [.lit (.bool true)], args := [d1, d2, d3] }
  | _ => none }
def shareAllRow : OpenClaim := { program := "ytkcclefonmnpnaa", sum := "a7d65257c3ec59ccf7e1df1287afba83462c7d60a6c4c7720deae4a5f92260fd", func := "doppel/doppellaw12.ShareAll", spec := "shareAll", unfollowed := true, recurses := true, plainKeys := false, apart := false }
def ShareAllSaid : Prop := shareAllRow.holds Try.pinned (OpenSpec.ofChange shareAllSpec)

/-- ITS FALSE NEIGHBOUR: 'it returns false'. Refute it at one input. -/
def shareAllWrong : ChangeSpec := { name := "shareAll", fn := fun _ => fun
  | [d1, d2, d3] => { results := [.lit (.bool false)], args := [d1, d2, d3] }
  | _ => none }
def ShareAllWrongFalsely : Prop := shareAllRow.holds Try.pinned (OpenSpec.ofChange shareAllWrong)

/-- 'doppellaw12.ShareAgain': WHATEVER THE INPUT: true; the input reads as it did. -/
def shareAgainSpec : ChangeSpec := { name := "shareAgain", fn := fun _ => fun
  | [d1, d2, d3] => { results := [.lit (.bool true)], args := [d1, d2, d3] }
  | _ => none }
def shareAgainRow : OpenClaim := { program := "ytkcclefonmnpnaa", sum := "a7d65257c3ec59ccf7e1df1287afba83462c7d60a6c4c7720deae4a5f92260fd", func := "doppel/doppellaw12.ShareAgain", spec := "shareAgain", unfollowed := true, recurses := true, plainKeys := false, apart := false }
def ShareAgainSaid : Prop := shareAgainRow.holds Try.pinned (OpenSpec.ofChange shareAgainSpec)

/-- ITS FALSE NEIGHBOUR: 'it returns false'. Refute it at one input. -/
def shareAgainWrong : ChangeSpec := { name := "shareAgain", fn := fun _ => fun
  | [d1, d2, d3] => { results := [.lit (.bool false)], args := [d1, d2, d3] }
  | _ => none }
def ShareAgainWrongFalsely : Prop := shareAgainRow.holds Try.pinned (OpenSpec.ofChange shareAgainWrong)

/-- 'doppellaw10.LiveDoes': WHATEVER THE INPUT: true; the input reads as it did. -/
def liveDoesSpec : ChangeSpec := { name := "liveDoes", fn := fun _ => fun
  | [d1, d2, d3] => { results := [.lit (.bool true)], args := [d1, d2, d3] }
  | _ => none }
def liveDoesRow : OpenClaim := { program := "ytkcclefonmnpnaa", sum := "a7d65257c3ec59ccf7e1df1287afba83462c7d60a6c4c7720deae4a5f92260fd", func := "doppel/doppellaw10.LiveDoes", spec := "liveDoes", unfollowed := true, recurses := true, plainKeys := false, apart := false }
def LiveDoesSaid : Prop := liveDoesRow.holds Try.pinned (OpenSpec.ofChange liveDoesSpec)

/-- ITS FALSE NEIGHBOUR: 'it returns false'. Refute it at one input. -/
def liveDoesWrong : ChangeSpec := { name := "liveDoes", fn := fun _ => fun
  | [d1, d2, d3] => { results := [.lit (.bool false)], args := [d1, d2, d3] }
  | _ => none }
def LiveDoesWrongFalsely : Prop := liveDoesRow.holds Try.pinned (OpenSpec.ofChange liveDoesWrong)

/-- 'doppellaw11.FlowDoes': WHATEVER THE INPUT: true; the input reads as it did. -/
def flowDoesSpec : ChangeSpec := { name := "flowDoes", fn := fun _ => fun
  | [d1, d2, d3] => { results := [.lit (.bool true)], args := [d1, d2, d3] }
  | _ => none }
def flowDoesRow : OpenClaim := { program := "ytkcclefonmnpnaa", sum := "a7d65257c3ec59ccf7e1df1287afba83462c7d60a6c4c7720deae4a5f92260fd", func := "doppel/doppellaw11.FlowDoes", spec := "flowDoes", unfollowed := true, recurses := true, plainKeys := false, apart := false }
def FlowDoesSaid : Prop := flowDoesRow.holds Try.pinned (OpenSpec.ofChange flowDoesSpec)

/-- ITS FALSE NEIGHBOUR: 'it returns false'. Refute it at one input. -/
def flowDoesWrong : ChangeSpec := { name := "flowDoes", fn := fun _ => fun
  | [d1, d2, d3] => { results := [.lit (.bool false)], args := [d1, d2, d3] }
  | _ => none }
def FlowDoesWrongFalsely : Prop := flowDoesRow.holds Try.pinned (OpenSpec.ofChange flowDoesWrong)

/-- 'doppellaw13.InlineSmall': WHATEVER THE INPUT: true; the input reads as it did. -/
def inlineSmallSpec : ChangeSpec := { name := "inlineSmall", fn := fun _ => fun
  | [d] => { results := [.lit (.bool true)], args := [d] }
  | _ => none }
def inlineSmallRow : OpenClaim := { program := "ytkcclefonmnpnaa", sum := "a7d65257c3ec59ccf7e1df1287afba83462c7d60a6c4c7720deae4a5f92260fd", func := "doppel/doppellaw13.InlineSmall", spec := "inlineSmall", unfollowed := true, recurses := true, plainKeys := false, apart := false }
def InlineSmallSaid : Prop := inlineSmallRow.holds Try.pinned (OpenSpec.ofChange inlineSmallSpec)

/-- ITS FALSE NEIGHBOUR: 'it returns false'. Refute it at one input. -/
def inlineSmallWrong : ChangeSpec := { name := "inlineSmall", fn := fun _ => fun
  | [d] => { results := [.lit (.bool false)], args := [d] }
  | _ => none }
def InlineSmallWrongFalsely : Prop := inlineSmallRow.holds Try.pinned (OpenSpec.ofChange inlineSmallWrong)

/-- 'doppellaw13.InlineCounts': WHATEVER THE INPUT: true; the input reads as it did. -/
def inlineCountsSpec : ChangeSpec := { name := "inlineCounts", fn := fun _ => fun
  | [d1, d2] => { results := [.lit (.bool true)], args := [d1, d2] }
  | _ => none }
def inlineCountsRow : OpenClaim := { program := "ytkcclefonmnpnaa", sum := "a7d65257c3ec59ccf7e1df1287afba83462c7d60a6c4c7720deae4a5f92260fd", func := "doppel/doppellaw13.InlineCounts", spec := "inlineCounts", unfollowed := true, recurses := true, plainKeys := false, apart := false }
def InlineCountsSaid : Prop := inlineCountsRow.holds Try.pinned (OpenSpec.ofChange inlineCountsSpec)

/-- ITS FALSE NEIGHBOUR: 'it returns false'. Refute it at one input. -/
def inlineCountsWrong : ChangeSpec := { name := "inlineCounts", fn := fun _ => fun
  | [d1, d2] => { results := [.lit (.bool false)], args := [d1, d2] }
  | _ => none }
def InlineCountsWrongFalsely : Prop := inlineCountsRow.holds Try.pinned (OpenSpec.ofChange inlineCountsWrong)

/-- 'doppellaw13.InlineOnly': WHATEVER THE INPUT: true; the input reads as it did. -/
def inlineOnlySpec : ChangeSpec := { name := "inlineOnly", fn := fun _ => fun
  | [d] => { results := [.lit (.bool true)], args := [d] }
  | _ => none }
def inlineOnlyRow : OpenClaim := { program := "ytkcclefonmnpnaa", sum := "a7d65257c3ec59ccf7e1df1287afba83462c7d60a6c4c7720deae4a5f92260fd", func := "doppel/doppellaw13.InlineOnly", spec := "inlineOnly", unfollowed := true, recurses := true, plainKeys := false, apart := false }
def InlineOnlySaid : Prop := inlineOnlyRow.holds Try.pinned (OpenSpec.ofChange inlineOnlySpec)

/-- ITS FALSE NEIGHBOUR: 'it returns false'. Refute it at one input. -/
def inlineOnlyWrong : ChangeSpec := { name := "inlineOnly", fn := fun _ => fun
  | [d] => { results := [.lit (.bool false)], args := [d] }
  | _ => none }
def InlineOnlyWrongFalsely : Prop := inlineOnlyRow.holds Try.pinned (OpenSpec.ofChange inlineOnlyWrong)

/-- 'doppellaw11.FlowStraight': WHATEVER THE INPUT: true; the input reads as it did. -/
def flowStraightSpec : ChangeSpec := { name := "flowStraight", fn := fun _ => fun
  | [d] => { results := [.lit (.bool true)], args := [d] }
  | _ => none }
def flowStraightRow : OpenClaim := { program := "ytkcclefonmnpnaa", sum := "a7d65257c3ec59ccf7e1df1287afba83462c7d60a6c4c7720deae4a5f92260fd", func := "doppel/doppellaw11.FlowStraight", spec := "flowStraight", unfollowed := true, recurses := true, plainKeys := false, apart := false }
def FlowStraightSaid : Prop := flowStraightRow.holds Try.pinned (OpenSpec.ofChange flowStraightSpec)

/-- ITS FALSE NEIGHBOUR: 'it returns false'. Refute it at one input. -/
def flowStraightWrong : ChangeSpec := { name := "flowStraight", fn := fun _ => fun
  | [d] => { results := [.lit (.bool false)], args := [d] }
  | _ => none }
def FlowStraightWrongFalsely : Prop := flowStraightRow.holds Try.pinned (OpenSpec.ofChange flowStraightWrong)

/- THE SECOND FORM. 'bulk': how many values and letters a reading holds, each counted each time it is reached (what is shared counts as often as it is met; a slice's spare places count too). A statement '..UptoSaid' is the law's where the arguments, and the package variables that the reading takes, are together of bulk at most 1048576: NARROWER than '..Said'. Prove '..Said' where nothing that the law and all that it calls make is longer than what came in: it says more and counts as full. Else prove '..UptoSaid'. A law counts once. -/
mutual
def uptoBulk {H : Type} : DataW H → Nat
  | .lit (.string bytes) => bytes.length + 1
  | .lit _ => 1
  | .nil => 1
  | .ptr d => uptoBulk d + 1
  | .slice elems spare => uptoBulkAll elems + uptoBulkAll spare + 1
  | .agg parts => uptoBulkAll parts + 1
  | .iface _ d => uptoBulk d + 1
  | .map entries => uptoBulkEntries entries + 1
  | .held _ => 1
def uptoBulkAll {H : Type} : List (DataW H) → Nat
  | [] => 0
  | d :: r => uptoBulk d + uptoBulkAll r
def uptoBulkEntries {H : Type} : List (Lit × DataW H) → Nat
  | [] => 0
  | x :: r => uptoBulkEntry x + uptoBulkEntries r
def uptoBulkEntry {H : Type} : Lit × DataW H → Nat
  | (.string bytes, d) => bytes.length + uptoBulk d + 1
  | (_, d) => uptoBulk d + 1
 end
def uptoSmall : (H : Type) → List (DataW H) → Bool := fun _ ds => decide (uptoBulkAll ds ≤ 1048576)
def OpenSpec.upto (s : _root_.Go.ChangeSpec) : _root_.Go.OpenSpec := { _root_.Go.OpenSpec.ofChange s with cond := some uptoSmall }

/-- 'doppellaw12.ShareFirsts', WHERE WHAT IT READS IS OF BULK AT MOST 1048576: true; the input reads as it did. -/
def shareFirstsUptoRow : OpenClaim := { program := "ytkcclefonmnpnaa", sum := "a7d65257c3ec59ccf7e1df1287afba83462c7d60a6c4c7720deae4a5f92260fd", func := "doppel/doppellaw12.ShareFirsts", spec := "shareFirsts", unfollowed := true, recurses := true, plainKeys := false, apart := false, narrowed := true }
def ShareFirstsUptoSaid : Prop := shareFirstsUptoRow.holds Try.pinned (OpenSpec.upto shareFirstsSpec)

/-- 'doppellaw12.ShareKeeps', WHERE WHAT IT READS IS OF BULK AT MOST 1048576: true; the input reads as it did. -/
def shareKeepsUptoRow : OpenClaim := { program := "ytkcclefonmnpnaa", sum := "a7d65257c3ec59ccf7e1df1287afba83462c7d60a6c4c7720deae4a5f92260fd", func := "doppel/doppellaw12.ShareKeeps", spec := "shareKeeps", unfollowed := true, recurses := true, plainKeys := false, apart := false, narrowed := true }
def ShareKeepsUptoSaid : Prop := shareKeepsUptoRow.holds Try.pinned (OpenSpec.upto shareKeepsSpec)

/-- 'doppellaw12.ShareOnce', WHERE WHAT IT READS IS OF BULK AT MOST 1048576: true; the input reads as it did. -/
def shareOnceUptoRow : OpenClaim := { program := "ytkcclefonmnpnaa", sum := "a7d65257c3ec59ccf7e1df1287afba83462c7d60a6c4c7720deae4a5f92260fd", func := "doppel/doppellaw12.ShareOnce", spec := "shareOnce", unfollowed := true, recurses := true, plainKeys := false, apart := false, narrowed := true }
def ShareOnceUptoSaid : Prop := shareOnceUptoRow.holds Try.pinned (OpenSpec.upto shareOnceSpec)

/-- 'doppellaw12.ShareDoes', WHERE WHAT IT READS IS OF BULK AT MOST 1048576: true; the input reads as it did. -/
def shareDoesUptoRow : OpenClaim := { program := "ytkcclefonmnpnaa", sum := "a7d65257c3ec59ccf7e1df1287afba83462c7d60a6c4c7720deae4a5f92260fd", func := "doppel/doppellaw12.ShareDoes", spec := "shareDoes", unfollowed := true, recurses := true, plainKeys := false, apart := false, narrowed := true }
def ShareDoesUptoSaid : Prop := shareDoesUptoRow.holds Try.pinned (OpenSpec.upto shareDoesSpec)

/-- 'doppellaw12.ShareAll', WHERE WHAT IT READS IS OF BULK AT MOST 1048576: true; the input reads as it did. -/
def shareAllUptoRow : OpenClaim := { program := "ytkcclefonmnpnaa", sum := "a7d65257c3ec59ccf7e1df1287afba83462c7d60a6c4c7720deae4a5f92260fd", func := "doppel/doppellaw12.ShareAll", spec := "shareAll", unfollowed := true, recurses := true, plainKeys := false, apart := false, narrowed := true }
def ShareAllUptoSaid : Prop := shareAllUptoRow.holds Try.pinned (OpenSpec.upto shareAllSpec)

/-- 'doppellaw12.ShareAgain', WHERE WHAT IT READS IS OF BULK AT MOST 1048576: true; the input reads as it did. -/
def shareAgainUptoRow : OpenClaim := { program := "ytkcclefonmnpnaa", sum := "a7d65257c3ec59ccf7e1df1287afba83462c7d60a6c4c7720deae4a5f92260fd", func := "doppel/doppellaw12.ShareAgain", spec := "shareAgain", unfollowed := true, recurses := true, plainKeys := false, apart := false, narrowed := true }
def ShareAgainUptoSaid : Prop := shareAgainUptoRow.holds Try.pinned (OpenSpec.upto shareAgainSpec)

/-- 'doppellaw10.LiveDoes', WHERE WHAT IT READS IS OF BULK AT MOST 1048576: true; the input reads as it did. -/
def liveDoesUptoRow : OpenClaim := { program := "ytkcclefonmnpnaa", sum := "a7d65257c3ec59ccf7e1df1287afba83462c7d60a6c4c7720deae4a5f92260fd", func := "doppel/doppellaw10.LiveDoes", spec := "liveDoes", unfollowed := true, recurses := true, plainKeys := false, apart := false, narrowed := true }
def LiveDoesUptoSaid : Prop := liveDoesUptoRow.holds Try.pinned (OpenSpec.upto liveDoesSpec)

/-- 'doppellaw11.FlowDoes', WHERE WHAT IT READS IS OF BULK AT MOST 1048576: true; the input reads as it did. -/
def flowDoesUptoRow : OpenClaim := { program := "ytkcclefonmnpnaa", sum := "a7d65257c3ec59ccf7e1df1287afba83462c7d60a6c4c7720deae4a5f92260fd", func := "doppel/doppellaw11.FlowDoes", spec := "flowDoes", unfollowed := true, recurses := true, plainKeys := false, apart := false, narrowed := true }
def FlowDoesUptoSaid : Prop := flowDoesUptoRow.holds Try.pinned (OpenSpec.upto flowDoesSpec)

/-- 'doppellaw13.InlineSmall', WHERE WHAT IT READS IS OF BULK AT MOST 1048576: true; the input reads as it did. -/
def inlineSmallUptoRow : OpenClaim := { program := "ytkcclefonmnpnaa", sum := "a7d65257c3ec59ccf7e1df1287afba83462c7d60a6c4c7720deae4a5f92260fd", func := "doppel/doppellaw13.InlineSmall", spec := "inlineSmall", unfollowed := true, recurses := true, plainKeys := false, apart := false, narrowed := true }
def InlineSmallUptoSaid : Prop := inlineSmallUptoRow.holds Try.pinned (OpenSpec.upto inlineSmallSpec)

/-- 'doppellaw13.InlineCounts', WHERE WHAT IT READS IS OF BULK AT MOST 1048576: true; the input reads as it did. -/
def inlineCountsUptoRow : OpenClaim := { program := "ytkcclefonmnpnaa", sum := "a7d65257c3ec59ccf7e1df1287afba83462c7d60a6c4c7720deae4a5f92260fd", func := "doppel/doppellaw13.InlineCounts", spec := "inlineCounts", unfollowed := true, recurses := true, plainKeys := false, apart := false, narrowed := true }
def InlineCountsUptoSaid : Prop := inlineCountsUptoRow.holds Try.pinned (OpenSpec.upto inlineCountsSpec)

/-- 'doppellaw13.InlineOnly', WHERE WHAT IT READS IS OF BULK AT MOST 1048576: true; the input reads as it did. -/
def inlineOnlyUptoRow : OpenClaim := { program := "ytkcclefonmnpnaa", sum := "a7d65257c3ec59ccf7e1df1287afba83462c7d60a6c4c7720deae4a5f92260fd", func := "doppel/doppellaw13.InlineOnly", spec := "inlineOnly", unfollowed := true, recurses := true, plainKeys := false, apart := false, narrowed := true }
def InlineOnlyUptoSaid : Prop := inlineOnlyUptoRow.holds Try.pinned (OpenSpec.upto inlineOnlySpec)

/-- 'doppellaw11.FlowStraight', WHERE WHAT IT READS IS OF BULK AT MOST 1048576: true; the input reads as it did. -/
def flowStraightUptoRow : OpenClaim := { program := "ytkcclefonmnpnaa", sum := "a7d65257c3ec59ccf7e1df1287afba83462c7d60a6c4c7720deae4a5f92260fd", func := "doppel/doppellaw11.FlowStraight", spec := "flowStraight", unfollowed := true, recurses := true, plainKeys := false, apart := false, narrowed := true }
def FlowStraightUptoSaid : Prop := flowStraightUptoRow.holds Try.pinned (OpenSpec.upto flowStraightSpec)

end Rows
end Go.Proofs.Ytkcclefonmnpnaa
