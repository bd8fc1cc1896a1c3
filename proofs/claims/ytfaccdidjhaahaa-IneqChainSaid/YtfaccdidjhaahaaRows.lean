/-
  No cell of these rows narrows 'for every input' (looked for: loops, veiled, ifaces, maps, wideKeys, modest, calm, conditions, laid).
  DERIVED. THE GIVEN ROWS OF THIS SEAT. 7 by the template 'for every input the law returns true; each argument reads behind the call as it read before'; 0 by the template 'total and deterministic' (their statements: YtfaccdidjhaahaaTotals.lean).
  GIVEN WITH THE SEED: the statements are not yours to turn. If you find one false, say at which input.
  Laid BY PROGRAM, IN A SANDBOX (cutbox-rows.mjs): the forced cells as the released guide's own fill.sh prints them over the translation cd8e55123efe9690… (all of the seat's roots in one cut). By AI agents, Wed Nov 11 2026. No macro, syntax, notation, axiom, sorry.
-/
import Derived.Test.YtfaccdidjhaahaaChecked
import GoSem.Claim
import GoSem.ClaimJoined
import GoSem.ClaimMapViews
import Derived.JoinedTies
import Derived.KernelRfl
namespace Go.Proofs.Ytfaccdidjhaahaa
/- THE CELL 'sum', in the pinned program and in every row, IS THE sha256 OF THE DUMP (.gsa) THAT YtfaccdidjhaahaaProg.lean LOADS. Nothing in Lean hashes anything: it is a label: what it is worth is what the hold of that sum in a sandbox is worth. -/
noncomputable def Try.pinned : Pinned := { name := "ytfaccdidjhaahaa", sum := "cd8e55123efe96900bcc315d542ad9488af8267e9e10d4d080bb501e122948c3", checked := Try.checked }
namespace Rows
def none {H : Type} : Left H := { results := [], args := [] }

/-- 'doppellaw19.IneqWords': WHATEVER THE INPUT: true; the input reads as it did. -/
def ineqWordsSpec : ChangeSpec := { name := "ineqWords", fn := fun _ => fun
  | [d1, d2] => { results := [.lit (.bool true)], args := [d1, d2] }
  | _ => none }
def ineqWordsRow : OpenClaim := { program := "ytfaccdidjhaahaa", sum := "cd8e55123efe96900bcc315d542ad9488af8267e9e10d4d080bb501e122948c3", func := "doppel/doppellaw19.IneqWords", spec := "ineqWords", unfollowed := true, recurses := true, apart := false }
def IneqWordsSaid : Prop := ineqWordsRow.holds Try.pinned (OpenSpec.ofChange ineqWordsSpec)

/-- ITS FALSE NEIGHBOUR: 'it returns false'. Refute it at one input. -/
def ineqWordsWrong : ChangeSpec := { name := "ineqWords", fn := fun _ => fun
  | [d1, d2] => { results := [.lit (.bool false)], args := [d1, d2] }
  | _ => none }
def IneqWordsWrongFalsely : Prop := ineqWordsRow.holds Try.pinned (OpenSpec.ofChange ineqWordsWrong)

/-- 'doppellaw19.IneqTight': WHATEVER THE INPUT: true; the input reads as it did. -/
def ineqTightSpec : ChangeSpec := { name := "ineqTight", fn := fun _ => fun
  | [d1, d2] => { results := [.lit (.bool true)], args := [d1, d2] }
  | _ => none }
def ineqTightRow : OpenClaim := { program := "ytfaccdidjhaahaa", sum := "cd8e55123efe96900bcc315d542ad9488af8267e9e10d4d080bb501e122948c3", func := "doppel/doppellaw19.IneqTight", spec := "ineqTight", unfollowed := true, recurses := true, apart := false }
def IneqTightSaid : Prop := ineqTightRow.holds Try.pinned (OpenSpec.ofChange ineqTightSpec)

/-- ITS FALSE NEIGHBOUR: 'it returns false'. Refute it at one input. -/
def ineqTightWrong : ChangeSpec := { name := "ineqTight", fn := fun _ => fun
  | [d1, d2] => { results := [.lit (.bool false)], args := [d1, d2] }
  | _ => none }
def IneqTightWrongFalsely : Prop := ineqTightRow.holds Try.pinned (OpenSpec.ofChange ineqTightWrong)

/-- 'doppellaw19.IneqSteps': WHATEVER THE INPUT: true; the input reads as it did. -/
def ineqStepsSpec : ChangeSpec := { name := "ineqSteps", fn := fun _ => fun
  | [d1, d2, d3] => { results := [.lit (.bool true)], args := [d1, d2, d3] }
  | _ => none }
def ineqStepsRow : OpenClaim := { program := "ytfaccdidjhaahaa", sum := "cd8e55123efe96900bcc315d542ad9488af8267e9e10d4d080bb501e122948c3", func := "doppel/doppellaw19.IneqSteps", spec := "ineqSteps", unfollowed := true, recurses := true, apart := false }
def IneqStepsSaid : Prop := ineqStepsRow.holds Try.pinned (OpenSpec.ofChange ineqStepsSpec)

/-- ITS FALSE NEIGHBOUR: 'it returns false'. Refute it at one input. -/
def ineqStepsWrong : ChangeSpec := { name := "ineqSteps", fn := fun _ => fun
  | [d1, d2, d3] => { results := [.lit (.bool false)], args := [d1, d2, d3] }
  | _ => none }
def IneqStepsWrongFalsely : Prop := ineqStepsRow.holds Try.pinned (OpenSpec.ofChange ineqStepsWrong)

/-- 'doppellaw19.IneqNever': WHATEVER THE INPUT: true; the input reads as it did. -/
def ineqNeverSpec : ChangeSpec := { name := "ineqNever", fn := fun _ => fun
  | [d1, d2] => { results := [.lit (.bool true)], args := [d1, d2] }
  | _ => none }
def ineqNeverRow : OpenClaim := { program := "ytfaccdidjhaahaa", sum := "cd8e55123efe96900bcc315d542ad9488af8267e9e10d4d080bb501e122948c3", func := "doppel/doppellaw19.IneqNever", spec := "ineqNever", unfollowed := true, recurses := true, apart := false }
def IneqNeverSaid : Prop := ineqNeverRow.holds Try.pinned (OpenSpec.ofChange ineqNeverSpec)

/-- ITS FALSE NEIGHBOUR: 'it returns false'. Refute it at one input. -/
def ineqNeverWrong : ChangeSpec := { name := "ineqNever", fn := fun _ => fun
  | [d1, d2] => { results := [.lit (.bool false)], args := [d1, d2] }
  | _ => none }
def IneqNeverWrongFalsely : Prop := ineqNeverRow.holds Try.pinned (OpenSpec.ofChange ineqNeverWrong)

/-- 'doppellaw19.IneqBounds': WHATEVER THE INPUT: true; the input reads as it did. -/
def ineqBoundsSpec : ChangeSpec := { name := "ineqBounds", fn := fun _ => fun
  | [d1, d2, d3] => { results := [.lit (.bool true)], args := [d1, d2, d3] }
  | _ => none }
def ineqBoundsRow : OpenClaim := { program := "ytfaccdidjhaahaa", sum := "cd8e55123efe96900bcc315d542ad9488af8267e9e10d4d080bb501e122948c3", func := "doppel/doppellaw19.IneqBounds", spec := "ineqBounds", unfollowed := true, recurses := true, apart := false }
def IneqBoundsSaid : Prop := ineqBoundsRow.holds Try.pinned (OpenSpec.ofChange ineqBoundsSpec)

/-- ITS FALSE NEIGHBOUR: 'it returns false'. Refute it at one input. -/
def ineqBoundsWrong : ChangeSpec := { name := "ineqBounds", fn := fun _ => fun
  | [d1, d2, d3] => { results := [.lit (.bool false)], args := [d1, d2, d3] }
  | _ => none }
def IneqBoundsWrongFalsely : Prop := ineqBoundsRow.holds Try.pinned (OpenSpec.ofChange ineqBoundsWrong)

/-- 'doppellaw19.IneqChain': WHATEVER THE INPUT: true; the input reads as it did. -/
def ineqChainSpec : ChangeSpec := { name := "ineqChain", fn := fun _ => fun
  | [d] => { results := [.lit (.bool true)], args := [d] }
  | _ => none }
def ineqChainRow : OpenClaim := { program := "ytfaccdidjhaahaa", sum := "cd8e55123efe96900bcc315d542ad9488af8267e9e10d4d080bb501e122948c3", func := "doppel/doppellaw19.IneqChain", spec := "ineqChain", unfollowed := true, recurses := true, apart := false }
def IneqChainSaid : Prop := ineqChainRow.holds Try.pinned (OpenSpec.ofChange ineqChainSpec)

/-- ITS FALSE NEIGHBOUR: 'it returns false'. Refute it at one input. -/
def ineqChainWrong : ChangeSpec := { name := "ineqChain", fn := fun _ => fun
  | [d] => { results := [.lit (.bool false)], args := [d] }
  | _ => none }
def IneqChainWrongFalsely : Prop := ineqChainRow.holds Try.pinned (OpenSpec.ofChange ineqChainWrong)

/-- 'doppellaw19.IneqMore': WHATEVER THE INPUT: true; the input reads as it did. -/
def ineqMoreSpec : ChangeSpec := { name := "ineqMore", fn := fun _ => fun
  | [d] => { results := [.lit (.bool true)], args := [d] }
  | _ => none }
def ineqMoreRow : OpenClaim := { program := "ytfaccdidjhaahaa", sum := "cd8e55123efe96900bcc315d542ad9488af8267e9e10d4d080bb501e122948c3", func := "doppel/doppellaw19.IneqMore", spec := "ineqMore", unfollowed := true, recurses := true, apart := false }
def IneqMoreSaid : Prop := ineqMoreRow.holds Try.pinned (OpenSpec.ofChange ineqMoreSpec)

/-- ITS FALSE NEIGHBOUR: 'it returns false'. Refute it at one input. -/
def ineqMoreWrong : ChangeSpec := { name := "ineqMore", fn := fun _ => fun
  | [d] => { results := [.lit (.bool false)], args := [d] }
  | _ => none }
def IneqMoreWrongFalsely : Prop := ineqMoreRow.holds Try.pinned (OpenSpec.ofChange ineqMoreWrong)

/- THE SECOND FORM. 'bulk': how many values and letters a reading holds, each counted each time it is reached (what is shared counts as often as it is met; a slice's spare places count too). A statement '..UptoSaid' is the law's where the arguments, and the package variables that the reading takes, are together of bulk at most 1048576: NARROWER than '..Said'. Prove '..Said' where nothing that the law and all that it calls make is longer than what came in: it says more and counts as full. Else prove '..UptoSaid'. A law counts once. -/
mutual
def uptoBulk {H : Type} : DataW H → Nat
  | .lit (.string bytes) => bytes.length + 1
  | .lit _ => 1
  | .nil => 1
  | .ptr d => uptoBulk d + 1
  | .slice elems spare => uptoBulkAll elems + uptoBulkAll spare + 1
  | .agg parts => uptoBulkAll parts + 1
  | .iface _ d => uptoBulk d + 1
  | .map entries => uptoBulkEntries entries + 1
  | .held _ => 1
def uptoBulkAll {H : Type} : List (DataW H) → Nat
  | [] => 0
  | d :: r => uptoBulk d + uptoBulkAll r
def uptoBulkEntries {H : Type} : List (Lit × DataW H) → Nat
  | [] => 0
  | x :: r => uptoBulkEntry x + uptoBulkEntries r
def uptoBulkEntry {H : Type} : Lit × DataW H → Nat
  | (.string bytes, d) => bytes.length + uptoBulk d + 1
  | (_, d) => uptoBulk d + 1
 end
def uptoSmall : (H : Type) → List (DataW H) → Bool := fun _ ds => decide (uptoBulkAll ds ≤ 1048576)
def OpenSpec.upto (s : _root_.Go.ChangeSpec) : _root_.Go.OpenSpec := { _root_.Go.OpenSpec.ofChange s with cond := some uptoSmall }

/-- 'doppellaw19.IneqWords', WHERE WHAT IT READS IS OF BULK AT MOST 1048576: true; the input reads as it did. -/
def ineqWordsUptoRow : OpenClaim := { program := "ytfaccdidjhaahaa", sum := "cd8e55123efe96900bcc315d542ad9488af8267e9e10d4d080bb501e122948c3", func := "doppel/doppellaw19.IneqWords", spec := "ineqWords", unfollowed := true, recurses := true, apart := false, narrowed := true }
def IneqWordsUptoSaid : Prop := ineqWordsUptoRow.holds Try.pinned (OpenSpec.upto ineqWordsSpec)

/-- 'doppellaw19.IneqTight', WHERE WHAT IT READS IS OF BULK AT MOST 1048576: true; the input reads as it did. -/
def ineqTightUptoRow : OpenClaim := { program := "ytfaccdidjhaahaa", sum := "cd8e55123efe96900bcc315d542ad9488af8267e9e10d4d080bb501e122948c3", func := "doppel/doppellaw19.IneqTight", spec := "ineqTight", unfollowed := true, recurses := true, apart := false, narrowed := true }
def IneqTightUptoSaid : Prop := ineqTightUptoRow.holds Try.pinned (OpenSpec.upto ineqTightSpec)

/-- 'doppellaw19.IneqSteps', WHERE WHAT IT READS IS OF BULK AT MOST 1048576: true; the input reads as it did. -/
def ineqStepsUptoRow : OpenClaim := { program := "ytfaccdidjhaahaa", sum := "cd8e55123efe96900bcc315d542ad9488af8267e9e10d4d080bb501e122948c3", func := "doppel/doppellaw19.IneqSteps", spec := "ineqSteps", unfollowed := true, recurses := true, apart := false, narrowed := true }
def IneqStepsUptoSaid : Prop := ineqStepsUptoRow.holds Try.pinned (OpenSpec.upto ineqStepsSpec)

/-- 'doppellaw19.IneqNever', WHERE WHAT IT READS IS OF BULK AT MOST 1048576: true; the input reads as it did. -/
def ineqNeverUptoRow : OpenClaim := { program := "ytfaccdidjhaahaa", sum := "cd8e55123efe96900bcc315d542ad9488af8267e9e10d4d080bb501e122948c3", func := "doppel/doppellaw19.IneqNever", spec := "ineqNever", unfollowed := true, recurses := true, apart := false, narrowed := true }
def IneqNeverUptoSaid : Prop := ineqNeverUptoRow.holds Try.pinned (OpenSpec.upto ineqNeverSpec)

/-- 'doppellaw19.IneqBounds', WHERE WHAT IT READS IS OF BULK AT MOST 1048576: true; the input reads as it did. -/
def ineqBoundsUptoRow : OpenClaim := { program := "ytfaccdidjhaahaa", sum := "cd8e55123efe96900bcc315d542ad9488af8267e9e10d4d080bb501e122948c3", func := "doppel/doppellaw19.IneqBounds", spec := "ineqBounds", unfollowed := true, recurses := true, apart := false, narrowed := true }
def IneqBoundsUptoSaid : Prop := ineqBoundsUptoRow.holds Try.pinned (OpenSpec.upto ineqBoundsSpec)

/-- 'doppellaw19.IneqChain', WHERE WHAT IT READS IS OF BULK AT MOST 1048576: true; the input reads as it did. -/
def ineqChainUptoRow : OpenClaim := { program := "ytfaccdidjhaahaa", sum := "cd8e55123efe96900bcc315d542ad9488af8267e9e10d4d080bb501e122948c3", func := "doppel/doppellaw19.IneqChain", spec := "ineqChain", unfollowed := true, recurses := true, apart := false, narrowed := true }
def IneqChainUptoSaid : Prop := ineqChainUptoRow.holds Try.pinned (OpenSpec.upto ineqChainSpec)

/-- 'doppellaw19.IneqMore', WHERE WHAT IT READS IS OF BULK AT MOST 1048576: true; the input reads as it did. -/
def ineqMoreUptoRow : OpenClaim := { program := "ytfaccdidjhaahaa", sum := "cd8e55123efe96900bcc315d542ad9488af8267e9e10d4d080bb501e122948c3", func := "doppel/doppellaw19.IneqMore", spec := "ineqMore", unfollowed := true, recurses := true, apart := false, narrowed := true }
def IneqMoreUptoSaid : Prop := ineqMoreUptoRow.holds Try.pinned (OpenSpec.upto ineqMoreSpec)

end Rows
end Go.Proofs.Ytfaccdidjhaahaa
