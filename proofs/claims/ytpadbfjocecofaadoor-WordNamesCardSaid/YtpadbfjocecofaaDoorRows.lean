/-
  NARROWER THAN 'FOR EVERY INPUT', by the rows' own cells (each row's printed sentence says how): WordLaws: laid · WordOrders: laid · WordShifts: laid · WordBits: laid · WordTwice: laid · WordDoes: laid · WordWraps: laid · WordNames: laid.
  DERIVED. THE GIVEN ROWS OF THIS SEAT. 8 by the template 'for every input the law returns true; each argument reads behind the call as it read before'; 0 by the template 'total and deterministic' (their statements: YtpadbfjocecofaaDoorTotals.lean).
  GIVEN WITH THE SEED: the statements are not yours to turn. If you find one false, say at which input.
  Laid BY PROGRAM, IN A SANDBOX (cutbox-rows.mjs): the forced cells as the released guide's own fill.sh prints them over the translation 39923b719b09dfce… (all of the seat's roots in one cut). By AI agents, Wed Nov 11 2026. No macro, syntax, notation, axiom, sorry.
-/
import Derived.Test.YtpadbfjocecofaaDoorChecked
import GoSem.Claim
import GoSem.ClaimJoined
import GoSem.ClaimMapViews
import Derived.JoinedTies
import Derived.KernelRfl
namespace Go.Proofs.YtpadbfjocecofaaDoor
/- THE CELL 'sum', in the pinned program and in every row, IS THE sha256 OF THE DUMP (.gsa) THAT YtpadbfjocecofaaDoorProg.lean LOADS. Nothing in Lean hashes anything: it is a label: what it is worth is what the hold of that sum in a sandbox is worth. -/
noncomputable def Tryd.pinned : Pinned := { name := "ytpadbfjocecofaadoor", sum := "39923b719b09dfcee605a7590abbd4d29b5cc5de718f6bf1f911d8c9b27fd2ab", checked := Tryd.checked }
namespace Rows
def none {H : Type} : Left H := { results := [], args := [] }

/- WHAT THE LISTED PACKAGE-LEVEL VARIABLES READ AS WHEN THE CALL BEGINS. Each datum BY PROGRAM (the guide's laid-datum.mjs) off the statement by which the dump's own 'gosem.cut.vars' lays the variable. In a bare row this is a premise. The card (YtpadbfjocecofaaDoorCards.lean) ties it to the program's text. -/
def laid_unicode_White_Space {H : Type} : DataW H := .ptr (.agg [.slice [.agg [.lit (.int .u16 9), .lit (.int .u16 13), .lit (.int .u16 1)], .agg [.lit (.int .u16 32), .lit (.int .u16 133), .lit (.int .u16 101)], .agg [.lit (.int .u16 160), .lit (.int .u16 5760), .lit (.int .u16 5600)], .agg [.lit (.int .u16 8192), .lit (.int .u16 8202), .lit (.int .u16 1)], .agg [.lit (.int .u16 8232), .lit (.int .u16 8233), .lit (.int .u16 1)], .agg [.lit (.int .u16 8239), .lit (.int .u16 8287), .lit (.int .u16 48)], .agg [.lit (.int .u16 12288), .lit (.int .u16 12288), .lit (.int .u16 1)]] [], .nil, .lit (.int .i64 2)])
def laid_strings_asciiSpace {H : Type} : DataW H := .agg [.lit (.int .u8 0), .lit (.int .u8 0), .lit (.int .u8 0), .lit (.int .u8 0), .lit (.int .u8 0), .lit (.int .u8 0), .lit (.int .u8 0), .lit (.int .u8 0), .lit (.int .u8 0), .lit (.int .u8 1), .lit (.int .u8 1), .lit (.int .u8 1), .lit (.int .u8 1), .lit (.int .u8 1), .lit (.int .u8 0), .lit (.int .u8 0), .lit (.int .u8 0), .lit (.int .u8 0), .lit (.int .u8 0), .lit (.int .u8 0), .lit (.int .u8 0), .lit (.int .u8 0), .lit (.int .u8 0), .lit (.int .u8 0), .lit (.int .u8 0), .lit (.int .u8 0), .lit (.int .u8 0), .lit (.int .u8 0), .lit (.int .u8 0), .lit (.int .u8 0), .lit (.int .u8 0), .lit (.int .u8 0), .lit (.int .u8 1), .lit (.int .u8 0), .lit (.int .u8 0), .lit (.int .u8 0), .lit (.int .u8 0), .lit (.int .u8 0), .lit (.int .u8 0), .lit (.int .u8 0), .lit (.int .u8 0), .lit (.int .u8 0), .lit (.int .u8 0), .lit (.int .u8 0), .lit (.int .u8 0), .lit (.int .u8 0), .lit (.int .u8 0), .lit (.int .u8 0), .lit (.int .u8 0), .lit (.int .u8 0), .lit (.int .u8 0), .lit (.int .u8 0), .lit (.int .u8 0), .lit (.int .u8 0), .lit (.int .u8 0), .lit (.int .u8 0), .lit (.int .u8 0), .lit (.int .u8 0), .lit (.int .u8 0), .lit (.int .u8 0), .lit (.int .u8 0), .lit (.int .u8 0), .lit (.int .u8 0), .lit (.int .u8 0), .lit (.int .u8 0), .lit (.int .u8 0), .lit (.int .u8 0), .lit (.int .u8 0), .lit (.int .u8 0), .lit (.int .u8 0), .lit (.int .u8 0), .lit (.int .u8 0), .lit (.int .u8 0), .lit (.int .u8 0), .lit (.int .u8 0), .lit (.int .u8 0), .lit (.int .u8 0), .lit (.int .u8 0), .lit (.int .u8 0), .lit (.int .u8 0), .lit (.int .u8 0), .lit (.int .u8 0), .lit (.int .u8 0), .lit (.int .u8 0), .lit (.int .u8 0), .lit (.int .u8 0), .lit (.int .u8 0), .lit (.int .u8 0), .lit (.int .u8 0), .lit (.int .u8 0), .lit (.int .u8 0), .lit (.int .u8 0), .lit (.int .u8 0), .lit (.int .u8 0), .lit (.int .u8 0), .lit (.int .u8 0), .lit (.int .u8 0), .lit (.int .u8 0), .lit (.int .u8 0), .lit (.int .u8 0), .lit (.int .u8 0), .lit (.int .u8 0), .lit (.int .u8 0), .lit (.int .u8 0), .lit (.int .u8 0), .lit (.int .u8 0), .lit (.int .u8 0), .lit (.int .u8 0), .lit (.int .u8 0), .lit (.int .u8 0), .lit (.int .u8 0), .lit (.int .u8 0), .lit (.int .u8 0), .lit (.int .u8 0), .lit (.int .u8 0), .lit (.int .u8 0), .lit (.int .u8 0), .lit (.int .u8 0), .lit (.int .u8 0), .lit (.int .u8 0), .lit (.int .u8 0), .lit (.int .u8 0), .lit (.int .u8 0), .lit (.int .u8 0), .lit (.int .u8 0), .lit (.int .u8 0), .lit (.int .u8 0), .lit (.int .u8 0), .lit (.int .u8 0), .lit (.int .u8 0), .lit (.int .u8 0), .lit (.int .u8 0), .lit (.int .u8 0), .lit (.int .u8 0), .lit (.int .u8 0), .lit (.int .u8 0), .lit (.int .u8 0), .lit (.int .u8 0), .lit (.int .u8 0), .lit (.int .u8 0), .lit (.int .u8 0), .lit (.int .u8 0), .lit (.int .u8 0), .lit (.int .u8 0), .lit (.int .u8 0), .lit (.int .u8 0), .lit (.int .u8 0), .lit (.int .u8 0), .lit (.int .u8 0), .lit (.int .u8 0), .lit (.int .u8 0), .lit (.int .u8 0), .lit (.int .u8 0), .lit (.int .u8 0), .lit (.int .u8 0), .lit (.int .u8 0), .lit (.int .u8 0), .lit (.int .u8 0), .lit (.int .u8 0), .lit (.int .u8 0), .lit (.int .u8 0), .lit (.int .u8 0), .lit (.int .u8 0), .lit (.int .u8 0), .lit (.int .u8 0), .lit (.int .u8 0), .lit (.int .u8 0), .lit (.int .u8 0), .lit (.int .u8 0), .lit (.int .u8 0), .lit (.int .u8 0), .lit (.int .u8 0), .lit (.int .u8 0), .lit (.int .u8 0), .lit (.int .u8 0), .lit (.int .u8 0), .lit (.int .u8 0), .lit (.int .u8 0), .lit (.int .u8 0), .lit (.int .u8 0), .lit (.int .u8 0), .lit (.int .u8 0), .lit (.int .u8 0), .lit (.int .u8 0), .lit (.int .u8 0), .lit (.int .u8 0), .lit (.int .u8 0), .lit (.int .u8 0), .lit (.int .u8 0), .lit (.int .u8 0), .lit (.int .u8 0), .lit (.int .u8 0), .lit (.int .u8 0), .lit (.int .u8 0), .lit (.int .u8 0), .lit (.int .u8 0), .lit (.int .u8 0), .lit (.int .u8 0), .lit (.int .u8 0), .lit (.int .u8 0), .lit (.int .u8 0), .lit (.int .u8 0), .lit (.int .u8 0), .lit (.int .u8 0), .lit (.int .u8 0), .lit (.int .u8 0), .lit (.int .u8 0), .lit (.int .u8 0), .lit (.int .u8 0), .lit (.int .u8 0), .lit (.int .u8 0), .lit (.int .u8 0), .lit (.int .u8 0), .lit (.int .u8 0), .lit (.int .u8 0), .lit (.int .u8 0), .lit (.int .u8 0), .lit (.int .u8 0), .lit (.int .u8 0), .lit (.int .u8 0), .lit (.int .u8 0), .lit (.int .u8 0), .lit (.int .u8 0), .lit (.int .u8 0), .lit (.int .u8 0), .lit (.int .u8 0), .lit (.int .u8 0), .lit (.int .u8 0), .lit (.int .u8 0), .lit (.int .u8 0), .lit (.int .u8 0), .lit (.int .u8 0), .lit (.int .u8 0), .lit (.int .u8 0), .lit (.int .u8 0), .lit (.int .u8 0), .lit (.int .u8 0), .lit (.int .u8 0), .lit (.int .u8 0), .lit (.int .u8 0), .lit (.int .u8 0), .lit (.int .u8 0), .lit (.int .u8 0), .lit (.int .u8 0), .lit (.int .u8 0), .lit (.int .u8 0), .lit (.int .u8 0), .lit (.int .u8 0), .lit (.int .u8 0), .lit (.int .u8 0), .lit (.int .u8 0), .lit (.int .u8 0), .lit (.int .u8 0), .lit (.int .u8 0), .lit (.int .u8 0), .lit (.int .u8 0)]

/-- 'doppellaw01.WordLaws': WHATEVER THE INPUT: true; the input reads as it did. -/
def wordLawsSpec : ChangeSpec := { name := "wordLaws", fn := fun _ => fun
  | [d1, d2] => { results := [.lit (.bool true)], args := [d1, d2] }
  | _ => none }
def wordLawsRow : OpenClaim := { program := "ytpadbfjocecofaadoor", sum := "39923b719b09dfcee605a7590abbd4d29b5cc5de718f6bf1f911d8c9b27fd2ab", func := "doppel/doppellaw01.WordLaws", spec := "wordLaws", unfollowed := true, recurses := true, named := ["strings.asciiSpace", "unicode.White_Space"], apart := false, laid := [("unicode.White_Space", laid_unicode_White_Space), ("strings.asciiSpace", laid_strings_asciiSpace)] }
def WordLawsSaid : Prop := wordLawsRow.holds Tryd.pinned (OpenSpec.ofChange wordLawsSpec)

/-- ITS FALSE NEIGHBOUR: 'it returns false'. Refute it at one input. -/
def wordLawsWrong : ChangeSpec := { name := "wordLaws", fn := fun _ => fun
  | [d1, d2] => { results := [.lit (.bool false)], args := [d1, d2] }
  | _ => none }
def WordLawsWrongFalsely : Prop := wordLawsRow.holds Tryd.pinned (OpenSpec.ofChange wordLawsWrong)

/-- 'doppellaw01.WordOrders': WHATEVER THE INPUT: true; the input reads as it did. -/
def wordOrdersSpec : ChangeSpec := { name := "wordOrders", fn := fun _ => fun
  | [d1, d2] => { results := [.lit (.bool true)], args := [d1, d2] }
  | _ => none }
def wordOrdersRow : OpenClaim := { program := "ytpadbfjocecofaadoor", sum := "39923b719b09dfcee605a7590abbd4d29b5cc5de718f6bf1f911d8c9b27fd2ab", func := "doppel/doppellaw01.WordOrders", spec := "wordOrders", unfollowed := true, recurses := true, named := ["strings.asciiSpace", "unicode.White_Space"], apart := false, laid := [("unicode.White_Space", laid_unicode_White_Space), ("strings.asciiSpace", laid_strings_asciiSpace)] }
def WordOrdersSaid : Prop := wordOrdersRow.holds Tryd.pinned (OpenSpec.ofChange wordOrdersSpec)

/-- ITS FALSE NEIGHBOUR: 'it returns false'. Refute it at one input. -/
def wordOrdersWrong : ChangeSpec := { name := "wordOrders", fn := fun _ => fun
  | [d1, d2] => { results := [.lit (.bool false)], args := [d1, d2] }
  | _ => none }
def WordOrdersWrongFalsely : Prop := wordOrdersRow.holds Tryd.pinned (OpenSpec.ofChange wordOrdersWrong)

/-- 'doppellaw01.WordShifts': WHATEVER THE INPUT: true; the input reads as it did. -/
def wordShiftsSpec : ChangeSpec := { name := "wordShifts", fn := fun _ => fun
  | [d1, d2] => { results := [.lit (.bool true)], args := [d1, d2] }
  | _ => none }
def wordShiftsRow : OpenClaim := { program := "ytpadbfjocecofaadoor", sum := "39923b719b09dfcee605a7590abbd4d29b5cc5de718f6bf1f911d8c9b27fd2ab", func := "doppel/doppellaw01.WordShifts", spec := "wordShifts", unfollowed := true, recurses := true, named := ["strings.asciiSpace", "unicode.White_Space"], apart := false, laid := [("unicode.White_Space", laid_unicode_White_Space), ("strings.asciiSpace", laid_strings_asciiSpace)] }
def WordShiftsSaid : Prop := wordShiftsRow.holds Tryd.pinned (OpenSpec.ofChange wordShiftsSpec)

/-- ITS FALSE NEIGHBOUR: 'it returns false'. Refute it at one input. -/
def wordShiftsWrong : ChangeSpec := { name := "wordShifts", fn := fun _ => fun
  | [d1, d2] => { results := [.lit (.bool false)], args := [d1, d2] }
  | _ => none }
def WordShiftsWrongFalsely : Prop := wordShiftsRow.holds Tryd.pinned (OpenSpec.ofChange wordShiftsWrong)

/-- 'doppellaw01.WordBits': WHATEVER THE INPUT: true; the input reads as it did. -/
def wordBitsSpec : ChangeSpec := { name := "wordBits", fn := fun _ => fun
  | [d1, d2] => { results := [.lit (.bool true)], args := [d1, d2] }
  | _ => none }
def wordBitsRow : OpenClaim := { program := "ytpadbfjocecofaadoor", sum := "39923b719b09dfcee605a7590abbd4d29b5cc5de718f6bf1f911d8c9b27fd2ab", func := "doppel/doppellaw01.WordBits", spec := "wordBits", unfollowed := true, recurses := true, named := ["strings.asciiSpace", "unicode.White_Space"], apart := false, laid := [("unicode.White_Space", laid_unicode_White_Space), ("strings.asciiSpace", laid_strings_asciiSpace)] }
def WordBitsSaid : Prop := wordBitsRow.holds Tryd.pinned (OpenSpec.ofChange wordBitsSpec)

/-- ITS FALSE NEIGHBOUR: 'it returns false'. Refute it at one input. -/
def wordBitsWrong : ChangeSpec := { name := "wordBits", fn := fun _ => fun
  | [d1, d2] => { results := [.lit (.bool false)], args := [d1, d2] }
  | _ => none }
def WordBitsWrongFalsely : Prop := wordBitsRow.holds Tryd.pinned (OpenSpec.ofChange wordBitsWrong)

/-- 'doppellaw01.WordTwice': WHATEVER THE INPUT: true; the input reads as it did. -/
def wordTwiceSpec : ChangeSpec := { name := "wordTwice", fn := fun _ => fun
  | [d] => { results := [.lit (.bool true)], args := [d] }
  | _ => none }
def wordTwiceRow : OpenClaim := { program := "ytpadbfjocecofaadoor", sum := "39923b719b09dfcee605a7590abbd4d29b5cc5de718f6bf1f911d8c9b27fd2ab", func := "doppel/doppellaw01.WordTwice", spec := "wordTwice", unfollowed := true, recurses := true, named := ["strings.asciiSpace", "unicode.White_Space"], apart := false, laid := [("unicode.White_Space", laid_unicode_White_Space), ("strings.asciiSpace", laid_strings_asciiSpace)] }
def WordTwiceSaid : Prop := wordTwiceRow.holds Tryd.pinned (OpenSpec.ofChange wordTwiceSpec)

/-- ITS FALSE NEIGHBOUR: 'it returns false'. Refute it at one input. -/
def wordTwiceWrong : ChangeSpec := { name := "wordTwice", fn := fun _ => fun
  | [d] => { results := [.lit (.bool false)], args := [d] }
  | _ => none }
def WordTwiceWrongFalsely : Prop := wordTwiceRow.holds Tryd.pinned (OpenSpec.ofChange wordTwiceWrong)

/-- 'doppellaw01.WordDoes': WHATEVER THE INPUT: true; the input reads as it did. -/
def wordDoesSpec : ChangeSpec := { name := "wordDoes", fn := fun _ => fun
  | [d1, d2, d3] => { results := [.lit (.bool true)], args := [d1, d2, d3] }
  | _ => none }
def wordDoesRow : OpenClaim := { program := "ytpadbfjocecofaadoor", sum := "39923b719b09dfcee605a7590abbd4d29b5cc5de718f6bf1f911d8c9b27fd2ab", func := "doppel/doppellaw01.WordDoes", spec := "wordDoes", unfollowed := true, recurses := true, named := ["strings.asciiSpace", "unicode.White_Space"], apart := false, laid := [("unicode.White_Space", laid_unicode_White_Space), ("strings.asciiSpace", laid_strings_asciiSpace)] }
def WordDoesSaid : Prop := wordDoesRow.holds Tryd.pinned (OpenSpec.ofChange wordDoesSpec)

/-- ITS FALSE NEIGHBOUR: 'it returns false'. Refute it at one input. -/
def wordDoesWrong : ChangeSpec := { name := "wordDoes", fn := fun _ => fun
  | [d1, d2, d3] => { results := [.lit (.bool false)], args := [d1, d2, d3] }
  | _ => none }
def WordDoesWrongFalsely : Prop := wordDoesRow.holds Tryd.pinned (OpenSpec.ofChange wordDoesWrong)

/-- 'doppellaw01.WordWraps': WHATEVER THE INPUT: true; the input reads as it did. -/
def wordWrapsSpec : ChangeSpec := { name := "wordWraps", fn := fun _ => fun
  | [d] => { results := [.lit (.bool true)], args := [d] }
  | _ => none }
def wordWrapsRow : OpenClaim := { program := "ytpadbfjocecofaadoor", sum := "39923b719b09dfcee605a7590abbd4d29b5cc5de718f6bf1f911d8c9b27fd2ab", func := "doppel/doppellaw01.WordWraps", spec := "wordWraps", unfollowed := true, recurses := true, named := ["strings.asciiSpace", "unicode.White_Space"], apart := false, laid := [("unicode.White_Space", laid_unicode_White_Space), ("strings.asciiSpace", laid_strings_asciiSpace)] }
def WordWrapsSaid : Prop := wordWrapsRow.holds Tryd.pinned (OpenSpec.ofChange wordWrapsSpec)

/-- ITS FALSE NEIGHBOUR: 'it returns false'. Refute it at one input. -/
def wordWrapsWrong : ChangeSpec := { name := "wordWraps", fn := fun _ => fun
  | [d] => { results := [.lit (.bool false)], args := [d] }
  | _ => none }
def WordWrapsWrongFalsely : Prop := wordWrapsRow.holds Tryd.pinned (OpenSpec.ofChange wordWrapsWrong)

/-- 'doppellaw01.WordNames': WHATEVER THE INPUT: true; the input reads as it did. -/
def wordNamesSpec : ChangeSpec := { name := "wordNames", fn := fun _ => fun
  | [d1, d2] => { results := [.lit (.bool true)], args := [d1, d2] }
  | _ => none }
def wordNamesRow : OpenClaim := { program := "ytpadbfjocecofaadoor", sum := "39923b719b09dfcee605a7590abbd4d29b5cc5de718f6bf1f911d8c9b27fd2ab", func := "doppel/doppellaw01.WordNames", spec := "wordNames", unfollowed := true, recurses := true, named := ["strings.asciiSpace", "unicode.White_Space"], apart := false, laid := [("unicode.White_Space", laid_unicode_White_Space), ("strings.asciiSpace", laid_strings_asciiSpace)] }
def WordNamesSaid : Prop := wordNamesRow.holds Tryd.pinned (OpenSpec.ofChange wordNamesSpec)

/-- ITS FALSE NEIGHBOUR: 'it returns false'. Refute it at one input. -/
def wordNamesWrong : ChangeSpec := { name := "wordNames", fn := fun _ => fun
  | [d1, d2] => { results := [.lit (.bool false)], args := [d1, d2] }
  | _ => none }
def WordNamesWrongFalsely : Prop := wordNamesRow.holds Tryd.pinned (OpenSpec.ofChange wordNamesWrong)

/- THE SECOND FORM. 'bulk': how many values and letters a reading holds, each counted each time it is reached (what is shared counts as often as it is met; a slice's spare places count too). A statement '..UptoSaid' is the law's where the arguments, and the package variables that the reading takes, are together of bulk at most 1048576: NARROWER than '..Said'. Prove '..Said' where nothing that the law and all that it calls make is longer than what came in: it says more and counts as full. Else prove '..UptoSaid'. A law counts once. -/
mutual
def uptoBulk {H : Type} : DataW H → Nat
  | .lit (.string bytes) => bytes.length + 1
  | .lit _ => 1
  | .nil => 1
  | .ptr d => uptoBulk d + 1
  | .slice elems spare => uptoBulkAll elems + uptoBulkAll spare + 1
  | .agg parts => uptoBulkAll parts + 1
  | .iface _ d => uptoBulk d + 1
  | .map entries => uptoBulkEntries entries + 1
  | .held _ => 1
def uptoBulkAll {H : Type} : List (DataW H) → Nat
  | [] => 0
  | d :: r => uptoBulk d + uptoBulkAll r
def uptoBulkEntries {H : Type} : List (Lit × DataW H) → Nat
  | [] => 0
  | x :: r => uptoBulkEntry x + uptoBulkEntries r
def uptoBulkEntry {H : Type} : Lit × DataW H → Nat
  | (.string bytes, d) => bytes.length + uptoBulk d + 1
  | (_, d) => uptoBulk d + 1
 end
def uptoSmall : (H : Type) → List (DataW H) → Bool := fun _ ds => decide (uptoBulkAll ds ≤ 1048576)
def OpenSpec.upto (s : _root_.Go.ChangeSpec) : _root_.Go.OpenSpec := { _root_.Go.OpenSpec.ofChange s with cond := some uptoSmall }

/-- 'doppellaw01.WordLaws', WHERE WHAT IT READS IS OF BULK AT MOST 1048576: true; the input reads as it did. -/
def wordLawsUptoRow : OpenClaim := { program := "ytpadbfjocecofaadoor", sum := "39923b719b09dfcee605a7590abbd4d29b5cc5de718f6bf1f911d8c9b27fd2ab", func := "doppel/doppellaw01.WordLaws", spec := "wordLaws", unfollowed := true, recurses := true, named := ["strings.asciiSpace", "unicode.White_Space"], apart := false, laid := [("unicode.White_Space", laid_unicode_White_Space), ("strings.asciiSpace", laid_strings_asciiSpace)], narrowed := true }
def WordLawsUptoSaid : Prop := wordLawsUptoRow.holds Tryd.pinned (OpenSpec.upto wordLawsSpec)

/-- 'doppellaw01.WordOrders', WHERE WHAT IT READS IS OF BULK AT MOST 1048576: true; the input reads as it did. -/
def wordOrdersUptoRow : OpenClaim := { program := "ytpadbfjocecofaadoor", sum := "39923b719b09dfcee605a7590abbd4d29b5cc5de718f6bf1f911d8c9b27fd2ab", func := "doppel/doppellaw01.WordOrders", spec := "wordOrders", unfollowed := true, recurses := true, named := ["strings.asciiSpace", "unicode.White_Space"], apart := false, laid := [("unicode.White_Space", laid_unicode_White_Space), ("strings.asciiSpace", laid_strings_asciiSpace)], narrowed := true }
def WordOrdersUptoSaid : Prop := wordOrdersUptoRow.holds Tryd.pinned (OpenSpec.upto wordOrdersSpec)

/-- 'doppellaw01.WordShifts', WHERE WHAT IT READS IS OF BULK AT MOST 1048576: true; the input reads as it did. -/
def wordShiftsUptoRow : OpenClaim := { program := "ytpadbfjocecofaadoor", sum := "39923b719b09dfcee605a7590abbd4d29b5cc5de718f6bf1f911d8c9b27fd2ab", func := "doppel/doppellaw01.WordShifts", spec := "wordShifts", unfollowed := true, recurses := true, named := ["strings.asciiSpace", "unicode.White_Space"], apart := false, laid := [("unicode.White_Space", laid_unicode_White_Space), ("strings.asciiSpace", laid_strings_asciiSpace)], narrowed := true }
def WordShiftsUptoSaid : Prop := wordShiftsUptoRow.holds Tryd.pinned (OpenSpec.upto wordShiftsSpec)

/-- 'doppellaw01.WordBits', WHERE WHAT IT READS IS OF BULK AT MOST 1048576: true; the input reads as it did. -/
def wordBitsUptoRow : OpenClaim := { program := "ytpadbfjocecofaadoor", sum := "39923b719b09dfcee605a7590abbd4d29b5cc5de718f6bf1f911d8c9b27fd2ab", func := "doppel/doppellaw01.WordBits", spec := "wordBits", unfollowed := true, recurses := true, named := ["strings.asciiSpace", "unicode.White_Space"], apart := false, laid := [("unicode.White_Space", laid_unicode_White_Space), ("strings.asciiSpace", laid_strings_asciiSpace)], narrowed := true }
def WordBitsUptoSaid : Prop := wordBitsUptoRow.holds Tryd.pinned (OpenSpec.upto wordBitsSpec)

/-- 'doppellaw01.WordTwice', WHERE WHAT IT READS IS OF BULK AT MOST 1048576: true; the input reads as it did. -/
def wordTwiceUptoRow : OpenClaim := { program := "ytpadbfjocecofaadoor", sum := "39923b719b09dfcee605a7590abbd4d29b5cc5de718f6bf1f911d8c9b27fd2ab", func := "doppel/doppellaw01.WordTwice", spec := "wordTwice", unfollowed := true, recurses := true, named := ["strings.asciiSpace", "unicode.White_Space"], apart := false, laid := [("unicode.White_Space", laid_unicode_White_Space), ("strings.asciiSpace", laid_strings_asciiSpace)], narrowed := true }
def WordTwiceUptoSaid : Prop := wordTwiceUptoRow.holds Tryd.pinned (OpenSpec.upto wordTwiceSpec)

/-- 'doppellaw01.WordDoes', WHERE WHAT IT READS IS OF BULK AT MOST 1048576: true; the input reads as it did. -/
def wordDoesUptoRow : OpenClaim := { program := "ytpadbfjocecofaadoor", sum := "39923b719b09dfcee605a7590abbd4d29b5cc5de718f6bf1f911d8c9b27fd2ab", func := "doppel/doppellaw01.WordDoes", spec := "wordDoes", unfollowed := true, recurses := true, named := ["strings.asciiSpace", "unicode.White_Space"], apart := false, laid := [("unicode.White_Space", laid_unicode_White_Space), ("strings.asciiSpace", laid_strings_asciiSpace)], narrowed := true }
def WordDoesUptoSaid : Prop := wordDoesUptoRow.holds Tryd.pinned (OpenSpec.upto wordDoesSpec)

/-- 'doppellaw01.WordWraps', WHERE WHAT IT READS IS OF BULK AT MOST 1048576: true; the input reads as it did. -/
def wordWrapsUptoRow : OpenClaim := { program := "ytpadbfjocecofaadoor", sum := "39923b719b09dfcee605a7590abbd4d29b5cc5de718f6bf1f911d8c9b27fd2ab", func := "doppel/doppellaw01.WordWraps", spec := "wordWraps", unfollowed := true, recurses := true, named := ["strings.asciiSpace", "unicode.White_Space"], apart := false, laid := [("unicode.White_Space", laid_unicode_White_Space), ("strings.asciiSpace", laid_strings_asciiSpace)], narrowed := true }
def WordWrapsUptoSaid : Prop := wordWrapsUptoRow.holds Tryd.pinned (OpenSpec.upto wordWrapsSpec)

/-- 'doppellaw01.WordNames', WHERE WHAT IT READS IS OF BULK AT MOST 1048576: true; the input reads as it did. -/
def wordNamesUptoRow : OpenClaim := { program := "ytpadbfjocecofaadoor", sum := "39923b719b09dfcee605a7590abbd4d29b5cc5de718f6bf1f911d8c9b27fd2ab", func := "doppel/doppellaw01.WordNames", spec := "wordNames", unfollowed := true, recurses := true, named := ["strings.asciiSpace", "unicode.White_Space"], apart := false, laid := [("unicode.White_Space", laid_unicode_White_Space), ("strings.asciiSpace", laid_strings_asciiSpace)], narrowed := true }
def WordNamesUptoSaid : Prop := wordNamesUptoRow.holds Tryd.pinned (OpenSpec.upto wordNamesSpec)

end Rows
end Go.Proofs.YtpadbfjocecofaaDoor
