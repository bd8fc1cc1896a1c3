/-
  DERIVED. GIVEN WITH THE SEED: THE CARDS: each row of YtpadbfjocecofaaDoorRows.lean that lists a variable, with what it lists TIED to the program's text (the seventh form; the later family's looks); each row that meets fmt, with fmt's text TOLD by the authors' own Lean function (tested against real Go, not proved from fmt's source: count such statements apart). THE CARD IS WHAT COUNTS. Prove the row's statement (the work); the ties are given (YtpadbfjocecofaaDoorTie.lean); close each card by the builder's one call (the guide's Derived/Test/ToyasCard.lean, 'card_holds'). Laid BY PROGRAM, IN A SANDBOX (cutbox-door.mjs). By AI agents, Wed Nov 11 2026. No macro, syntax, notation, axiom, sorry.
-/
import Derived.Test.YtpadbfjocecofaaDoorRows
import GoSem.ClaimSeven
namespace Go.Proofs.YtpadbfjocecofaaDoor
namespace Rows

/-- THE TIED CARD OF 'doppellaw01.WordLaws'. -/
def wordLawsCard : Claim7 := { stood := { row := wordLawsRow, standIns := [], harness := (true, "c0e1f3a1f8a3a6d39e05ceb511b014fc67cc756a313824ef7c2bcf314ae14196"), looks := false }, kinds := [], alts := [], laidByText := true, laidKinds := [.listed, .data], laidTests := true, laidLooks := .later }
def WordLawsCardSaid : Prop := Claim7.holds Tryd.pinned (.plain (OpenSpec.ofChange wordLawsSpec)) wordLawsCard

/-- THE TIED CARD OF 'doppellaw01.WordOrders'. -/
def wordOrdersCard : Claim7 := { stood := { row := wordOrdersRow, standIns := [], harness := (true, "c0e1f3a1f8a3a6d39e05ceb511b014fc67cc756a313824ef7c2bcf314ae14196"), looks := false }, kinds := [], alts := [], laidByText := true, laidKinds := [.listed, .data], laidTests := true, laidLooks := .later }
def WordOrdersCardSaid : Prop := Claim7.holds Tryd.pinned (.plain (OpenSpec.ofChange wordOrdersSpec)) wordOrdersCard

/-- THE TIED CARD OF 'doppellaw01.WordShifts'. -/
def wordShiftsCard : Claim7 := { stood := { row := wordShiftsRow, standIns := [], harness := (true, "c0e1f3a1f8a3a6d39e05ceb511b014fc67cc756a313824ef7c2bcf314ae14196"), looks := false }, kinds := [], alts := [], laidByText := true, laidKinds := [.listed, .data], laidTests := true, laidLooks := .later }
def WordShiftsCardSaid : Prop := Claim7.holds Tryd.pinned (.plain (OpenSpec.ofChange wordShiftsSpec)) wordShiftsCard

/-- THE TIED CARD OF 'doppellaw01.WordBits'. -/
def wordBitsCard : Claim7 := { stood := { row := wordBitsRow, standIns := [], harness := (true, "c0e1f3a1f8a3a6d39e05ceb511b014fc67cc756a313824ef7c2bcf314ae14196"), looks := false }, kinds := [], alts := [], laidByText := true, laidKinds := [.listed, .data], laidTests := true, laidLooks := .later }
def WordBitsCardSaid : Prop := Claim7.holds Tryd.pinned (.plain (OpenSpec.ofChange wordBitsSpec)) wordBitsCard

/-- THE TIED CARD OF 'doppellaw01.WordTwice'. -/
def wordTwiceCard : Claim7 := { stood := { row := wordTwiceRow, standIns := [], harness := (true, "c0e1f3a1f8a3a6d39e05ceb511b014fc67cc756a313824ef7c2bcf314ae14196"), looks := false }, kinds := [], alts := [], laidByText := true, laidKinds := [.listed, .data], laidTests := true, laidLooks := .later }
def WordTwiceCardSaid : Prop := Claim7.holds Tryd.pinned (.plain (OpenSpec.ofChange wordTwiceSpec)) wordTwiceCard

/-- THE TIED CARD OF 'doppellaw01.WordDoes'. -/
def wordDoesCard : Claim7 := { stood := { row := wordDoesRow, standIns := [], harness := (true, "c0e1f3a1f8a3a6d39e05ceb511b014fc67cc756a313824ef7c2bcf314ae14196"), looks := false }, kinds := [], alts := [], laidByText := true, laidKinds := [.listed, .data], laidTests := true, laidLooks := .later }
def WordDoesCardSaid : Prop := Claim7.holds Tryd.pinned (.plain (OpenSpec.ofChange wordDoesSpec)) wordDoesCard

/-- THE TIED CARD OF 'doppellaw01.WordWraps'. -/
def wordWrapsCard : Claim7 := { stood := { row := wordWrapsRow, standIns := [], harness := (true, "c0e1f3a1f8a3a6d39e05ceb511b014fc67cc756a313824ef7c2bcf314ae14196"), looks := false }, kinds := [], alts := [], laidByText := true, laidKinds := [.listed, .data], laidTests := true, laidLooks := .later }
def WordWrapsCardSaid : Prop := Claim7.holds Tryd.pinned (.plain (OpenSpec.ofChange wordWrapsSpec)) wordWrapsCard

/-- THE TIED CARD OF 'doppellaw01.WordNames'. -/
def wordNamesCard : Claim7 := { stood := { row := wordNamesRow, standIns := [], harness := (true, "c0e1f3a1f8a3a6d39e05ceb511b014fc67cc756a313824ef7c2bcf314ae14196"), looks := false }, kinds := [], alts := [], laidByText := true, laidKinds := [.listed, .data], laidTests := true, laidLooks := .later }
def WordNamesCardSaid : Prop := Claim7.holds Tryd.pinned (.plain (OpenSpec.ofChange wordNamesSpec)) wordNamesCard

/-- THE SECOND FORM's CARD OF 'doppellaw01.WordLaws'. -/
def wordLawsUptoCard : Claim7 := { stood := { row := wordLawsUptoRow, standIns := [], harness := (true, "c0e1f3a1f8a3a6d39e05ceb511b014fc67cc756a313824ef7c2bcf314ae14196"), looks := false }, kinds := [], alts := [], laidByText := true, laidKinds := [.listed, .data], laidTests := true, laidLooks := .later }
def WordLawsUptoCardSaid : Prop := Claim7.holds Tryd.pinned (.plain (OpenSpec.upto wordLawsSpec)) wordLawsUptoCard

/-- THE SECOND FORM's CARD OF 'doppellaw01.WordOrders'. -/
def wordOrdersUptoCard : Claim7 := { stood := { row := wordOrdersUptoRow, standIns := [], harness := (true, "c0e1f3a1f8a3a6d39e05ceb511b014fc67cc756a313824ef7c2bcf314ae14196"), looks := false }, kinds := [], alts := [], laidByText := true, laidKinds := [.listed, .data], laidTests := true, laidLooks := .later }
def WordOrdersUptoCardSaid : Prop := Claim7.holds Tryd.pinned (.plain (OpenSpec.upto wordOrdersSpec)) wordOrdersUptoCard

/-- THE SECOND FORM's CARD OF 'doppellaw01.WordShifts'. -/
def wordShiftsUptoCard : Claim7 := { stood := { row := wordShiftsUptoRow, standIns := [], harness := (true, "c0e1f3a1f8a3a6d39e05ceb511b014fc67cc756a313824ef7c2bcf314ae14196"), looks := false }, kinds := [], alts := [], laidByText := true, laidKinds := [.listed, .data], laidTests := true, laidLooks := .later }
def WordShiftsUptoCardSaid : Prop := Claim7.holds Tryd.pinned (.plain (OpenSpec.upto wordShiftsSpec)) wordShiftsUptoCard

/-- THE SECOND FORM's CARD OF 'doppellaw01.WordBits'. -/
def wordBitsUptoCard : Claim7 := { stood := { row := wordBitsUptoRow, standIns := [], harness := (true, "c0e1f3a1f8a3a6d39e05ceb511b014fc67cc756a313824ef7c2bcf314ae14196"), looks := false }, kinds := [], alts := [], laidByText := true, laidKinds := [.listed, .data], laidTests := true, laidLooks := .later }
def WordBitsUptoCardSaid : Prop := Claim7.holds Tryd.pinned (.plain (OpenSpec.upto wordBitsSpec)) wordBitsUptoCard

/-- THE SECOND FORM's CARD OF 'doppellaw01.WordTwice'. -/
def wordTwiceUptoCard : Claim7 := { stood := { row := wordTwiceUptoRow, standIns := [], harness := (true, "c0e1f3a1f8a3a6d39e05ceb511b014fc67cc756a313824ef7c2bcf314ae14196"), looks := false }, kinds := [], alts := [], laidByText := true, laidKinds := [.listed, .data], laidTests := true, laidLooks := .later }
def WordTwiceUptoCardSaid : Prop := Claim7.holds Tryd.pinned (.plain (OpenSpec.upto wordTwiceSpec)) wordTwiceUptoCard

/-- THE SECOND FORM's CARD OF 'doppellaw01.WordDoes'. -/
def wordDoesUptoCard : Claim7 := { stood := { row := wordDoesUptoRow, standIns := [], harness := (true, "c0e1f3a1f8a3a6d39e05ceb511b014fc67cc756a313824ef7c2bcf314ae14196"), looks := false }, kinds := [], alts := [], laidByText := true, laidKinds := [.listed, .data], laidTests := true, laidLooks := .later }
def WordDoesUptoCardSaid : Prop := Claim7.holds Tryd.pinned (.plain (OpenSpec.upto wordDoesSpec)) wordDoesUptoCard

/-- THE SECOND FORM's CARD OF 'doppellaw01.WordWraps'. -/
def wordWrapsUptoCard : Claim7 := { stood := { row := wordWrapsUptoRow, standIns := [], harness := (true, "c0e1f3a1f8a3a6d39e05ceb511b014fc67cc756a313824ef7c2bcf314ae14196"), looks := false }, kinds := [], alts := [], laidByText := true, laidKinds := [.listed, .data], laidTests := true, laidLooks := .later }
def WordWrapsUptoCardSaid : Prop := Claim7.holds Tryd.pinned (.plain (OpenSpec.upto wordWrapsSpec)) wordWrapsUptoCard

/-- THE SECOND FORM's CARD OF 'doppellaw01.WordNames'. -/
def wordNamesUptoCard : Claim7 := { stood := { row := wordNamesUptoRow, standIns := [], harness := (true, "c0e1f3a1f8a3a6d39e05ceb511b014fc67cc756a313824ef7c2bcf314ae14196"), looks := false }, kinds := [], alts := [], laidByText := true, laidKinds := [.listed, .data], laidTests := true, laidLooks := .later }
def WordNamesUptoCardSaid : Prop := Claim7.holds Tryd.pinned (.plain (OpenSpec.upto wordNamesSpec)) wordNamesUptoCard
end Rows
end Go.Proofs.YtpadbfjocecofaaDoor
