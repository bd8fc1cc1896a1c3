/-
  DERIVED. GIVEN WITH THE SEED: THE CARDS: each row of YtdoeinccnfggiaaDoorRows.lean that lists a variable, with what it lists TIED to the program's text (the seventh form; the later family's looks); each row that meets fmt, with fmt's text TOLD by the authors' own Lean function (tested against real Go, not proved from fmt's source: count such statements apart). THE CARD IS WHAT COUNTS. Prove the row's statement (the work); the ties are given (YtdoeinccnfggiaaDoorTie.lean); close each card by the builder's one call (the guide's Derived/Test/ToyasCard.lean, 'card_holds'). Laid BY PROGRAM, IN A SANDBOX (cutbox-door.mjs). By AI agents, Wed Nov 11 2026. No macro, syntax, notation, axiom, sorry.
-/
import Derived.Test.YtdoeinccnfggiaaDoorRows
import GoSem.ClaimSeven
namespace Go.Proofs.YtdoeinccnfggiaaDoor
namespace Rows

/-- THE TIED CARD OF 'doppellaw03.TypesFields'. -/
def typesFieldsCard : Claim7 := { stood := { row := typesFieldsRow, standIns := [], harness := (true, "5cfcebb772ae8f941338a65bbadff338a8379b74d9f4e24b592f696d82b5afba"), looks := false }, kinds := [], alts := [], laidByText := true, laidKinds := [.data, .data, .data], laidTests := true, laidLooks := .later }
def TypesFieldsCardSaid : Prop := Claim7.holds Tryd.pinned (.plain (OpenSpec.ofChange typesFieldsSpec)) typesFieldsCard

/-- THE TIED CARD OF 'doppellaw03.TypesOnce'. -/
def typesOnceCard : Claim7 := { stood := { row := typesOnceRow, standIns := [], harness := (true, "5cfcebb772ae8f941338a65bbadff338a8379b74d9f4e24b592f696d82b5afba"), looks := false }, kinds := [], alts := [], laidByText := true, laidKinds := [.data, .data, .data], laidTests := true, laidLooks := .later }
def TypesOnceCardSaid : Prop := Claim7.holds Tryd.pinned (.plain (OpenSpec.ofChange typesOnceSpec)) typesOnceCard

/-- THE TIED CARD OF 'doppellaw03.TypesPointers'. -/
def typesPointersCard : Claim7 := { stood := { row := typesPointersRow, standIns := [], harness := (true, "5cfcebb772ae8f941338a65bbadff338a8379b74d9f4e24b592f696d82b5afba"), looks := false }, kinds := [], alts := [], laidByText := true, laidKinds := [.data, .data, .data], laidTests := true, laidLooks := .later }
def TypesPointersCardSaid : Prop := Claim7.holds Tryd.pinned (.plain (OpenSpec.ofChange typesPointersSpec)) typesPointersCard

/-- THE TIED CARD OF 'doppellaw03.TypesPlays'. -/
def typesPlaysCard : Claim7 := { stood := { row := typesPlaysRow, standIns := [], harness := (true, "5cfcebb772ae8f941338a65bbadff338a8379b74d9f4e24b592f696d82b5afba"), looks := false }, kinds := [], alts := [], laidByText := true, laidKinds := [.data, .data, .data], laidTests := true, laidLooks := .later }
def TypesPlaysCardSaid : Prop := Claim7.holds Tryd.pinned (.plain (OpenSpec.ofChange typesPlaysSpec)) typesPlaysCard

/-- THE TIED CARD OF 'doppellaw03.TypesNobody'. -/
def typesNobodyCard : Claim7 := { stood := { row := typesNobodyRow, standIns := [], harness := (true, "5cfcebb772ae8f941338a65bbadff338a8379b74d9f4e24b592f696d82b5afba"), looks := false }, kinds := [], alts := [], laidByText := true, laidKinds := [.data, .data, .data], laidTests := true, laidLooks := .later }
def TypesNobodyCardSaid : Prop := Claim7.holds Tryd.pinned (.plain (OpenSpec.ofChange typesNobodySpec)) typesNobodyCard

/-- THE TIED CARD OF 'doppellaw03.TypesSizes'. -/
def typesSizesCard : Claim7 := { stood := { row := typesSizesRow, standIns := [], harness := (true, "5cfcebb772ae8f941338a65bbadff338a8379b74d9f4e24b592f696d82b5afba"), looks := false }, kinds := [], alts := [], laidByText := true, laidKinds := [.data, .data, .data], laidTests := true, laidLooks := .later }
def TypesSizesCardSaid : Prop := Claim7.holds Tryd.pinned (.plain (OpenSpec.ofChange typesSizesSpec)) typesSizesCard

/-- THE SECOND FORM's CARD OF 'doppellaw03.TypesFields'. -/
def typesFieldsUptoCard : Claim7 := { stood := { row := typesFieldsUptoRow, standIns := [], harness := (true, "5cfcebb772ae8f941338a65bbadff338a8379b74d9f4e24b592f696d82b5afba"), looks := false }, kinds := [], alts := [], laidByText := true, laidKinds := [.data, .data, .data], laidTests := true, laidLooks := .later }
def TypesFieldsUptoCardSaid : Prop := Claim7.holds Tryd.pinned (.plain (OpenSpec.upto typesFieldsSpec)) typesFieldsUptoCard

/-- THE SECOND FORM's CARD OF 'doppellaw03.TypesOnce'. -/
def typesOnceUptoCard : Claim7 := { stood := { row := typesOnceUptoRow, standIns := [], harness := (true, "5cfcebb772ae8f941338a65bbadff338a8379b74d9f4e24b592f696d82b5afba"), looks := false }, kinds := [], alts := [], laidByText := true, laidKinds := [.data, .data, .data], laidTests := true, laidLooks := .later }
def TypesOnceUptoCardSaid : Prop := Claim7.holds Tryd.pinned (.plain (OpenSpec.upto typesOnceSpec)) typesOnceUptoCard

/-- THE SECOND FORM's CARD OF 'doppellaw03.TypesPointers'. -/
def typesPointersUptoCard : Claim7 := { stood := { row := typesPointersUptoRow, standIns := [], harness := (true, "5cfcebb772ae8f941338a65bbadff338a8379b74d9f4e24b592f696d82b5afba"), looks := false }, kinds := [], alts := [], laidByText := true, laidKinds := [.data, .data, .data], laidTests := true, laidLooks := .later }
def TypesPointersUptoCardSaid : Prop := Claim7.holds Tryd.pinned (.plain (OpenSpec.upto typesPointersSpec)) typesPointersUptoCard

/-- THE SECOND FORM's CARD OF 'doppellaw03.TypesPlays'. -/
def typesPlaysUptoCard : Claim7 := { stood := { row := typesPlaysUptoRow, standIns := [], harness := (true, "5cfcebb772ae8f941338a65bbadff338a8379b74d9f4e24b592f696d82b5afba"), looks := false }, kinds := [], alts := [], laidByText := true, laidKinds := [.data, .data, .data], laidTests := true, laidLooks := .later }
def TypesPlaysUptoCardSaid : Prop := Claim7.holds Tryd.pinned (.plain (OpenSpec.upto typesPlaysSpec)) typesPlaysUptoCard

/-- THE SECOND FORM's CARD OF 'doppellaw03.TypesNobody'. -/
def typesNobodyUptoCard : Claim7 := { stood := { row := typesNobodyUptoRow, standIns := [], harness := (true, "5cfcebb772ae8f941338a65bbadff338a8379b74d9f4e24b592f696d82b5afba"), looks := false }, kinds := [], alts := [], laidByText := true, laidKinds := [.data, .data, .data], laidTests := true, laidLooks := .later }
def TypesNobodyUptoCardSaid : Prop := Claim7.holds Tryd.pinned (.plain (OpenSpec.upto typesNobodySpec)) typesNobodyUptoCard

/-- THE SECOND FORM's CARD OF 'doppellaw03.TypesSizes'. -/
def typesSizesUptoCard : Claim7 := { stood := { row := typesSizesUptoRow, standIns := [], harness := (true, "5cfcebb772ae8f941338a65bbadff338a8379b74d9f4e24b592f696d82b5afba"), looks := false }, kinds := [], alts := [], laidByText := true, laidKinds := [.data, .data, .data], laidTests := true, laidLooks := .later }
def TypesSizesUptoCardSaid : Prop := Claim7.holds Tryd.pinned (.plain (OpenSpec.upto typesSizesSpec)) typesSizesUptoCard
end Rows
end Go.Proofs.YtdoeinccnfggiaaDoor
