/-
  DERIVED. GIVEN WITH THE SEED: THE CARDS: each row of YtihbgppcacaekaaDoorRows.lean that lists a variable, with what it lists TIED to the program's text (the seventh form; the later family's looks); each row that meets fmt, with fmt's text TOLD by the authors' own Lean function (tested against real Go, not proved from fmt's source: count such statements apart). THE CARD IS WHAT COUNTS. Prove the row's statement (the work); the ties are given (YtihbgppcacaekaaDoorTie.lean); close each card by the builder's one call (the guide's Derived/Test/ToyasCard.lean, 'card_holds'). Laid BY PROGRAM, IN A SANDBOX (cutbox-door.mjs). By AI agents, Wed Nov 11 2026. No macro, syntax, notation, axiom, sorry.
-/
import Derived.Test.YtihbgppcacaekaaDoorRows
import GoSem.ClaimSeven
namespace Go.Proofs.YtihbgppcacaekaaDoor
namespace Rows

/-- THE TIED CARD OF 'doppellaw15.MachFuel'. -/
def machFuelCard : Claim7 := { stood := { row := machFuelRow, standIns := [], harness := (true, "5643ab3686f1fdd7f264256fef9388db55840226781d26ee8cd77f9d9e0bc788"), looks := true }, kinds := [], alts := [], laidByText := true, laidKinds := [.data, .data, .data, .data, .sentinel, .sentinel, .listed, .data, .pinned], laidTests := true, laidLooks := .later }
def MachFuelCardSaid : Prop := Claim7.holds Tryd.pinned (.plain (OpenSpec.ofChange machFuelSpec)) machFuelCard

/-- THE TIED CARD OF 'doppellaw15.MachDoes'. -/
def machDoesCard : Claim7 := { stood := { row := machDoesRow, standIns := [], harness := (true, "5643ab3686f1fdd7f264256fef9388db55840226781d26ee8cd77f9d9e0bc788"), looks := true }, kinds := [], alts := [], laidByText := true, laidKinds := [.data, .data, .data, .data, .sentinel, .sentinel, .listed, .data, .pinned], laidTests := true, laidLooks := .later }
def MachDoesCardSaid : Prop := Claim7.holds Tryd.pinned (.plain (OpenSpec.ofChange machDoesSpec)) machDoesCard

/-- THE TIED CARD OF 'doppellaw15.MachSlots'. -/
def machSlotsCard : Claim7 := { stood := { row := machSlotsRow, standIns := [], harness := (true, "5643ab3686f1fdd7f264256fef9388db55840226781d26ee8cd77f9d9e0bc788"), looks := true }, kinds := [], alts := [], laidByText := true, laidKinds := [.data, .data, .data, .data, .sentinel, .sentinel, .listed, .data, .pinned], laidTests := true, laidLooks := .later }
def MachSlotsCardSaid : Prop := Claim7.holds Tryd.pinned (.plain (OpenSpec.ofChange machSlotsSpec)) machSlotsCard

/-- THE TIED CARD OF 'doppellaw15.MachRights'. -/
def machRightsCard : Claim7 := { stood := { row := machRightsRow, standIns := [], harness := (true, "5643ab3686f1fdd7f264256fef9388db55840226781d26ee8cd77f9d9e0bc788"), looks := true }, kinds := [], alts := [], laidByText := true, laidKinds := [.data, .data, .data, .data, .sentinel, .sentinel, .listed, .data, .pinned], laidTests := true, laidLooks := .later }
def MachRightsCardSaid : Prop := Claim7.holds Tryd.pinned (.plain (OpenSpec.ofChange machRightsSpec)) machRightsCard

/-- THE TIED CARD OF 'doppellaw15.MachOrder'. -/
def machOrderCard : Claim7 := { stood := { row := machOrderRow, standIns := [], harness := (true, "5643ab3686f1fdd7f264256fef9388db55840226781d26ee8cd77f9d9e0bc788"), looks := true }, kinds := [], alts := [], laidByText := true, laidKinds := [.data, .data, .data, .data, .sentinel, .sentinel, .listed, .data, .pinned], laidTests := true, laidLooks := .later }
def MachOrderCardSaid : Prop := Claim7.holds Tryd.pinned (.plain (OpenSpec.ofChange machOrderSpec)) machOrderCard

/-- THE TIED CARD OF 'doppellaw15.MachBytes'. -/
def machBytesCard : Claim7 := { stood := { row := machBytesRow, standIns := [], harness := (true, "5643ab3686f1fdd7f264256fef9388db55840226781d26ee8cd77f9d9e0bc788"), looks := true }, kinds := [], alts := [], laidByText := true, laidKinds := [.data, .data, .data, .data, .sentinel, .sentinel, .listed, .data, .pinned], laidTests := true, laidLooks := .later }
def MachBytesCardSaid : Prop := Claim7.holds Tryd.pinned (.plain (OpenSpec.ofChange machBytesSpec)) machBytesCard

/-- THE TIED CARD OF 'doppellaw15.MachPrints'. -/
def machPrintsCard : Claim7 := { stood := { row := machPrintsRow, standIns := [], harness := (true, "5643ab3686f1fdd7f264256fef9388db55840226781d26ee8cd77f9d9e0bc788"), looks := true }, kinds := [], alts := [], laidByText := true, laidKinds := [.data, .data, .data, .data, .sentinel, .sentinel, .listed, .data, .pinned], laidTests := true, laidLooks := .later }
def MachPrintsCardSaid : Prop := Claim7.holds Tryd.pinned (.plain (OpenSpec.ofChange machPrintsSpec)) machPrintsCard

/-- THE TIED CARD OF 'doppellaw15.MachReads'. -/
def machReadsCard : Claim7 := { stood := { row := machReadsRow, standIns := [], harness := (true, "5643ab3686f1fdd7f264256fef9388db55840226781d26ee8cd77f9d9e0bc788"), looks := true }, kinds := [], alts := [], laidByText := true, laidKinds := [.data, .data, .data, .data, .sentinel, .sentinel, .listed, .data, .pinned], laidTests := true, laidLooks := .later }
def MachReadsCardSaid : Prop := Claim7.holds Tryd.pinned (.plain (OpenSpec.ofChange machReadsSpec)) machReadsCard

/-- THE SECOND FORM's CARD OF 'doppellaw15.MachFuel'. -/
def machFuelUptoCard : Claim7 := { stood := { row := machFuelUptoRow, standIns := [], harness := (true, "5643ab3686f1fdd7f264256fef9388db55840226781d26ee8cd77f9d9e0bc788"), looks := true }, kinds := [], alts := [], laidByText := true, laidKinds := [.data, .data, .data, .data, .sentinel, .sentinel, .listed, .data, .pinned], laidTests := true, laidLooks := .later }
def MachFuelUptoCardSaid : Prop := Claim7.holds Tryd.pinned (.plain (OpenSpec.upto machFuelSpec)) machFuelUptoCard

/-- THE SECOND FORM's CARD OF 'doppellaw15.MachDoes'. -/
def machDoesUptoCard : Claim7 := { stood := { row := machDoesUptoRow, standIns := [], harness := (true, "5643ab3686f1fdd7f264256fef9388db55840226781d26ee8cd77f9d9e0bc788"), looks := true }, kinds := [], alts := [], laidByText := true, laidKinds := [.data, .data, .data, .data, .sentinel, .sentinel, .listed, .data, .pinned], laidTests := true, laidLooks := .later }
def MachDoesUptoCardSaid : Prop := Claim7.holds Tryd.pinned (.plain (OpenSpec.upto machDoesSpec)) machDoesUptoCard

/-- THE SECOND FORM's CARD OF 'doppellaw15.MachSlots'. -/
def machSlotsUptoCard : Claim7 := { stood := { row := machSlotsUptoRow, standIns := [], harness := (true, "5643ab3686f1fdd7f264256fef9388db55840226781d26ee8cd77f9d9e0bc788"), looks := true }, kinds := [], alts := [], laidByText := true, laidKinds := [.data, .data, .data, .data, .sentinel, .sentinel, .listed, .data, .pinned], laidTests := true, laidLooks := .later }
def MachSlotsUptoCardSaid : Prop := Claim7.holds Tryd.pinned (.plain (OpenSpec.upto machSlotsSpec)) machSlotsUptoCard

/-- THE SECOND FORM's CARD OF 'doppellaw15.MachRights'. -/
def machRightsUptoCard : Claim7 := { stood := { row := machRightsUptoRow, standIns := [], harness := (true, "5643ab3686f1fdd7f264256fef9388db55840226781d26ee8cd77f9d9e0bc788"), looks := true }, kinds := [], alts := [], laidByText := true, laidKinds := [.data, .data, .data, .data, .sentinel, .sentinel, .listed, .data, .pinned], laidTests := true, laidLooks := .later }
def MachRightsUptoCardSaid : Prop := Claim7.holds Tryd.pinned (.plain (OpenSpec.upto machRightsSpec)) machRightsUptoCard

/-- THE SECOND FORM's CARD OF 'doppellaw15.MachOrder'. -/
def machOrderUptoCard : Claim7 := { stood := { row := machOrderUptoRow, standIns := [], harness := (true, "5643ab3686f1fdd7f264256fef9388db55840226781d26ee8cd77f9d9e0bc788"), looks := true }, kinds := [], alts := [], laidByText := true, laidKinds := [.data, .data, .data, .data, .sentinel, .sentinel, .listed, .data, .pinned], laidTests := true, laidLooks := .later }
def MachOrderUptoCardSaid : Prop := Claim7.holds Tryd.pinned (.plain (OpenSpec.upto machOrderSpec)) machOrderUptoCard

/-- THE SECOND FORM's CARD OF 'doppellaw15.MachBytes'. -/
def machBytesUptoCard : Claim7 := { stood := { row := machBytesUptoRow, standIns := [], harness := (true, "5643ab3686f1fdd7f264256fef9388db55840226781d26ee8cd77f9d9e0bc788"), looks := true }, kinds := [], alts := [], laidByText := true, laidKinds := [.data, .data, .data, .data, .sentinel, .sentinel, .listed, .data, .pinned], laidTests := true, laidLooks := .later }
def MachBytesUptoCardSaid : Prop := Claim7.holds Tryd.pinned (.plain (OpenSpec.upto machBytesSpec)) machBytesUptoCard

/-- THE SECOND FORM's CARD OF 'doppellaw15.MachPrints'. -/
def machPrintsUptoCard : Claim7 := { stood := { row := machPrintsUptoRow, standIns := [], harness := (true, "5643ab3686f1fdd7f264256fef9388db55840226781d26ee8cd77f9d9e0bc788"), looks := true }, kinds := [], alts := [], laidByText := true, laidKinds := [.data, .data, .data, .data, .sentinel, .sentinel, .listed, .data, .pinned], laidTests := true, laidLooks := .later }
def MachPrintsUptoCardSaid : Prop := Claim7.holds Tryd.pinned (.plain (OpenSpec.upto machPrintsSpec)) machPrintsUptoCard

/-- THE SECOND FORM's CARD OF 'doppellaw15.MachReads'. -/
def machReadsUptoCard : Claim7 := { stood := { row := machReadsUptoRow, standIns := [], harness := (true, "5643ab3686f1fdd7f264256fef9388db55840226781d26ee8cd77f9d9e0bc788"), looks := true }, kinds := [], alts := [], laidByText := true, laidKinds := [.data, .data, .data, .data, .sentinel, .sentinel, .listed, .data, .pinned], laidTests := true, laidLooks := .later }
def MachReadsUptoCardSaid : Prop := Claim7.holds Tryd.pinned (.plain (OpenSpec.upto machReadsSpec)) machReadsUptoCard
end Rows
end Go.Proofs.YtihbgppcacaekaaDoor
