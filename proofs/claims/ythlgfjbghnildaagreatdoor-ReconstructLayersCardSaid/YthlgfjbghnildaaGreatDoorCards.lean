/-
  DERIVED. GIVEN WITH THE SEED: THE CARDS: each row of YthlgfjbghnildaaGreatDoorRows.lean that lists a variable, with what it lists TIED to the program's text (the seventh form; the later family's looks); each row that meets fmt, with fmt's text TOLD by the authors' own Lean function (tested against real Go, not proved from fmt's source: count such statements apart). THE CARD IS WHAT COUNTS. Prove the row's statement (the work); the ties are given (YthlgfjbghnildaaGreatDoorTie.lean); close each card by the builder's one call (the guide's Derived/Test/ToyasCard.lean, 'card_holds'). Laid BY PROGRAM, IN A SANDBOX (cutbox-door.mjs). By AI agents, Wed Nov 11 2026. No macro, syntax, notation, axiom, sorry.
-/
import Derived.Test.YthlgfjbghnildaaGreatDoorRows
import GoSem.ClaimSeven
namespace Go.Proofs.YthlgfjbghnildaaGreatDoor
namespace Rows

/-- THE TIED CARD OF 'apographlaw46.ReconstructReads'. -/
def reconstructReadsCard : Claim7 := { stood := { row := reconstructReadsRow, standIns := [], harness := (true, "3b80a068f42c10e7ea3dd00310fca924e046da96ad04b8e1230c62f0ef8bbb01"), looks := true }, kinds := [], alts := [], laidByText := true, laidKinds := [.data, .data, .data, .sentinel, .sentinel], laidTests := true, laidLooks := .later }
def ReconstructReadsCardSaid : Prop := Claim7.holds Tryz.pinned (.plain (OpenSpec.ofChange reconstructReadsSpec)) reconstructReadsCard

/-- THE TIED CARD OF 'apographlaw46.ReconstructBases'. -/
def reconstructBasesCard : Claim7 := { stood := { row := reconstructBasesRow, standIns := [], harness := (true, "3b80a068f42c10e7ea3dd00310fca924e046da96ad04b8e1230c62f0ef8bbb01"), looks := true }, kinds := [], alts := [], laidByText := true, laidKinds := [.data, .data, .data, .sentinel, .sentinel], laidTests := true, laidLooks := .later }
def ReconstructBasesCardSaid : Prop := Claim7.holds Tryz.pinned (.plain (OpenSpec.ofChange reconstructBasesSpec)) reconstructBasesCard

/-- THE TIED CARD OF 'apographlaw46.ReconstructOne'. -/
def reconstructOneCard : Claim7 := { stood := { row := reconstructOneRow, standIns := [], harness := (true, "3b80a068f42c10e7ea3dd00310fca924e046da96ad04b8e1230c62f0ef8bbb01"), looks := true }, kinds := [], alts := [], laidByText := true, laidKinds := [.data, .data, .data, .sentinel, .sentinel], laidTests := true, laidLooks := .later }
def ReconstructOneCardSaid : Prop := Claim7.holds Tryz.pinned (.plain (OpenSpec.ofChange reconstructOneSpec)) reconstructOneCard

/-- THE TIED CARD OF 'apographlaw46.ReconstructOrder'. -/
def reconstructOrderCard : Claim7 := { stood := { row := reconstructOrderRow, standIns := [], harness := (true, "3b80a068f42c10e7ea3dd00310fca924e046da96ad04b8e1230c62f0ef8bbb01"), looks := true }, kinds := [], alts := [], laidByText := true, laidKinds := [.data, .data, .data, .sentinel, .sentinel], laidTests := true, laidLooks := .later }
def ReconstructOrderCardSaid : Prop := Claim7.holds Tryz.pinned (.plain (OpenSpec.ofChange reconstructOrderSpec)) reconstructOrderCard

/-- THE TIED CARD OF 'apographlaw46.ReconstructTurned'. -/
def reconstructTurnedCard : Claim7 := { stood := { row := reconstructTurnedRow, standIns := [], harness := (true, "3b80a068f42c10e7ea3dd00310fca924e046da96ad04b8e1230c62f0ef8bbb01"), looks := true }, kinds := [], alts := [], laidByText := true, laidKinds := [.data, .data, .data, .sentinel, .sentinel], laidTests := true, laidLooks := .later }
def ReconstructTurnedCardSaid : Prop := Claim7.holds Tryz.pinned (.plain (OpenSpec.ofChange reconstructTurnedSpec)) reconstructTurnedCard

/-- THE TIED CARD OF 'apographlaw46.ReconstructRestricts'. -/
def reconstructRestrictsCard : Claim7 := { stood := { row := reconstructRestrictsRow, standIns := [], harness := (true, "3b80a068f42c10e7ea3dd00310fca924e046da96ad04b8e1230c62f0ef8bbb01"), looks := true }, kinds := [], alts := [], laidByText := true, laidKinds := [.data, .data, .data, .sentinel, .sentinel], laidTests := true, laidLooks := .later }
def ReconstructRestrictsCardSaid : Prop := Claim7.holds Tryz.pinned (.plain (OpenSpec.ofChange reconstructRestrictsSpec)) reconstructRestrictsCard

/-- THE TIED CARD OF 'apographlaw46.ReconstructLayers'. -/
def reconstructLayersCard : Claim7 := { stood := { row := reconstructLayersRow, standIns := [], harness := (true, "3b80a068f42c10e7ea3dd00310fca924e046da96ad04b8e1230c62f0ef8bbb01"), looks := true }, kinds := [], alts := [], laidByText := true, laidKinds := [.data, .data, .data, .sentinel, .sentinel], laidTests := true, laidLooks := .later }
def ReconstructLayersCardSaid : Prop := Claim7.holds Tryz.pinned (.plain (OpenSpec.ofChange reconstructLayersSpec)) reconstructLayersCard

/-- THE SECOND FORM's CARD OF 'apographlaw46.ReconstructReads'. -/
def reconstructReadsUptoCard : Claim7 := { stood := { row := reconstructReadsUptoRow, standIns := [], harness := (true, "3b80a068f42c10e7ea3dd00310fca924e046da96ad04b8e1230c62f0ef8bbb01"), looks := true }, kinds := [], alts := [], laidByText := true, laidKinds := [.data, .data, .data, .sentinel, .sentinel], laidTests := true, laidLooks := .later }
def ReconstructReadsUptoCardSaid : Prop := Claim7.holds Tryz.pinned (.plain (OpenSpec.upto reconstructReadsSpec)) reconstructReadsUptoCard

/-- THE SECOND FORM's CARD OF 'apographlaw46.ReconstructBases'. -/
def reconstructBasesUptoCard : Claim7 := { stood := { row := reconstructBasesUptoRow, standIns := [], harness := (true, "3b80a068f42c10e7ea3dd00310fca924e046da96ad04b8e1230c62f0ef8bbb01"), looks := true }, kinds := [], alts := [], laidByText := true, laidKinds := [.data, .data, .data, .sentinel, .sentinel], laidTests := true, laidLooks := .later }
def ReconstructBasesUptoCardSaid : Prop := Claim7.holds Tryz.pinned (.plain (OpenSpec.upto reconstructBasesSpec)) reconstructBasesUptoCard

/-- THE SECOND FORM's CARD OF 'apographlaw46.ReconstructOne'. -/
def reconstructOneUptoCard : Claim7 := { stood := { row := reconstructOneUptoRow, standIns := [], harness := (true, "3b80a068f42c10e7ea3dd00310fca924e046da96ad04b8e1230c62f0ef8bbb01"), looks := true }, kinds := [], alts := [], laidByText := true, laidKinds := [.data, .data, .data, .sentinel, .sentinel], laidTests := true, laidLooks := .later }
def ReconstructOneUptoCardSaid : Prop := Claim7.holds Tryz.pinned (.plain (OpenSpec.upto reconstructOneSpec)) reconstructOneUptoCard

/-- THE SECOND FORM's CARD OF 'apographlaw46.ReconstructOrder'. -/
def reconstructOrderUptoCard : Claim7 := { stood := { row := reconstructOrderUptoRow, standIns := [], harness := (true, "3b80a068f42c10e7ea3dd00310fca924e046da96ad04b8e1230c62f0ef8bbb01"), looks := true }, kinds := [], alts := [], laidByText := true, laidKinds := [.data, .data, .data, .sentinel, .sentinel], laidTests := true, laidLooks := .later }
def ReconstructOrderUptoCardSaid : Prop := Claim7.holds Tryz.pinned (.plain (OpenSpec.upto reconstructOrderSpec)) reconstructOrderUptoCard

/-- THE SECOND FORM's CARD OF 'apographlaw46.ReconstructTurned'. -/
def reconstructTurnedUptoCard : Claim7 := { stood := { row := reconstructTurnedUptoRow, standIns := [], harness := (true, "3b80a068f42c10e7ea3dd00310fca924e046da96ad04b8e1230c62f0ef8bbb01"), looks := true }, kinds := [], alts := [], laidByText := true, laidKinds := [.data, .data, .data, .sentinel, .sentinel], laidTests := true, laidLooks := .later }
def ReconstructTurnedUptoCardSaid : Prop := Claim7.holds Tryz.pinned (.plain (OpenSpec.upto reconstructTurnedSpec)) reconstructTurnedUptoCard

/-- THE SECOND FORM's CARD OF 'apographlaw46.ReconstructRestricts'. -/
def reconstructRestrictsUptoCard : Claim7 := { stood := { row := reconstructRestrictsUptoRow, standIns := [], harness := (true, "3b80a068f42c10e7ea3dd00310fca924e046da96ad04b8e1230c62f0ef8bbb01"), looks := true }, kinds := [], alts := [], laidByText := true, laidKinds := [.data, .data, .data, .sentinel, .sentinel], laidTests := true, laidLooks := .later }
def ReconstructRestrictsUptoCardSaid : Prop := Claim7.holds Tryz.pinned (.plain (OpenSpec.upto reconstructRestrictsSpec)) reconstructRestrictsUptoCard

/-- THE SECOND FORM's CARD OF 'apographlaw46.ReconstructLayers'. -/
def reconstructLayersUptoCard : Claim7 := { stood := { row := reconstructLayersUptoRow, standIns := [], harness := (true, "3b80a068f42c10e7ea3dd00310fca924e046da96ad04b8e1230c62f0ef8bbb01"), looks := true }, kinds := [], alts := [], laidByText := true, laidKinds := [.data, .data, .data, .sentinel, .sentinel], laidTests := true, laidLooks := .later }
def ReconstructLayersUptoCardSaid : Prop := Claim7.holds Tryz.pinned (.plain (OpenSpec.upto reconstructLayersSpec)) reconstructLayersUptoCard
end Rows
end Go.Proofs.YthlgfjbghnildaaGreatDoor
