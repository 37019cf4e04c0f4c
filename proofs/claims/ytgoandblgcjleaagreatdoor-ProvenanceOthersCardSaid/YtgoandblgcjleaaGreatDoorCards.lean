/-
  DERIVED. GIVEN WITH THE SEED: THE CARDS: each row of YtgoandblgcjleaaGreatDoorRows.lean that lists a variable, with what it lists TIED to the program's text (the seventh form; the later family's looks); each row that meets fmt, with fmt's text TOLD by the authors' own Lean function (tested against real Go, not proved from fmt's source: count such statements apart). THE CARD IS WHAT COUNTS. Prove the row's statement (the work); the ties are given (YtgoandblgcjleaaGreatDoorTie.lean); close each card by the builder's one call (the guide's Derived/Test/ToyasCard.lean, 'card_holds'). Laid BY PROGRAM, IN A SANDBOX (cutbox-door.mjs). By AI agents, Wed Nov 11 2026. No macro, syntax, notation, axiom, sorry.
-/
import Derived.Test.YtgoandblgcjleaaGreatDoorRows
import GoSem.ClaimSeven
namespace Go.Proofs.YtgoandblgcjleaaGreatDoor
namespace Rows

/-- THE TIED CARD OF 'apographlaw41.ProvenanceOthers'. -/
def provenanceOthersCard : Claim7 := { stood := { row := provenanceOthersRow, standIns := [], harness := (true, "8739f5461bf58501e1b5d34f3b1f88a75f07197be07fb419a6468becb202cd7c"), looks := true }, kinds := [], alts := [], laidByText := true, laidKinds := [.data, .data, .data, .sentinel, .sentinel], laidTests := true, laidLooks := .later }
def ProvenanceOthersCardSaid : Prop := Claim7.holds Tryz.pinned (.plain (OpenSpec.ofChange provenanceOthersSpec)) provenanceOthersCard

/-- THE TIED CARD OF 'apographlaw44.ApparatusEntries'. -/
def apparatusEntriesCard : Claim7 := { stood := { row := apparatusEntriesRow, standIns := [], harness := (true, "8739f5461bf58501e1b5d34f3b1f88a75f07197be07fb419a6468becb202cd7c"), looks := true }, kinds := [], alts := [], laidByText := true, laidKinds := [.data, .data, .data, .data, .sentinel, .sentinel, .pinned], laidTests := true, laidLooks := .later }
def ApparatusEntriesCardSaid : Prop := Claim7.holds Tryz.pinned (.plain (OpenSpec.ofChange apparatusEntriesSpec)) apparatusEntriesCard

/-- THE TIED CARD OF 'apographlaw44.ApparatusForms'. -/
def apparatusFormsCard : Claim7 := { stood := { row := apparatusFormsRow, standIns := [], harness := (true, "8739f5461bf58501e1b5d34f3b1f88a75f07197be07fb419a6468becb202cd7c"), looks := true }, kinds := [], alts := [], laidByText := true, laidKinds := [.data, .data, .data, .data, .sentinel, .sentinel, .pinned], laidTests := true, laidLooks := .later }
def ApparatusFormsCardSaid : Prop := Claim7.holds Tryz.pinned (.plain (OpenSpec.ofChange apparatusFormsSpec)) apparatusFormsCard

/-- THE TIED CARD OF 'apographlaw44.ApparatusSpans'. -/
def apparatusSpansCard : Claim7 := { stood := { row := apparatusSpansRow, standIns := [], harness := (true, "8739f5461bf58501e1b5d34f3b1f88a75f07197be07fb419a6468becb202cd7c"), looks := true }, kinds := [], alts := [], laidByText := true, laidKinds := [.data, .data, .data, .data, .sentinel, .sentinel, .pinned], laidTests := true, laidLooks := .later }
def ApparatusSpansCardSaid : Prop := Claim7.holds Tryz.pinned (.plain (OpenSpec.ofChange apparatusSpansSpec)) apparatusSpansCard

/-- THE TIED CARD OF 'apographlaw41.ProvenanceSources'. -/
def provenanceSourcesCard : Claim7 := { stood := { row := provenanceSourcesRow, standIns := [], harness := (true, "8739f5461bf58501e1b5d34f3b1f88a75f07197be07fb419a6468becb202cd7c"), looks := true }, kinds := [], alts := [], laidByText := true, laidKinds := [.data, .data, .data, .sentinel, .sentinel], laidTests := true, laidLooks := .later }
def ProvenanceSourcesCardSaid : Prop := Claim7.holds Tryz.pinned (.plain (OpenSpec.ofChange provenanceSourcesSpec)) provenanceSourcesCard

/-- THE TIED CARD OF 'apographlaw44.ApparatusLayers'. -/
def apparatusLayersCard : Claim7 := { stood := { row := apparatusLayersRow, standIns := [], harness := (true, "8739f5461bf58501e1b5d34f3b1f88a75f07197be07fb419a6468becb202cd7c"), looks := true }, kinds := [], alts := [], laidByText := true, laidKinds := [.data, .data, .data, .data, .sentinel, .sentinel, .pinned], laidTests := true, laidLooks := .later }
def ApparatusLayersCardSaid : Prop := Claim7.holds Tryz.pinned (.plain (OpenSpec.ofChange apparatusLayersSpec)) apparatusLayersCard

/-- THE TIED CARD OF 'apographlaw44.ApparatusReadings'. -/
def apparatusReadingsCard : Claim7 := { stood := { row := apparatusReadingsRow, standIns := [], harness := (true, "8739f5461bf58501e1b5d34f3b1f88a75f07197be07fb419a6468becb202cd7c"), looks := true }, kinds := [], alts := [], laidByText := true, laidKinds := [.data, .data, .data, .data, .sentinel, .sentinel, .pinned], laidTests := true, laidLooks := .later }
def ApparatusReadingsCardSaid : Prop := Claim7.holds Tryz.pinned (.plain (OpenSpec.ofChange apparatusReadingsSpec)) apparatusReadingsCard

/-- THE TIED CARD OF 'apographlaw44.ApparatusComplete'. -/
def apparatusCompleteCard : Claim7 := { stood := { row := apparatusCompleteRow, standIns := [], harness := (true, "8739f5461bf58501e1b5d34f3b1f88a75f07197be07fb419a6468becb202cd7c"), looks := true }, kinds := [], alts := [], laidByText := true, laidKinds := [.data, .data, .data, .data, .sentinel, .sentinel, .pinned], laidTests := true, laidLooks := .later }
def ApparatusCompleteCardSaid : Prop := Claim7.holds Tryz.pinned (.plain (OpenSpec.ofChange apparatusCompleteSpec)) apparatusCompleteCard

/-- THE TIED CARD OF 'apographlaw44.ApparatusValid'. -/
def apparatusValidCard : Claim7 := { stood := { row := apparatusValidRow, standIns := [], harness := (true, "8739f5461bf58501e1b5d34f3b1f88a75f07197be07fb419a6468becb202cd7c"), looks := true }, kinds := [], alts := [], laidByText := true, laidKinds := [.data, .data, .data, .data, .sentinel, .sentinel, .pinned], laidTests := true, laidLooks := .later }
def ApparatusValidCardSaid : Prop := Claim7.holds Tryz.pinned (.plain (OpenSpec.ofChange apparatusValidSpec)) apparatusValidCard

/-- THE TIED CARD OF 'apographlaw44.ApparatusTurns'. -/
def apparatusTurnsCard : Claim7 := { stood := { row := apparatusTurnsRow, standIns := [], harness := (true, "8739f5461bf58501e1b5d34f3b1f88a75f07197be07fb419a6468becb202cd7c"), looks := true }, kinds := [], alts := [], laidByText := true, laidKinds := [.data, .data, .data, .data, .sentinel, .sentinel, .pinned], laidTests := true, laidLooks := .later }
def ApparatusTurnsCardSaid : Prop := Claim7.holds Tryz.pinned (.plain (OpenSpec.ofChange apparatusTurnsSpec)) apparatusTurnsCard

/-- THE TIED CARD OF 'apographlaw44.ApparatusChecks'. -/
def apparatusChecksCard : Claim7 := { stood := { row := apparatusChecksRow, standIns := [], harness := (true, "8739f5461bf58501e1b5d34f3b1f88a75f07197be07fb419a6468becb202cd7c"), looks := true }, kinds := [], alts := [], laidByText := true, laidKinds := [.data, .data, .data, .data, .sentinel, .sentinel, .pinned], laidTests := true, laidLooks := .later }
def ApparatusChecksCardSaid : Prop := Claim7.holds Tryz.pinned (.plain (OpenSpec.ofChange apparatusChecksSpec)) apparatusChecksCard

/-- THE SECOND FORM's CARD OF 'apographlaw41.ProvenanceOthers'. -/
def provenanceOthersUptoCard : Claim7 := { stood := { row := provenanceOthersUptoRow, standIns := [], harness := (true, "8739f5461bf58501e1b5d34f3b1f88a75f07197be07fb419a6468becb202cd7c"), looks := true }, kinds := [], alts := [], laidByText := true, laidKinds := [.data, .data, .data, .sentinel, .sentinel], laidTests := true, laidLooks := .later }
def ProvenanceOthersUptoCardSaid : Prop := Claim7.holds Tryz.pinned (.plain (OpenSpec.upto provenanceOthersSpec)) provenanceOthersUptoCard

/-- THE SECOND FORM's CARD OF 'apographlaw44.ApparatusEntries'. -/
def apparatusEntriesUptoCard : Claim7 := { stood := { row := apparatusEntriesUptoRow, standIns := [], harness := (true, "8739f5461bf58501e1b5d34f3b1f88a75f07197be07fb419a6468becb202cd7c"), looks := true }, kinds := [], alts := [], laidByText := true, laidKinds := [.data, .data, .data, .data, .sentinel, .sentinel, .pinned], laidTests := true, laidLooks := .later }
def ApparatusEntriesUptoCardSaid : Prop := Claim7.holds Tryz.pinned (.plain (OpenSpec.upto apparatusEntriesSpec)) apparatusEntriesUptoCard

/-- THE SECOND FORM's CARD OF 'apographlaw44.ApparatusForms'. -/
def apparatusFormsUptoCard : Claim7 := { stood := { row := apparatusFormsUptoRow, standIns := [], harness := (true, "8739f5461bf58501e1b5d34f3b1f88a75f07197be07fb419a6468becb202cd7c"), looks := true }, kinds := [], alts := [], laidByText := true, laidKinds := [.data, .data, .data, .data, .sentinel, .sentinel, .pinned], laidTests := true, laidLooks := .later }
def ApparatusFormsUptoCardSaid : Prop := Claim7.holds Tryz.pinned (.plain (OpenSpec.upto apparatusFormsSpec)) apparatusFormsUptoCard

/-- THE SECOND FORM's CARD OF 'apographlaw44.ApparatusSpans'. -/
def apparatusSpansUptoCard : Claim7 := { stood := { row := apparatusSpansUptoRow, standIns := [], harness := (true, "8739f5461bf58501e1b5d34f3b1f88a75f07197be07fb419a6468becb202cd7c"), looks := true }, kinds := [], alts := [], laidByText := true, laidKinds := [.data, .data, .data, .data, .sentinel, .sentinel, .pinned], laidTests := true, laidLooks := .later }
def ApparatusSpansUptoCardSaid : Prop := Claim7.holds Tryz.pinned (.plain (OpenSpec.upto apparatusSpansSpec)) apparatusSpansUptoCard

/-- THE SECOND FORM's CARD OF 'apographlaw41.ProvenanceSources'. -/
def provenanceSourcesUptoCard : Claim7 := { stood := { row := provenanceSourcesUptoRow, standIns := [], harness := (true, "8739f5461bf58501e1b5d34f3b1f88a75f07197be07fb419a6468becb202cd7c"), looks := true }, kinds := [], alts := [], laidByText := true, laidKinds := [.data, .data, .data, .sentinel, .sentinel], laidTests := true, laidLooks := .later }
def ProvenanceSourcesUptoCardSaid : Prop := Claim7.holds Tryz.pinned (.plain (OpenSpec.upto provenanceSourcesSpec)) provenanceSourcesUptoCard

/-- THE SECOND FORM's CARD OF 'apographlaw44.ApparatusLayers'. -/
def apparatusLayersUptoCard : Claim7 := { stood := { row := apparatusLayersUptoRow, standIns := [], harness := (true, "8739f5461bf58501e1b5d34f3b1f88a75f07197be07fb419a6468becb202cd7c"), looks := true }, kinds := [], alts := [], laidByText := true, laidKinds := [.data, .data, .data, .data, .sentinel, .sentinel, .pinned], laidTests := true, laidLooks := .later }
def ApparatusLayersUptoCardSaid : Prop := Claim7.holds Tryz.pinned (.plain (OpenSpec.upto apparatusLayersSpec)) apparatusLayersUptoCard

/-- THE SECOND FORM's CARD OF 'apographlaw44.ApparatusReadings'. -/
def apparatusReadingsUptoCard : Claim7 := { stood := { row := apparatusReadingsUptoRow, standIns := [], harness := (true, "8739f5461bf58501e1b5d34f3b1f88a75f07197be07fb419a6468becb202cd7c"), looks := true }, kinds := [], alts := [], laidByText := true, laidKinds := [.data, .data, .data, .data, .sentinel, .sentinel, .pinned], laidTests := true, laidLooks := .later }
def ApparatusReadingsUptoCardSaid : Prop := Claim7.holds Tryz.pinned (.plain (OpenSpec.upto apparatusReadingsSpec)) apparatusReadingsUptoCard

/-- THE SECOND FORM's CARD OF 'apographlaw44.ApparatusComplete'. -/
def apparatusCompleteUptoCard : Claim7 := { stood := { row := apparatusCompleteUptoRow, standIns := [], harness := (true, "8739f5461bf58501e1b5d34f3b1f88a75f07197be07fb419a6468becb202cd7c"), looks := true }, kinds := [], alts := [], laidByText := true, laidKinds := [.data, .data, .data, .data, .sentinel, .sentinel, .pinned], laidTests := true, laidLooks := .later }
def ApparatusCompleteUptoCardSaid : Prop := Claim7.holds Tryz.pinned (.plain (OpenSpec.upto apparatusCompleteSpec)) apparatusCompleteUptoCard

/-- THE SECOND FORM's CARD OF 'apographlaw44.ApparatusValid'. -/
def apparatusValidUptoCard : Claim7 := { stood := { row := apparatusValidUptoRow, standIns := [], harness := (true, "8739f5461bf58501e1b5d34f3b1f88a75f07197be07fb419a6468becb202cd7c"), looks := true }, kinds := [], alts := [], laidByText := true, laidKinds := [.data, .data, .data, .data, .sentinel, .sentinel, .pinned], laidTests := true, laidLooks := .later }
def ApparatusValidUptoCardSaid : Prop := Claim7.holds Tryz.pinned (.plain (OpenSpec.upto apparatusValidSpec)) apparatusValidUptoCard

/-- THE SECOND FORM's CARD OF 'apographlaw44.ApparatusTurns'. -/
def apparatusTurnsUptoCard : Claim7 := { stood := { row := apparatusTurnsUptoRow, standIns := [], harness := (true, "8739f5461bf58501e1b5d34f3b1f88a75f07197be07fb419a6468becb202cd7c"), looks := true }, kinds := [], alts := [], laidByText := true, laidKinds := [.data, .data, .data, .data, .sentinel, .sentinel, .pinned], laidTests := true, laidLooks := .later }
def ApparatusTurnsUptoCardSaid : Prop := Claim7.holds Tryz.pinned (.plain (OpenSpec.upto apparatusTurnsSpec)) apparatusTurnsUptoCard

/-- THE SECOND FORM's CARD OF 'apographlaw44.ApparatusChecks'. -/
def apparatusChecksUptoCard : Claim7 := { stood := { row := apparatusChecksUptoRow, standIns := [], harness := (true, "8739f5461bf58501e1b5d34f3b1f88a75f07197be07fb419a6468becb202cd7c"), looks := true }, kinds := [], alts := [], laidByText := true, laidKinds := [.data, .data, .data, .data, .sentinel, .sentinel, .pinned], laidTests := true, laidLooks := .later }
def ApparatusChecksUptoCardSaid : Prop := Claim7.holds Tryz.pinned (.plain (OpenSpec.upto apparatusChecksSpec)) apparatusChecksUptoCard
end Rows
end Go.Proofs.YtgoandblgcjleaaGreatDoor
