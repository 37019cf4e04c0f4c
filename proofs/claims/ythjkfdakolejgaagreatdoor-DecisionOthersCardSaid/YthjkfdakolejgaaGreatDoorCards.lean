/-
  DERIVED. GIVEN WITH THE SEED: THE CARDS: each row of YthjkfdakolejgaaGreatDoorRows.lean that lists a variable, with what it lists TIED to the program's text (the seventh form; the later family's looks); each row that meets fmt, with fmt's text TOLD by the authors' own Lean function (tested against real Go, not proved from fmt's source: count such statements apart). THE CARD IS WHAT COUNTS. Prove the row's statement (the work); the ties are given (YthjkfdakolejgaaGreatDoorTie.lean); close each card by the builder's one call (the guide's Derived/Test/ToyasCard.lean, 'card_holds'). Laid BY PROGRAM, IN A SANDBOX (cutbox-door.mjs). By AI agents, Wed Nov 11 2026. No macro, syntax, notation, axiom, sorry.
-/
import Derived.Test.YthjkfdakolejgaaGreatDoorRows
import GoSem.ClaimSeven
namespace Go.Proofs.YthjkfdakolejgaaGreatDoor
namespace Rows

/-- THE TIED CARD OF 'apographtop.TopBaseWords'. -/
def topBaseWordsCard : Claim7 := { stood := { row := topBaseWordsRow, standIns := [], harness := (true, "942ca39e7cf3f56327097f24453ecf7185bc942cd5933235c1fb0bc4a55cb1b2"), looks := true }, kinds := [], alts := [], laidByText := true, laidKinds := [.data, .data, .data, .sentinel, .sentinel, .widerDeep], laidTests := true, laidLooks := .later }
def TopBaseWordsCardSaid : Prop := Claim7.holds Tryz.pinned (.plain (OpenSpec.ofChange topBaseWordsSpec)) topBaseWordsCard

/-- THE TIED CARD OF 'apographtop.TopBaseOthers'. -/
def topBaseOthersCard : Claim7 := { stood := { row := topBaseOthersRow, standIns := [], harness := (true, "942ca39e7cf3f56327097f24453ecf7185bc942cd5933235c1fb0bc4a55cb1b2"), looks := true }, kinds := [], alts := [], laidByText := true, laidKinds := [.data, .data, .data, .sentinel, .sentinel, .widerDeep], laidTests := true, laidLooks := .later }
def TopBaseOthersCardSaid : Prop := Claim7.holds Tryz.pinned (.plain (OpenSpec.ofChange topBaseOthersSpec)) topBaseOthersCard

/-- THE TIED CARD OF 'apographtop.TopFollowed'. -/
def topFollowedCard : Claim7 := { stood := { row := topFollowedRow, standIns := [], harness := (true, "942ca39e7cf3f56327097f24453ecf7185bc942cd5933235c1fb0bc4a55cb1b2"), looks := true }, kinds := [], alts := [], laidByText := true, laidKinds := [.data, .data, .data, .sentinel, .sentinel, .widerDeep], laidTests := true, laidLooks := .later }
def TopFollowedCardSaid : Prop := Claim7.holds Tryz.pinned (.plain (OpenSpec.ofChange topFollowedSpec)) topFollowedCard

/-- THE TIED CARD OF 'apographlaw40.DecisionSpaces'. -/
def decisionSpacesCard : Claim7 := { stood := { row := decisionSpacesRow, standIns := [], harness := (true, "942ca39e7cf3f56327097f24453ecf7185bc942cd5933235c1fb0bc4a55cb1b2"), looks := true }, kinds := [], alts := [], laidByText := true, laidKinds := [.data, .data, .data, .sentinel, .sentinel, .widerDeep], laidTests := true, laidLooks := .later }
def DecisionSpacesCardSaid : Prop := Claim7.holds Tryz.pinned (.plain (OpenSpec.ofChange decisionSpacesSpec)) decisionSpacesCard

/-- THE TIED CARD OF 'apographlaw40.DecisionOthers'. -/
def decisionOthersCard : Claim7 := { stood := { row := decisionOthersRow, standIns := [], harness := (true, "942ca39e7cf3f56327097f24453ecf7185bc942cd5933235c1fb0bc4a55cb1b2"), looks := true }, kinds := [], alts := [], laidByText := true, laidKinds := [.data, .data, .data, .sentinel, .sentinel, .widerDeep], laidTests := true, laidLooks := .later }
def DecisionOthersCardSaid : Prop := Claim7.holds Tryz.pinned (.plain (OpenSpec.ofChange decisionOthersSpec)) decisionOthersCard

/-- THE TIED CARD OF 'apographlaw40.DecisionCommon'. -/
def decisionCommonCard : Claim7 := { stood := { row := decisionCommonRow, standIns := [], harness := (true, "942ca39e7cf3f56327097f24453ecf7185bc942cd5933235c1fb0bc4a55cb1b2"), looks := true }, kinds := [], alts := [], laidByText := true, laidKinds := [.data, .data, .data, .sentinel, .sentinel, .widerDeep], laidTests := true, laidLooks := .later }
def DecisionCommonCardSaid : Prop := Claim7.holds Tryz.pinned (.plain (OpenSpec.ofChange decisionCommonSpec)) decisionCommonCard

/-- THE TIED CARD OF 'apographlaw40.DecisionEstablishes'. -/
def decisionEstablishesCard : Claim7 := { stood := { row := decisionEstablishesRow, standIns := [], harness := (true, "942ca39e7cf3f56327097f24453ecf7185bc942cd5933235c1fb0bc4a55cb1b2"), looks := true }, kinds := [], alts := [], laidByText := true, laidKinds := [.data, .data, .data, .sentinel, .sentinel, .widerDeep], laidTests := true, laidLooks := .later }
def DecisionEstablishesCardSaid : Prop := Claim7.holds Tryz.pinned (.plain (OpenSpec.ofChange decisionEstablishesSpec)) decisionEstablishesCard

/-- THE TIED CARD OF 'apographlaw40.DecisionChosen'. -/
def decisionChosenCard : Claim7 := { stood := { row := decisionChosenRow, standIns := [], harness := (true, "942ca39e7cf3f56327097f24453ecf7185bc942cd5933235c1fb0bc4a55cb1b2"), looks := true }, kinds := [], alts := [], laidByText := true, laidKinds := [.data, .data, .data, .sentinel, .sentinel, .widerDeep], laidTests := true, laidLooks := .later }
def DecisionChosenCardSaid : Prop := Claim7.holds Tryz.pinned (.plain (OpenSpec.ofChange decisionChosenSpec)) decisionChosenCard

/-- THE TIED CARD OF 'apographlaw40.DecisionLeads'. -/
def decisionLeadsCard : Claim7 := { stood := { row := decisionLeadsRow, standIns := [], harness := (true, "942ca39e7cf3f56327097f24453ecf7185bc942cd5933235c1fb0bc4a55cb1b2"), looks := true }, kinds := [], alts := [], laidByText := true, laidKinds := [.data, .data, .data, .sentinel, .sentinel, .widerDeep], laidTests := true, laidLooks := .later }
def DecisionLeadsCardSaid : Prop := Claim7.holds Tryz.pinned (.plain (OpenSpec.ofChange decisionLeadsSpec)) decisionLeadsCard

/-- THE TIED CARD OF 'apographlaw40.DecisionChecks'. -/
def decisionChecksCard : Claim7 := { stood := { row := decisionChecksRow, standIns := [], harness := (true, "942ca39e7cf3f56327097f24453ecf7185bc942cd5933235c1fb0bc4a55cb1b2"), looks := true }, kinds := [], alts := [], laidByText := true, laidKinds := [.data, .data, .data, .sentinel, .sentinel, .widerDeep], laidTests := true, laidLooks := .later }
def DecisionChecksCardSaid : Prop := Claim7.holds Tryz.pinned (.plain (OpenSpec.ofChange decisionChecksSpec)) decisionChecksCard

/-- THE TIED CARD OF 'apographlaw41.ProvenanceFits'. -/
def provenanceFitsCard : Claim7 := { stood := { row := provenanceFitsRow, standIns := [], harness := (true, "942ca39e7cf3f56327097f24453ecf7185bc942cd5933235c1fb0bc4a55cb1b2"), looks := true }, kinds := [], alts := [], laidByText := true, laidKinds := [.data, .data, .data, .sentinel, .sentinel, .widerDeep], laidTests := true, laidLooks := .later }
def ProvenanceFitsCardSaid : Prop := Claim7.holds Tryz.pinned (.plain (OpenSpec.ofChange provenanceFitsSpec)) provenanceFitsCard

/-- THE TIED CARD OF 'apographlaw40.DecisionReadings'. -/
def decisionReadingsCard : Claim7 := { stood := { row := decisionReadingsRow, standIns := [], harness := (true, "942ca39e7cf3f56327097f24453ecf7185bc942cd5933235c1fb0bc4a55cb1b2"), looks := true }, kinds := [], alts := [], laidByText := true, laidKinds := [.data, .data, .data, .data, .sentinel, .sentinel, .widerDeep, .pinned], laidTests := true, laidLooks := .later }
def DecisionReadingsCardSaid : Prop := Claim7.holds Tryz.pinned (.plain (OpenSpec.ofChange decisionReadingsSpec)) decisionReadingsCard

/-- THE SECOND FORM's CARD OF 'apographtop.TopBaseWords'. -/
def topBaseWordsUptoCard : Claim7 := { stood := { row := topBaseWordsUptoRow, standIns := [], harness := (true, "942ca39e7cf3f56327097f24453ecf7185bc942cd5933235c1fb0bc4a55cb1b2"), looks := true }, kinds := [], alts := [], laidByText := true, laidKinds := [.data, .data, .data, .sentinel, .sentinel, .widerDeep], laidTests := true, laidLooks := .later }
def TopBaseWordsUptoCardSaid : Prop := Claim7.holds Tryz.pinned (.plain (OpenSpec.upto topBaseWordsSpec)) topBaseWordsUptoCard

/-- THE SECOND FORM's CARD OF 'apographtop.TopBaseOthers'. -/
def topBaseOthersUptoCard : Claim7 := { stood := { row := topBaseOthersUptoRow, standIns := [], harness := (true, "942ca39e7cf3f56327097f24453ecf7185bc942cd5933235c1fb0bc4a55cb1b2"), looks := true }, kinds := [], alts := [], laidByText := true, laidKinds := [.data, .data, .data, .sentinel, .sentinel, .widerDeep], laidTests := true, laidLooks := .later }
def TopBaseOthersUptoCardSaid : Prop := Claim7.holds Tryz.pinned (.plain (OpenSpec.upto topBaseOthersSpec)) topBaseOthersUptoCard

/-- THE SECOND FORM's CARD OF 'apographtop.TopFollowed'. -/
def topFollowedUptoCard : Claim7 := { stood := { row := topFollowedUptoRow, standIns := [], harness := (true, "942ca39e7cf3f56327097f24453ecf7185bc942cd5933235c1fb0bc4a55cb1b2"), looks := true }, kinds := [], alts := [], laidByText := true, laidKinds := [.data, .data, .data, .sentinel, .sentinel, .widerDeep], laidTests := true, laidLooks := .later }
def TopFollowedUptoCardSaid : Prop := Claim7.holds Tryz.pinned (.plain (OpenSpec.upto topFollowedSpec)) topFollowedUptoCard

/-- THE SECOND FORM's CARD OF 'apographlaw40.DecisionSpaces'. -/
def decisionSpacesUptoCard : Claim7 := { stood := { row := decisionSpacesUptoRow, standIns := [], harness := (true, "942ca39e7cf3f56327097f24453ecf7185bc942cd5933235c1fb0bc4a55cb1b2"), looks := true }, kinds := [], alts := [], laidByText := true, laidKinds := [.data, .data, .data, .sentinel, .sentinel, .widerDeep], laidTests := true, laidLooks := .later }
def DecisionSpacesUptoCardSaid : Prop := Claim7.holds Tryz.pinned (.plain (OpenSpec.upto decisionSpacesSpec)) decisionSpacesUptoCard

/-- THE SECOND FORM's CARD OF 'apographlaw40.DecisionOthers'. -/
def decisionOthersUptoCard : Claim7 := { stood := { row := decisionOthersUptoRow, standIns := [], harness := (true, "942ca39e7cf3f56327097f24453ecf7185bc942cd5933235c1fb0bc4a55cb1b2"), looks := true }, kinds := [], alts := [], laidByText := true, laidKinds := [.data, .data, .data, .sentinel, .sentinel, .widerDeep], laidTests := true, laidLooks := .later }
def DecisionOthersUptoCardSaid : Prop := Claim7.holds Tryz.pinned (.plain (OpenSpec.upto decisionOthersSpec)) decisionOthersUptoCard

/-- THE SECOND FORM's CARD OF 'apographlaw40.DecisionCommon'. -/
def decisionCommonUptoCard : Claim7 := { stood := { row := decisionCommonUptoRow, standIns := [], harness := (true, "942ca39e7cf3f56327097f24453ecf7185bc942cd5933235c1fb0bc4a55cb1b2"), looks := true }, kinds := [], alts := [], laidByText := true, laidKinds := [.data, .data, .data, .sentinel, .sentinel, .widerDeep], laidTests := true, laidLooks := .later }
def DecisionCommonUptoCardSaid : Prop := Claim7.holds Tryz.pinned (.plain (OpenSpec.upto decisionCommonSpec)) decisionCommonUptoCard

/-- THE SECOND FORM's CARD OF 'apographlaw40.DecisionEstablishes'. -/
def decisionEstablishesUptoCard : Claim7 := { stood := { row := decisionEstablishesUptoRow, standIns := [], harness := (true, "942ca39e7cf3f56327097f24453ecf7185bc942cd5933235c1fb0bc4a55cb1b2"), looks := true }, kinds := [], alts := [], laidByText := true, laidKinds := [.data, .data, .data, .sentinel, .sentinel, .widerDeep], laidTests := true, laidLooks := .later }
def DecisionEstablishesUptoCardSaid : Prop := Claim7.holds Tryz.pinned (.plain (OpenSpec.upto decisionEstablishesSpec)) decisionEstablishesUptoCard

/-- THE SECOND FORM's CARD OF 'apographlaw40.DecisionChosen'. -/
def decisionChosenUptoCard : Claim7 := { stood := { row := decisionChosenUptoRow, standIns := [], harness := (true, "942ca39e7cf3f56327097f24453ecf7185bc942cd5933235c1fb0bc4a55cb1b2"), looks := true }, kinds := [], alts := [], laidByText := true, laidKinds := [.data, .data, .data, .sentinel, .sentinel, .widerDeep], laidTests := true, laidLooks := .later }
def DecisionChosenUptoCardSaid : Prop := Claim7.holds Tryz.pinned (.plain (OpenSpec.upto decisionChosenSpec)) decisionChosenUptoCard

/-- THE SECOND FORM's CARD OF 'apographlaw40.DecisionLeads'. -/
def decisionLeadsUptoCard : Claim7 := { stood := { row := decisionLeadsUptoRow, standIns := [], harness := (true, "942ca39e7cf3f56327097f24453ecf7185bc942cd5933235c1fb0bc4a55cb1b2"), looks := true }, kinds := [], alts := [], laidByText := true, laidKinds := [.data, .data, .data, .sentinel, .sentinel, .widerDeep], laidTests := true, laidLooks := .later }
def DecisionLeadsUptoCardSaid : Prop := Claim7.holds Tryz.pinned (.plain (OpenSpec.upto decisionLeadsSpec)) decisionLeadsUptoCard

/-- THE SECOND FORM's CARD OF 'apographlaw40.DecisionChecks'. -/
def decisionChecksUptoCard : Claim7 := { stood := { row := decisionChecksUptoRow, standIns := [], harness := (true, "942ca39e7cf3f56327097f24453ecf7185bc942cd5933235c1fb0bc4a55cb1b2"), looks := true }, kinds := [], alts := [], laidByText := true, laidKinds := [.data, .data, .data, .sentinel, .sentinel, .widerDeep], laidTests := true, laidLooks := .later }
def DecisionChecksUptoCardSaid : Prop := Claim7.holds Tryz.pinned (.plain (OpenSpec.upto decisionChecksSpec)) decisionChecksUptoCard

/-- THE SECOND FORM's CARD OF 'apographlaw41.ProvenanceFits'. -/
def provenanceFitsUptoCard : Claim7 := { stood := { row := provenanceFitsUptoRow, standIns := [], harness := (true, "942ca39e7cf3f56327097f24453ecf7185bc942cd5933235c1fb0bc4a55cb1b2"), looks := true }, kinds := [], alts := [], laidByText := true, laidKinds := [.data, .data, .data, .sentinel, .sentinel, .widerDeep], laidTests := true, laidLooks := .later }
def ProvenanceFitsUptoCardSaid : Prop := Claim7.holds Tryz.pinned (.plain (OpenSpec.upto provenanceFitsSpec)) provenanceFitsUptoCard

/-- THE SECOND FORM's CARD OF 'apographlaw40.DecisionReadings'. -/
def decisionReadingsUptoCard : Claim7 := { stood := { row := decisionReadingsUptoRow, standIns := [], harness := (true, "942ca39e7cf3f56327097f24453ecf7185bc942cd5933235c1fb0bc4a55cb1b2"), looks := true }, kinds := [], alts := [], laidByText := true, laidKinds := [.data, .data, .data, .data, .sentinel, .sentinel, .widerDeep, .pinned], laidTests := true, laidLooks := .later }
def DecisionReadingsUptoCardSaid : Prop := Claim7.holds Tryz.pinned (.plain (OpenSpec.upto decisionReadingsSpec)) decisionReadingsUptoCard
end Rows
end Go.Proofs.YthjkfdakolejgaaGreatDoor
