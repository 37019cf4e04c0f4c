/-
  DERIVED. GIVEN WITH THE SEED: THE CARDS: each row of YtiiegfkjmnoijaaGreatDoorRows.lean that lists a variable, with what it lists TIED to the program's text (the seventh form; the later family's looks); each row that meets fmt, with fmt's text TOLD by the authors' own Lean function (tested against real Go, not proved from fmt's source: count such statements apart). THE CARD IS WHAT COUNTS. Prove the row's statement (the work); the ties are given (YtiiegfkjmnoijaaGreatDoorTie.lean); close each card by the builder's one call (the guide's Derived/Test/ToyasCard.lean, 'card_holds'). Laid BY PROGRAM, IN A SANDBOX (cutbox-door.mjs). By AI agents, Wed Nov 11 2026. No macro, syntax, notation, axiom, sorry.
-/
import Derived.Test.YtiiegfkjmnoijaaGreatDoorRows
import GoSem.ClaimSeven
namespace Go.Proofs.YtiiegfkjmnoijaaGreatDoor
namespace Rows

/-- THE TIED CARD OF 'apographtop.TopBaseWords'. -/
def topBaseWordsCard : Claim7 := { stood := { row := topBaseWordsRow, standIns := [], harness := (true, "2b6f1044b5fc0f2fdfcb999de5c6a8f26267db8839d823472885d849d731633f"), looks := true }, kinds := [], alts := [], laidByText := true, laidKinds := [.data, .data, .data, .sentinel, .sentinel, .widerDeep], laidTests := true, laidLooks := .later }
def TopBaseWordsCardSaid : Prop := Claim7.holds Tryz.pinned (.plain (OpenSpec.ofChange topBaseWordsSpec)) topBaseWordsCard

/-- THE TIED CARD OF 'apographtop.TopBaseOthers'. -/
def topBaseOthersCard : Claim7 := { stood := { row := topBaseOthersRow, standIns := [], harness := (true, "2b6f1044b5fc0f2fdfcb999de5c6a8f26267db8839d823472885d849d731633f"), looks := true }, kinds := [], alts := [], laidByText := true, laidKinds := [.data, .data, .data, .sentinel, .sentinel, .widerDeep], laidTests := true, laidLooks := .later }
def TopBaseOthersCardSaid : Prop := Claim7.holds Tryz.pinned (.plain (OpenSpec.ofChange topBaseOthersSpec)) topBaseOthersCard

/-- THE TIED CARD OF 'apographtop.TopFollowed'. -/
def topFollowedCard : Claim7 := { stood := { row := topFollowedRow, standIns := [], harness := (true, "2b6f1044b5fc0f2fdfcb999de5c6a8f26267db8839d823472885d849d731633f"), looks := true }, kinds := [], alts := [], laidByText := true, laidKinds := [.data, .data, .data, .sentinel, .sentinel, .widerDeep], laidTests := true, laidLooks := .later }
def TopFollowedCardSaid : Prop := Claim7.holds Tryz.pinned (.plain (OpenSpec.ofChange topFollowedSpec)) topFollowedCard

/-- THE TIED CARD OF 'apographlaw40.DecisionEstablishes'. -/
def decisionEstablishesCard : Claim7 := { stood := { row := decisionEstablishesRow, standIns := [], harness := (true, "2b6f1044b5fc0f2fdfcb999de5c6a8f26267db8839d823472885d849d731633f"), looks := true }, kinds := [], alts := [], laidByText := true, laidKinds := [.data, .data, .data, .sentinel, .sentinel, .widerDeep], laidTests := true, laidLooks := .later }
def DecisionEstablishesCardSaid : Prop := Claim7.holds Tryz.pinned (.plain (OpenSpec.ofChange decisionEstablishesSpec)) decisionEstablishesCard

/-- THE TIED CARD OF 'apographlaw40.DecisionChecks'. -/
def decisionChecksCard : Claim7 := { stood := { row := decisionChecksRow, standIns := [], harness := (true, "2b6f1044b5fc0f2fdfcb999de5c6a8f26267db8839d823472885d849d731633f"), looks := true }, kinds := [], alts := [], laidByText := true, laidKinds := [.data, .data, .data, .sentinel, .sentinel, .widerDeep], laidTests := true, laidLooks := .later }
def DecisionChecksCardSaid : Prop := Claim7.holds Tryz.pinned (.plain (OpenSpec.ofChange decisionChecksSpec)) decisionChecksCard

/-- THE TIED CARD OF 'apographlaw41.ProvenanceFits'. -/
def provenanceFitsCard : Claim7 := { stood := { row := provenanceFitsRow, standIns := [], harness := (true, "2b6f1044b5fc0f2fdfcb999de5c6a8f26267db8839d823472885d849d731633f"), looks := true }, kinds := [], alts := [], laidByText := true, laidKinds := [.data, .data, .data, .sentinel, .sentinel, .widerDeep], laidTests := true, laidLooks := .later }
def ProvenanceFitsCardSaid : Prop := Claim7.holds Tryz.pinned (.plain (OpenSpec.ofChange provenanceFitsSpec)) provenanceFitsCard

/-- THE TIED CARD OF 'apographlaw41.ProvenancePositions'. -/
def provenancePositionsCard : Claim7 := { stood := { row := provenancePositionsRow, standIns := [], harness := (true, "2b6f1044b5fc0f2fdfcb999de5c6a8f26267db8839d823472885d849d731633f"), looks := true }, kinds := [], alts := [], laidByText := true, laidKinds := [.data, .data, .data, .sentinel, .sentinel, .widerDeep], laidTests := true, laidLooks := .later }
def ProvenancePositionsCardSaid : Prop := Claim7.holds Tryz.pinned (.plain (OpenSpec.ofChange provenancePositionsSpec)) provenancePositionsCard

/-- THE TIED CARD OF 'apographlaw41.ProvenanceHas'. -/
def provenanceHasCard : Claim7 := { stood := { row := provenanceHasRow, standIns := [], harness := (true, "2b6f1044b5fc0f2fdfcb999de5c6a8f26267db8839d823472885d849d731633f"), looks := true }, kinds := [], alts := [], laidByText := true, laidKinds := [.data, .data, .data, .sentinel, .sentinel, .widerDeep], laidTests := true, laidLooks := .later }
def ProvenanceHasCardSaid : Prop := Claim7.holds Tryz.pinned (.plain (OpenSpec.ofChange provenanceHasSpec)) provenanceHasCard

/-- THE TIED CARD OF 'apographlaw41.ProvenanceAgreement'. -/
def provenanceAgreementCard : Claim7 := { stood := { row := provenanceAgreementRow, standIns := [], harness := (true, "2b6f1044b5fc0f2fdfcb999de5c6a8f26267db8839d823472885d849d731633f"), looks := true }, kinds := [], alts := [], laidByText := true, laidKinds := [.data, .data, .data, .sentinel, .sentinel, .widerDeep], laidTests := true, laidLooks := .later }
def ProvenanceAgreementCardSaid : Prop := Claim7.holds Tryz.pinned (.plain (OpenSpec.ofChange provenanceAgreementSpec)) provenanceAgreementCard

/-- THE TIED CARD OF 'apographlaw41.ProvenanceExplains'. -/
def provenanceExplainsCard : Claim7 := { stood := { row := provenanceExplainsRow, standIns := [], harness := (true, "2b6f1044b5fc0f2fdfcb999de5c6a8f26267db8839d823472885d849d731633f"), looks := true }, kinds := [], alts := [], laidByText := true, laidKinds := [.data, .data, .data, .sentinel, .sentinel, .widerDeep], laidTests := true, laidLooks := .later }
def ProvenanceExplainsCardSaid : Prop := Claim7.holds Tryz.pinned (.plain (OpenSpec.ofChange provenanceExplainsSpec)) provenanceExplainsCard

/-- THE TIED CARD OF 'apographlaw40.DecisionReadings'. -/
def decisionReadingsCard : Claim7 := { stood := { row := decisionReadingsRow, standIns := [], harness := (true, "2b6f1044b5fc0f2fdfcb999de5c6a8f26267db8839d823472885d849d731633f"), looks := true }, kinds := [], alts := [], laidByText := true, laidKinds := [.data, .data, .data, .data, .sentinel, .sentinel, .widerDeep, .pinned], laidTests := true, laidLooks := .later }
def DecisionReadingsCardSaid : Prop := Claim7.holds Tryz.pinned (.plain (OpenSpec.ofChange decisionReadingsSpec)) decisionReadingsCard

/-- THE TIED CARD OF 'apographlaw41.ProvenanceUnsupported'. -/
def provenanceUnsupportedCard : Claim7 := { stood := { row := provenanceUnsupportedRow, standIns := [], harness := (true, "2b6f1044b5fc0f2fdfcb999de5c6a8f26267db8839d823472885d849d731633f"), looks := true }, kinds := [], alts := [], laidByText := true, laidKinds := [.data, .data, .data, .sentinel, .sentinel, .widerDeep], laidTests := true, laidLooks := .later }
def ProvenanceUnsupportedCardSaid : Prop := Claim7.holds Tryz.pinned (.plain (OpenSpec.ofChange provenanceUnsupportedSpec)) provenanceUnsupportedCard

/-- THE SECOND FORM's CARD OF 'apographtop.TopBaseWords'. -/
def topBaseWordsUptoCard : Claim7 := { stood := { row := topBaseWordsUptoRow, standIns := [], harness := (true, "2b6f1044b5fc0f2fdfcb999de5c6a8f26267db8839d823472885d849d731633f"), looks := true }, kinds := [], alts := [], laidByText := true, laidKinds := [.data, .data, .data, .sentinel, .sentinel, .widerDeep], laidTests := true, laidLooks := .later }
def TopBaseWordsUptoCardSaid : Prop := Claim7.holds Tryz.pinned (.plain (OpenSpec.upto topBaseWordsSpec)) topBaseWordsUptoCard

/-- THE SECOND FORM's CARD OF 'apographtop.TopBaseOthers'. -/
def topBaseOthersUptoCard : Claim7 := { stood := { row := topBaseOthersUptoRow, standIns := [], harness := (true, "2b6f1044b5fc0f2fdfcb999de5c6a8f26267db8839d823472885d849d731633f"), looks := true }, kinds := [], alts := [], laidByText := true, laidKinds := [.data, .data, .data, .sentinel, .sentinel, .widerDeep], laidTests := true, laidLooks := .later }
def TopBaseOthersUptoCardSaid : Prop := Claim7.holds Tryz.pinned (.plain (OpenSpec.upto topBaseOthersSpec)) topBaseOthersUptoCard

/-- THE SECOND FORM's CARD OF 'apographtop.TopFollowed'. -/
def topFollowedUptoCard : Claim7 := { stood := { row := topFollowedUptoRow, standIns := [], harness := (true, "2b6f1044b5fc0f2fdfcb999de5c6a8f26267db8839d823472885d849d731633f"), looks := true }, kinds := [], alts := [], laidByText := true, laidKinds := [.data, .data, .data, .sentinel, .sentinel, .widerDeep], laidTests := true, laidLooks := .later }
def TopFollowedUptoCardSaid : Prop := Claim7.holds Tryz.pinned (.plain (OpenSpec.upto topFollowedSpec)) topFollowedUptoCard

/-- THE SECOND FORM's CARD OF 'apographlaw40.DecisionEstablishes'. -/
def decisionEstablishesUptoCard : Claim7 := { stood := { row := decisionEstablishesUptoRow, standIns := [], harness := (true, "2b6f1044b5fc0f2fdfcb999de5c6a8f26267db8839d823472885d849d731633f"), looks := true }, kinds := [], alts := [], laidByText := true, laidKinds := [.data, .data, .data, .sentinel, .sentinel, .widerDeep], laidTests := true, laidLooks := .later }
def DecisionEstablishesUptoCardSaid : Prop := Claim7.holds Tryz.pinned (.plain (OpenSpec.upto decisionEstablishesSpec)) decisionEstablishesUptoCard

/-- THE SECOND FORM's CARD OF 'apographlaw40.DecisionChecks'. -/
def decisionChecksUptoCard : Claim7 := { stood := { row := decisionChecksUptoRow, standIns := [], harness := (true, "2b6f1044b5fc0f2fdfcb999de5c6a8f26267db8839d823472885d849d731633f"), looks := true }, kinds := [], alts := [], laidByText := true, laidKinds := [.data, .data, .data, .sentinel, .sentinel, .widerDeep], laidTests := true, laidLooks := .later }
def DecisionChecksUptoCardSaid : Prop := Claim7.holds Tryz.pinned (.plain (OpenSpec.upto decisionChecksSpec)) decisionChecksUptoCard

/-- THE SECOND FORM's CARD OF 'apographlaw41.ProvenanceFits'. -/
def provenanceFitsUptoCard : Claim7 := { stood := { row := provenanceFitsUptoRow, standIns := [], harness := (true, "2b6f1044b5fc0f2fdfcb999de5c6a8f26267db8839d823472885d849d731633f"), looks := true }, kinds := [], alts := [], laidByText := true, laidKinds := [.data, .data, .data, .sentinel, .sentinel, .widerDeep], laidTests := true, laidLooks := .later }
def ProvenanceFitsUptoCardSaid : Prop := Claim7.holds Tryz.pinned (.plain (OpenSpec.upto provenanceFitsSpec)) provenanceFitsUptoCard

/-- THE SECOND FORM's CARD OF 'apographlaw41.ProvenancePositions'. -/
def provenancePositionsUptoCard : Claim7 := { stood := { row := provenancePositionsUptoRow, standIns := [], harness := (true, "2b6f1044b5fc0f2fdfcb999de5c6a8f26267db8839d823472885d849d731633f"), looks := true }, kinds := [], alts := [], laidByText := true, laidKinds := [.data, .data, .data, .sentinel, .sentinel, .widerDeep], laidTests := true, laidLooks := .later }
def ProvenancePositionsUptoCardSaid : Prop := Claim7.holds Tryz.pinned (.plain (OpenSpec.upto provenancePositionsSpec)) provenancePositionsUptoCard

/-- THE SECOND FORM's CARD OF 'apographlaw41.ProvenanceHas'. -/
def provenanceHasUptoCard : Claim7 := { stood := { row := provenanceHasUptoRow, standIns := [], harness := (true, "2b6f1044b5fc0f2fdfcb999de5c6a8f26267db8839d823472885d849d731633f"), looks := true }, kinds := [], alts := [], laidByText := true, laidKinds := [.data, .data, .data, .sentinel, .sentinel, .widerDeep], laidTests := true, laidLooks := .later }
def ProvenanceHasUptoCardSaid : Prop := Claim7.holds Tryz.pinned (.plain (OpenSpec.upto provenanceHasSpec)) provenanceHasUptoCard

/-- THE SECOND FORM's CARD OF 'apographlaw41.ProvenanceAgreement'. -/
def provenanceAgreementUptoCard : Claim7 := { stood := { row := provenanceAgreementUptoRow, standIns := [], harness := (true, "2b6f1044b5fc0f2fdfcb999de5c6a8f26267db8839d823472885d849d731633f"), looks := true }, kinds := [], alts := [], laidByText := true, laidKinds := [.data, .data, .data, .sentinel, .sentinel, .widerDeep], laidTests := true, laidLooks := .later }
def ProvenanceAgreementUptoCardSaid : Prop := Claim7.holds Tryz.pinned (.plain (OpenSpec.upto provenanceAgreementSpec)) provenanceAgreementUptoCard

/-- THE SECOND FORM's CARD OF 'apographlaw41.ProvenanceExplains'. -/
def provenanceExplainsUptoCard : Claim7 := { stood := { row := provenanceExplainsUptoRow, standIns := [], harness := (true, "2b6f1044b5fc0f2fdfcb999de5c6a8f26267db8839d823472885d849d731633f"), looks := true }, kinds := [], alts := [], laidByText := true, laidKinds := [.data, .data, .data, .sentinel, .sentinel, .widerDeep], laidTests := true, laidLooks := .later }
def ProvenanceExplainsUptoCardSaid : Prop := Claim7.holds Tryz.pinned (.plain (OpenSpec.upto provenanceExplainsSpec)) provenanceExplainsUptoCard

/-- THE SECOND FORM's CARD OF 'apographlaw40.DecisionReadings'. -/
def decisionReadingsUptoCard : Claim7 := { stood := { row := decisionReadingsUptoRow, standIns := [], harness := (true, "2b6f1044b5fc0f2fdfcb999de5c6a8f26267db8839d823472885d849d731633f"), looks := true }, kinds := [], alts := [], laidByText := true, laidKinds := [.data, .data, .data, .data, .sentinel, .sentinel, .widerDeep, .pinned], laidTests := true, laidLooks := .later }
def DecisionReadingsUptoCardSaid : Prop := Claim7.holds Tryz.pinned (.plain (OpenSpec.upto decisionReadingsSpec)) decisionReadingsUptoCard

/-- THE SECOND FORM's CARD OF 'apographlaw41.ProvenanceUnsupported'. -/
def provenanceUnsupportedUptoCard : Claim7 := { stood := { row := provenanceUnsupportedUptoRow, standIns := [], harness := (true, "2b6f1044b5fc0f2fdfcb999de5c6a8f26267db8839d823472885d849d731633f"), looks := true }, kinds := [], alts := [], laidByText := true, laidKinds := [.data, .data, .data, .sentinel, .sentinel, .widerDeep], laidTests := true, laidLooks := .later }
def ProvenanceUnsupportedUptoCardSaid : Prop := Claim7.holds Tryz.pinned (.plain (OpenSpec.upto provenanceUnsupportedSpec)) provenanceUnsupportedUptoCard
end Rows
end Go.Proofs.YtiiegfkjmnoijaaGreatDoor
