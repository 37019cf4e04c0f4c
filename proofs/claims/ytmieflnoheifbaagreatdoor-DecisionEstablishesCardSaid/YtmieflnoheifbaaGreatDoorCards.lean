/-
  DERIVED. GIVEN WITH THE SEED: THE CARDS: each row of YtmieflnoheifbaaGreatDoorRows.lean that lists a variable, with what it lists TIED to the program's text (the seventh form; the later family's looks); each row that meets fmt, with fmt's text TOLD by the authors' own Lean function (tested against real Go, not proved from fmt's source: count such statements apart). THE CARD IS WHAT COUNTS. Prove the row's statement (the work); the ties are given (YtmieflnoheifbaaGreatDoorTie.lean); close each card by the builder's one call (the guide's Derived/Test/ToyasCard.lean, 'card_holds'). Laid BY PROGRAM, IN A SANDBOX (cutbox-door.mjs). By AI agents, Wed Nov 11 2026. No macro, syntax, notation, axiom, sorry.
-/
import Derived.Test.YtmieflnoheifbaaGreatDoorRows
import GoSem.ClaimSeven
namespace Go.Proofs.YtmieflnoheifbaaGreatDoor
namespace Rows

/-- THE TIED CARD OF 'apographtop.TopFollowed'. -/
def topFollowedCard : Claim7 := { stood := { row := topFollowedRow, standIns := [], harness := (true, "b90e41abc26df8d1c76d7d1833fd69a9257b9afa957b7bd44dcf76d190361895"), looks := true }, kinds := [], alts := [], laidByText := true, laidKinds := [.data, .data, .data, .sentinel, .sentinel, .widerDeep], laidTests := true, laidLooks := .later }
def TopFollowedCardSaid : Prop := Claim7.holds Tryz.pinned (.plain (OpenSpec.ofChange topFollowedSpec)) topFollowedCard

/-- THE TIED CARD OF 'apographlaw40.DecisionEstablishes'. -/
def decisionEstablishesCard : Claim7 := { stood := { row := decisionEstablishesRow, standIns := [], harness := (true, "b90e41abc26df8d1c76d7d1833fd69a9257b9afa957b7bd44dcf76d190361895"), looks := true }, kinds := [], alts := [], laidByText := true, laidKinds := [.data, .data, .data, .sentinel, .sentinel, .widerDeep], laidTests := true, laidLooks := .later }
def DecisionEstablishesCardSaid : Prop := Claim7.holds Tryz.pinned (.plain (OpenSpec.ofChange decisionEstablishesSpec)) decisionEstablishesCard

/-- THE TIED CARD OF 'apographlaw40.DecisionChecks'. -/
def decisionChecksCard : Claim7 := { stood := { row := decisionChecksRow, standIns := [], harness := (true, "b90e41abc26df8d1c76d7d1833fd69a9257b9afa957b7bd44dcf76d190361895"), looks := true }, kinds := [], alts := [], laidByText := true, laidKinds := [.data, .data, .data, .sentinel, .sentinel, .widerDeep], laidTests := true, laidLooks := .later }
def DecisionChecksCardSaid : Prop := Claim7.holds Tryz.pinned (.plain (OpenSpec.ofChange decisionChecksSpec)) decisionChecksCard

/-- THE TIED CARD OF 'apographlaw46.ReconstructBack'. -/
def reconstructBackCard : Claim7 := { stood := { row := reconstructBackRow, standIns := [], harness := (true, "b90e41abc26df8d1c76d7d1833fd69a9257b9afa957b7bd44dcf76d190361895"), looks := true }, kinds := [], alts := [], laidByText := true, laidKinds := [.data, .data, .data, .data, .sentinel, .sentinel, .widerDeep, .pinned], laidTests := true, laidLooks := .later }
def ReconstructBackCardSaid : Prop := Claim7.holds Tryz.pinned (.plain (OpenSpec.ofChange reconstructBackSpec)) reconstructBackCard

/-- THE TIED CARD OF 'apographtop.TopLemmata'. -/
def topLemmataCard : Claim7 := { stood := { row := topLemmataRow, standIns := [], harness := (true, "b90e41abc26df8d1c76d7d1833fd69a9257b9afa957b7bd44dcf76d190361895"), looks := true }, kinds := [], alts := [], laidByText := true, laidKinds := [.data, .data, .data, .data, .sentinel, .sentinel, .widerDeep, .pinned], laidTests := true, laidLooks := .later }
def TopLemmataCardSaid : Prop := Claim7.holds Tryz.pinned (.plain (OpenSpec.ofChange topLemmataSpec)) topLemmataCard

/-- THE TIED CARD OF 'apographtop.TopFewSigla'. -/
def topFewSiglaCard : Claim7 := { stood := { row := topFewSiglaRow, standIns := [], harness := (true, "b90e41abc26df8d1c76d7d1833fd69a9257b9afa957b7bd44dcf76d190361895"), looks := true }, kinds := [], alts := [], laidByText := true, laidKinds := [.data, .data, .data, .data, .sentinel, .sentinel, .widerDeep, .pinned], laidTests := true, laidLooks := .later }
def TopFewSiglaCardSaid : Prop := Claim7.holds Tryz.pinned (.plain (OpenSpec.ofChange topFewSiglaSpec)) topFewSiglaCard

/-- THE SECOND FORM's CARD OF 'apographtop.TopFollowed'. -/
def topFollowedUptoCard : Claim7 := { stood := { row := topFollowedUptoRow, standIns := [], harness := (true, "b90e41abc26df8d1c76d7d1833fd69a9257b9afa957b7bd44dcf76d190361895"), looks := true }, kinds := [], alts := [], laidByText := true, laidKinds := [.data, .data, .data, .sentinel, .sentinel, .widerDeep], laidTests := true, laidLooks := .later }
def TopFollowedUptoCardSaid : Prop := Claim7.holds Tryz.pinned (.plain (OpenSpec.upto topFollowedSpec)) topFollowedUptoCard

/-- THE SECOND FORM's CARD OF 'apographlaw40.DecisionEstablishes'. -/
def decisionEstablishesUptoCard : Claim7 := { stood := { row := decisionEstablishesUptoRow, standIns := [], harness := (true, "b90e41abc26df8d1c76d7d1833fd69a9257b9afa957b7bd44dcf76d190361895"), looks := true }, kinds := [], alts := [], laidByText := true, laidKinds := [.data, .data, .data, .sentinel, .sentinel, .widerDeep], laidTests := true, laidLooks := .later }
def DecisionEstablishesUptoCardSaid : Prop := Claim7.holds Tryz.pinned (.plain (OpenSpec.upto decisionEstablishesSpec)) decisionEstablishesUptoCard

/-- THE SECOND FORM's CARD OF 'apographlaw40.DecisionChecks'. -/
def decisionChecksUptoCard : Claim7 := { stood := { row := decisionChecksUptoRow, standIns := [], harness := (true, "b90e41abc26df8d1c76d7d1833fd69a9257b9afa957b7bd44dcf76d190361895"), looks := true }, kinds := [], alts := [], laidByText := true, laidKinds := [.data, .data, .data, .sentinel, .sentinel, .widerDeep], laidTests := true, laidLooks := .later }
def DecisionChecksUptoCardSaid : Prop := Claim7.holds Tryz.pinned (.plain (OpenSpec.upto decisionChecksSpec)) decisionChecksUptoCard

/-- THE SECOND FORM's CARD OF 'apographlaw46.ReconstructBack'. -/
def reconstructBackUptoCard : Claim7 := { stood := { row := reconstructBackUptoRow, standIns := [], harness := (true, "b90e41abc26df8d1c76d7d1833fd69a9257b9afa957b7bd44dcf76d190361895"), looks := true }, kinds := [], alts := [], laidByText := true, laidKinds := [.data, .data, .data, .data, .sentinel, .sentinel, .widerDeep, .pinned], laidTests := true, laidLooks := .later }
def ReconstructBackUptoCardSaid : Prop := Claim7.holds Tryz.pinned (.plain (OpenSpec.upto reconstructBackSpec)) reconstructBackUptoCard

/-- THE SECOND FORM's CARD OF 'apographtop.TopLemmata'. -/
def topLemmataUptoCard : Claim7 := { stood := { row := topLemmataUptoRow, standIns := [], harness := (true, "b90e41abc26df8d1c76d7d1833fd69a9257b9afa957b7bd44dcf76d190361895"), looks := true }, kinds := [], alts := [], laidByText := true, laidKinds := [.data, .data, .data, .data, .sentinel, .sentinel, .widerDeep, .pinned], laidTests := true, laidLooks := .later }
def TopLemmataUptoCardSaid : Prop := Claim7.holds Tryz.pinned (.plain (OpenSpec.upto topLemmataSpec)) topLemmataUptoCard

/-- THE SECOND FORM's CARD OF 'apographtop.TopFewSigla'. -/
def topFewSiglaUptoCard : Claim7 := { stood := { row := topFewSiglaUptoRow, standIns := [], harness := (true, "b90e41abc26df8d1c76d7d1833fd69a9257b9afa957b7bd44dcf76d190361895"), looks := true }, kinds := [], alts := [], laidByText := true, laidKinds := [.data, .data, .data, .data, .sentinel, .sentinel, .widerDeep, .pinned], laidTests := true, laidLooks := .later }
def TopFewSiglaUptoCardSaid : Prop := Claim7.holds Tryz.pinned (.plain (OpenSpec.upto topFewSiglaSpec)) topFewSiglaUptoCard
end Rows
end Go.Proofs.YtmieflnoheifbaaGreatDoor
