/-
  DERIVED. GIVEN WITH THE SEED: THE CARDS: each row of YtjijgafefdolkaaGreatDoorRows.lean that lists a variable, with what it lists TIED to the program's text (the seventh form; the later family's looks); each row that meets fmt, with fmt's text TOLD by the authors' own Lean function (tested against real Go, not proved from fmt's source: count such statements apart). THE CARD IS WHAT COUNTS. Prove the row's statement (the work); the ties are given (YtjijgafefdolkaaGreatDoorTie.lean); close each card by the builder's one call (the guide's Derived/Test/ToyasCard.lean, 'card_holds'). Laid BY PROGRAM, IN A SANDBOX (cutbox-door.mjs). By AI agents, Wed Nov 11 2026. No macro, syntax, notation, axiom, sorry.
-/
import Derived.Test.YtjijgafefdolkaaGreatDoorRows
import GoSem.ClaimSeven
namespace Go.Proofs.YtjijgafefdolkaaGreatDoor
namespace Rows

/-- THE TIED CARD OF 'apographlaw48.ParagraphTexts'. -/
def paragraphTextsCard : Claim7 := { stood := { row := paragraphTextsRow, standIns := [], harness := (true, "b7c5b76050656f442653c21beb8a5c1ec0e7f8dff73a287fc4c1ac934d382512"), looks := false }, kinds := [], alts := [], laidByText := true, laidKinds := [.data, .pinned], laidTests := true, laidLooks := .later }
def ParagraphTextsCardSaid : Prop := Claim7.holds Tryz.pinned (.plain (OpenSpec.ofChange paragraphTextsSpec)) paragraphTextsCard

/-- THE TIED CARD OF 'apographlaw49.LinenumberAscends'. -/
def linenumberAscendsCard : Claim7 := { stood := { row := linenumberAscendsRow, standIns := [], harness := (true, "b7c5b76050656f442653c21beb8a5c1ec0e7f8dff73a287fc4c1ac934d382512"), looks := false }, kinds := [], alts := [], laidByText := true, laidKinds := [.data, .data, .data], laidTests := true, laidLooks := .later }
def LinenumberAscendsCardSaid : Prop := Claim7.holds Tryz.pinned (.plain (OpenSpec.ofChange linenumberAscendsSpec)) linenumberAscendsCard

/-- THE TIED CARD OF 'apographlaw49.LinenumberDivided'. -/
def linenumberDividedCard : Claim7 := { stood := { row := linenumberDividedRow, standIns := [], harness := (true, "b7c5b76050656f442653c21beb8a5c1ec0e7f8dff73a287fc4c1ac934d382512"), looks := false }, kinds := [], alts := [], laidByText := true, laidKinds := [.data, .data, .data], laidTests := true, laidLooks := .later }
def LinenumberDividedCardSaid : Prop := Claim7.holds Tryz.pinned (.plain (OpenSpec.ofChange linenumberDividedSpec)) linenumberDividedCard

/-- THE SECOND FORM's CARD OF 'apographlaw48.ParagraphTexts'. -/
def paragraphTextsUptoCard : Claim7 := { stood := { row := paragraphTextsUptoRow, standIns := [], harness := (true, "b7c5b76050656f442653c21beb8a5c1ec0e7f8dff73a287fc4c1ac934d382512"), looks := false }, kinds := [], alts := [], laidByText := true, laidKinds := [.data, .pinned], laidTests := true, laidLooks := .later }
def ParagraphTextsUptoCardSaid : Prop := Claim7.holds Tryz.pinned (.plain (OpenSpec.upto paragraphTextsSpec)) paragraphTextsUptoCard

/-- THE SECOND FORM's CARD OF 'apographlaw49.LinenumberAscends'. -/
def linenumberAscendsUptoCard : Claim7 := { stood := { row := linenumberAscendsUptoRow, standIns := [], harness := (true, "b7c5b76050656f442653c21beb8a5c1ec0e7f8dff73a287fc4c1ac934d382512"), looks := false }, kinds := [], alts := [], laidByText := true, laidKinds := [.data, .data, .data], laidTests := true, laidLooks := .later }
def LinenumberAscendsUptoCardSaid : Prop := Claim7.holds Tryz.pinned (.plain (OpenSpec.upto linenumberAscendsSpec)) linenumberAscendsUptoCard

/-- THE SECOND FORM's CARD OF 'apographlaw49.LinenumberDivided'. -/
def linenumberDividedUptoCard : Claim7 := { stood := { row := linenumberDividedUptoRow, standIns := [], harness := (true, "b7c5b76050656f442653c21beb8a5c1ec0e7f8dff73a287fc4c1ac934d382512"), looks := false }, kinds := [], alts := [], laidByText := true, laidKinds := [.data, .data, .data], laidTests := true, laidLooks := .later }
def LinenumberDividedUptoCardSaid : Prop := Claim7.holds Tryz.pinned (.plain (OpenSpec.upto linenumberDividedSpec)) linenumberDividedUptoCard
end Rows
end Go.Proofs.YtjijgafefdolkaaGreatDoor
