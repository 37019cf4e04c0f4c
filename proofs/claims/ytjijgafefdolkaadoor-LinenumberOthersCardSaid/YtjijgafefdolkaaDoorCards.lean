/-
  DERIVED. GIVEN WITH THE SEED: THE CARDS: each row of YtjijgafefdolkaaDoorRows.lean that lists a variable, with what it lists TIED to the program's text (the seventh form; the later family's looks); each row that meets fmt, with fmt's text TOLD by the authors' own Lean function (tested against real Go, not proved from fmt's source: count such statements apart). THE CARD IS WHAT COUNTS. Prove the row's statement (the work); the ties are given (YtjijgafefdolkaaDoorTie.lean); close each card by the builder's one call (the guide's Derived/Test/ToyasCard.lean, 'card_holds'). Laid BY PROGRAM, IN A SANDBOX (cutbox-door.mjs). By AI agents, Wed Nov 11 2026. No macro, syntax, notation, axiom, sorry.
-/
import Derived.Test.YtjijgafefdolkaaDoorRows
import GoSem.ClaimSeven
namespace Go.Proofs.YtjijgafefdolkaaDoor
namespace Rows

/-- THE TIED CARD OF 'apographlaw49.LinenumberMarginal'. -/
def linenumberMarginalCard : Claim7 := { stood := { row := linenumberMarginalRow, standIns := [], harness := (true, "4f42a60b6635ff51ad48f97d81ab0b60d9db825461a3218943985012fe89ee4b"), looks := true }, kinds := [], alts := [], laidByText := true, laidKinds := [.data, .data, .data], laidTests := true, laidLooks := .later }
def LinenumberMarginalCardSaid : Prop := Claim7.holds Tryd.pinned (.plain (OpenSpec.ofChange linenumberMarginalSpec)) linenumberMarginalCard

/-- THE TIED CARD OF 'apographlaw49.LinenumberWords'. -/
def linenumberWordsCard : Claim7 := { stood := { row := linenumberWordsRow, standIns := [], harness := (true, "4f42a60b6635ff51ad48f97d81ab0b60d9db825461a3218943985012fe89ee4b"), looks := true }, kinds := [], alts := [], laidByText := true, laidKinds := [.data, .data, .data], laidTests := true, laidLooks := .later }
def LinenumberWordsCardSaid : Prop := Claim7.holds Tryd.pinned (.plain (OpenSpec.ofChange linenumberWordsSpec)) linenumberWordsCard

/-- THE TIED CARD OF 'apographlaw49.LinenumberResolves'. -/
def linenumberResolvesCard : Claim7 := { stood := { row := linenumberResolvesRow, standIns := [], harness := (true, "4f42a60b6635ff51ad48f97d81ab0b60d9db825461a3218943985012fe89ee4b"), looks := true }, kinds := [], alts := [], laidByText := true, laidKinds := [.data, .data, .data], laidTests := true, laidLooks := .later }
def LinenumberResolvesCardSaid : Prop := Claim7.holds Tryd.pinned (.plain (OpenSpec.ofChange linenumberResolvesSpec)) linenumberResolvesCard

/-- THE TIED CARD OF 'apographlaw49.LinenumberRanges'. -/
def linenumberRangesCard : Claim7 := { stood := { row := linenumberRangesRow, standIns := [], harness := (true, "4f42a60b6635ff51ad48f97d81ab0b60d9db825461a3218943985012fe89ee4b"), looks := true }, kinds := [], alts := [], laidByText := true, laidKinds := [.data, .data, .data, .sentinel, .sentinel], laidTests := true, laidLooks := .later }
def LinenumberRangesCardSaid : Prop := Claim7.holds Tryd.pinned (.plain (OpenSpec.ofChange linenumberRangesSpec)) linenumberRangesCard

/-- THE TIED CARD OF 'apographlaw49.LinenumberOthers'. -/
def linenumberOthersCard : Claim7 := { stood := { row := linenumberOthersRow, standIns := [], harness := (true, "4f42a60b6635ff51ad48f97d81ab0b60d9db825461a3218943985012fe89ee4b"), looks := true }, kinds := [], alts := [], laidByText := true, laidKinds := [.data, .data, .data, .sentinel, .sentinel], laidTests := true, laidLooks := .later }
def LinenumberOthersCardSaid : Prop := Claim7.holds Tryd.pinned (.plain (OpenSpec.ofChange linenumberOthersSpec)) linenumberOthersCard

/-- THE TIED CARD OF 'apographlaw49.LinenumberIn'. -/
def linenumberInCard : Claim7 := { stood := { row := linenumberInRow, standIns := [], harness := (true, "4f42a60b6635ff51ad48f97d81ab0b60d9db825461a3218943985012fe89ee4b"), looks := true }, kinds := [], alts := [], laidByText := true, laidKinds := [.data, .data, .data], laidTests := true, laidLooks := .later }
def LinenumberInCardSaid : Prop := Claim7.holds Tryd.pinned (.plain (OpenSpec.ofChange linenumberInSpec)) linenumberInCard

/-- THE SECOND FORM's CARD OF 'apographlaw49.LinenumberMarginal'. -/
def linenumberMarginalUptoCard : Claim7 := { stood := { row := linenumberMarginalUptoRow, standIns := [], harness := (true, "4f42a60b6635ff51ad48f97d81ab0b60d9db825461a3218943985012fe89ee4b"), looks := true }, kinds := [], alts := [], laidByText := true, laidKinds := [.data, .data, .data], laidTests := true, laidLooks := .later }
def LinenumberMarginalUptoCardSaid : Prop := Claim7.holds Tryd.pinned (.plain (OpenSpec.upto linenumberMarginalSpec)) linenumberMarginalUptoCard

/-- THE SECOND FORM's CARD OF 'apographlaw49.LinenumberWords'. -/
def linenumberWordsUptoCard : Claim7 := { stood := { row := linenumberWordsUptoRow, standIns := [], harness := (true, "4f42a60b6635ff51ad48f97d81ab0b60d9db825461a3218943985012fe89ee4b"), looks := true }, kinds := [], alts := [], laidByText := true, laidKinds := [.data, .data, .data], laidTests := true, laidLooks := .later }
def LinenumberWordsUptoCardSaid : Prop := Claim7.holds Tryd.pinned (.plain (OpenSpec.upto linenumberWordsSpec)) linenumberWordsUptoCard

/-- THE SECOND FORM's CARD OF 'apographlaw49.LinenumberResolves'. -/
def linenumberResolvesUptoCard : Claim7 := { stood := { row := linenumberResolvesUptoRow, standIns := [], harness := (true, "4f42a60b6635ff51ad48f97d81ab0b60d9db825461a3218943985012fe89ee4b"), looks := true }, kinds := [], alts := [], laidByText := true, laidKinds := [.data, .data, .data], laidTests := true, laidLooks := .later }
def LinenumberResolvesUptoCardSaid : Prop := Claim7.holds Tryd.pinned (.plain (OpenSpec.upto linenumberResolvesSpec)) linenumberResolvesUptoCard

/-- THE SECOND FORM's CARD OF 'apographlaw49.LinenumberRanges'. -/
def linenumberRangesUptoCard : Claim7 := { stood := { row := linenumberRangesUptoRow, standIns := [], harness := (true, "4f42a60b6635ff51ad48f97d81ab0b60d9db825461a3218943985012fe89ee4b"), looks := true }, kinds := [], alts := [], laidByText := true, laidKinds := [.data, .data, .data, .sentinel, .sentinel], laidTests := true, laidLooks := .later }
def LinenumberRangesUptoCardSaid : Prop := Claim7.holds Tryd.pinned (.plain (OpenSpec.upto linenumberRangesSpec)) linenumberRangesUptoCard

/-- THE SECOND FORM's CARD OF 'apographlaw49.LinenumberOthers'. -/
def linenumberOthersUptoCard : Claim7 := { stood := { row := linenumberOthersUptoRow, standIns := [], harness := (true, "4f42a60b6635ff51ad48f97d81ab0b60d9db825461a3218943985012fe89ee4b"), looks := true }, kinds := [], alts := [], laidByText := true, laidKinds := [.data, .data, .data, .sentinel, .sentinel], laidTests := true, laidLooks := .later }
def LinenumberOthersUptoCardSaid : Prop := Claim7.holds Tryd.pinned (.plain (OpenSpec.upto linenumberOthersSpec)) linenumberOthersUptoCard

/-- THE SECOND FORM's CARD OF 'apographlaw49.LinenumberIn'. -/
def linenumberInUptoCard : Claim7 := { stood := { row := linenumberInUptoRow, standIns := [], harness := (true, "4f42a60b6635ff51ad48f97d81ab0b60d9db825461a3218943985012fe89ee4b"), looks := true }, kinds := [], alts := [], laidByText := true, laidKinds := [.data, .data, .data], laidTests := true, laidLooks := .later }
def LinenumberInUptoCardSaid : Prop := Claim7.holds Tryd.pinned (.plain (OpenSpec.upto linenumberInSpec)) linenumberInUptoCard
end Rows
end Go.Proofs.YtjijgafefdolkaaDoor
