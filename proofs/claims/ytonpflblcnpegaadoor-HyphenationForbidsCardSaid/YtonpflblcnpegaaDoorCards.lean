/-
  DERIVED. GIVEN WITH THE SEED: THE CARDS: each row of YtonpflblcnpegaaDoorRows.lean that lists a variable, with what it lists TIED to the program's text (the seventh form; the later family's looks); each row that meets fmt, with fmt's text TOLD by the authors' own Lean function (tested against real Go, not proved from fmt's source: count such statements apart). THE CARD IS WHAT COUNTS. Prove the row's statement (the work); the ties are given (YtonpflblcnpegaaDoorTie.lean); close each card by the builder's one call (the guide's Derived/Test/ToyasCard.lean, 'card_holds'). Laid BY PROGRAM, IN A SANDBOX (cutbox-door.mjs). By AI agents, Wed Nov 11 2026. No macro, syntax, notation, axiom, sorry.
-/
import Derived.Test.YtonpflblcnpegaaDoorRows
import GoSem.ClaimSeven
namespace Go.Proofs.YtonpflblcnpegaaDoor
namespace Rows

/-- THE TIED CARD OF 'apographlaw47.HyphenationLevels'. -/
def hyphenationLevelsCard : Claim7 := { stood := { row := hyphenationLevelsRow, standIns := [], harness := (true, "39023698a723358a6c5fea6281d9c09585bafc29f11b9acfbabdf349a443be6d"), looks := false }, kinds := [], alts := [], laidByText := true, laidKinds := [.data, .pinned], laidTests := true, laidLooks := .later }
def HyphenationLevelsCardSaid : Prop := Claim7.holds Tryd.pinned (.plain (OpenSpec.ofChange hyphenationLevelsSpec)) hyphenationLevelsCard

/-- THE TIED CARD OF 'apographlaw47.HyphenationFolds'. -/
def hyphenationFoldsCard : Claim7 := { stood := { row := hyphenationFoldsRow, standIns := [], harness := (true, "39023698a723358a6c5fea6281d9c09585bafc29f11b9acfbabdf349a443be6d"), looks := false }, kinds := [], alts := [], laidByText := true, laidKinds := [.data, .pinned], laidTests := true, laidLooks := .later }
def HyphenationFoldsCardSaid : Prop := Claim7.holds Tryd.pinned (.plain (OpenSpec.ofChange hyphenationFoldsSpec)) hyphenationFoldsCard

/-- THE TIED CARD OF 'apographlaw47.HyphenationTexts'. -/
def hyphenationTextsCard : Claim7 := { stood := { row := hyphenationTextsRow, standIns := [], harness := (true, "39023698a723358a6c5fea6281d9c09585bafc29f11b9acfbabdf349a443be6d"), looks := false }, kinds := [], alts := [], laidByText := true, laidKinds := [.data, .pinned], laidTests := true, laidLooks := .later }
def HyphenationTextsCardSaid : Prop := Claim7.holds Tryd.pinned (.plain (OpenSpec.ofChange hyphenationTextsSpec)) hyphenationTextsCard

/-- THE TIED CARD OF 'apographlaw47.HyphenationBack'. -/
def hyphenationBackCard : Claim7 := { stood := { row := hyphenationBackRow, standIns := [], harness := (true, "39023698a723358a6c5fea6281d9c09585bafc29f11b9acfbabdf349a443be6d"), looks := false }, kinds := [], alts := [], laidByText := true, laidKinds := [.data, .pinned], laidTests := true, laidLooks := .later }
def HyphenationBackCardSaid : Prop := Claim7.holds Tryd.pinned (.plain (OpenSpec.ofChange hyphenationBackSpec)) hyphenationBackCard

/-- THE TIED CARD OF 'apographlaw47.HyphenationWords'. -/
def hyphenationWordsCard : Claim7 := { stood := { row := hyphenationWordsRow, standIns := [], harness := (true, "39023698a723358a6c5fea6281d9c09585bafc29f11b9acfbabdf349a443be6d"), looks := false }, kinds := [], alts := [], laidByText := true, laidKinds := [.data, .pinned], laidTests := true, laidLooks := .later }
def HyphenationWordsCardSaid : Prop := Claim7.holds Tryd.pinned (.plain (OpenSpec.ofChange hyphenationWordsSpec)) hyphenationWordsCard

/-- THE TIED CARD OF 'apographlaw47.HyphenationForbids'. -/
def hyphenationForbidsCard : Claim7 := { stood := { row := hyphenationForbidsRow, standIns := [], harness := (true, "39023698a723358a6c5fea6281d9c09585bafc29f11b9acfbabdf349a443be6d"), looks := false }, kinds := [], alts := [], laidByText := true, laidKinds := [.data, .pinned], laidTests := true, laidLooks := .later }
def HyphenationForbidsCardSaid : Prop := Claim7.holds Tryd.pinned (.plain (OpenSpec.ofChange hyphenationForbidsSpec)) hyphenationForbidsCard

/-- THE TIED CARD OF 'apographlaw47.HyphenationPoints'. -/
def hyphenationPointsCard : Claim7 := { stood := { row := hyphenationPointsRow, standIns := [], harness := (true, "39023698a723358a6c5fea6281d9c09585bafc29f11b9acfbabdf349a443be6d"), looks := false }, kinds := [], alts := [], laidByText := true, laidKinds := [.data, .pinned], laidTests := true, laidLooks := .later }
def HyphenationPointsCardSaid : Prop := Claim7.holds Tryd.pinned (.plain (OpenSpec.ofChange hyphenationPointsSpec)) hyphenationPointsCard

/-- THE TIED CARD OF 'apographlaw47.HyphenationParts'. -/
def hyphenationPartsCard : Claim7 := { stood := { row := hyphenationPartsRow, standIns := [], harness := (true, "39023698a723358a6c5fea6281d9c09585bafc29f11b9acfbabdf349a443be6d"), looks := false }, kinds := [], alts := [], laidByText := true, laidKinds := [.data, .pinned], laidTests := true, laidLooks := .later }
def HyphenationPartsCardSaid : Prop := Claim7.holds Tryd.pinned (.plain (OpenSpec.ofChange hyphenationPartsSpec)) hyphenationPartsCard

/-- THE SECOND FORM's CARD OF 'apographlaw47.HyphenationLevels'. -/
def hyphenationLevelsUptoCard : Claim7 := { stood := { row := hyphenationLevelsUptoRow, standIns := [], harness := (true, "39023698a723358a6c5fea6281d9c09585bafc29f11b9acfbabdf349a443be6d"), looks := false }, kinds := [], alts := [], laidByText := true, laidKinds := [.data, .pinned], laidTests := true, laidLooks := .later }
def HyphenationLevelsUptoCardSaid : Prop := Claim7.holds Tryd.pinned (.plain (OpenSpec.upto hyphenationLevelsSpec)) hyphenationLevelsUptoCard

/-- THE SECOND FORM's CARD OF 'apographlaw47.HyphenationFolds'. -/
def hyphenationFoldsUptoCard : Claim7 := { stood := { row := hyphenationFoldsUptoRow, standIns := [], harness := (true, "39023698a723358a6c5fea6281d9c09585bafc29f11b9acfbabdf349a443be6d"), looks := false }, kinds := [], alts := [], laidByText := true, laidKinds := [.data, .pinned], laidTests := true, laidLooks := .later }
def HyphenationFoldsUptoCardSaid : Prop := Claim7.holds Tryd.pinned (.plain (OpenSpec.upto hyphenationFoldsSpec)) hyphenationFoldsUptoCard

/-- THE SECOND FORM's CARD OF 'apographlaw47.HyphenationTexts'. -/
def hyphenationTextsUptoCard : Claim7 := { stood := { row := hyphenationTextsUptoRow, standIns := [], harness := (true, "39023698a723358a6c5fea6281d9c09585bafc29f11b9acfbabdf349a443be6d"), looks := false }, kinds := [], alts := [], laidByText := true, laidKinds := [.data, .pinned], laidTests := true, laidLooks := .later }
def HyphenationTextsUptoCardSaid : Prop := Claim7.holds Tryd.pinned (.plain (OpenSpec.upto hyphenationTextsSpec)) hyphenationTextsUptoCard

/-- THE SECOND FORM's CARD OF 'apographlaw47.HyphenationBack'. -/
def hyphenationBackUptoCard : Claim7 := { stood := { row := hyphenationBackUptoRow, standIns := [], harness := (true, "39023698a723358a6c5fea6281d9c09585bafc29f11b9acfbabdf349a443be6d"), looks := false }, kinds := [], alts := [], laidByText := true, laidKinds := [.data, .pinned], laidTests := true, laidLooks := .later }
def HyphenationBackUptoCardSaid : Prop := Claim7.holds Tryd.pinned (.plain (OpenSpec.upto hyphenationBackSpec)) hyphenationBackUptoCard

/-- THE SECOND FORM's CARD OF 'apographlaw47.HyphenationWords'. -/
def hyphenationWordsUptoCard : Claim7 := { stood := { row := hyphenationWordsUptoRow, standIns := [], harness := (true, "39023698a723358a6c5fea6281d9c09585bafc29f11b9acfbabdf349a443be6d"), looks := false }, kinds := [], alts := [], laidByText := true, laidKinds := [.data, .pinned], laidTests := true, laidLooks := .later }
def HyphenationWordsUptoCardSaid : Prop := Claim7.holds Tryd.pinned (.plain (OpenSpec.upto hyphenationWordsSpec)) hyphenationWordsUptoCard

/-- THE SECOND FORM's CARD OF 'apographlaw47.HyphenationForbids'. -/
def hyphenationForbidsUptoCard : Claim7 := { stood := { row := hyphenationForbidsUptoRow, standIns := [], harness := (true, "39023698a723358a6c5fea6281d9c09585bafc29f11b9acfbabdf349a443be6d"), looks := false }, kinds := [], alts := [], laidByText := true, laidKinds := [.data, .pinned], laidTests := true, laidLooks := .later }
def HyphenationForbidsUptoCardSaid : Prop := Claim7.holds Tryd.pinned (.plain (OpenSpec.upto hyphenationForbidsSpec)) hyphenationForbidsUptoCard

/-- THE SECOND FORM's CARD OF 'apographlaw47.HyphenationPoints'. -/
def hyphenationPointsUptoCard : Claim7 := { stood := { row := hyphenationPointsUptoRow, standIns := [], harness := (true, "39023698a723358a6c5fea6281d9c09585bafc29f11b9acfbabdf349a443be6d"), looks := false }, kinds := [], alts := [], laidByText := true, laidKinds := [.data, .pinned], laidTests := true, laidLooks := .later }
def HyphenationPointsUptoCardSaid : Prop := Claim7.holds Tryd.pinned (.plain (OpenSpec.upto hyphenationPointsSpec)) hyphenationPointsUptoCard

/-- THE SECOND FORM's CARD OF 'apographlaw47.HyphenationParts'. -/
def hyphenationPartsUptoCard : Claim7 := { stood := { row := hyphenationPartsUptoRow, standIns := [], harness := (true, "39023698a723358a6c5fea6281d9c09585bafc29f11b9acfbabdf349a443be6d"), looks := false }, kinds := [], alts := [], laidByText := true, laidKinds := [.data, .pinned], laidTests := true, laidLooks := .later }
def HyphenationPartsUptoCardSaid : Prop := Claim7.holds Tryd.pinned (.plain (OpenSpec.upto hyphenationPartsSpec)) hyphenationPartsUptoCard
end Rows
end Go.Proofs.YtonpflblcnpegaaDoor
