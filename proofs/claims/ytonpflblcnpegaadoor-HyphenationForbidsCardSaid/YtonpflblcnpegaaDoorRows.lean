/-
  NARROWER THAN 'FOR EVERY INPUT', by the rows' own cells (each row's printed sentence says how): HyphenationLevels: laid · HyphenationFolds: laid · HyphenationTexts: laid · HyphenationBack: laid · HyphenationWords: laid · HyphenationForbids: laid · HyphenationPoints: laid · HyphenationParts: laid.
  DERIVED. THE GIVEN ROWS OF THIS SEAT. 8 by the template 'for every input the law returns true; each argument reads behind the call as it read before'; 0 by the template 'total and deterministic' (their statements: YtonpflblcnpegaaDoorTotals.lean).
  GIVEN WITH THE SEED: the statements are not yours to turn. If you find one false, say at which input.
  Laid BY PROGRAM, IN A SANDBOX (cutbox-rows.mjs): the forced cells as the released guide's own fill.sh prints them over the translation 973e6750deeef847… (all of the seat's roots in one cut). By AI agents, Wed Nov 11 2026. No macro, syntax, notation, axiom, sorry.
-/
import Derived.Test.YtonpflblcnpegaaDoorChecked
import GoSem.PinnedTables
import GoSem.Claim
import GoSem.ClaimJoined
import GoSem.ClaimMapViews
import Derived.JoinedTies
import Derived.KernelRfl
namespace Go.Proofs.YtonpflblcnpegaaDoor
/- THE CELL 'sum', in the pinned program and in every row, IS THE sha256 OF THE DUMP (.gsa) THAT YtonpflblcnpegaaDoorProg.lean LOADS. Nothing in Lean hashes anything: it is a label: what it is worth is what the hold of that sum in a sandbox is worth. -/
noncomputable def Tryd.pinned : Pinned := { name := "ytonpflblcnpegaadoor", sum := "973e6750deeef847b310e9a11877b385e000253f31cf05403e2cfebecc10bb96", checked := Tryd.checked }
namespace Rows
def none {H : Type} : Left H := { results := [], args := [] }

/- WHAT THE LISTED PACKAGE-LEVEL VARIABLES READ AS WHEN THE CALL BEGINS. Each datum BY PROGRAM (the guide's laid-datum.mjs) off the statement by which the dump's own 'gosem.cut.vars' lays the variable. In a bare row this is a premise. The card (YtonpflblcnpegaaDoorCards.lean) ties it to the program's text. -/
def laid_unicode_utf8_acceptRanges {H : Type} : DataW H := .agg [.agg [.lit (.int .u8 128), .lit (.int .u8 191)], .agg [.lit (.int .u8 160), .lit (.int .u8 191)], .agg [.lit (.int .u8 128), .lit (.int .u8 159)], .agg [.lit (.int .u8 144), .lit (.int .u8 191)], .agg [.lit (.int .u8 128), .lit (.int .u8 143)], .agg [.lit (.int .u8 0), .lit (.int .u8 0)], .agg [.lit (.int .u8 0), .lit (.int .u8 0)], .agg [.lit (.int .u8 0), .lit (.int .u8 0)], .agg [.lit (.int .u8 0), .lit (.int .u8 0)], .agg [.lit (.int .u8 0), .lit (.int .u8 0)], .agg [.lit (.int .u8 0), .lit (.int .u8 0)], .agg [.lit (.int .u8 0), .lit (.int .u8 0)], .agg [.lit (.int .u8 0), .lit (.int .u8 0)], .agg [.lit (.int .u8 0), .lit (.int .u8 0)], .agg [.lit (.int .u8 0), .lit (.int .u8 0)], .agg [.lit (.int .u8 0), .lit (.int .u8 0)]]
/-- One of Go's own tables, pinned by name: the form's constant. -/
def laid_unicode_utf8_first : DataW Unit := Go.Pinned.utf8First

/-- 'apographlaw47.HyphenationLevels': WHATEVER THE INPUT: true; the input reads as it did. -/
def hyphenationLevelsSpec : ChangeSpec := { name := "hyphenationLevels", fn := fun _ => fun
  | [d1, d2, d3] => { results := [.lit (.bool true)], args := [d1, d2, d3] }
  | _ => none }
def hyphenationLevelsRow : OpenClaim := { program := "ytonpflblcnpegaadoor", sum := "973e6750deeef847b310e9a11877b385e000253f31cf05403e2cfebecc10bb96", func := "apograph/apographlaw47.HyphenationLevels", spec := "hyphenationLevels", inPlace := ["internal/bytealg.IndexByteString", "internal/bytealg.CountString", "internal/bytealg.IndexString"], unfollowed := true, recurses := true, named := ["unicode/utf8.first", "unicode/utf8.acceptRanges", "internal/bytealg.MaxLen"], apart := false, laid := [("unicode/utf8.acceptRanges", laid_unicode_utf8_acceptRanges), ("unicode/utf8.first", laid_unicode_utf8_first)] }
def HyphenationLevelsSaid : Prop := hyphenationLevelsRow.holds Tryd.pinned (OpenSpec.ofChange hyphenationLevelsSpec)

/-- ITS FALSE NEIGHBOUR: 'it returns false'. Refute it at one input. -/
def hyphenationLevelsWrong : ChangeSpec := { name := "hyphenationLevels", fn := fun _ => fun
  | [d1, d2, d3] => { results := [.lit (.bool false)], args := [d1, d2, d3] }
  | _ => none }
def HyphenationLevelsWrongFalsely : Prop := hyphenationLevelsRow.holds Tryd.pinned (OpenSpec.ofChange hyphenationLevelsWrong)

/-- 'apographlaw47.HyphenationFolds': WHATEVER THE INPUT: true; the input reads as it did. -/
def hyphenationFoldsSpec : ChangeSpec := { name := "hyphenationFolds", fn := fun _ => fun
  | [d1, d2] => { results := [.lit (.bool true)], args := [d1, d2] }
  | _ => none }
def hyphenationFoldsRow : OpenClaim := { program := "ytonpflblcnpegaadoor", sum := "973e6750deeef847b310e9a11877b385e000253f31cf05403e2cfebecc10bb96", func := "apograph/apographlaw47.HyphenationFolds", spec := "hyphenationFolds", inPlace := ["internal/bytealg.IndexByteString", "internal/bytealg.CountString", "internal/bytealg.IndexString"], unfollowed := true, recurses := true, named := ["unicode/utf8.first", "unicode/utf8.acceptRanges", "internal/bytealg.MaxLen"], apart := false, laid := [("unicode/utf8.acceptRanges", laid_unicode_utf8_acceptRanges), ("unicode/utf8.first", laid_unicode_utf8_first)] }
def HyphenationFoldsSaid : Prop := hyphenationFoldsRow.holds Tryd.pinned (OpenSpec.ofChange hyphenationFoldsSpec)

/-- ITS FALSE NEIGHBOUR: 'it returns false'. Refute it at one input. -/
def hyphenationFoldsWrong : ChangeSpec := { name := "hyphenationFolds", fn := fun _ => fun
  | [d1, d2] => { results := [.lit (.bool false)], args := [d1, d2] }
  | _ => none }
def HyphenationFoldsWrongFalsely : Prop := hyphenationFoldsRow.holds Tryd.pinned (OpenSpec.ofChange hyphenationFoldsWrong)

/-- 'apographlaw47.HyphenationTexts': WHATEVER THE INPUT: true; the input reads as it did. -/
def hyphenationTextsSpec : ChangeSpec := { name := "hyphenationTexts", fn := fun _ => fun
  | [d1, d2] => { results := [.lit (.bool true)], args := [d1, d2] }
  | _ => none }
def hyphenationTextsRow : OpenClaim := { program := "ytonpflblcnpegaadoor", sum := "973e6750deeef847b310e9a11877b385e000253f31cf05403e2cfebecc10bb96", func := "apograph/apographlaw47.HyphenationTexts", spec := "hyphenationTexts", inPlace := ["internal/bytealg.CountString", "internal/bytealg.IndexByteString", "internal/bytealg.IndexString", "internal/abi.NoEscape"], unfollowed := true, recurses := true, named := ["unicode/utf8.first", "unicode/utf8.acceptRanges", "internal/bytealg.MaxLen"], apart := false, laid := [("unicode/utf8.acceptRanges", laid_unicode_utf8_acceptRanges), ("unicode/utf8.first", laid_unicode_utf8_first)] }
def HyphenationTextsSaid : Prop := hyphenationTextsRow.holds Tryd.pinned (OpenSpec.ofChange hyphenationTextsSpec)

/-- ITS FALSE NEIGHBOUR: 'it returns false'. Refute it at one input. -/
def hyphenationTextsWrong : ChangeSpec := { name := "hyphenationTexts", fn := fun _ => fun
  | [d1, d2] => { results := [.lit (.bool false)], args := [d1, d2] }
  | _ => none }
def HyphenationTextsWrongFalsely : Prop := hyphenationTextsRow.holds Tryd.pinned (OpenSpec.ofChange hyphenationTextsWrong)

/-- 'apographlaw47.HyphenationBack': WHATEVER THE INPUT: true; the input reads as it did. -/
def hyphenationBackSpec : ChangeSpec := { name := "hyphenationBack", fn := fun _ => fun
  | [d1, d2] => { results := [.lit (.bool true)], args := [d1, d2] }
  | _ => none }
def hyphenationBackRow : OpenClaim := { program := "ytonpflblcnpegaadoor", sum := "973e6750deeef847b310e9a11877b385e000253f31cf05403e2cfebecc10bb96", func := "apograph/apographlaw47.HyphenationBack", spec := "hyphenationBack", inPlace := ["internal/bytealg.IndexByteString", "internal/bytealg.CountString", "internal/bytealg.IndexString", "internal/abi.NoEscape"], unfollowed := true, recurses := true, named := ["unicode/utf8.first", "unicode/utf8.acceptRanges", "internal/bytealg.MaxLen"], apart := false, laid := [("unicode/utf8.acceptRanges", laid_unicode_utf8_acceptRanges), ("unicode/utf8.first", laid_unicode_utf8_first)] }
def HyphenationBackSaid : Prop := hyphenationBackRow.holds Tryd.pinned (OpenSpec.ofChange hyphenationBackSpec)

/-- ITS FALSE NEIGHBOUR: 'it returns false'. Refute it at one input. -/
def hyphenationBackWrong : ChangeSpec := { name := "hyphenationBack", fn := fun _ => fun
  | [d1, d2] => { results := [.lit (.bool false)], args := [d1, d2] }
  | _ => none }
def HyphenationBackWrongFalsely : Prop := hyphenationBackRow.holds Tryd.pinned (OpenSpec.ofChange hyphenationBackWrong)

/-- 'apographlaw47.HyphenationWords': WHATEVER THE INPUT: true; the input reads as it did. -/
def hyphenationWordsSpec : ChangeSpec := { name := "hyphenationWords", fn := fun _ => fun
  | [d1, d2] => { results := [.lit (.bool true)], args := [d1, d2] }
  | _ => none }
def hyphenationWordsRow : OpenClaim := { program := "ytonpflblcnpegaadoor", sum := "973e6750deeef847b310e9a11877b385e000253f31cf05403e2cfebecc10bb96", func := "apograph/apographlaw47.HyphenationWords", spec := "hyphenationWords", inPlace := ["internal/bytealg.CountString", "internal/bytealg.IndexByteString", "internal/bytealg.IndexString"], unfollowed := true, recurses := true, named := ["unicode/utf8.first", "unicode/utf8.acceptRanges", "internal/bytealg.MaxLen"], apart := false, laid := [("unicode/utf8.acceptRanges", laid_unicode_utf8_acceptRanges), ("unicode/utf8.first", laid_unicode_utf8_first)] }
def HyphenationWordsSaid : Prop := hyphenationWordsRow.holds Tryd.pinned (OpenSpec.ofChange hyphenationWordsSpec)

/-- ITS FALSE NEIGHBOUR: 'it returns false'. Refute it at one input. -/
def hyphenationWordsWrong : ChangeSpec := { name := "hyphenationWords", fn := fun _ => fun
  | [d1, d2] => { results := [.lit (.bool false)], args := [d1, d2] }
  | _ => none }
def HyphenationWordsWrongFalsely : Prop := hyphenationWordsRow.holds Tryd.pinned (OpenSpec.ofChange hyphenationWordsWrong)

/-- 'apographlaw47.HyphenationForbids': WHATEVER THE INPUT: true; the input reads as it did. -/
def hyphenationForbidsSpec : ChangeSpec := { name := "hyphenationForbids", fn := fun _ => fun
  | [d1, d2, d3] => { results := [.lit (.bool true)], args := [d1, d2, d3] }
  | _ => none }
def hyphenationForbidsRow : OpenClaim := { program := "ytonpflblcnpegaadoor", sum := "973e6750deeef847b310e9a11877b385e000253f31cf05403e2cfebecc10bb96", func := "apograph/apographlaw47.HyphenationForbids", spec := "hyphenationForbids", inPlace := ["internal/bytealg.IndexByteString", "internal/bytealg.CountString", "internal/bytealg.IndexString"], unfollowed := true, recurses := true, named := ["unicode/utf8.first", "unicode/utf8.acceptRanges", "internal/bytealg.MaxLen"], apart := false, laid := [("unicode/utf8.acceptRanges", laid_unicode_utf8_acceptRanges), ("unicode/utf8.first", laid_unicode_utf8_first)] }
def HyphenationForbidsSaid : Prop := hyphenationForbidsRow.holds Tryd.pinned (OpenSpec.ofChange hyphenationForbidsSpec)

/-- ITS FALSE NEIGHBOUR: 'it returns false'. Refute it at one input. -/
def hyphenationForbidsWrong : ChangeSpec := { name := "hyphenationForbids", fn := fun _ => fun
  | [d1, d2, d3] => { results := [.lit (.bool false)], args := [d1, d2, d3] }
  | _ => none }
def HyphenationForbidsWrongFalsely : Prop := hyphenationForbidsRow.holds Tryd.pinned (OpenSpec.ofChange hyphenationForbidsWrong)

/-- 'apographlaw47.HyphenationPoints': WHATEVER THE INPUT: true; the input reads as it did. -/
def hyphenationPointsSpec : ChangeSpec := { name := "hyphenationPoints", fn := fun _ => fun
  | [d1, d2] => { results := [.lit (.bool true)], args := [d1, d2] }
  | _ => none }
def hyphenationPointsRow : OpenClaim := { program := "ytonpflblcnpegaadoor", sum := "973e6750deeef847b310e9a11877b385e000253f31cf05403e2cfebecc10bb96", func := "apograph/apographlaw47.HyphenationPoints", spec := "hyphenationPoints", inPlace := ["internal/bytealg.IndexByteString", "internal/bytealg.CountString", "internal/bytealg.IndexString", "internal/abi.NoEscape", "internal/bytealg.MakeNoZero"], unfollowed := true, recurses := true, named := ["unicode/utf8.first", "unicode/utf8.acceptRanges", "internal/bytealg.MaxLen"], apart := false, laid := [("unicode/utf8.acceptRanges", laid_unicode_utf8_acceptRanges), ("unicode/utf8.first", laid_unicode_utf8_first)] }
def HyphenationPointsSaid : Prop := hyphenationPointsRow.holds Tryd.pinned (OpenSpec.ofChange hyphenationPointsSpec)

/-- ITS FALSE NEIGHBOUR: 'it returns false'. Refute it at one input. -/
def hyphenationPointsWrong : ChangeSpec := { name := "hyphenationPoints", fn := fun _ => fun
  | [d1, d2] => { results := [.lit (.bool false)], args := [d1, d2] }
  | _ => none }
def HyphenationPointsWrongFalsely : Prop := hyphenationPointsRow.holds Tryd.pinned (OpenSpec.ofChange hyphenationPointsWrong)

/-- 'apographlaw47.HyphenationParts': WHATEVER THE INPUT: true; the input reads as it did. -/
def hyphenationPartsSpec : ChangeSpec := { name := "hyphenationParts", fn := fun _ => fun
  | [d1, d2] => { results := [.lit (.bool true)], args := [d1, d2] }
  | _ => none }
def hyphenationPartsRow : OpenClaim := { program := "ytonpflblcnpegaadoor", sum := "973e6750deeef847b310e9a11877b385e000253f31cf05403e2cfebecc10bb96", func := "apograph/apographlaw47.HyphenationParts", spec := "hyphenationParts", inPlace := ["internal/bytealg.IndexByteString", "internal/bytealg.CountString", "internal/bytealg.IndexString", "internal/abi.NoEscape", "internal/bytealg.MakeNoZero"], unfollowed := true, recurses := true, named := ["unicode/utf8.first", "unicode/utf8.acceptRanges", "internal/bytealg.MaxLen"], apart := false, laid := [("unicode/utf8.acceptRanges", laid_unicode_utf8_acceptRanges), ("unicode/utf8.first", laid_unicode_utf8_first)] }
def HyphenationPartsSaid : Prop := hyphenationPartsRow.holds Tryd.pinned (OpenSpec.ofChange hyphenationPartsSpec)

/-- ITS FALSE NEIGHBOUR: 'it returns false'. Refute it at one input. -/
def hyphenationPartsWrong : ChangeSpec := { name := "hyphenationParts", fn := fun _ => fun
  | [d1, d2] => { results := [.lit (.bool false)], args := [d1, d2] }
  | _ => none }
def HyphenationPartsWrongFalsely : Prop := hyphenationPartsRow.holds Tryd.pinned (OpenSpec.ofChange hyphenationPartsWrong)

/- THE SECOND FORM. 'bulk': how many values and letters a reading holds, each counted each time it is reached (what is shared counts as often as it is met; a slice's spare places count too). A statement '..UptoSaid' is the law's where the arguments, and the package variables that the reading takes, are together of bulk at most 1048576: NARROWER than '..Said'. Prove '..Said' where nothing that the law and all that it calls make is longer than what came in: it says more and counts as full. Else prove '..UptoSaid'. A law counts once. -/
mutual
def uptoBulk {H : Type} : DataW H → Nat
  | .lit (.string bytes) => bytes.length + 1
  | .lit _ => 1
  | .nil => 1
  | .ptr d => uptoBulk d + 1
  | .slice elems spare => uptoBulkAll elems + uptoBulkAll spare + 1
  | .agg parts => uptoBulkAll parts + 1
  | .iface _ d => uptoBulk d + 1
  | .map entries => uptoBulkEntries entries + 1
  | .held _ => 1
def uptoBulkAll {H : Type} : List (DataW H) → Nat
  | [] => 0
  | d :: r => uptoBulk d + uptoBulkAll r
def uptoBulkEntries {H : Type} : List (Lit × DataW H) → Nat
  | [] => 0
  | x :: r => uptoBulkEntry x + uptoBulkEntries r
def uptoBulkEntry {H : Type} : Lit × DataW H → Nat
  | (.string bytes, d) => bytes.length + uptoBulk d + 1
  | (_, d) => uptoBulk d + 1
 end
def uptoSmall : (H : Type) → List (DataW H) → Bool := fun _ ds => decide (uptoBulkAll ds ≤ 1048576)
def OpenSpec.upto (s : _root_.Go.ChangeSpec) : _root_.Go.OpenSpec := { _root_.Go.OpenSpec.ofChange s with cond := some uptoSmall }

/-- 'apographlaw47.HyphenationLevels', WHERE WHAT IT READS IS OF BULK AT MOST 1048576: true; the input reads as it did. -/
def hyphenationLevelsUptoRow : OpenClaim := { program := "ytonpflblcnpegaadoor", sum := "973e6750deeef847b310e9a11877b385e000253f31cf05403e2cfebecc10bb96", func := "apograph/apographlaw47.HyphenationLevels", spec := "hyphenationLevels", inPlace := ["internal/bytealg.IndexByteString", "internal/bytealg.CountString", "internal/bytealg.IndexString"], unfollowed := true, recurses := true, named := ["unicode/utf8.first", "unicode/utf8.acceptRanges", "internal/bytealg.MaxLen"], apart := false, laid := [("unicode/utf8.acceptRanges", laid_unicode_utf8_acceptRanges), ("unicode/utf8.first", laid_unicode_utf8_first)], narrowed := true }
def HyphenationLevelsUptoSaid : Prop := hyphenationLevelsUptoRow.holds Tryd.pinned (OpenSpec.upto hyphenationLevelsSpec)

/-- 'apographlaw47.HyphenationFolds', WHERE WHAT IT READS IS OF BULK AT MOST 1048576: true; the input reads as it did. -/
def hyphenationFoldsUptoRow : OpenClaim := { program := "ytonpflblcnpegaadoor", sum := "973e6750deeef847b310e9a11877b385e000253f31cf05403e2cfebecc10bb96", func := "apograph/apographlaw47.HyphenationFolds", spec := "hyphenationFolds", inPlace := ["internal/bytealg.IndexByteString", "internal/bytealg.CountString", "internal/bytealg.IndexString"], unfollowed := true, recurses := true, named := ["unicode/utf8.first", "unicode/utf8.acceptRanges", "internal/bytealg.MaxLen"], apart := false, laid := [("unicode/utf8.acceptRanges", laid_unicode_utf8_acceptRanges), ("unicode/utf8.first", laid_unicode_utf8_first)], narrowed := true }
def HyphenationFoldsUptoSaid : Prop := hyphenationFoldsUptoRow.holds Tryd.pinned (OpenSpec.upto hyphenationFoldsSpec)

/-- 'apographlaw47.HyphenationTexts', WHERE WHAT IT READS IS OF BULK AT MOST 1048576: true; the input reads as it did. -/
def hyphenationTextsUptoRow : OpenClaim := { program := "ytonpflblcnpegaadoor", sum := "973e6750deeef847b310e9a11877b385e000253f31cf05403e2cfebecc10bb96", func := "apograph/apographlaw47.HyphenationTexts", spec := "hyphenationTexts", inPlace := ["internal/bytealg.CountString", "internal/bytealg.IndexByteString", "internal/bytealg.IndexString", "internal/abi.NoEscape"], unfollowed := true, recurses := true, named := ["unicode/utf8.first", "unicode/utf8.acceptRanges", "internal/bytealg.MaxLen"], apart := false, laid := [("unicode/utf8.acceptRanges", laid_unicode_utf8_acceptRanges), ("unicode/utf8.first", laid_unicode_utf8_first)], narrowed := true }
def HyphenationTextsUptoSaid : Prop := hyphenationTextsUptoRow.holds Tryd.pinned (OpenSpec.upto hyphenationTextsSpec)

/-- 'apographlaw47.HyphenationBack', WHERE WHAT IT READS IS OF BULK AT MOST 1048576: true; the input reads as it did. -/
def hyphenationBackUptoRow : OpenClaim := { program := "ytonpflblcnpegaadoor", sum := "973e6750deeef847b310e9a11877b385e000253f31cf05403e2cfebecc10bb96", func := "apograph/apographlaw47.HyphenationBack", spec := "hyphenationBack", inPlace := ["internal/bytealg.IndexByteString", "internal/bytealg.CountString", "internal/bytealg.IndexString", "internal/abi.NoEscape"], unfollowed := true, recurses := true, named := ["unicode/utf8.first", "unicode/utf8.acceptRanges", "internal/bytealg.MaxLen"], apart := false, laid := [("unicode/utf8.acceptRanges", laid_unicode_utf8_acceptRanges), ("unicode/utf8.first", laid_unicode_utf8_first)], narrowed := true }
def HyphenationBackUptoSaid : Prop := hyphenationBackUptoRow.holds Tryd.pinned (OpenSpec.upto hyphenationBackSpec)

/-- 'apographlaw47.HyphenationWords', WHERE WHAT IT READS IS OF BULK AT MOST 1048576: true; the input reads as it did. -/
def hyphenationWordsUptoRow : OpenClaim := { program := "ytonpflblcnpegaadoor", sum := "973e6750deeef847b310e9a11877b385e000253f31cf05403e2cfebecc10bb96", func := "apograph/apographlaw47.HyphenationWords", spec := "hyphenationWords", inPlace := ["internal/bytealg.CountString", "internal/bytealg.IndexByteString", "internal/bytealg.IndexString"], unfollowed := true, recurses := true, named := ["unicode/utf8.first", "unicode/utf8.acceptRanges", "internal/bytealg.MaxLen"], apart := false, laid := [("unicode/utf8.acceptRanges", laid_unicode_utf8_acceptRanges), ("unicode/utf8.first", laid_unicode_utf8_first)], narrowed := true }
def HyphenationWordsUptoSaid : Prop := hyphenationWordsUptoRow.holds Tryd.pinned (OpenSpec.upto hyphenationWordsSpec)

/-- 'apographlaw47.HyphenationForbids', WHERE WHAT IT READS IS OF BULK AT MOST 1048576: true; the input reads as it did. -/
def hyphenationForbidsUptoRow : OpenClaim := { program := "ytonpflblcnpegaadoor", sum := "973e6750deeef847b310e9a11877b385e000253f31cf05403e2cfebecc10bb96", func := "apograph/apographlaw47.HyphenationForbids", spec := "hyphenationForbids", inPlace := ["internal/bytealg.IndexByteString", "internal/bytealg.CountString", "internal/bytealg.IndexString"], unfollowed := true, recurses := true, named := ["unicode/utf8.first", "unicode/utf8.acceptRanges", "internal/bytealg.MaxLen"], apart := false, laid := [("unicode/utf8.acceptRanges", laid_unicode_utf8_acceptRanges), ("unicode/utf8.first", laid_unicode_utf8_first)], narrowed := true }
def HyphenationForbidsUptoSaid : Prop := hyphenationForbidsUptoRow.holds Tryd.pinned (OpenSpec.upto hyphenationForbidsSpec)

/-- 'apographlaw47.HyphenationPoints', WHERE WHAT IT READS IS OF BULK AT MOST 1048576: true; the input reads as it did. -/
def hyphenationPointsUptoRow : OpenClaim := { program := "ytonpflblcnpegaadoor", sum := "973e6750deeef847b310e9a11877b385e000253f31cf05403e2cfebecc10bb96", func := "apograph/apographlaw47.HyphenationPoints", spec := "hyphenationPoints", inPlace := ["internal/bytealg.IndexByteString", "internal/bytealg.CountString", "internal/bytealg.IndexString", "internal/abi.NoEscape", "internal/bytealg.MakeNoZero"], unfollowed := true, recurses := true, named := ["unicode/utf8.first", "unicode/utf8.acceptRanges", "internal/bytealg.MaxLen"], apart := false, laid := [("unicode/utf8.acceptRanges", laid_unicode_utf8_acceptRanges), ("unicode/utf8.first", laid_unicode_utf8_first)], narrowed := true }
def HyphenationPointsUptoSaid : Prop := hyphenationPointsUptoRow.holds Tryd.pinned (OpenSpec.upto hyphenationPointsSpec)

/-- 'apographlaw47.HyphenationParts', WHERE WHAT IT READS IS OF BULK AT MOST 1048576: true; the input reads as it did. -/
def hyphenationPartsUptoRow : OpenClaim := { program := "ytonpflblcnpegaadoor", sum := "973e6750deeef847b310e9a11877b385e000253f31cf05403e2cfebecc10bb96", func := "apograph/apographlaw47.HyphenationParts", spec := "hyphenationParts", inPlace := ["internal/bytealg.IndexByteString", "internal/bytealg.CountString", "internal/bytealg.IndexString", "internal/abi.NoEscape", "internal/bytealg.MakeNoZero"], unfollowed := true, recurses := true, named := ["unicode/utf8.first", "unicode/utf8.acceptRanges", "internal/bytealg.MaxLen"], apart := false, laid := [("unicode/utf8.acceptRanges", laid_unicode_utf8_acceptRanges), ("unicode/utf8.first", laid_unicode_utf8_first)], narrowed := true }
def HyphenationPartsUptoSaid : Prop := hyphenationPartsUptoRow.holds Tryd.pinned (OpenSpec.upto hyphenationPartsSpec)

end Rows
end Go.Proofs.YtonpflblcnpegaaDoor
