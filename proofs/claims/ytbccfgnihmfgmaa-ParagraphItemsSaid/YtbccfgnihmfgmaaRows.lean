/-
  No cell of these rows narrows 'for every input' (looked for: loops, veiled, ifaces, maps, wideKeys, modest, calm, conditions, laid).
  DERIVED. THE GIVEN ROWS OF THIS SEAT. 7 by the template 'for every input the law returns true; each argument reads behind the call as it read before'; 0 by the template 'total and deterministic' (their statements: YtbccfgnihmfgmaaTotals.lean).
  GIVEN WITH THE SEED: the statements are not yours to turn. If you find one false, say at which input.
  Laid BY PROGRAM, IN A SANDBOX (cutbox-rows.mjs): the forced cells as the released guide's own fill.sh prints them over the translation ef1683cfe69b4090… (all of the seat's roots in one cut). By AI agents, Wed Nov 11 2026. No macro, syntax, notation, axiom, sorry.
-/
import Derived.Test.YtbccfgnihmfgmaaChecked
import GoSem.Claim
import GoSem.ClaimJoined
import GoSem.ClaimMapViews
import Derived.JoinedTies
import Derived.KernelRfl
namespace Go.Proofs.Ytbccfgnihmfgmaa
/- THE CELL 'sum', in the pinned program and in every row, IS THE sha256 OF THE DUMP (.gsa) THAT YtbccfgnihmfgmaaProg.lean LOADS. Nothing in Lean hashes anything: it is a label: what it is worth is what the hold of that sum in a sandbox is worth. -/
noncomputable def Try.pinned : Pinned := { name := "ytbccfgnihmfgmaa", sum := "ef1683cfe69b4090d5edd69cfe26b22257ef6a973f7c7789b7fb0ebe7a432052", checked := Try.checked }
namespace Rows
def none {H : Type} : Left H := { results := [], args := [] }

/-- 'apographlaw48.ParagraphPenalties': WHATEVER THE INPUT: true; the input reads as it did. -/
def paragraphPenaltiesSpec : ChangeSpec := { name := "paragraphPenalties", fn := fun _ => fun
  | [d1, d2, d3] => { results := [.lit (.bool true)], args := [d1, d2, d3] }
  | _ => none }
def paragraphPenaltiesRow : OpenClaim := { program := "ytbccfgnihmfgmaa", sum := "ef1683cfe69b4090d5edd69cfe26b22257ef6a973f7c7789b7fb0ebe7a432052", func := "apograph/apographlaw48.ParagraphPenalties", spec := "paragraphPenalties", unfollowed := true, recurses := true, apart := false }
def ParagraphPenaltiesSaid : Prop := paragraphPenaltiesRow.holds Try.pinned (OpenSpec.ofChange paragraphPenaltiesSpec)

/-- ITS FALSE NEIGHBOUR: 'it returns false'. Refute it at one input. -/
def paragraphPenaltiesWrong : ChangeSpec := { name := "paragraphPenalties", fn := fun _ => fun
  | [d1, d2, d3] => { results := [.lit (.bool false)], args := [d1, d2, d3] }
  | _ => none }
def ParagraphPenaltiesWrongFalsely : Prop := paragraphPenaltiesRow.holds Try.pinned (OpenSpec.ofChange paragraphPenaltiesWrong)

/-- 'apographlaw48.ParagraphPotentials': WHATEVER THE INPUT: true; the input reads as it did. -/
def paragraphPotentialsSpec : ChangeSpec := { name := "paragraphPotentials", fn := fun _ => fun
  | [d1, d2, d3] => { results := [.lit (.bool true)], args := [d1, d2, d3] }
  | _ => none }
def paragraphPotentialsRow : OpenClaim := { program := "ytbccfgnihmfgmaa", sum := "ef1683cfe69b4090d5edd69cfe26b22257ef6a973f7c7789b7fb0ebe7a432052", func := "apograph/apographlaw48.ParagraphPotentials", spec := "paragraphPotentials", inPlace := ["internal/abi.NoEscape"], unfollowed := true, recurses := true, apart := false }
def ParagraphPotentialsSaid : Prop := paragraphPotentialsRow.holds Try.pinned (OpenSpec.ofChange paragraphPotentialsSpec)

/-- ITS FALSE NEIGHBOUR: 'it returns false'. Refute it at one input. -/
def paragraphPotentialsWrong : ChangeSpec := { name := "paragraphPotentials", fn := fun _ => fun
  | [d1, d2, d3] => { results := [.lit (.bool false)], args := [d1, d2, d3] }
  | _ => none }
def ParagraphPotentialsWrongFalsely : Prop := paragraphPotentialsRow.holds Try.pinned (OpenSpec.ofChange paragraphPotentialsWrong)

/-- 'apographlaw48.ParagraphPlaces': WHATEVER THE INPUT: true; the input reads as it did. -/
def paragraphPlacesSpec : ChangeSpec := { name := "paragraphPlaces", fn := fun _ => fun
  | [d1, d2] => { results := [.lit (.bool true)], args := [d1, d2] }
  | _ => none }
def paragraphPlacesRow : OpenClaim := { program := "ytbccfgnihmfgmaa", sum := "ef1683cfe69b4090d5edd69cfe26b22257ef6a973f7c7789b7fb0ebe7a432052", func := "apograph/apographlaw48.ParagraphPlaces", spec := "paragraphPlaces", inPlace := ["internal/abi.NoEscape"], unfollowed := true, recurses := true, apart := false }
def ParagraphPlacesSaid : Prop := paragraphPlacesRow.holds Try.pinned (OpenSpec.ofChange paragraphPlacesSpec)

/-- ITS FALSE NEIGHBOUR: 'it returns false'. Refute it at one input. -/
def paragraphPlacesWrong : ChangeSpec := { name := "paragraphPlaces", fn := fun _ => fun
  | [d1, d2] => { results := [.lit (.bool false)], args := [d1, d2] }
  | _ => none }
def ParagraphPlacesWrongFalsely : Prop := paragraphPlacesRow.holds Try.pinned (OpenSpec.ofChange paragraphPlacesWrong)

/-- 'apographlaw48.ParagraphProofs': WHATEVER THE INPUT: true; the input reads as it did. -/
def paragraphProofsSpec : ChangeSpec := { name := "paragraphProofs", fn := fun _ => fun
  | [d1, d2, d3, d4] => { results := [.lit (.bool true)], args := [d1, d2, d3, d4] }
  | _ => none }
def paragraphProofsRow : OpenClaim := { program := "ytbccfgnihmfgmaa", sum := "ef1683cfe69b4090d5edd69cfe26b22257ef6a973f7c7789b7fb0ebe7a432052", func := "apograph/apographlaw48.ParagraphProofs", spec := "paragraphProofs", inPlace := ["internal/abi.NoEscape"], unfollowed := true, recurses := true, apart := false }
def ParagraphProofsSaid : Prop := paragraphProofsRow.holds Try.pinned (OpenSpec.ofChange paragraphProofsSpec)

/-- ITS FALSE NEIGHBOUR: 'it returns false'. Refute it at one input. -/
def paragraphProofsWrong : ChangeSpec := { name := "paragraphProofs", fn := fun _ => fun
  | [d1, d2, d3, d4] => { results := [.lit (.bool false)], args := [d1, d2, d3, d4] }
  | _ => none }
def ParagraphProofsWrongFalsely : Prop := paragraphProofsRow.holds Try.pinned (OpenSpec.ofChange paragraphProofsWrong)

/-- 'apographlaw48.ParagraphLeast': WHATEVER THE INPUT: true; the input reads as it did. -/
def paragraphLeastSpec : ChangeSpec := { name := "paragraphLeast", fn := fun _ => fun
  | [d1, d2, d3] => { results := [.lit (.bool true)], args := [d1, d2, d3] }
  | _ => none }
def paragraphLeastRow : OpenClaim := { program := "ytbccfgnihmfgmaa", sum := "ef1683cfe69b4090d5edd69cfe26b22257ef6a973f7c7789b7fb0ebe7a432052", func := "apograph/apographlaw48.ParagraphLeast", spec := "paragraphLeast", inPlace := ["internal/abi.NoEscape"], unfollowed := true, recurses := true, apart := false }
def ParagraphLeastSaid : Prop := paragraphLeastRow.holds Try.pinned (OpenSpec.ofChange paragraphLeastSpec)

/-- ITS FALSE NEIGHBOUR: 'it returns false'. Refute it at one input. -/
def paragraphLeastWrong : ChangeSpec := { name := "paragraphLeast", fn := fun _ => fun
  | [d1, d2, d3] => { results := [.lit (.bool false)], args := [d1, d2, d3] }
  | _ => none }
def ParagraphLeastWrongFalsely : Prop := paragraphLeastRow.holds Try.pinned (OpenSpec.ofChange paragraphLeastWrong)

/-- 'apographlaw48.ParagraphBreaks': WHATEVER THE INPUT: true; the input reads as it did. -/
def paragraphBreaksSpec : ChangeSpec := { name := "paragraphBreaks", fn := fun _ => fun
  | [d1, d2, d3, d4, d5, d6] => { results := [.lit (.bool true)], args := [d1, d2, d3, d4, d5, d6] }
  | _ => none }
def paragraphBreaksRow : OpenClaim := { program := "ytbccfgnihmfgmaa", sum := "ef1683cfe69b4090d5edd69cfe26b22257ef6a973f7c7789b7fb0ebe7a432052", func := "apograph/apographlaw48.ParagraphBreaks", spec := "paragraphBreaks", inPlace := ["internal/abi.NoEscape"], unfollowed := true, recurses := true, apart := false }
def ParagraphBreaksSaid : Prop := paragraphBreaksRow.holds Try.pinned (OpenSpec.ofChange paragraphBreaksSpec)

/-- ITS FALSE NEIGHBOUR: 'it returns false'. Refute it at one input. -/
def paragraphBreaksWrong : ChangeSpec := { name := "paragraphBreaks", fn := fun _ => fun
  | [d1, d2, d3, d4, d5, d6] => { results := [.lit (.bool false)], args := [d1, d2, d3, d4, d5, d6] }
  | _ => none }
def ParagraphBreaksWrongFalsely : Prop := paragraphBreaksRow.holds Try.pinned (OpenSpec.ofChange paragraphBreaksWrong)

/-- 'apographlaw48.ParagraphItems': WHATEVER THE INPUT: true; the input reads as it did. -/
def paragraphItemsSpec : ChangeSpec := { name := "paragraphItems", fn := fun _ => fun
  | [d1, d2] => { results := [.lit (.bool true)], args := [d1, d2] }
  | _ => none }
def paragraphItemsRow : OpenClaim := { program := "ytbccfgnihmfgmaa", sum := "ef1683cfe69b4090d5edd69cfe26b22257ef6a973f7c7789b7fb0ebe7a432052", func := "apograph/apographlaw48.ParagraphItems", spec := "paragraphItems", inPlace := ["internal/bytealg.IndexByteString"], unfollowed := true, recurses := true, apart := false }
def ParagraphItemsSaid : Prop := paragraphItemsRow.holds Try.pinned (OpenSpec.ofChange paragraphItemsSpec)

/-- ITS FALSE NEIGHBOUR: 'it returns false'. Refute it at one input. -/
def paragraphItemsWrong : ChangeSpec := { name := "paragraphItems", fn := fun _ => fun
  | [d1, d2] => { results := [.lit (.bool false)], args := [d1, d2] }
  | _ => none }
def ParagraphItemsWrongFalsely : Prop := paragraphItemsRow.holds Try.pinned (OpenSpec.ofChange paragraphItemsWrong)

/- THE SECOND FORM. 'bulk': how many values and letters a reading holds, each counted each time it is reached (what is shared counts as often as it is met; a slice's spare places count too). A statement '..UptoSaid' is the law's where the arguments, and the package variables that the reading takes, are together of bulk at most 1048576: NARROWER than '..Said'. Prove '..Said' where nothing that the law and all that it calls make is longer than what came in: it says more and counts as full. Else prove '..UptoSaid'. A law counts once. -/
mutual
def uptoBulk {H : Type} : DataW H → Nat
  | .lit (.string bytes) => bytes.length + 1
  | .lit _ => 1
  | .nil => 1
  | .ptr d => uptoBulk d + 1
  | .slice elems spare => uptoBulkAll elems + uptoBulkAll spare + 1
  | .agg parts => uptoBulkAll parts + 1
  | .iface _ d => uptoBulk d + 1
  | .map entries => uptoBulkEntries entries + 1
  | .held _ => 1
def uptoBulkAll {H : Type} : List (DataW H) → Nat
  | [] => 0
  | d :: r => uptoBulk d + uptoBulkAll r
def uptoBulkEntries {H : Type} : List (Lit × DataW H) → Nat
  | [] => 0
  | x :: r => uptoBulkEntry x + uptoBulkEntries r
def uptoBulkEntry {H : Type} : Lit × DataW H → Nat
  | (.string bytes, d) => bytes.length + uptoBulk d + 1
  | (_, d) => uptoBulk d + 1
 end
def uptoSmall : (H : Type) → List (DataW H) → Bool := fun _ ds => decide (uptoBulkAll ds ≤ 1048576)
def OpenSpec.upto (s : _root_.Go.ChangeSpec) : _root_.Go.OpenSpec := { _root_.Go.OpenSpec.ofChange s with cond := some uptoSmall }

/-- 'apographlaw48.ParagraphPenalties', WHERE WHAT IT READS IS OF BULK AT MOST 1048576: true; the input reads as it did. -/
def paragraphPenaltiesUptoRow : OpenClaim := { program := "ytbccfgnihmfgmaa", sum := "ef1683cfe69b4090d5edd69cfe26b22257ef6a973f7c7789b7fb0ebe7a432052", func := "apograph/apographlaw48.ParagraphPenalties", spec := "paragraphPenalties", unfollowed := true, recurses := true, apart := false, narrowed := true }
def ParagraphPenaltiesUptoSaid : Prop := paragraphPenaltiesUptoRow.holds Try.pinned (OpenSpec.upto paragraphPenaltiesSpec)

/-- 'apographlaw48.ParagraphPotentials', WHERE WHAT IT READS IS OF BULK AT MOST 1048576: true; the input reads as it did. -/
def paragraphPotentialsUptoRow : OpenClaim := { program := "ytbccfgnihmfgmaa", sum := "ef1683cfe69b4090d5edd69cfe26b22257ef6a973f7c7789b7fb0ebe7a432052", func := "apograph/apographlaw48.ParagraphPotentials", spec := "paragraphPotentials", inPlace := ["internal/abi.NoEscape"], unfollowed := true, recurses := true, apart := false, narrowed := true }
def ParagraphPotentialsUptoSaid : Prop := paragraphPotentialsUptoRow.holds Try.pinned (OpenSpec.upto paragraphPotentialsSpec)

/-- 'apographlaw48.ParagraphPlaces', WHERE WHAT IT READS IS OF BULK AT MOST 1048576: true; the input reads as it did. -/
def paragraphPlacesUptoRow : OpenClaim := { program := "ytbccfgnihmfgmaa", sum := "ef1683cfe69b4090d5edd69cfe26b22257ef6a973f7c7789b7fb0ebe7a432052", func := "apograph/apographlaw48.ParagraphPlaces", spec := "paragraphPlaces", inPlace := ["internal/abi.NoEscape"], unfollowed := true, recurses := true, apart := false, narrowed := true }
def ParagraphPlacesUptoSaid : Prop := paragraphPlacesUptoRow.holds Try.pinned (OpenSpec.upto paragraphPlacesSpec)

/-- 'apographlaw48.ParagraphProofs', WHERE WHAT IT READS IS OF BULK AT MOST 1048576: true; the input reads as it did. -/
def paragraphProofsUptoRow : OpenClaim := { program := "ytbccfgnihmfgmaa", sum := "ef1683cfe69b4090d5edd69cfe26b22257ef6a973f7c7789b7fb0ebe7a432052", func := "apograph/apographlaw48.ParagraphProofs", spec := "paragraphProofs", inPlace := ["internal/abi.NoEscape"], unfollowed := true, recurses := true, apart := false, narrowed := true }
def ParagraphProofsUptoSaid : Prop := paragraphProofsUptoRow.holds Try.pinned (OpenSpec.upto paragraphProofsSpec)

/-- 'apographlaw48.ParagraphLeast', WHERE WHAT IT READS IS OF BULK AT MOST 1048576: true; the input reads as it did. -/
def paragraphLeastUptoRow : OpenClaim := { program := "ytbccfgnihmfgmaa", sum := "ef1683cfe69b4090d5edd69cfe26b22257ef6a973f7c7789b7fb0ebe7a432052", func := "apograph/apographlaw48.ParagraphLeast", spec := "paragraphLeast", inPlace := ["internal/abi.NoEscape"], unfollowed := true, recurses := true, apart := false, narrowed := true }
def ParagraphLeastUptoSaid : Prop := paragraphLeastUptoRow.holds Try.pinned (OpenSpec.upto paragraphLeastSpec)

/-- 'apographlaw48.ParagraphBreaks', WHERE WHAT IT READS IS OF BULK AT MOST 1048576: true; the input reads as it did. -/
def paragraphBreaksUptoRow : OpenClaim := { program := "ytbccfgnihmfgmaa", sum := "ef1683cfe69b4090d5edd69cfe26b22257ef6a973f7c7789b7fb0ebe7a432052", func := "apograph/apographlaw48.ParagraphBreaks", spec := "paragraphBreaks", inPlace := ["internal/abi.NoEscape"], unfollowed := true, recurses := true, apart := false, narrowed := true }
def ParagraphBreaksUptoSaid : Prop := paragraphBreaksUptoRow.holds Try.pinned (OpenSpec.upto paragraphBreaksSpec)

/-- 'apographlaw48.ParagraphItems', WHERE WHAT IT READS IS OF BULK AT MOST 1048576: true; the input reads as it did. -/
def paragraphItemsUptoRow : OpenClaim := { program := "ytbccfgnihmfgmaa", sum := "ef1683cfe69b4090d5edd69cfe26b22257ef6a973f7c7789b7fb0ebe7a432052", func := "apograph/apographlaw48.ParagraphItems", spec := "paragraphItems", inPlace := ["internal/bytealg.IndexByteString"], unfollowed := true, recurses := true, apart := false, narrowed := true }
def ParagraphItemsUptoSaid : Prop := paragraphItemsUptoRow.holds Try.pinned (OpenSpec.upto paragraphItemsSpec)

end Rows
end Go.Proofs.Ytbccfgnihmfgmaa
