/-
  The law ProvenanceOthers comes back with true for every input, and its arguments read behind the call as before: the row, and the card that ties its listed variables. No condition.
-/
import Derived.Test.YtgoandblgcjleaaGreatDoorK25
import Derived.Test.YtgoandblgcjleaaGreatDoorK26
import Derived.Test.YtgoandblgcjleaaGreatDoorK27
import Derived.Test.YtgoandblgcjleaaGreatDoorK28
import Derived.Test.YtgoandblgcjleaaGreatDoorK29
import Derived.Test.YtgoandblgcjleaaGreatDoorK16
import Derived.Test.YtgoandblgcjleaaGreatDoorK8
import Derived.Test.YtgoandblgcjleaaGreatDoorK6
import Derived.Test.YtgoandblgcjleaaGreatDoorRows
import Derived.Test.YtgoandblgcjleaaGreatDoorTie
import Derived.Test.YtgoandblgcjleaaGreatDoorCards
import Derived.ProofKit
import Derived.ChangeMaps5
import Derived.OpenShut
import Derived.LaidMore
import Derived.Lay
import Derived.SevenTiedAt
import Derived.Stop.Joined
set_option linter.all false
set_option linter.unusedSimpArgs false
set_option linter.unusedVariables false
set_option linter.unusedSectionVars false
open Go Go.Proofs AF HY RC LN Go.ChangeShapes Go.WideShapes Go.ChangeAt Go.RowKit
set_option maxRecDepth 100000
namespace Go.Proofs.YtgoandblgcjleaaGreatDoor
theorem others_card : Rows.ProvenanceOthersCardSaid :=
  Claim7.holds_tied_plain_at .later [] [.data, .data, .data, .sentinel, .sentinel] true (true, "8739f5461bf58501e1b5d34f3b1f88a75f07197be07fb419a6468becb202cd7c") true qbj (fun _ h => by cases h) qpS (fun _ h => by cases h) provenanceOthers_row_tie rfl ⟨rfl, rfl⟩ qvP rfl
    (fun f fn hf hfn => by
      obtain rfl : f = 3 := Option.some.inj (qvH.symm.trans hf) |>.symm
      obtain rfl : fn = Tryz.f3 := (Option.some.inj (Tryz.func3.symm.trans hfn)).symm
      exact ⟨qrF, fun j t ht => by
        rw [Tryz.params3] at ht
        have hm : t ∈ [26, 27, 28, 29, 3, 3] := by simpa using Array.mem_of_getElem? ht
        have hall := qwi
        exact (show Tryz.prog.wantsStandIn t = false by simpa using List.all_eq_true.1 hall t hm)⟩)
    qxZ
#print axioms qbj
#print axioms others_card
end Go.Proofs.YtgoandblgcjleaaGreatDoor
