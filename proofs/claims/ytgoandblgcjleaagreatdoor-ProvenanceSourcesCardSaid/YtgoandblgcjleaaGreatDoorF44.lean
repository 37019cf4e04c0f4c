/-
  The law ProvenanceSources comes back with true for every input, and its arguments read behind the call as before: the row, and the card that ties its listed variables. No condition.
-/
import Derived.Test.YtgoandblgcjleaaGreatDoorK24
import Derived.Test.YtgoandblgcjleaaGreatDoorK25
import Derived.Test.YtgoandblgcjleaaGreatDoorK26
import Derived.Test.YtgoandblgcjleaaGreatDoorK27
import Derived.Test.YtgoandblgcjleaaGreatDoorK28
import Derived.Test.YtgoandblgcjleaaGreatDoorK15
import Derived.Test.YtgoandblgcjleaaGreatDoorK8
import Derived.Test.YtgoandblgcjleaaGreatDoorK6
import Derived.Test.YtgoandblgcjleaaGreatDoorRows
import Derived.Test.YtgoandblgcjleaaGreatDoorTie
import Derived.Test.YtgoandblgcjleaaGreatDoorCards
import Derived.ProofKit
import Derived.ChangeMaps5
import Derived.OpenShut
import Derived.LaidMore
import Derived.Lay
import Derived.SevenTiedAt
import Derived.Stop.Joined
set_option linter.all false
set_option linter.unusedSimpArgs false
set_option linter.unusedVariables false
set_option linter.unusedSectionVars false
open Go Go.Proofs AF HY RC LN Go.ChangeShapes Go.WideShapes Go.ChangeAt Go.RowKit
set_option maxRecDepth 100000
namespace Go.Proofs.YtgoandblgcjleaaGreatDoor
theorem sources_card : Rows.ProvenanceSourcesCardSaid :=
  Claim7.holds_tied_plain_at .later [] [.data, .data, .data, .sentinel, .sentinel] true (true, "8739f5461bf58501e1b5d34f3b1f88a75f07197be07fb419a6468becb202cd7c") true qaP (fun _ h => by cases h) qqa (fun _ h => by cases h) provenanceSources_row_tie rfl ⟨rfl, rfl⟩ qwf rfl
    (fun f fn hf hfn => by
      obtain rfl : f = 7 := Option.some.inj (qv8.symm.trans hf) |>.symm
      obtain rfl : fn = Tryz.f7 := (Option.some.inj (Tryz.func7.symm.trans hfn)).symm
      exact ⟨qrW, fun j t ht => by
        rw [Tryz.params7] at ht
        have hm : t ∈ [26, 27, 29, 3, 3] := by simpa using Array.mem_of_getElem? ht
        have hall := qwJ
        exact (show Tryz.prog.wantsStandIn t = false by simpa using List.all_eq_true.1 hall t hm)⟩)
    qyt
#print axioms qaP
#print axioms sources_card
end Go.Proofs.YtgoandblgcjleaaGreatDoor
