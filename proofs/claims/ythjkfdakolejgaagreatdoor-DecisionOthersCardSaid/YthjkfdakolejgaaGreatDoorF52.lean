/-
  The law DecisionOthers comes back with true for every input, and its arguments read behind the call as before: the row, and the card that ties its listed variables. No condition.
-/
import Derived.Test.YthjkfdakolejgaaGreatDoorK26
import Derived.Test.YthjkfdakolejgaaGreatDoorK27
import Derived.Test.YthjkfdakolejgaaGreatDoorK28
import Derived.Test.YthjkfdakolejgaaGreatDoorK29
import Derived.Test.YthjkfdakolejgaaGreatDoorK30
import Derived.Test.YthjkfdakolejgaaGreatDoorK17
import Derived.Test.YthjkfdakolejgaaGreatDoorK9
import Derived.Test.YthjkfdakolejgaaGreatDoorK6
import Derived.Test.YthjkfdakolejgaaGreatDoorRows
import Derived.Test.YthjkfdakolejgaaGreatDoorTie
import Derived.Test.YthjkfdakolejgaaGreatDoorCards
import Derived.ProofKit
import Derived.ChangeMaps5
import Derived.OpenShut
import Derived.LaidMore
import Derived.Lay
import Derived.SevenTiedAt
import Derived.Stop.Joined
set_option linter.all false
set_option linter.unusedSimpArgs false
set_option linter.unusedVariables false
set_option linter.unusedSectionVars false
open Go Go.Proofs AF HY RC LN Go.ChangeShapes Go.WideShapes Go.ChangeAt Go.RowKit
set_option maxRecDepth 100000
namespace Go.Proofs.YthjkfdakolejgaaGreatDoor
theorem others_card : Rows.DecisionOthersCardSaid :=
  Claim7.holds_tied_plain_at .later [] [.data, .data, .data, .sentinel, .sentinel, .widerDeep] true (true, "942ca39e7cf3f56327097f24453ecf7185bc942cd5933235c1fb0bc4a55cb1b2") true qcr (fun _ h => by cases h) qto (fun _ h => by cases h) decisionOthers_row_tie rfl ⟨rfl, rfl⟩ qAs rfl
    (fun f fn hf hfn => by
      obtain rfl : f = 7 := Option.some.inj (qAk.symm.trans hf) |>.symm
      obtain rfl : fn = Tryz.f7 := (Option.some.inj (Tryz.func7.symm.trans hfn)).symm
      exact ⟨qvh, fun j t ht => by
        rw [Tryz.params7] at ht
        have hm : t ∈ [75, 43] := by simpa using Array.mem_of_getElem? ht
        have hall := qA4
        exact (show Tryz.prog.wantsStandIn t = false by simpa using List.all_eq_true.1 hall t hm)⟩)
    qDg
#print axioms qcr
#print axioms others_card
end Go.Proofs.YthjkfdakolejgaaGreatDoor
