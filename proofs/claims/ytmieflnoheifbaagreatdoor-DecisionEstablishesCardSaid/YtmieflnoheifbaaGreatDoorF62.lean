/-
  The law DecisionEstablishes comes back with true for every input, and its arguments read behind the call as before: the row, and the card that ties its listed variables. No condition.
-/
import Derived.Test.YtmieflnoheifbaaGreatDoorK29
import Derived.Test.YtmieflnoheifbaaGreatDoorK30
import Derived.Test.YtmieflnoheifbaaGreatDoorK31
import Derived.Test.YtmieflnoheifbaaGreatDoorK32
import Derived.Test.YtmieflnoheifbaaGreatDoorK33
import Derived.Test.YtmieflnoheifbaaGreatDoorK20
import Derived.Test.YtmieflnoheifbaaGreatDoorK9
import Derived.Test.YtmieflnoheifbaaGreatDoorK6
import Derived.Test.YtmieflnoheifbaaGreatDoorRows
import Derived.Test.YtmieflnoheifbaaGreatDoorTie
import Derived.Test.YtmieflnoheifbaaGreatDoorCards
import Derived.ProofKit
import Derived.ChangeMaps5
import Derived.OpenShut
import Derived.LaidMore
import Derived.Lay
import Derived.SevenTiedAt
import Derived.Stop.Joined
set_option linter.all false
open Go Go.Proofs AF HY RC LN Go.ChangeShapes Go.WideShapes Go.ChangeAt Go.RowKit
set_option maxRecDepth 100000
namespace Go.Proofs.YtmieflnoheifbaaGreatDoor
theorem establishes_card : Rows.DecisionEstablishesCardSaid :=
  Claim7.holds_tied_plain_at .later [] [.data, .data, .data, .sentinel, .sentinel, .widerDeep] true (true, "b90e41abc26df8d1c76d7d1833fd69a9257b9afa957b7bd44dcf76d190361895") true eE (fun _ h => by cases h) qsn (fun _ h => by cases h) decisionEstablishes_row_tie rfl ⟨rfl, rfl⟩ qAz rfl
    (fun f fn hf hfn => by
      obtain rfl : f = 4 := Option.some.inj (qAq.symm.trans hf) |>.symm
      obtain rfl : fn = Tryz.f4 := (Option.some.inj (Tryz.func4.symm.trans hfn)).symm
      exact ⟨quk, fun j t ht => by
        rw [Tryz.params4] at ht
        have hm : t ∈ [59] := by simpa using Array.mem_of_getElem? ht
        have hall := qBh
        exact (show Tryz.prog.wantsStandIn t = false by simpa using List.all_eq_true.1 hall t hm)⟩)
    qDB
#print axioms eE
#print axioms establishes_card
end Go.Proofs.YtmieflnoheifbaaGreatDoor
