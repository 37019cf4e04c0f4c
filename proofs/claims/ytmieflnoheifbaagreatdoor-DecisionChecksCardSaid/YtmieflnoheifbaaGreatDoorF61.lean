/-
  The law DecisionChecks comes back with true for every input, and its arguments read behind the call as before: the row, and the card that ties its listed variables. No condition.
-/
import Derived.Test.YtmieflnoheifbaaGreatDoorK27
import Derived.Test.YtmieflnoheifbaaGreatDoorK28
import Derived.Test.YtmieflnoheifbaaGreatDoorK29
import Derived.Test.YtmieflnoheifbaaGreatDoorK30
import Derived.Test.YtmieflnoheifbaaGreatDoorK31
import Derived.Test.YtmieflnoheifbaaGreatDoorK18
import Derived.Test.YtmieflnoheifbaaGreatDoorK9
import Derived.Test.YtmieflnoheifbaaGreatDoorK6
import Derived.Test.YtmieflnoheifbaaGreatDoorRows
import Derived.Test.YtmieflnoheifbaaGreatDoorTie
import Derived.Test.YtmieflnoheifbaaGreatDoorCards
import Derived.ProofKit
import Derived.ChangeMaps5
import Derived.OpenShut
import Derived.LaidMore
import Derived.Lay
import Derived.SevenTiedAt
import Derived.Stop.Joined
set_option linter.all false
open Go Go.Proofs AF HY RC LN Go.ChangeShapes Go.WideShapes Go.ChangeAt Go.RowKit
set_option maxRecDepth 100000
namespace Go.Proofs.YtmieflnoheifbaaGreatDoor
theorem checks_card : Rows.DecisionChecksCardSaid :=
  Claim7.holds_tied_plain_at .later [] [.data, .data, .data, .sentinel, .sentinel, .widerDeep] true (true, "b90e41abc26df8d1c76d7d1833fd69a9257b9afa957b7bd44dcf76d190361895") true qbm (fun _ h => by cases h) qr8 (fun _ h => by cases h) decisionChecks_row_tie rfl ⟨rfl, rfl⟩ qzw rfl
    (fun f fn hf hfn => by
      obtain rfl : f = 5 := Option.some.inj (qzo.symm.trans hf) |>.symm
      obtain rfl : fn = Tryz.f5 := (Option.some.inj (Tryz.func5.symm.trans hfn)).symm
      exact ⟨qtZ, fun j t ht => by
        rw [Tryz.params5] at ht
        have hm : t ∈ [59, 65, 45, 3] := by simpa using Array.mem_of_getElem? ht
        have hall := qAe
        exact (show Tryz.prog.wantsStandIn t = false by simpa using List.all_eq_true.1 hall t hm)⟩)
    qCF
#print axioms qbm
#print axioms checks_card
end Go.Proofs.YtmieflnoheifbaaGreatDoor
