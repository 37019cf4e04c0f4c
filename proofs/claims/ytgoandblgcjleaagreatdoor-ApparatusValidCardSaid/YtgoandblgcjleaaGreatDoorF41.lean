/-
  The law ApparatusValid comes back with true for every input, and its arguments read behind the call as before: the row, and the card that ties its listed variables. No condition.
-/
import Derived.Test.YtgoandblgcjleaaGreatDoorK25
import Derived.Test.YtgoandblgcjleaaGreatDoorK26
import Derived.Test.YtgoandblgcjleaaGreatDoorK27
import Derived.Test.YtgoandblgcjleaaGreatDoorK28
import Derived.Test.YtgoandblgcjleaaGreatDoorK29
import Derived.Test.YtgoandblgcjleaaGreatDoorK16
import Derived.Test.YtgoandblgcjleaaGreatDoorK9
import Derived.Test.YtgoandblgcjleaaGreatDoorK6
import Derived.Test.YtgoandblgcjleaaGreatDoorRows
import Derived.Test.YtgoandblgcjleaaGreatDoorTie
import Derived.Test.YtgoandblgcjleaaGreatDoorCards
import Derived.ProofKit
import Derived.ChangeMaps5
import Derived.OpenShut
import Derived.LaidMore
import Derived.Lay
import Derived.SevenTiedAt
import Derived.Stop.Joined
set_option linter.all false
set_option linter.unusedSimpArgs false
set_option linter.unusedVariables false
set_option linter.unusedSectionVars false
open Go Go.Proofs AF HY RC LN Go.ChangeShapes Go.WideShapes Go.ChangeAt Go.RowKit
set_option maxRecDepth 100000
namespace Go.Proofs.YtgoandblgcjleaaGreatDoor
theorem valid_card : Rows.ApparatusValidCardSaid :=
  Claim7.holds_tied_plain_at .later [] [.data, .data, .data, .data, .sentinel, .sentinel, .pinned] true (true, "8739f5461bf58501e1b5d34f3b1f88a75f07197be07fb419a6468becb202cd7c") true qcT (fun _ h => by cases h) qnY (fun _ h => by cases h) apparatusValid_row_tie rfl ⟨rfl, rfl⟩ qyZ rfl
    (fun f fn hf hfn => by
      obtain rfl : f = 11 := Option.some.inj (qty.symm.trans hf) |>.symm
      obtain rfl : fn = Tryz.f11 := (Option.some.inj (Tryz.func11.symm.trans hfn)).symm
      exact ⟨qtO, fun j t ht => by
        rw [Tryz.params11] at ht
        have hm : t ∈ [47] := by simpa using Array.mem_of_getElem? ht
        have hall := qun
        exact (show Tryz.prog.wantsStandIn t = false by simpa using List.all_eq_true.1 hall t hm)⟩)
    qyH
#print axioms qcT
#print axioms valid_card
end Go.Proofs.YtgoandblgcjleaaGreatDoor
