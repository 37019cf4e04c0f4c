/-
  The law ProvenanceExplains comes back with true for every input, and its arguments read behind the call as before: the row, and the card that ties its listed variables. No condition.
-/
import Derived.Test.YtiiegfkjmnoijaaGreatDoorK27
import Derived.Test.YtiiegfkjmnoijaaGreatDoorK28
import Derived.Test.YtiiegfkjmnoijaaGreatDoorK29
import Derived.Test.YtiiegfkjmnoijaaGreatDoorK30
import Derived.Test.YtiiegfkjmnoijaaGreatDoorK31
import Derived.Test.YtiiegfkjmnoijaaGreatDoorK18
import Derived.Test.YtiiegfkjmnoijaaGreatDoorK9
import Derived.Test.YtiiegfkjmnoijaaGreatDoorK6
import Derived.Test.YtiiegfkjmnoijaaGreatDoorRows
import Derived.Test.YtiiegfkjmnoijaaGreatDoorTie
import Derived.Test.YtiiegfkjmnoijaaGreatDoorCards
import Derived.ProofKit
import Derived.ChangeMaps5
import Derived.OpenShut
import Derived.LaidMore
import Derived.Lay
import Derived.SevenTiedAt
import Derived.Stop.Joined
set_option linter.all false
open Go Go.Proofs AF HY RC LN Go.ChangeShapes Go.WideShapes Go.ChangeAt Go.RowKit
set_option maxRecDepth 100000
namespace Go.Proofs.YtiiegfkjmnoijaaGreatDoor
theorem explains_card : Rows.ProvenanceExplainsCardSaid :=
  Claim7.holds_tied_plain_at .later [] [.data, .data, .data, .sentinel, .sentinel, .widerDeep] true (true, "2b6f1044b5fc0f2fdfcb999de5c6a8f26267db8839d823472885d849d731633f") true SX (fun _ h => by cases h) qmu (fun _ h => by cases h) provenanceExplains_row_tie rfl ⟨rfl, rfl⟩ qyI rfl
    (fun f fn hf hfn => by
      obtain rfl : f = 12 := Option.some.inj (qsi.symm.trans hf) |>.symm
      obtain rfl : fn = Tryz.f12 := (Option.some.inj (Tryz.func12.symm.trans hfn)).symm
      exact ⟨qsC, fun j t ht => by
        rw [Tryz.params12] at ht
        have hm : t ∈ [26, 27, 5] := by simpa using Array.mem_of_getElem? ht
        have hall := qti
        exact (show Tryz.prog.wantsStandIn t = false by simpa using List.all_eq_true.1 hall t hm)⟩)
    qyp
#print axioms SX
#print axioms explains_card
end Go.Proofs.YtiiegfkjmnoijaaGreatDoor
