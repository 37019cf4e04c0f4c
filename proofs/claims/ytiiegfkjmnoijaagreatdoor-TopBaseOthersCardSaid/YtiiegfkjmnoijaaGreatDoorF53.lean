/-
  The law TopBaseOthers comes back with true for every input, and its arguments read behind the call as before: the row, and the card that ties its listed variables. No condition.
-/
import Derived.Test.YtiiegfkjmnoijaaGreatDoorK39
import Derived.Test.YtiiegfkjmnoijaaGreatDoorK28
import Derived.Test.YtiiegfkjmnoijaaGreatDoorK29
import Derived.Test.YtiiegfkjmnoijaaGreatDoorK40
import Derived.Test.YtiiegfkjmnoijaaGreatDoorK41
import Derived.Test.YtiiegfkjmnoijaaGreatDoorK32
import Derived.Test.YtiiegfkjmnoijaaGreatDoorK18
import Derived.Test.YtiiegfkjmnoijaaGreatDoorK9
import Derived.Test.YtiiegfkjmnoijaaGreatDoorK6
import Derived.Test.YtiiegfkjmnoijaaGreatDoorRows
import Derived.Test.YtiiegfkjmnoijaaGreatDoorTie
import Derived.Test.YtiiegfkjmnoijaaGreatDoorCards
import Derived.ProofKit
import Derived.ChangeMaps5
import Derived.OpenShut
import Derived.LaidMore
import Derived.Lay
import Derived.SevenTiedAt
import Derived.Stop.Joined
set_option linter.all false
open Go Go.Proofs AF HY RC LN Go.ChangeShapes Go.WideShapes Go.ChangeAt Go.RowKit
set_option maxRecDepth 100000
namespace Go.Proofs.YtiiegfkjmnoijaaGreatDoor
theorem baseOthers_card : Rows.TopBaseOthersCardSaid :=
  Claim7.holds_tied_plain_at .later [] [.data, .data, .data, .sentinel, .sentinel, .widerDeep] true (true, "2b6f1044b5fc0f2fdfcb999de5c6a8f26267db8839d823472885d849d731633f") true xc (fun _ h => by cases h) CW (fun _ h => by cases h) topBaseOthers_row_tie rfl ⟨rfl, rfl⟩ Z6 rfl
    (fun f fn hf hfn => by
      obtain rfl : f = 4 := Option.some.inj (OS.symm.trans hf) |>.symm
      obtain rfl : fn = Tryz.f4 := (Option.some.inj (Tryz.func4.symm.trans hfn)).symm
      exact ⟨nc, fun j t ht => by
        rw [Tryz.params4] at ht
        have hm : t ∈ [26, 27, 5, 5, 43] := by simpa using Array.mem_of_getElem? ht
        have hall := Rj
        exact (show Tryz.prog.wantsStandIn t = false by simpa using List.all_eq_true.1 hall t hm)⟩)
    qc0
#print axioms xc
#print axioms baseOthers_card
end Go.Proofs.YtiiegfkjmnoijaaGreatDoor
