import Derived.Test.YtiiegfkjmnoijaaGreatDoorK19
import Derived.Test.YtiiegfkjmnoijaaGreatDoorK26
import Derived.Test.YtiiegfkjmnoijaaGreatDoorK18
import Derived.Test.YtiiegfkjmnoijaaGreatDoorK9
import Derived.Test.YtiiegfkjmnoijaaGreatDoorK6
import Derived.Test.YtiiegfkjmnoijaaGreatDoorRows
import Derived.Test.YtiiegfkjmnoijaaGreatDoorTie
import Derived.Test.YtiiegfkjmnoijaaGreatDoorCards
import Derived.ProofKit
import Derived.ChangeMaps5
import Derived.OpenShut
import Derived.LaidMore
import Derived.Lay
import Derived.SevenTiedAt
import Derived.Stop.Joined
set_option linter.all false
open Go Go.Proofs AF HY RC LN Go.ChangeShapes Go.WideShapes Go.ChangeAt Go.RowKit
set_option maxRecDepth 100000
namespace Go.Proofs.YtiiegfkjmnoijaaGreatDoor
theorem SX:Rows.ProvenanceExplainsSaid:=
 OpenClaim.holds_of_wide 12 Tryz.f12 rfl rfl rfl rfl rfl rfl rfl ⟨rfl,rfl,rfl,rfl,rfl⟩ rfl rfl rfl rfl rfl (by kernel_rfl) Tryz.func12 qmN
  (of_decide_eq_true (by kernel_rfl)) (by unfold Func.isWrapper;first|(rw[ipo (by decide+kernel)];kernel_rfl)|(rw[ine (by decide+kernel)];exact⟨rfl,rfl⟩))
  (λos started H enc _=>qau os started H enc)
end Go.Proofs.YtiiegfkjmnoijaaGreatDoor
