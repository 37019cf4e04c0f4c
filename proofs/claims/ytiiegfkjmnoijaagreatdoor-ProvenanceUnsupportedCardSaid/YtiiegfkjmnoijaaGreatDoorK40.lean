import Derived.Test.YtiiegfkjmnoijaaGreatDoorK34
import Derived.Test.YtiiegfkjmnoijaaGreatDoorK39
import Derived.Test.YtiiegfkjmnoijaaGreatDoorK33
import Derived.Test.YtiiegfkjmnoijaaGreatDoorK19
import Derived.Test.YtiiegfkjmnoijaaGreatDoorK9
import Derived.Test.YtiiegfkjmnoijaaGreatDoorK6
import Derived.Test.YtiiegfkjmnoijaaGreatDoorRows
import Derived.Test.YtiiegfkjmnoijaaGreatDoorTie
import Derived.Test.YtiiegfkjmnoijaaGreatDoorCards
import Derived.ProofKit
import Derived.ChangeMaps5
import Derived.OpenShut
import Derived.LaidMore
import Derived.Lay
import Derived.SevenTiedAt
import Derived.Stop.Joined
set_option linter.all false
open Go Go.Proofs AF HY RC LN Go.ChangeShapes Go.WideShapes Go.ChangeAt Go.RowKit
set_option maxRecDepth 100000
namespace Go.Proofs.YtiiegfkjmnoijaaGreatDoor
theorem R2:Rows.ProvenanceUnsupportedSaid:=
 OpenClaim.holds_of_wide 14 Tryz.f14 rfl rfl rfl rfl rfl rfl rfl ⟨rfl,rfl,rfl,rfl,rfl⟩ rfl rfl rfl rfl rfl (by kernel_rfl) Tryz.func14 qow
  (of_decide_eq_true (by kernel_rfl)) (by unfold Func.isWrapper;first|(rw[ipo (by decide+kernel)];kernel_rfl)|(rw[ine (by decide+kernel)];exact⟨rfl,rfl⟩))
  (λos started H enc _=>UV os started H enc)
end Go.Proofs.YtiiegfkjmnoijaaGreatDoor
