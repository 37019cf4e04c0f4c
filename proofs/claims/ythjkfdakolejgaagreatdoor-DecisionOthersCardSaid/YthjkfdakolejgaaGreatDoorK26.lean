import Derived.Test.YthjkfdakolejgaaGreatDoorK18
import Derived.Test.YthjkfdakolejgaaGreatDoorK25
import Derived.Test.YthjkfdakolejgaaGreatDoorK17
import Derived.Test.YthjkfdakolejgaaGreatDoorK9
import Derived.Test.YthjkfdakolejgaaGreatDoorK6
import Derived.Test.YthjkfdakolejgaaGreatDoorRows
import Derived.Test.YthjkfdakolejgaaGreatDoorTie
import Derived.Test.YthjkfdakolejgaaGreatDoorCards
import Derived.ProofKit
import Derived.ChangeMaps5
import Derived.OpenShut
import Derived.LaidMore
import Derived.Lay
import Derived.SevenTiedAt
import Derived.Stop.Joined
set_option linter.all false
set_option linter.unusedSimpArgs false
set_option linter.unusedVariables false
set_option linter.unusedSectionVars false
open Go Go.Proofs AF HY RC LN Go.ChangeShapes Go.WideShapes Go.ChangeAt Go.RowKit
set_option maxRecDepth 100000
namespace Go.Proofs.YthjkfdakolejgaaGreatDoor
theorem qcr:Rows.DecisionOthersSaid:=
 OpenClaim.holds_of_wide 7 Tryz.f7 rfl rfl rfl rfl rfl rfl rfl ⟨rfl,rfl,rfl,rfl,rfl⟩ rfl rfl rfl rfl rfl (by kernel_rfl) Tryz.func7 qtQ
  (of_decide_eq_true (by kernel_rfl)) (by unfold Func.isWrapper;first|(rw[ipo (by decide+kernel)];kernel_rfl)|(rw[ine (by decide+kernel)];exact⟨rfl,rfl⟩))
  (fun os started H enc _=>qez os started H enc)
end Go.Proofs.YthjkfdakolejgaaGreatDoor
