import Derived.Test.YtmieflnoheifbaaGreatDoorK21
import Derived.Test.YtmieflnoheifbaaGreatDoorK28
import Derived.Test.YtmieflnoheifbaaGreatDoorK20
import Derived.Test.YtmieflnoheifbaaGreatDoorK9
import Derived.Test.YtmieflnoheifbaaGreatDoorK6
import Derived.Test.YtmieflnoheifbaaGreatDoorRows
import Derived.Test.YtmieflnoheifbaaGreatDoorTie
import Derived.Test.YtmieflnoheifbaaGreatDoorCards
import Derived.ProofKit
import Derived.ChangeMaps5
import Derived.OpenShut
import Derived.LaidMore
import Derived.Lay
import Derived.SevenTiedAt
import Derived.Stop.Joined
set_option linter.all false
open Go Go.Proofs AF HY RC LN Go.ChangeShapes Go.WideShapes Go.ChangeAt Go.RowKit
set_option maxRecDepth 100000
namespace Go.Proofs.YtmieflnoheifbaaGreatDoor
theorem eE:Rows.DecisionEstablishesSaid:=
 OpenClaim.holds_of_wide 4 Tryz.f4 rfl rfl rfl rfl rfl rfl rfl ⟨rfl,rfl,rfl,rfl,rfl⟩ rfl rfl rfl rfl rfl (by kernel_rfl) Tryz.func4 qsV
  (of_decide_eq_true (by kernel_rfl)) (by unfold Func.isWrapper;first|(rw[ipo (by decide+kernel)];kernel_rfl)|(rw[ine (by decide+kernel)];exact⟨rfl,rfl⟩))
  (λos started H enc _=>qaJ os started H enc)
end Go.Proofs.YtmieflnoheifbaaGreatDoor
