import Derived.Test.YtmieflnoheifbaaGreatDoorRows
import Derived.Test.YtmieflnoheifbaaGreatDoorCards
import Derived.SevenTiedAt
import Derived.KernelRfl
set_option linter.all false
namespace Go.Proofs.YtmieflnoheifbaaGreatDoor
open Go
set_option maxRecDepth 100000
theorem qsn:Rows.decisionEstablishesRow.wfByText (OpenSpec.ofChange Rows.decisionEstablishesSpec)=true:=by kernel_rfl
theorem qAq : Tryz.prog.funcNamed "apograph/apographlaw40.DecisionEstablishes" = some 4 := by kernel_rfl
theorem qBh:([59].all λu=> !Tryz.prog.wantsStandIn u)=true:=by kernel_rfl
end Go.Proofs.YtmieflnoheifbaaGreatDoor
