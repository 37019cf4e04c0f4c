import Derived.Test.YtmieflnoheifbaaGreatDoorRows
import Derived.Test.YtmieflnoheifbaaGreatDoorCards
import Derived.SevenTiedAt
import Derived.KernelRfl
set_option linter.all false
namespace Go.Proofs.YtmieflnoheifbaaGreatDoor
open Go
set_option maxRecDepth 100000
theorem qr8:Rows.decisionChecksRow.wfByText (OpenSpec.ofChange Rows.decisionChecksSpec)=true:=by kernel_rfl
theorem qzo : Tryz.prog.funcNamed "apograph/apographlaw40.DecisionChecks" = some 5 := by kernel_rfl
theorem qAe:([59,65,45,3].all λu=> !Tryz.prog.wantsStandIn u)=true:=by kernel_rfl
end Go.Proofs.YtmieflnoheifbaaGreatDoor
