import Derived.Test.YtiiegfkjmnoijaaGreatDoorRows
import Derived.Test.YtiiegfkjmnoijaaGreatDoorCards
import Derived.SevenTiedAt
import Derived.KernelRfl
set_option linter.all false
namespace Go.Proofs.YtiiegfkjmnoijaaGreatDoor
open Go
set_option maxRecDepth 100000
theorem qmk:Rows.decisionReadingsRow.wfByText (OpenSpec.ofChange Rows.decisionReadingsSpec)=true:=by kernel_rfl
theorem qrW : Tryz.prog.funcNamed "apograph/apographlaw40.DecisionReadings" = some 13 := by kernel_rfl
theorem qsU:([75].all λu=> !Tryz.prog.wantsStandIn u)=true:=by kernel_rfl
end Go.Proofs.YtiiegfkjmnoijaaGreatDoor
