import Derived.Test.YthjkfdakolejgaaGreatDoorRows
import Derived.Test.YthjkfdakolejgaaGreatDoorCards
import Derived.SevenTiedAt
import Derived.KernelRfl
set_option linter.all false
set_option linter.unusedSimpArgs false
set_option linter.unusedVariables false
set_option linter.unusedSectionVars false
namespace Go.Proofs.YthjkfdakolejgaaGreatDoor
open Go
set_option maxRecDepth 100000
theorem qsU:Rows.decisionCommonRow.wfByText (OpenSpec.ofChange Rows.decisionCommonSpec)=true:=by kernel_rfl
theorem qzQ : Tryz.prog.funcNamed "apograph/apographlaw40.DecisionCommon" = some 8 := by kernel_rfl
theorem qAB:([75,5].all fun u=> !Tryz.prog.wantsStandIn u)=true:=by kernel_rfl
end Go.Proofs.YthjkfdakolejgaaGreatDoor
