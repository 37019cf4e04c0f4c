import Derived.Test.YthjkfdakolejgaaGreatDoorRows
import Derived.Test.YthjkfdakolejgaaGreatDoorCards
import Derived.SevenTiedAt
import Derived.KernelRfl
set_option linter.all false
set_option linter.unusedSimpArgs false
set_option linter.unusedVariables false
set_option linter.unusedSectionVars false
namespace Go.Proofs.YthjkfdakolejgaaGreatDoor
open Go
set_option maxRecDepth 100000
theorem qo0:Rows.decisionChosenRow.wfByText (OpenSpec.ofChange Rows.decisionChosenSpec)=true:=by kernel_rfl
theorem quA : Tryz.prog.funcNamed "apograph/apographlaw40.DecisionChosen" = some 10 := by kernel_rfl
theorem qvz:([75].all fun u=> !Tryz.prog.wantsStandIn u)=true:=by kernel_rfl
end Go.Proofs.YthjkfdakolejgaaGreatDoor
