import Derived.Test.YthjkfdakolejgaaGreatDoorRows
import Derived.Test.YthjkfdakolejgaaGreatDoorCards
import Derived.SevenTiedAt
import Derived.KernelRfl
set_option linter.all false
set_option linter.unusedSimpArgs false
set_option linter.unusedVariables false
set_option linter.unusedSectionVars false
namespace Go.Proofs.YthjkfdakolejgaaGreatDoor
open Go
set_option maxRecDepth 100000
theorem qo1:Rows.decisionLeadsRow.wfByText (OpenSpec.ofChange Rows.decisionLeadsSpec)=true:=by kernel_rfl
theorem quG : Tryz.prog.funcNamed "apograph/apographlaw40.DecisionLeads" = some 11 := by kernel_rfl
theorem qvI:([75].all fun u=> !Tryz.prog.wantsStandIn u)=true:=by kernel_rfl
end Go.Proofs.YthjkfdakolejgaaGreatDoor
