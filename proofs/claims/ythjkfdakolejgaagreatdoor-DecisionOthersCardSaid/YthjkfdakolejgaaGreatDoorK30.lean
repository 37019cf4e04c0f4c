import Derived.Test.YthjkfdakolejgaaGreatDoorRows
import Derived.Test.YthjkfdakolejgaaGreatDoorCards
import Derived.SevenTiedAt
import Derived.KernelRfl
set_option linter.all false
set_option linter.unusedSimpArgs false
set_option linter.unusedVariables false
set_option linter.unusedSectionVars false
namespace Go.Proofs.YthjkfdakolejgaaGreatDoor
open Go
set_option maxRecDepth 100000
theorem qto:Rows.decisionOthersRow.wfByText (OpenSpec.ofChange Rows.decisionOthersSpec)=true:=by kernel_rfl
theorem qAk : Tryz.prog.funcNamed "apograph/apographlaw40.DecisionOthers" = some 7 := by kernel_rfl
theorem qA4:([75,43].all fun u=> !Tryz.prog.wantsStandIn u)=true:=by kernel_rfl
end Go.Proofs.YthjkfdakolejgaaGreatDoor
