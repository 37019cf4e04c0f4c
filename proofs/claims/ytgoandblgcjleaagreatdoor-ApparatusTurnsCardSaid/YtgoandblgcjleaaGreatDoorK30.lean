import Derived.Test.YtgoandblgcjleaaGreatDoorRows
import Derived.Test.YtgoandblgcjleaaGreatDoorCards
import Derived.SevenTiedAt
import Derived.KernelRfl
set_option linter.all false
set_option linter.unusedSimpArgs false
set_option linter.unusedVariables false
set_option linter.unusedSectionVars false
namespace Go.Proofs.YtgoandblgcjleaaGreatDoor
open Go
set_option maxRecDepth 100000
theorem qoA:Rows.apparatusTurnsRow.wfByText (OpenSpec.ofChange Rows.apparatusTurnsSpec)=true:=by kernel_rfl
theorem quh : Tryz.prog.funcNamed "apograph/apographlaw44.ApparatusTurns" = some 12 := by kernel_rfl
theorem qu6:([47,5].all fun u=> !Tryz.prog.wantsStandIn u)=true:=by kernel_rfl
end Go.Proofs.YtgoandblgcjleaaGreatDoor
