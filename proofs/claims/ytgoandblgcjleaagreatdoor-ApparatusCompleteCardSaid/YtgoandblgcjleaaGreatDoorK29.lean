import Derived.Test.YtgoandblgcjleaaGreatDoorRows
import Derived.Test.YtgoandblgcjleaaGreatDoorCards
import Derived.SevenTiedAt
import Derived.KernelRfl
set_option linter.all false
set_option linter.unusedSimpArgs false
set_option linter.unusedVariables false
set_option linter.unusedSectionVars false
namespace Go.Proofs.YtgoandblgcjleaaGreatDoor
open Go
set_option maxRecDepth 100000
theorem qoz:Rows.apparatusCompleteRow.wfByText (OpenSpec.ofChange Rows.apparatusCompleteSpec)=true:=by kernel_rfl
theorem qt9 : Tryz.prog.funcNamed "apograph/apographlaw44.ApparatusComplete" = some 10 := by kernel_rfl
theorem quV:([47].all fun u=> !Tryz.prog.wantsStandIn u)=true:=by kernel_rfl
end Go.Proofs.YtgoandblgcjleaaGreatDoor
