import Derived.Test.YtgoandblgcjleaaGreatDoorRows
import Derived.Test.YtgoandblgcjleaaGreatDoorCards
import Derived.SevenTiedAt
import Derived.KernelRfl
set_option linter.all false
set_option linter.unusedSimpArgs false
set_option linter.unusedVariables false
set_option linter.unusedSectionVars false
namespace Go.Proofs.YtgoandblgcjleaaGreatDoor
open Go
set_option maxRecDepth 100000
theorem qnY:Rows.apparatusValidRow.wfByText (OpenSpec.ofChange Rows.apparatusValidSpec)=true:=by kernel_rfl
theorem qty : Tryz.prog.funcNamed "apograph/apographlaw44.ApparatusValid" = some 11 := by kernel_rfl
theorem qun:([47].all fun u=> !Tryz.prog.wantsStandIn u)=true:=by kernel_rfl
end Go.Proofs.YtgoandblgcjleaaGreatDoor
