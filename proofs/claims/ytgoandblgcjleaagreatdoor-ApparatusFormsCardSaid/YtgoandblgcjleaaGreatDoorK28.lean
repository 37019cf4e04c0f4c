import Derived.Test.YtgoandblgcjleaaGreatDoorRows
import Derived.Test.YtgoandblgcjleaaGreatDoorCards
import Derived.SevenTiedAt
import Derived.KernelRfl
set_option linter.all false
set_option linter.unusedSimpArgs false
set_option linter.unusedVariables false
set_option linter.unusedSectionVars false
namespace Go.Proofs.YtgoandblgcjleaaGreatDoor
open Go
set_option maxRecDepth 100000
theorem qsi:Rows.apparatusFormsRow.wfByText (OpenSpec.ofChange Rows.apparatusFormsSpec)=true:=by kernel_rfl
theorem qx8 : Tryz.prog.funcNamed "apograph/apographlaw44.ApparatusForms" = some 5 := by kernel_rfl
theorem qyM:([47].all fun u=> !Tryz.prog.wantsStandIn u)=true:=by kernel_rfl
end Go.Proofs.YtgoandblgcjleaaGreatDoor
