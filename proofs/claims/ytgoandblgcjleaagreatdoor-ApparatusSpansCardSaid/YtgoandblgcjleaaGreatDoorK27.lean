import Derived.Test.YtgoandblgcjleaaGreatDoorRows
import Derived.Test.YtgoandblgcjleaaGreatDoorCards
import Derived.SevenTiedAt
import Derived.KernelRfl
set_option linter.all false
set_option linter.unusedSimpArgs false
set_option linter.unusedVariables false
set_option linter.unusedSectionVars false
namespace Go.Proofs.YtgoandblgcjleaaGreatDoor
open Go
set_option maxRecDepth 100000
theorem qp7:Rows.apparatusSpansRow.wfByText (OpenSpec.ofChange Rows.apparatusSpansSpec)=true:=by kernel_rfl
theorem qvH : Tryz.prog.funcNamed "apograph/apographlaw44.ApparatusSpans" = some 6 := by kernel_rfl
theorem qwk:([29,3].all fun u=> !Tryz.prog.wantsStandIn u)=true:=by kernel_rfl
end Go.Proofs.YtgoandblgcjleaaGreatDoor
