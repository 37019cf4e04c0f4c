import Derived.Test.YtgoandblgcjleaaGreatDoorRows
import Derived.Test.YtgoandblgcjleaaGreatDoorCards
import Derived.SevenTiedAt
import Derived.KernelRfl
set_option linter.all false
set_option linter.unusedSimpArgs false
set_option linter.unusedVariables false
set_option linter.unusedSectionVars false
namespace Go.Proofs.YtgoandblgcjleaaGreatDoor
open Go
set_option maxRecDepth 100000
theorem qoL:Rows.apparatusChecksRow.wfByText (OpenSpec.ofChange Rows.apparatusChecksSpec)=true:=by kernel_rfl
theorem quH : Tryz.prog.funcNamed "apograph/apographlaw44.ApparatusChecks" = some 13 := by kernel_rfl
theorem qvx:([22,44,22,49,29,3,3].all fun u=> !Tryz.prog.wantsStandIn u)=true:=by kernel_rfl
end Go.Proofs.YtgoandblgcjleaaGreatDoor
