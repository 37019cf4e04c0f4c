import Derived.Test.YtgoandblgcjleaaGreatDoorRows
import Derived.Test.YtgoandblgcjleaaGreatDoorCards
import Derived.SevenTiedAt
import Derived.KernelRfl
set_option linter.all false
set_option linter.unusedSimpArgs false
set_option linter.unusedVariables false
set_option linter.unusedSectionVars false
namespace Go.Proofs.YtgoandblgcjleaaGreatDoor
open Go
set_option maxRecDepth 100000
theorem qrQ:Rows.apparatusEntriesRow.wfByText (OpenSpec.ofChange Rows.apparatusEntriesSpec)=true:=by kernel_rfl
theorem qyt : Tryz.prog.funcNamed "apograph/apographlaw44.ApparatusEntries" = some 4 := by kernel_rfl
theorem qy8:([47,9].all fun u=> !Tryz.prog.wantsStandIn u)=true:=by kernel_rfl
end Go.Proofs.YtgoandblgcjleaaGreatDoor
