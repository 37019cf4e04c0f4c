import Derived.Test.YtgoandblgcjleaaGreatDoorRows
import Derived.Test.YtgoandblgcjleaaGreatDoorCards
import Derived.SevenTiedAt
import Derived.KernelRfl
set_option linter.all false
set_option linter.unusedSimpArgs false
set_option linter.unusedVariables false
set_option linter.unusedSectionVars false
namespace Go.Proofs.YtgoandblgcjleaaGreatDoor
open Go
set_option maxRecDepth 100000
theorem qpS:Rows.provenanceOthersRow.wfByText (OpenSpec.ofChange Rows.provenanceOthersSpec)=true:=by kernel_rfl
theorem qvH : Tryz.prog.funcNamed "apograph/apographlaw41.ProvenanceOthers" = some 3 := by kernel_rfl
theorem qwi:([26,27,28,29,3,3].all fun u=> !Tryz.prog.wantsStandIn u)=true:=by kernel_rfl
end Go.Proofs.YtgoandblgcjleaaGreatDoor
