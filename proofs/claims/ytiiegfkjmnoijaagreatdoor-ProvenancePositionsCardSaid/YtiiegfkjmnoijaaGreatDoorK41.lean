import Derived.Test.YtiiegfkjmnoijaaGreatDoorRows
import Derived.Test.YtiiegfkjmnoijaaGreatDoorCards
import Derived.SevenTiedAt
import Derived.KernelRfl
set_option linter.all false
namespace Go.Proofs.YtiiegfkjmnoijaaGreatDoor
open Go
set_option maxRecDepth 100000
theorem A5:Rows.provenancePositionsRow.wfByText (OpenSpec.ofChange Rows.provenancePositionsSpec)=true:=by kernel_rfl
theorem NV : Tryz.prog.funcNamed "apograph/apographlaw41.ProvenancePositions" = some 9 := by kernel_rfl
theorem OU:([26,27,5].all λu=> !Tryz.prog.wantsStandIn u)=true:=by kernel_rfl
end Go.Proofs.YtiiegfkjmnoijaaGreatDoor
