import Derived.Test.YtiiegfkjmnoijaaGreatDoorRows
import Derived.Test.YtiiegfkjmnoijaaGreatDoorCards
import Derived.SevenTiedAt
import Derived.KernelRfl
set_option linter.all false
namespace Go.Proofs.YtiiegfkjmnoijaaGreatDoor
open Go
set_option maxRecDepth 100000
theorem Vj:Rows.provenanceHasRow.wfByText (OpenSpec.ofChange Rows.provenanceHasSpec)=true:=by kernel_rfl
theorem Dy : Tryz.prog.funcNamed "apograph/apographlaw41.ProvenanceHas" = some 10 := by kernel_rfl
theorem EO:([26,27,5].all λu=> !Tryz.prog.wantsStandIn u)=true:=by kernel_rfl
end Go.Proofs.YtiiegfkjmnoijaaGreatDoor
