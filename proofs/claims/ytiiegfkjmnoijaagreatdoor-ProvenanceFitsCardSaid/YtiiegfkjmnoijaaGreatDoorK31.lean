import Derived.Test.YtiiegfkjmnoijaaGreatDoorRows
import Derived.Test.YtiiegfkjmnoijaaGreatDoorCards
import Derived.SevenTiedAt
import Derived.KernelRfl
set_option linter.all false
namespace Go.Proofs.YtiiegfkjmnoijaaGreatDoor
open Go
set_option maxRecDepth 100000
theorem A4:Rows.provenanceFitsRow.wfByText (OpenSpec.ofChange Rows.provenanceFitsSpec)=true:=by kernel_rfl
theorem NU : Tryz.prog.funcNamed "apograph/apographlaw41.ProvenanceFits" = some 8 := by kernel_rfl
theorem OT:([26,27,5].all λu=> !Tryz.prog.wantsStandIn u)=true:=by kernel_rfl
end Go.Proofs.YtiiegfkjmnoijaaGreatDoor
