import Derived.Test.YtiiegfkjmnoijaaGreatDoorRows
import Derived.Test.YtiiegfkjmnoijaaGreatDoorCards
import Derived.SevenTiedAt
import Derived.KernelRfl
set_option linter.all false
namespace Go.Proofs.YtiiegfkjmnoijaaGreatDoor
open Go
set_option maxRecDepth 100000
theorem qob:Rows.provenanceUnsupportedRow.wfByText (OpenSpec.ofChange Rows.provenanceUnsupportedSpec)=true:=by kernel_rfl
theorem qui : Tryz.prog.funcNamed "apograph/apographlaw41.ProvenanceUnsupported" = some 14 := by kernel_rfl
theorem qvm:([26,27,5].all λu=> !Tryz.prog.wantsStandIn u)=true:=by kernel_rfl
end Go.Proofs.YtiiegfkjmnoijaaGreatDoor
