import Derived.Test.YtiiegfkjmnoijaaGreatDoorRows
import Derived.Test.YtiiegfkjmnoijaaGreatDoorCards
import Derived.SevenTiedAt
import Derived.KernelRfl
set_option linter.all false
namespace Go.Proofs.YtiiegfkjmnoijaaGreatDoor
open Go
set_option maxRecDepth 100000
theorem qmu:Rows.provenanceExplainsRow.wfByText (OpenSpec.ofChange Rows.provenanceExplainsSpec)=true:=by kernel_rfl
theorem qsi : Tryz.prog.funcNamed "apograph/apographlaw41.ProvenanceExplains" = some 12 := by kernel_rfl
theorem qti:([26,27,5].all λu=> !Tryz.prog.wantsStandIn u)=true:=by kernel_rfl
end Go.Proofs.YtiiegfkjmnoijaaGreatDoor
