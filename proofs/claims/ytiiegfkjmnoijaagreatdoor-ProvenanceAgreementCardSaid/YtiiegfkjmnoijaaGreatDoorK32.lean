import Derived.Test.YtiiegfkjmnoijaaGreatDoorRows
import Derived.Test.YtiiegfkjmnoijaaGreatDoorCards
import Derived.SevenTiedAt
import Derived.KernelRfl
set_option linter.all false
namespace Go.Proofs.YtiiegfkjmnoijaaGreatDoor
open Go
set_option maxRecDepth 100000
theorem qn9:Rows.provenanceAgreementRow.wfByText (OpenSpec.ofChange Rows.provenanceAgreementSpec)=true:=by kernel_rfl
theorem qug : Tryz.prog.funcNamed "apograph/apographlaw41.ProvenanceAgreement" = some 11 := by kernel_rfl
theorem qvk:([26,27,5,5].all λu=> !Tryz.prog.wantsStandIn u)=true:=by kernel_rfl
end Go.Proofs.YtiiegfkjmnoijaaGreatDoor
