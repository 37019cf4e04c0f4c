import Derived.Test.YtiiegfkjmnoijaaGreatDoorRows
import Derived.Test.YtiiegfkjmnoijaaGreatDoorCards
import Derived.SevenTiedAt
import Derived.KernelRfl
set_option linter.all false
namespace Go.Proofs.YtiiegfkjmnoijaaGreatDoor
open Go
set_option maxRecDepth 100000
theorem CW:Rows.topBaseOthersRow.wfByText (OpenSpec.ofChange Rows.topBaseOthersSpec)=true:=by kernel_rfl
theorem OS : Tryz.prog.funcNamed "apograph/apographtop.TopBaseOthers" = some 4 := by kernel_rfl
theorem Rj:([26,27,5,5,43].all λu=> !Tryz.prog.wantsStandIn u)=true:=by kernel_rfl
end Go.Proofs.YtiiegfkjmnoijaaGreatDoor
