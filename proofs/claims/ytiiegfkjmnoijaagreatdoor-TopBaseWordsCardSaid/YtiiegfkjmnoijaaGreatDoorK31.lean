import Derived.Test.YtiiegfkjmnoijaaGreatDoorRows
import Derived.Test.YtiiegfkjmnoijaaGreatDoorCards
import Derived.SevenTiedAt
import Derived.KernelRfl
set_option linter.all false
namespace Go.Proofs.YtiiegfkjmnoijaaGreatDoor
open Go
set_option maxRecDepth 100000
theorem CV:Rows.topBaseWordsRow.wfByText (OpenSpec.ofChange Rows.topBaseWordsSpec)=true:=by kernel_rfl
theorem OQ : Tryz.prog.funcNamed "apograph/apographtop.TopBaseWords" = some 3 := by kernel_rfl
theorem Ri:([26,27,5].all λu=> !Tryz.prog.wantsStandIn u)=true:=by kernel_rfl
end Go.Proofs.YtiiegfkjmnoijaaGreatDoor
