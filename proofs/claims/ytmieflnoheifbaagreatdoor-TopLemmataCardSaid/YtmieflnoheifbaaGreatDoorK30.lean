import Derived.Test.YtmieflnoheifbaaGreatDoorRows
import Derived.Test.YtmieflnoheifbaaGreatDoorCards
import Derived.SevenTiedAt
import Derived.KernelRfl
set_option linter.all false
namespace Go.Proofs.YtmieflnoheifbaaGreatDoor
open Go
set_option maxRecDepth 100000
theorem qsK:Rows.topLemmataRow.wfByText (OpenSpec.ofChange Rows.topLemmataSpec)=true:=by kernel_rfl
theorem qzK : Tryz.prog.funcNamed "apograph/apographtop.TopLemmata" = some 7 := by kernel_rfl
theorem qAA:([26,5].all λu=> !Tryz.prog.wantsStandIn u)=true:=by kernel_rfl
end Go.Proofs.YtmieflnoheifbaaGreatDoor
