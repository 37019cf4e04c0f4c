import Derived.Test.YtmieflnoheifbaaGreatDoorRows
import Derived.Test.YtmieflnoheifbaaGreatDoorCards
import Derived.SevenTiedAt
import Derived.KernelRfl
set_option linter.all false
namespace Go.Proofs.YtmieflnoheifbaaGreatDoor
open Go
set_option maxRecDepth 100000
theorem Ye:Rows.topFollowedRow.wfByText (OpenSpec.ofChange Rows.topFollowedSpec)=true:=by kernel_rfl
theorem Iw : Tryz.prog.funcNamed "apograph/apographtop.TopFollowed" = some 3 := by kernel_rfl
theorem Lr:([26,5,5].all λu=> !Tryz.prog.wantsStandIn u)=true:=by kernel_rfl
end Go.Proofs.YtmieflnoheifbaaGreatDoor
