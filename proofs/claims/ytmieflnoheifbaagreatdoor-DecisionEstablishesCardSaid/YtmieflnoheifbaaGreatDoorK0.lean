import Derived.Test.YtmieflnoheifbaaGreatDoorRows
import Derived.JoinedOf
import Derived.KernelRfl
set_option linter.all false
namespace Go.Proofs.YtmieflnoheifbaaGreatDoor
open Go
set_option maxRecDepth 100000
theorem wp1:(λ(P:Program)=>(laidOutB P:Bool)) Tryz.prog=true:=by kernel_rfl
theorem wp2:(λ(P:Program)=>(mapsRowed P:Bool)) Tryz.prog=true:=by kernel_rfl
end Go.Proofs.YtmieflnoheifbaaGreatDoor
