import Derived.Test.YtmieflnoheifbaaGreatDoorRows
import Derived.JoinedOf
import Derived.KernelRfl
set_option linter.all false
namespace Go.Proofs.YtmieflnoheifbaaGreatDoor
open Go
set_option maxRecDepth 100000
theorem qGL:(λ(P:Program)=>(P.mayEnter:Bool)) Tryz.prog=true:=by kernel_rfl
end Go.Proofs.YtmieflnoheifbaaGreatDoor
