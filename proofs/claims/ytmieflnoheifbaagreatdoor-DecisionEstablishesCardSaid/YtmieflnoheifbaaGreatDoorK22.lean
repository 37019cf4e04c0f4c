import Derived.Test.YtmieflnoheifbaaGreatDoorRows
import Derived.JoinedOf
import Derived.KernelRfl
set_option linter.all false
namespace Go.Proofs.YtmieflnoheifbaaGreatDoor
open Go
set_option maxRecDepth 100000
theorem wp6:(λ(P:Program)=>((P.stops== []):Bool)) Tryz.prog=true:=by kernel_rfl
theorem wp8:(λ(P:Program)=>((P.stopKnobs== []):Bool)) Tryz.prog=true:=by kernel_rfl
theorem qGK:(λ(P:Program)=>(P.stopsHeard:Bool)) Tryz.prog=true:=by kernel_rfl
end Go.Proofs.YtmieflnoheifbaaGreatDoor
