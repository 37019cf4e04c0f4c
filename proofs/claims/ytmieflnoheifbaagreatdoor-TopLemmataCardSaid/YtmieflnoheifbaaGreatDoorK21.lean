import Derived.Test.YtmieflnoheifbaaGreatDoorRows
import Derived.JoinedOf
import Derived.KernelRfl
set_option linter.all false
namespace Go.Proofs.YtmieflnoheifbaaGreatDoor
open Go
set_option maxRecDepth 100000
theorem qDo:(λ(P:Program) (f:FuncId) (fn:Func) (s:ChangeSpec) (c:OpenClaim)=>((c.inPlace==P.inPlace f):Bool)) Tryz.prog 7 Tryz.f7 Rows.topLemmataSpec Rows.topLemmataRow=true:=by kernel_rfl
theorem qA0:(λ(P:Program) (f:FuncId) (fn:Func) (s:ChangeSpec) (c:OpenClaim)=>((c.unfollowed==P.unfollowed f):Bool)) Tryz.prog 7 Tryz.f7 Rows.topLemmataSpec Rows.topLemmataRow=true:=by kernel_rfl
end Go.Proofs.YtmieflnoheifbaaGreatDoor
