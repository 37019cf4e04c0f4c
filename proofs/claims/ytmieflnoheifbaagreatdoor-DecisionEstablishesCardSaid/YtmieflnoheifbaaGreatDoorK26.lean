import Derived.Test.YtmieflnoheifbaaGreatDoorRows
import Derived.JoinedOf
import Derived.KernelRfl
set_option linter.all false
namespace Go.Proofs.YtmieflnoheifbaaGreatDoor
open Go
set_option maxRecDepth 100000
theorem qB0:(λ(P:Program) (f:FuncId) (fn:Func) (s:ChangeSpec) (c:OpenClaim)=>((c.lifted==P.liftsFinal):Bool)) Tryz.prog 4 Tryz.f4 Rows.decisionEstablishesSpec Rows.decisionEstablishesRow=true:=by kernel_rfl
end Go.Proofs.YtmieflnoheifbaaGreatDoor
