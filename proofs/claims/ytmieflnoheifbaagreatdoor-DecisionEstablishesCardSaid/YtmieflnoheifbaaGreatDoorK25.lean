import Derived.Test.YtmieflnoheifbaaGreatDoorRows
import Derived.JoinedOf
import Derived.KernelRfl
set_option linter.all false
namespace Go.Proofs.YtmieflnoheifbaaGreatDoor
open Go
set_option maxRecDepth 100000
theorem qBN:(λ(P:Program) (f:FuncId) (fn:Func) (s:ChangeSpec) (c:OpenClaim)=>((c.recurses==P.recurses f):Bool)) Tryz.prog 4 Tryz.f4 Rows.decisionEstablishesSpec Rows.decisionEstablishesRow=true:=by kernel_rfl
theorem qBO:(λ(P:Program) (f:FuncId) (fn:Func) (s:ChangeSpec) (c:OpenClaim)=>((c.named==P.varsNamed f):Bool)) Tryz.prog 4 Tryz.f4 Rows.decisionEstablishesSpec Rows.decisionEstablishesRow=true:=by kernel_rfl
end Go.Proofs.YtmieflnoheifbaaGreatDoor
