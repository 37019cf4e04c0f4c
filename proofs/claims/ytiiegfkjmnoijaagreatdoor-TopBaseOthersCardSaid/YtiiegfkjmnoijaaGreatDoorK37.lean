import Derived.Test.YtiiegfkjmnoijaaGreatDoorRows
import Derived.JoinedOf
import Derived.KernelRfl
set_option linter.all false
namespace Go.Proofs.YtiiegfkjmnoijaaGreatDoor
open Go
set_option maxRecDepth 100000
theorem qaS:(λ(P:Program) (f:FuncId) (fn:Func) (s:ChangeSpec) (c:OpenClaim)=>((P.make==some c.make):Bool)) Tryz.prog 4 Tryz.f4 Rows.topBaseOthersSpec Rows.topBaseOthersRow=true:=by kernel_rfl
end Go.Proofs.YtiiegfkjmnoijaaGreatDoor
