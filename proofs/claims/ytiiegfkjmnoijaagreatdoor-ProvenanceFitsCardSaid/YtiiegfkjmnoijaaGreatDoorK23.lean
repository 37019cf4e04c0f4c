import Derived.Test.YtiiegfkjmnoijaaGreatDoorRows
import Derived.JoinedOf
import Derived.KernelRfl
set_option linter.all false
namespace Go.Proofs.YtiiegfkjmnoijaaGreatDoor
open Go
set_option maxRecDepth 100000
theorem PW:(λ(P:Program) (f:FuncId) (fn:Func) (s:ChangeSpec) (c:OpenClaim)=>((c.recurses==P.recurses f):Bool)) Tryz.prog 8 Tryz.f8 Rows.provenanceFitsSpec Rows.provenanceFitsRow=true:=by kernel_rfl
theorem PX:(λ(P:Program) (f:FuncId) (fn:Func) (s:ChangeSpec) (c:OpenClaim)=>((c.named==P.varsNamed f):Bool)) Tryz.prog 8 Tryz.f8 Rows.provenanceFitsSpec Rows.provenanceFitsRow=true:=by kernel_rfl
end Go.Proofs.YtiiegfkjmnoijaaGreatDoor
