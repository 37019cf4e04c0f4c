import Derived.Test.YtiiegfkjmnoijaaGreatDoorRows
import Derived.JoinedOf
import Derived.KernelRfl
set_option linter.all false
namespace Go.Proofs.YtiiegfkjmnoijaaGreatDoor
open Go
set_option maxRecDepth 100000
theorem qdS:(λ(P:Program) (f:FuncId) (fn:Func) (s:ChangeSpec) (c:OpenClaim)=>((c.inPlace==P.inPlace f):Bool)) Tryz.prog 3 Tryz.f3 Rows.topBaseWordsSpec Rows.topBaseWordsRow=true:=by kernel_rfl
theorem qaj:(λ(P:Program) (f:FuncId) (fn:Func) (s:ChangeSpec) (c:OpenClaim)=>((c.unfollowed==P.unfollowed f):Bool)) Tryz.prog 3 Tryz.f3 Rows.topBaseWordsSpec Rows.topBaseWordsRow=true:=by kernel_rfl
end Go.Proofs.YtiiegfkjmnoijaaGreatDoor
